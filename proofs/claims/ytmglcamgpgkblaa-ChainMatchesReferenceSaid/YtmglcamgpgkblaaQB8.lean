/-
  chain.newGraph.
-/
import Derived.Test.YtmglcamgpgkblaaQGo
import Derived.Test.YtmglcamgpgkblaaQB7
set_option linter.unusedSimpArgs false
set_option linter.unusedVariables false
namespace Go.Proofs.Ytmglcamgpgkblaa
open Go.Ab
def Env3 (env env2 : List AV) : Prop := ∀ (π : List Nat) (σ : List AObj),π[0]? = some 0 → π[1]? = some 1 → π[2]? = some 2 → WkVL π σ env env2
theorem wk_conv {s : Sc} {n : Nat} {L L2 : Nat → List Ed} {f : Nat → AObj} {tl : List AObj} {env env2 : List AV} (hL : ∀ i,i < n → (L2 i).length = (L i).length)
    (hf : ∀ i,i < n → (f i).alive = true ∧ ∀ π σ,WkO π σ (f i) (edO (L2 i))) (henv : Env3 env env2) : Wk 0 ⟨env,fxG s n L ++ (inn f n ++ tl)⟩ ⟨env2,fxG s n L2 ++ inn (edF L2) n⟩ := by
  have hat : ∀ i, i < n → nthO (fxG s n L ++ (inn f n ++ tl)) (i + 3) = f i := fun i hi => inn_at f hi tl
  refine wk_inn (· + 3) (fun i hi => ?_) (fun i j hi hj e => by have e' : i + 3 = j + 3 := e;omega) (by simp) (henv _ _ rfl rfl rfl) ?_ (fun i hi => ?_)
  · simp [inn_len]; omega
  · refine ⟨WkO.box ?_ rfl,fun _ => rfl,WkO.arr fun i j hi hj => ?_,fun _ => rfl,WkO.box (WkVL.cons (WkV.own rfl (by simp)) WkVL.nil) rfl,fun _ => rfl,trivial⟩
    · exact WkVL.cons (WkV.imm rfl) (WkVL.cons (WkV.free (by simp [Free])) (WkVL.cons (WkV.free (by simp [Free])) (WkVL.cons (WkV.free (by simp [Free])) WkVL.nil)))
    · rw [grE_us, grE_us, hL i hi]
      exact WkV.own (qπ_get (· + 3) hi) (by simp)
  · simp only []
    rw [hat i hi]
    exact ⟨(hf i hi).2 _ _, fun _ => (hf i hi).1⟩
theorem wk_conv0 {s : Sc} {n : Nat} {L L2 : Nat → List Ed} {f : Nat → AObj} {env env2 : List AV} (hL : ∀ i,i < n → (L2 i).length = (L i).length)
    (hf : ∀ i,i < n → (f i).alive = true ∧ ∀ π σ,WkO π σ (f i) (edO (L2 i))) (henv : Env3 env env2) : Wk 0 ⟨env,fxG s n L ++ inn f n⟩ ⟨env2,fxG s n L2 ++ inn (edF L2) n⟩ := by
  have := wk_conv (s := s) (n := n) (L := L) (tl := []) hL hf henv
  rwa [List.append_nil] at this
theorem wk_keep {s : Sc} {n : Nat} {L : Nat → List Ed} {tl : List AObj} {env env2 : List AV} (henv : Env3 env env2) : Wk 0 ⟨env,fxG s n L ++ (inn (edF L) n ++ tl)⟩ ⟨env2,fxG s n L ++ inn (edF L) n⟩ :=
  wk_conv (fun _ _ => rfl) (fun i _ => ⟨rfl, fun π σ => WkO.arr fun p r _ _ => WkV.free (edE_free _ _ _)⟩) henv
theorem wk_keep0 {s : Sc} {n : Nat} {L : Nat → List Ed} {env env2 : List AV} (henv : Env3 env env2) : Wk 0 ⟨env,fxG s n L ++ inn (edF L) n⟩ ⟨env2,fxG s n L ++ inn (edF L) n⟩ := by
  have := wk_keep (s := s) (n := n) (L := L) (tl := []) henv
  rwa [List.append_nil] at this
theorem wk_start {s : Sc} {n : Nat} {L : Nat → List Ed} {E0 g : Nat → Nat → AV} {env env2 : List AV} (hE : ∀ i,E0 i 0 = .imm (.slice none 0 0)) (hL : ∀ i,L i = []) (henv : Env3 env env2) :
    Wk 0 ⟨env,[.box 26 (scL s),.arr 72 1 n E0,.box 55 [.own 1 0 n (some n)]] ++ inn (fun _ => .arr 74 9 0 g) n⟩ ⟨env2,fxG s n L ++ inn (edF L) n⟩ := by
  have hat : ∀ i,i < n → nthO ([.box 26 (scL s),.arr 72 1 n E0,.box 55 [.own 1 0 n (some n)]] ++ inn (fun _ => .arr 74 9 0 g) n) (i + 3) = .arr 74 9 0 g := fun i hi => by
    have := inn_at (fun _ => AObj.arr 74 9 0 g) hi []
    rw [List.append_nil] at this
    exact this
  refine wk_inn (· + 3) (fun i hi => ?_) (fun i j hi hj e => by have e' : i + 3 = j + 3 := e;omega) (by simp) (henv _ _ rfl rfl rfl) ?_ (fun i hi => ?_)
  · simp [inn_len]; omega
  · refine ⟨WkO.box ?_ rfl,fun _ => rfl,WkO.arr fun i j hi hj => ?_,fun _ => rfl,WkO.box (WkVL.cons (WkV.own rfl (by simp)) WkVL.nil) rfl,fun _ => rfl,trivial⟩
    · exact WkVL.cons (WkV.imm rfl) (WkVL.cons (WkV.free (by simp [Free])) (WkVL.cons (WkV.free (by simp [Free])) (WkVL.cons (WkV.free (by simp [Free])) WkVL.nil)))
    · obtain rfl : j = 0 := by omega
      rw [grE_us, hE, hL]
      exact WkV.nil_own (.inl rfl)
  · simp only []
    rw [hat i hi]
    refine ⟨?_, fun _ => rfl⟩
    show WkO _ _ _ (edO (L i))
    rw [hL]
    exact WkO.arr fun p r hp _ => by simp at hp
theorem inn_set0 (f : Nat → AObj) {n i : Nat} (x : AObj) (h : i < n) : (inn f n).set i x = inn (updF f i x) n := by
  have := inn_set f x h []
  rwa [List.append_nil, List.append_nil] at this
theorem inn_at0 (f : Nat → AObj) {n i : Nat} (h : i < n) : nthO (inn f n) i = f i := by
  have := inn_at f h []
  rwa [List.append_nil] at this
@[go_sem,reducible] def enG (l : List AV) : List AV := [.top,.optr 0 0 0,.imm (.slice none 0 0),.optr 2 0 0,.fn (.func 43) [] [.optr 2 0 0]] ++ l
@[go_sem,reducible] def enG1 (s : Sc) (i : Nat) : List AV := enG (List.replicate 14 .top ++ [.imm (.int .i64 s.notes.length),.imm (.int .i64 i)] ++ List.replicate 45 .top)
@[go_sem,reducible] def enG2 (s : Sc) (i : Nat) : List AV := enG (List.replicate 33 .top ++ [prs s.pairs,.imm (.int .i64 s.pairs.length),.imm (.int .i64 i)] ++ List.replicate 25 .top)
@[go_sem,reducible] def enG3 (s : Sc) (i : Nat) : List AV := enG (List.replicate 51 .top ++ [.own 1 0 s.notes.length (some s.notes.length),.imm (.int .i64 s.notes.length),.imm (.int .i64 i)] ++ List.replicate 7 .top)
def ggE (s : Sc) (i _j : Nat) : AV := eds (rowE s i)
@[go_sem] theorem ggE_us (s : Sc) (i j : Nat) : ggE s i j = eds (rowE s i) := rfl
@[simp] theorem ggE_free (s : Sc) (i j : Nat) : Free (ggE s i j) := by simp [ggE, Free]
@[go_sem, reducible] def graphV (s : Sc) : AV := .view s.notes.length 1 (ggE s)
def srtL (s : Sc) (k i : Nat) : List Ed := if i < k then rowE s i else jL (allJ s) i
theorem rowE_len {s : Sc} (h : ScOk s) (a : Nat) : (rowE s a).length = (jL (allJ s) a).length := by rw [← sort_row h,sortE_len]
attribute [local go_sem] List.append_assoc nthO_in0 nthO_inT set_in0 set_inT inn_len List.length_append Nat.add_assoc
set_option maxRecDepth 100000 in
set_option maxHeartbeats 4000000 in
theorem newGraph_fresh (s : Sc) (hl : ScL s) (hs : ScOk s) : Fresh Try.prog 27 [scA s] (graphV s) := by
  have hsz := hs.sz
  unfold SzOk at hsz
  unfold Fresh
  generalize hQ : (fun (u : AV) (σ1 : List AObj) => Fz σ1 u (graphV s)) = Q
  (refine TC_of_T Γ_ok Try.func27 rfl (by kernel_rfl) ?_;simp only [Try.ntmps27,Try.results27,List.length_cons,List.length_nil,Nat.reduceSub,Nat.reduceAdd,List.replicate,List.cons_append,List.nil_append])
  (((have sx1 := Nat.add_zero 0;refine goU1 _ _ _ _ _ _ _ _ _ _ _ _ ?_ ?_ ?_ ?_ ?_ ?_ ?_ ?_ ?_ ?_ ?_ ?_) <;> (repeat intro hb) <;> first | exact True.intro | refine Lf.mk ?_))
  refine T_loopW (fun m st => ∃ i : Nat,i ≤ s.notes.length ∧ m + i = s.notes.length ∧ st = ⟨enG1 s i,fxG s s.notes.length (jL (tiesJ s i)) ++ inn (edF (jL (tiesJ s i))) s.notes.length⟩)
    s.notes.length ⟨_,Wk.trans (wk_pushes 74 9 (edE []) s.notes.length) (wk_start (fun i => rfl) (fun i => rfl) fun π σ p0 p1 p2 => ?_),0,by omega,rfl,rfl⟩ ?_
  · (repeat' (first|(exact WkV.optr p0)|(exact WkV.optr p2)|exact WkVL.nil|refine WkVL.cons ?_ ?_|exact WkV.top|exact WkV.imm rfl|exact WkV.imm (by simp)|exact WkV.optr rfl|exact WkV.own rfl (by simp)|exact WkV.nil_own (.inl rfl)|exact WkV.map rfl|(refine WkV.free ?_;simp [Free,FreeL] <;> assumption)|(refine WkV.free (fun _ _=>FreeL_nth ?_ _);simp [Free,FreeL];done)|refine WkV.agg ?_|refine WkV.tup ?_|refine WkV.fn ?_ ?_|exact WkO.dead|exact WkO.raw|refine WkO.ghost ?_|exact WkO.mpE rfl trivial|refine WkO.box ?_ rfl|refine WkO.arr ?_|refine And.intro ?_ (And.intro (by first|exact fun h=>h|exact fun _=>rfl|exact nofun) ?_)|exact trivial|(intro i j hi hj)))
  rintro m st ⟨i, h0, h1, rfl⟩
  by_cases hi : i < s.notes.length
  · have c1 := before_tc s hl hs i hi
    unfold befI at c1
    have hJ := tiesJ_succ s i
    have hJl := tiesJ_len s i
    cases hb : befN s i with
    | none =>
      rw [hb] at c1 hJ
      (simp only [go_sem,↓reduceIte,Nat.reduceAdd,Nat.reduceSub,Nat.reduceMul,Nat.reduceLT,Nat.reduceLeDiff,Nat.reduceEqDiff,Nat.reduceGT,Int.reduceToNat,Int.reduceBEq,Int.reduceBNe];try simp (disch := omega) only [wrapI,wrapU,half_sum,toNat_sub1,toNat_add1,Int.toNat_natCast])
      (have cl1 := c1;((have sx1 := Nat.add_zero 0;refine goU1 _ _ _ _ _ _ _ _ _ _ _ _ ?_ ?_ ?_ ?_ ?_ ?_ ?_ ?_ ?_ ?_ ?_ ?_) <;> (repeat intro hb) <;> first | exact True.intro | refine Lf.mk ?_))
      refine ⟨s.notes.length - (i + 1),by omega,⟨enG1 s (i + 1),fxG s s.notes.length (jL (tiesJ s i)) ++ inn (edF (jL (tiesJ s i))) s.notes.length⟩,wk_keep0 fun π σ p0 p1 p2=>?_,i + 1,by omega,by omega,by rw [show tiesJ s (i + 1) = tiesJ s i from hJ] <;> rfl⟩
      (repeat' (first|(exact WkV.optr p0)|(exact WkV.optr p2)|(refine WkV.imm ?_;congr 1;omega)|exact WkVL.nil|refine WkVL.cons ?_ ?_|exact WkV.top|exact WkV.imm rfl|exact WkV.imm (by simp)|exact WkV.optr rfl|exact WkV.own rfl (by simp)|exact WkV.nil_own (.inl rfl)|exact WkV.map rfl|(refine WkV.free ?_;simp [Free,FreeL] <;> assumption)|(refine WkV.free (fun _ _=>FreeL_nth ?_ _);simp [Free,FreeL];done)|refine WkV.agg ?_|refine WkV.tup ?_|refine WkV.fn ?_ ?_|exact WkO.dead|exact WkO.raw|refine WkO.ghost ?_|exact WkO.mpE rfl trivial|refine WkO.box ?_ rfl|refine WkO.arr ?_|refine And.intro ?_ (And.intro (by first|exact fun h=>h|exact fun _=>rfl|exact nofun) ?_)|exact trivial|(intro i j hi hj)))
    | some b =>
      rw [hb] at c1 hJ
      have e1 : decide ((b : Int) ≥ 0) = true := decide_eq_true (by omega)
      have hbl := befN_some hs hi hb
      have c2 := join_raw s s.notes.length (jL (tiesJ s i)) b i (by omega) hi (by omega) 1 z6 (Bd6.z _ (by omega)) (by have := jL_len (tiesJ s i) b;omega) (by have := jL_len (tiesJ s i) i;omega) (by omega)
      (simp only [go_sem,↓reduceIte,Nat.reduceAdd,Nat.reduceSub,Nat.reduceMul,Nat.reduceLT,Nat.reduceLeDiff,Nat.reduceEqDiff,Nat.reduceGT,Int.reduceToNat,Int.reduceBEq,Int.reduceBNe];try simp (disch := omega) only [wrapI,wrapU,half_sum,toNat_sub1,toNat_add1,Int.toNat_natCast])
      repeat' (first
    | (with_reducible refine hK _ ?_; clear hK K)
    | (refine callGoal_mk trivial c2 ?_;rintro v σ' ⟨k1,k2,E,E1,E2,hjs⟩;try (simp only [go_sem,↓reduceIte,Nat.reduceAdd,Nat.reduceSub,Nat.reduceMul,Nat.reduceLT,Nat.reduceLeDiff,Nat.reduceEqDiff,Nat.reduceGT,Int.reduceToNat,Int.reduceBEq,Int.reduceBNe];try simp (disch := omega) only [wrapI,wrapU,half_sum,toNat_sub1,toNat_add1,Int.toNat_natCast]))
    | ((with_reducible first|apply callGoal_lookA (c1)|apply dCall_lookA (c1));(case hC=>first|exact trivial|(simp only [go_sem,and_self];done)|(simp only [go_sem];omega));(case hc=>((repeat' (first|exact CvL.nil|exact Cv.nil_view|refine CvL.cons ?_ ?_|exact Cv.imm rfl|(refine Cv.free ?_;simp [Free,FreeL] <;> assumption)|(refine Cv.free (fun _ _=>FreeL_nth ?_ _);simp [Free,FreeL];done)|refine Cv.agg ?_|(apply Cv.own;(case hob=>(with_unfolding_all exact rfl));(case hz=>decide);(case hE=>(first|(intro _ _ _ _;rfl)|(intro i j hi hj;(rcases i with _ | _|i) <;> (rcases j with _ | _ | _ | _|j) <;> first|rfl|(exfalso;omega))));(case hf=>(intro _ _;simp;done)))|(refine Cv.pvE ?_ ?_ (by decide);(focus (first|(intro _ _ _ _;rfl)|(intro i j hi hj;(rcases i with _ | _|i) <;> (rcases j with _ | _ | _ | _|j) <;> first|rfl|(exfalso;omega))));(focus (intro _ _;simp;done)))|(apply Cv.ownS;(case hob=>(with_unfolding_all exact rfl));(case hz=>decide);(case hle=>(first|omega|(simp only [decide_eq_true_eq] at hg;omega)|(simp;omega)));(case hE=>(intro _ _ _ _;first|(rw [Nat.zero_add];done)|(rw [Nat.zero_add];rfl)));(case hf=>(intro _ _;simp;done)))|(refine Cv.viewE (by decide) ?_ ?_;(focus (intro _ _ _ _;first|rfl));(focus (intro _ _;simp;done)))|refine Cv.ptr (by with_unfolding_all rfl) (by with_unfolding_all rfl) ?_|refine Cv.fn ?_ ?_));done)))
    | ((with_reducible first|apply gC_lookA (fun hg=>(c1))|apply dCall_lookGA (fun hg=>(c1)));(case hC=>(intro hg;first|exact trivial|exact hg|(simp only [hg,and_self,implies_true];done)|(simp only [go_sem,hg,and_self,implies_true];done)));(case hc=>(intro hg;((repeat' (first|exact CvL.nil|exact Cv.nil_view|refine CvL.cons ?_ ?_|exact Cv.imm rfl|(refine Cv.free ?_;simp [Free,FreeL] <;> assumption)|(refine Cv.free (fun _ _=>FreeL_nth ?_ _);simp [Free,FreeL];done)|refine Cv.agg ?_|(apply Cv.own;(case hob=>(with_unfolding_all exact rfl));(case hz=>decide);(case hE=>(first|(intro _ _ _ _;rfl)|(intro i j hi hj;(rcases i with _ | _|i) <;> (rcases j with _ | _ | _ | _|j) <;> first|rfl|(exfalso;omega))));(case hf=>(intro _ _;simp;done)))|(refine Cv.pvE ?_ ?_ (by decide);(focus (first|(intro _ _ _ _;rfl)|(intro i j hi hj;(rcases i with _ | _|i) <;> (rcases j with _ | _ | _ | _|j) <;> first|rfl|(exfalso;omega))));(focus (intro _ _;simp;done)))|(apply Cv.ownS;(case hob=>(with_unfolding_all exact rfl));(case hz=>decide);(case hle=>(first|omega|(simp only [decide_eq_true_eq] at hg;omega)|(simp;omega)));(case hE=>(intro _ _ _ _;first|(rw [Nat.zero_add];done)|(rw [Nat.zero_add];rfl)));(case hf=>(intro _ _;simp;done)))|(refine Cv.viewE (by decide) ?_ ?_;(focus (intro _ _ _ _;first|rfl));(focus (intro _ _;simp;done)))|refine Cv.ptr (by with_unfolding_all rfl) (by with_unfolding_all rfl) ?_|refine Cv.fn ?_ ?_));done))))
    | ((with_reducible apply DC_call);(focus exact rfl);(focus exact rfl);(focus exact rfl);intro N hN;(simp only [go_sem,e1,↓reduceIte,Nat.reduceAdd,Nat.reduceSub,Nat.reduceMul,Nat.reduceLT,Nat.reduceLeDiff,Nat.reduceEqDiff,Nat.reduceGT,Int.reduceToNat,Int.reduceBEq,Int.reduceBNe];try simp (disch := omega) only [wrapI,wrapU,half_sum,toNat_sub1,toNat_add1,Int.toNat_natCast]))
    | ((with_reducible first|refine T_seq_region Γ_ok (fun K hK=>?_)|refine T_last_region Γ_ok (fun K hK=>?_)|refine TO_callN rfl (fun N hN=>?_)|refine DCT_fork Γ_ok (fun K2 hK2=>?_)|refine DCT_last Γ_ok ?_|refine DC_ev Γ_ok ?_|refine TO_ev Γ_ok ?_|refine retQ_r ?_|refine retQ_n ?_);(simp only [go_sem,e1,↓reduceIte,Nat.reduceAdd,Nat.reduceSub,Nat.reduceMul,Nat.reduceLT,Nat.reduceLeDiff,Nat.reduceEqDiff,Nat.reduceGT,Int.reduceToNat,Int.reduceBEq,Int.reduceBNe];try simp (disch := omega) only [wrapI,wrapU,half_sum,toNat_sub1,toNat_add1,Int.toNat_natCast]))
    | (with_reducible refine hK2 _ ?_ ?_ <;> clear hK2 K2)
    | with_reducible refine gC_false ?_ | with_reducible refine gC_true ?_ | with_reducible refine dCall_true ?_
    | (with_reducible refine hN _ _ ?_; clear hN N)
    | (with_reducible refine hN _ _ (dInl rfl) ?_; clear hN N)
    | ((with_reducible refine hN _ _ (.inr ?_) ?_);(focus (simp only [go_sem,e1,↓reduceIte,Nat.reduceAdd,Nat.reduceSub,Nat.reduceMul,Nat.reduceLT,Nat.reduceLeDiff,Nat.reduceEqDiff,Nat.reduceGT,Int.reduceToNat,Int.reduceBEq,Int.reduceBNe];try simp (disch := omega) only [wrapI,wrapU,half_sum,toNat_sub1,toNat_add1,Int.toNat_natCast]));all_goals (try clear hN N))
    | with_reducible refine T_seq ?_|with_reducible refine T_block ?_|with_reducible refine T_ret ?_|with_reducible refine T_exit ?_|with_reducible refine T_skip ?_|with_reducible refine T_label ?_
    | with_reducible refine thenQ_n ?_|with_reducible refine thenQ_e ?_|with_reducible refine thenQ_r ?_|with_reducible refine blockQ_n ?_|with_reducible refine blockQ_e ?_|with_reducible refine blockQ_r ?_
    | with_reducible refine blockQ_o (by decide) ?_
    | ((with_reducible refine T_cond _ rfl (fun hb=>?_) (fun hb=>?_)) <;> first|(cases hb;done)|(simp only [decide_eq_true_eq,decide_eq_false_iff_not,Bool.and_eq_true,Bool.or_eq_true,Bool.and_eq_false_imp,Bool.or_eq_false_iff,Bool.not_eq_true',Bool.not_eq_false',beq_iff_eq,bne_iff_ne,ne_eq,beq_eq_false_iff_ne,bne_eq_false_iff_eq,Int.not_lt,Int.not_le,ge_iff_le,gt_iff_lt] at hb)|skip)
    | (with_reducible refine And.intro (by first | exact trivial | omega | (intro hg;simp at hg ⊢ <;> omega) | (simp <;> omega)) ?_)
    | assumption | omega)
      have hjl := hjs.lt1
      have hjm := hjs.le1
      refine ⟨s.notes.length - (i + 1),by omega,⟨enG1 s (i + 1),fxG s s.notes.length (jL (tiesJ s (i + 1))) ++ inn (edF (jL (tiesJ s (i + 1)))) s.notes.length⟩,hjs.wk (by omega) hi (by omega) (fun q hq=>?_) (by omega) (fun π p0 p1 p2=>?_),i + 1,by omega,by omega,rfl⟩
      · rw [hJ]; exact jL_snoc _ (j := ⟨b, i, 1, z6⟩) (by simp only []; omega) q
      · (repeat' (first|(exact WkV.optr p0)|(exact WkV.optr p2)|(refine WkV.imm ?_;congr 1;omega)|exact WkVL.nil|refine WkVL.cons ?_ ?_|exact WkV.top|exact WkV.imm rfl|exact WkV.imm (by simp)|exact WkV.optr rfl|exact WkV.own rfl (by simp)|exact WkV.nil_own (.inl rfl)|exact WkV.map rfl|(refine WkV.free ?_;simp [Free,FreeL] <;> assumption)|(refine WkV.free (fun _ _=>FreeL_nth ?_ _);simp [Free,FreeL];done)|refine WkV.agg ?_|refine WkV.tup ?_|refine WkV.fn ?_ ?_|exact WkO.dead|exact WkO.raw|refine WkO.ghost ?_|exact WkO.mpE rfl trivial|refine WkO.box ?_ rfl|refine WkO.arr ?_|refine And.intro ?_ (And.intro (by first|exact fun h=>h|exact fun _=>rfl|exact nofun) ?_)|exact trivial|(intro i j hi hj)))
  · obtain rfl : i = s.notes.length := by omega
    have hT := tiesJ_len s s.notes.length
    (simp only [go_sem,↓reduceIte,Nat.reduceAdd,Nat.reduceSub,Nat.reduceMul,Nat.reduceLT,Nat.reduceLeDiff,Nat.reduceEqDiff,Nat.reduceGT,Int.reduceToNat,Int.reduceBEq,Int.reduceBNe];try simp (disch := omega) only [wrapI,wrapU,half_sum,toNat_sub1,toNat_add1,Int.toNat_natCast])
    (((have sx1 := Nat.add_zero 0;refine goU1 _ _ _ _ _ _ _ _ _ _ _ _ ?_ ?_ ?_ ?_ ?_ ?_ ?_ ?_ ?_ ?_ ?_ ?_) <;> (repeat intro hb) <;> first | exact True.intro | refine Lf.mk ?_))
    refine T_loopW (fun m st=>∃ i : Nat,i ≤ s.pairs.length ∧ m + i = s.pairs.length ∧ st = ⟨enG2 s i,fxG s s.notes.length (jL (tiesJ s s.notes.length ++ pairsJ (s.pairs.take i))) ++ inn (edF (jL (tiesJ s s.notes.length ++ pairsJ (s.pairs.take i)))) s.notes.length⟩)
      s.pairs.length ⟨⟨enG2 s 0,fxG s s.notes.length (jL (tiesJ s s.notes.length)) ++ inn (edF (jL (tiesJ s s.notes.length))) s.notes.length⟩,wk_keep0 fun π σ p0 p1 p2=>?_,0,by omega,rfl,by rw [List.take_zero,show pairsJ [] = [] from rfl,List.append_nil] <;> rfl⟩ ?_
    · (repeat' (first|(exact WkV.optr p0)|(exact WkV.optr p2)|exact WkVL.nil|refine WkVL.cons ?_ ?_|exact WkV.top|exact WkV.imm rfl|exact WkV.imm (by simp)|exact WkV.optr rfl|exact WkV.own rfl (by simp)|exact WkV.nil_own (.inl rfl)|exact WkV.map rfl|(refine WkV.free ?_;simp [Free,FreeL] <;> assumption)|(refine WkV.free (fun _ _=>FreeL_nth ?_ _);simp [Free,FreeL];done)|refine WkV.agg ?_|refine WkV.tup ?_|refine WkV.fn ?_ ?_|exact WkO.dead|exact WkO.raw|refine WkO.ghost ?_|exact WkO.mpE rfl trivial|refine WkO.box ?_ rfl|refine WkO.arr ?_|refine And.intro ?_ (And.intro (by first|exact fun h=>h|exact fun _=>rfl|exact nofun) ?_)|exact trivial|(intro i j hi hj)))
    rintro m st ⟨i, h0, h1, rfl⟩
    by_cases hi : i < s.pairs.length
    · have hJ := pairsJ_succ hi
      have hP := pairsJ_len (s.pairs.take i)
      rw [List.length_take] at hP
      have hpo := (hs.ps.one i hi).1
      unfold PrB at hpo
      generalize hJJ : tiesJ s s.notes.length ++ pairsJ (s.pairs.take i) = J
      have hJl : J.length ≤ 600 := by rw [← hJJ, List.length_append]; omega
      by_cases hb : (gp s.pairs i).bound = 0
      · rw [if_pos hb] at hJ
        have e1 : decide ((gp s.pairs i).bound = 0) = true := decide_eq_true hb
        obtain ⟨a, ha⟩ := Int.eq_ofNat_of_zero_le hpo.1
        obtain ⟨b, hb2⟩ := Int.eq_ofNat_of_zero_le (show 0 ≤ (gp s.pairs i).b by omega)
        have c2 := fun t=>join_raw1 t s s.notes.length (jL J) a b (by omega) (by omega) (by omega) 2 (gp s.pairs i).want (want_bd hpo) (by have := jL_len J a;omega) (by have := jL_len J b;omega) (by omega)
        simp only [← ha, ← hb2] at c2
        (simp only [go_sem,↓reduceIte,Nat.reduceAdd,Nat.reduceSub,Nat.reduceMul,Nat.reduceLT,Nat.reduceLeDiff,Nat.reduceEqDiff,Nat.reduceGT,Int.reduceToNat,Int.reduceBEq,Int.reduceBNe];try simp (disch := omega) only [wrapI,wrapU,half_sum,toNat_sub1,toNat_add1,Int.toNat_natCast])
        repeat' (first
    | (with_reducible refine hK _ ?_; clear hK K)
    | (refine callGoal_mk trivial (c2 _) ?_;rintro v σ' ⟨k1,k2,E,E1,E2,hjs⟩;try (simp only [go_sem,↓reduceIte,Nat.reduceAdd,Nat.reduceSub,Nat.reduceMul,Nat.reduceLT,Nat.reduceLeDiff,Nat.reduceEqDiff,Nat.reduceGT,Int.reduceToNat,Int.reduceBEq,Int.reduceBNe];try simp (disch := omega) only [wrapI,wrapU,half_sum,toNat_sub1,toNat_add1,Int.toNat_natCast]))
    | ((with_reducible apply DC_call);(focus exact rfl);(focus exact rfl);(focus exact rfl);intro N hN;(simp only [go_sem,e1,↓reduceIte,Nat.reduceAdd,Nat.reduceSub,Nat.reduceMul,Nat.reduceLT,Nat.reduceLeDiff,Nat.reduceEqDiff,Nat.reduceGT,Int.reduceToNat,Int.reduceBEq,Int.reduceBNe];try simp (disch := omega) only [wrapI,wrapU,half_sum,toNat_sub1,toNat_add1,Int.toNat_natCast]))
    | ((with_reducible first|refine T_seq_region Γ_ok (fun K hK=>?_)|refine T_last_region Γ_ok (fun K hK=>?_)|refine TO_callN rfl (fun N hN=>?_)|refine DCT_fork Γ_ok (fun K2 hK2=>?_)|refine DCT_last Γ_ok ?_|refine DC_ev Γ_ok ?_|refine TO_ev Γ_ok ?_|refine retQ_r ?_|refine retQ_n ?_);(simp only [go_sem,e1,↓reduceIte,Nat.reduceAdd,Nat.reduceSub,Nat.reduceMul,Nat.reduceLT,Nat.reduceLeDiff,Nat.reduceEqDiff,Nat.reduceGT,Int.reduceToNat,Int.reduceBEq,Int.reduceBNe];try simp (disch := omega) only [wrapI,wrapU,half_sum,toNat_sub1,toNat_add1,Int.toNat_natCast]))
    | (with_reducible refine hK2 _ ?_ ?_ <;> clear hK2 K2)
    | with_reducible refine gC_false ?_ | with_reducible refine gC_true ?_ | with_reducible refine dCall_true ?_
    | (with_reducible refine hN _ _ ?_; clear hN N)
    | (with_reducible refine hN _ _ (dInl rfl) ?_; clear hN N)
    | ((with_reducible refine hN _ _ (.inr ?_) ?_);(focus (simp only [go_sem,e1,↓reduceIte,Nat.reduceAdd,Nat.reduceSub,Nat.reduceMul,Nat.reduceLT,Nat.reduceLeDiff,Nat.reduceEqDiff,Nat.reduceGT,Int.reduceToNat,Int.reduceBEq,Int.reduceBNe];try simp (disch := omega) only [wrapI,wrapU,half_sum,toNat_sub1,toNat_add1,Int.toNat_natCast]));all_goals (try clear hN N))
    | with_reducible refine T_seq ?_|with_reducible refine T_block ?_|with_reducible refine T_ret ?_|with_reducible refine T_exit ?_|with_reducible refine T_skip ?_|with_reducible refine T_label ?_
    | with_reducible refine thenQ_n ?_|with_reducible refine thenQ_e ?_|with_reducible refine thenQ_r ?_|with_reducible refine blockQ_n ?_|with_reducible refine blockQ_e ?_|with_reducible refine blockQ_r ?_
    | with_reducible refine blockQ_o (by decide) ?_
    | ((with_reducible refine T_cond _ rfl (fun hb=>?_) (fun hb=>?_)) <;> first|(cases hb;done)|(simp only [decide_eq_true_eq,decide_eq_false_iff_not,Bool.and_eq_true,Bool.or_eq_true,Bool.and_eq_false_imp,Bool.or_eq_false_iff,Bool.not_eq_true',Bool.not_eq_false',beq_iff_eq,bne_iff_ne,ne_eq,beq_eq_false_iff_ne,bne_eq_false_iff_eq,Int.not_lt,Int.not_le,ge_iff_le,gt_iff_lt] at hb)|skip)
    | (with_reducible refine And.intro (by first | exact trivial | omega | (intro hg;simp at hg ⊢ <;> omega) | (simp <;> omega)) ?_)
    | assumption | omega)
        have hjl := hjs.lt1
        have hjm := hjs.le1
        refine ⟨s.pairs.length - (i + 1),by omega,⟨enG2 s (i + 1),fxG s s.notes.length (jL (J ++ [⟨a,b,2,(gp s.pairs i).want⟩])) ++ inn (edF (jL (J ++ [⟨a,b,2,(gp s.pairs i).want⟩]))) s.notes.length⟩,hjs.wk (by omega) (by omega) (by omega) (fun q hq=>?_) (by omega) (fun π p0 p1 p2=>?_),i + 1,by omega,by omega,?_⟩
        · rw [ha, hb2]; exact jL_snoc _ (j := ⟨a, b, 2, (gp s.pairs i).want⟩) (by simp only []; omega) q
        · (repeat' (first|(exact WkV.optr p0)|(exact WkV.optr p2)|(refine WkV.imm ?_;congr 1;omega)|exact WkVL.nil|refine WkVL.cons ?_ ?_|exact WkV.top|exact WkV.imm rfl|exact WkV.imm (by simp)|exact WkV.optr rfl|exact WkV.own rfl (by simp)|exact WkV.nil_own (.inl rfl)|exact WkV.map rfl|(refine WkV.free ?_;simp [Free,FreeL] <;> assumption)|(refine WkV.free (fun _ _=>FreeL_nth ?_ _);simp [Free,FreeL];done)|refine WkV.agg ?_|refine WkV.tup ?_|refine WkV.fn ?_ ?_|exact WkO.dead|exact WkO.raw|refine WkO.ghost ?_|exact WkO.mpE rfl trivial|refine WkO.box ?_ rfl|refine WkO.arr ?_|refine And.intro ?_ (And.intro (by first|exact fun h=>h|exact fun _=>rfl|exact nofun) ?_)|exact trivial|(intro i j hi hj)))
        · rw [hJ, ← List.append_assoc, hJJ, ha, hb2, Int.toNat_natCast, Int.toNat_natCast] <;> rfl
      · rw [if_neg hb] at hJ
        have e1 : decide ((gp s.pairs i).bound = 0) = false := decide_eq_false hb
        (simp only [go_sem,↓reduceIte,Nat.reduceAdd,Nat.reduceSub,Nat.reduceMul,Nat.reduceLT,Nat.reduceLeDiff,Nat.reduceEqDiff,Nat.reduceGT,Int.reduceToNat,Int.reduceBEq,Int.reduceBNe];try simp (disch := omega) only [wrapI,wrapU,half_sum,toNat_sub1,toNat_add1,Int.toNat_natCast])
        (have sx1 := e1;((refine goU1 _ _ _ _ _ _ _ _ _ _ _ _ ?_ ?_ ?_ ?_ ?_ ?_ ?_ ?_ ?_ ?_ ?_ ?_) <;> (repeat intro hb) <;> first | exact True.intro | refine Lf.mk ?_))
        refine ⟨s.pairs.length - (i + 1),by omega,⟨enG2 s (i + 1),fxG s s.notes.length (jL J) ++ inn (edF (jL J)) s.notes.length⟩,wk_keep fun π σ p0 p1 p2=>?_,i + 1,by omega,by omega,by rw [hJ,hJJ] <;> rfl⟩
        (repeat' (first|(exact WkV.optr p0)|(exact WkV.optr p2)|(refine WkV.imm ?_;congr 1;omega)|exact WkVL.nil|refine WkVL.cons ?_ ?_|exact WkV.top|exact WkV.imm rfl|exact WkV.imm (by simp)|exact WkV.optr rfl|exact WkV.own rfl (by simp)|exact WkV.nil_own (.inl rfl)|exact WkV.map rfl|(refine WkV.free ?_;simp [Free,FreeL] <;> assumption)|(refine WkV.free (fun _ _=>FreeL_nth ?_ _);simp [Free,FreeL];done)|refine WkV.agg ?_|refine WkV.tup ?_|refine WkV.fn ?_ ?_|exact WkO.dead|exact WkO.raw|refine WkO.ghost ?_|exact WkO.mpE rfl trivial|refine WkO.box ?_ rfl|refine WkO.arr ?_|refine And.intro ?_ (And.intro (by first|exact fun h=>h|exact fun _=>rfl|exact nofun) ?_)|exact trivial|(intro i j hi hj)))
    · obtain rfl : i = s.pairs.length := by omega
      rw [List.take_length, show tiesJ s s.notes.length ++ pairsJ s.pairs = allJ s from rfl]
      (simp only [go_sem,↓reduceIte,Nat.reduceAdd,Nat.reduceSub,Nat.reduceMul,Nat.reduceLT,Nat.reduceLeDiff,Nat.reduceEqDiff,Nat.reduceGT,Int.reduceToNat,Int.reduceBEq,Int.reduceBNe];try simp (disch := omega) only [wrapI,wrapU,half_sum,toNat_sub1,toNat_add1,Int.toNat_natCast])
      (((have sx1 := Nat.add_zero 0;refine goU1 _ _ _ _ _ _ _ _ _ _ _ _ ?_ ?_ ?_ ?_ ?_ ?_ ?_ ?_ ?_ ?_ ?_ ?_) <;> (repeat intro hb) <;> first | exact True.intro | refine Lf.mk ?_))
      refine T_loopW (fun m st => ∃ i : Nat,i ≤ s.notes.length ∧ m + i = s.notes.length ∧ st = ⟨enG3 s i,fxG s s.notes.length (srtL s i) ++ inn (edF (srtL s i)) s.notes.length⟩)
        s.notes.length ⟨⟨enG3 s 0,fxG s s.notes.length (jL (allJ s)) ++ inn (edF (jL (allJ s))) s.notes.length⟩,wk_keep0 fun π σ p0 p1 p2=>?_,0,by omega,rfl,by rw [show srtL s 0 = jL (allJ s) from funext fun i=>if_neg (by omega)] <;> rfl⟩ ?_
      · (repeat' (first|(exact WkV.optr p0)|(exact WkV.optr p2)|(exact WkV.own p1 (by simp))|exact WkVL.nil|refine WkVL.cons ?_ ?_|exact WkV.top|exact WkV.imm rfl|exact WkV.imm (by simp)|exact WkV.optr rfl|exact WkV.own rfl (by simp)|exact WkV.nil_own (.inl rfl)|exact WkV.map rfl|(refine WkV.free ?_;simp [Free,FreeL] <;> assumption)|(refine WkV.free (fun _ _=>FreeL_nth ?_ _);simp [Free,FreeL];done)|refine WkV.agg ?_|refine WkV.tup ?_|refine WkV.fn ?_ ?_|exact WkO.dead|exact WkO.raw|refine WkO.ghost ?_|exact WkO.mpE rfl trivial|refine WkO.box ?_ rfl|refine WkO.arr ?_|refine And.intro ?_ (And.intro (by first|exact fun h=>h|exact fun _=>rfl|exact nofun) ?_)|exact trivial|(intro i j hi hj)))
      rintro m st ⟨i, h0, h1, rfl⟩
      by_cases hi : i < s.notes.length
      · have hli := jL_len (allJ s) i
        have hAl : (allJ s).length ≤ 600 := by
          have := pairsJ_len s.pairs
          unfold allJ; rw [List.length_append]; omega
        have hsi : srtL s i i = jL (allJ s) i := if_neg (by omega)
        have c2 := sortF_tu (jL (allJ s) i).length (jL (allJ s) i).toArray (by simp) (by omega)
        have hnth : nthO (fxG s s.notes.length (srtL s i) ++ inn (edF (srtL s i)) s.notes.length) (i + 3) = edO (jL (allJ s) i) := by
          show nthO (inn (edF (srtL s i)) s.notes.length) i = _
          rw [inn_at0 _ hi]; unfold edF; rw [hsi]
        have hal : (nthO (fxG s s.notes.length (srtL s i) ++ inn (edF (srtL s i)) s.notes.length) (i + 3)).alive = true := by rw [hnth];rfl
        have hso : ∀ π σ,WkO π σ (elO (jL (allJ s) i).length (Go.Sort.sort ltE (jL (allJ s) i).toArray)) (edO (srtL s (i + 1) i)) := fun π σ => by
          rw [show srtL s (i + 1) i = rowE s i from if_pos (by omega), ← sort_row hs]
          unfold edO
          rw [sortE_len]
          exact WkO.arr fun p r hp hr => WkV.eqF (elE_sort _ _ _) (edE_free _ _ _)
        (simp only [go_sem,↓reduceIte,Nat.reduceAdd,Nat.reduceSub,Nat.reduceMul,Nat.reduceLT,Nat.reduceLeDiff,Nat.reduceEqDiff,Nat.reduceGT,Int.reduceToNat,Int.reduceBEq,Int.reduceBNe];try simp (disch := omega) only [wrapI,wrapU,half_sum,toNat_sub1,toNat_add1,Int.toNat_natCast])
        repeat' (first
    | (with_reducible refine hK _ ?_; clear hK K)
    | ((refine callGoal_turns [i + 3] trivial c2 (by simp) (fun q hq=>?_) (WkVL.cons (WkV.own rfl (by simp)) (WkVL.cons (WkV.fn WkVL.nil WkVL.nil) WkVL.nil)) ⟨?_,fun _=>hal,trivial⟩ ?_);(focus (simp only [List.mem_singleton] at hq;subst hq;exact ⟨by simp [inn_len];omega,hal⟩));(focus (show WkO _ _ (nthO (fxG s s.notes.length (srtL s i) ++ inn (edF (srtL s i)) s.notes.length) (i + 3)) _;rw [hnth];exact WkO.arr fun p r hp hr=>WkV.eqF (elE_list _ _ _).symm (elE_free _ _ _)));(simp only [go_sem,↓reduceIte,Nat.reduceAdd,Nat.reduceSub,Nat.reduceMul,Nat.reduceLT,Nat.reduceLeDiff,Nat.reduceEqDiff,Nat.reduceGT,Int.reduceToNat,Int.reduceBEq,Int.reduceBNe];try simp (disch := omega) only [wrapI,wrapU,half_sum,toNat_sub1,toNat_add1,Int.toNat_natCast]))
    | ((with_reducible apply DC_call);(focus exact rfl);(focus exact rfl);(focus exact rfl);intro N hN;(simp only [go_sem,hsi,↓reduceIte,Nat.reduceAdd,Nat.reduceSub,Nat.reduceMul,Nat.reduceLT,Nat.reduceLeDiff,Nat.reduceEqDiff,Nat.reduceGT,Int.reduceToNat,Int.reduceBEq,Int.reduceBNe];try simp (disch := omega) only [wrapI,wrapU,half_sum,toNat_sub1,toNat_add1,Int.toNat_natCast]))
    | ((with_reducible first|refine T_seq_region Γ_ok (fun K hK=>?_)|refine T_last_region Γ_ok (fun K hK=>?_)|refine TO_callN rfl (fun N hN=>?_)|refine DCT_fork Γ_ok (fun K2 hK2=>?_)|refine DCT_last Γ_ok ?_|refine DC_ev Γ_ok ?_|refine TO_ev Γ_ok ?_|refine retQ_r ?_|refine retQ_n ?_);(simp only [go_sem,hsi,↓reduceIte,Nat.reduceAdd,Nat.reduceSub,Nat.reduceMul,Nat.reduceLT,Nat.reduceLeDiff,Nat.reduceEqDiff,Nat.reduceGT,Int.reduceToNat,Int.reduceBEq,Int.reduceBNe];try simp (disch := omega) only [wrapI,wrapU,half_sum,toNat_sub1,toNat_add1,Int.toNat_natCast]))
    | (with_reducible refine hK2 _ ?_ ?_ <;> clear hK2 K2)
    | with_reducible refine gC_false ?_ | with_reducible refine gC_true ?_ | with_reducible refine dCall_true ?_
    | (with_reducible refine hN _ _ ?_; clear hN N)
    | (with_reducible refine hN _ _ (dInl rfl) ?_; clear hN N)
    | ((with_reducible refine hN _ _ (.inr ?_) ?_);(focus (simp only [go_sem,hsi,↓reduceIte,Nat.reduceAdd,Nat.reduceSub,Nat.reduceMul,Nat.reduceLT,Nat.reduceLeDiff,Nat.reduceEqDiff,Nat.reduceGT,Int.reduceToNat,Int.reduceBEq,Int.reduceBNe];try simp (disch := omega) only [wrapI,wrapU,half_sum,toNat_sub1,toNat_add1,Int.toNat_natCast]));all_goals (try clear hN N))
    | with_reducible refine T_seq ?_|with_reducible refine T_block ?_|with_reducible refine T_ret ?_|with_reducible refine T_exit ?_|with_reducible refine T_skip ?_|with_reducible refine T_label ?_
    | with_reducible refine thenQ_n ?_|with_reducible refine thenQ_e ?_|with_reducible refine thenQ_r ?_|with_reducible refine blockQ_n ?_|with_reducible refine blockQ_e ?_|with_reducible refine blockQ_r ?_
    | with_reducible refine blockQ_o (by decide) ?_
    | ((with_reducible refine T_cond _ rfl (fun hb=>?_) (fun hb=>?_)) <;> first|(cases hb;done)|(simp only [decide_eq_true_eq,decide_eq_false_iff_not,Bool.and_eq_true,Bool.or_eq_true,Bool.and_eq_false_imp,Bool.or_eq_false_iff,Bool.not_eq_true',Bool.not_eq_false',beq_iff_eq,bne_iff_ne,ne_eq,beq_eq_false_iff_ne,bne_eq_false_iff_eq,Int.not_lt,Int.not_le,ge_iff_le,gt_iff_lt] at hb)|skip)
    | (with_reducible refine And.intro (by first | exact trivial | omega | (intro hg;simp at hg ⊢ <;> omega) | (simp <;> omega)) ?_)
    | assumption | omega)
        rw [inn_set0 _ _ hi]
        refine ⟨s.notes.length - (i + 1),by omega,⟨enG3 s (i + 1),fxG s s.notes.length (srtL s (i + 1)) ++ inn (edF (srtL s (i + 1))) s.notes.length⟩,wk_conv0 (L := srtL s i) (fun q hq=>?_) (fun q hq=>?_) fun π σ p0 p1 p2=>?_,i + 1,by omega,by omega,rfl⟩
        · unfold srtL
          by_cases h7 : q < i
          · rw [if_pos h7, if_pos (by omega)]
          · rw [if_neg h7]; split
            · exact rowE_len hs q
            · rfl
        · unfold updF
          by_cases h7 : q = i
          · subst h7; rw [if_pos rfl]; exact ⟨rfl, hso⟩
          · rw [if_neg h7]
            refine ⟨rfl, fun π σ => ?_⟩
            have : srtL s (i + 1) q = srtL s i q := by
              unfold srtL
              by_cases h8 : q < i
              · rw [if_pos h8, if_pos (by omega)]
              · rw [if_neg h8, if_neg (by omega)]
            rw [this]
            exact WkO.arr fun p r _ _ => WkV.free (edE_free _ _ _)
        · (repeat' (first|(exact WkV.optr p0)|(exact WkV.optr p2)|(exact WkV.own p1 (by simp))|(refine WkV.imm ?_;congr 1;omega)|exact WkVL.nil|refine WkVL.cons ?_ ?_|exact WkV.top|exact WkV.imm rfl|exact WkV.imm (by simp)|exact WkV.optr rfl|exact WkV.own rfl (by simp)|exact WkV.nil_own (.inl rfl)|exact WkV.map rfl|(refine WkV.free ?_;simp [Free,FreeL] <;> assumption)|(refine WkV.free (fun _ _=>FreeL_nth ?_ _);simp [Free,FreeL];done)|refine WkV.agg ?_|refine WkV.tup ?_|refine WkV.fn ?_ ?_|exact WkO.dead|exact WkO.raw|refine WkO.ghost ?_|exact WkO.mpE rfl trivial|refine WkO.box ?_ rfl|refine WkO.arr ?_|refine And.intro ?_ (And.intro (by first|exact fun h=>h|exact fun _=>rfl|exact nofun) ?_)|exact trivial|(intro i j hi hj)))
      · obtain rfl : i = s.notes.length := by omega
        (simp only [go_sem,↓reduceIte,Nat.reduceAdd,Nat.reduceSub,Nat.reduceMul,Nat.reduceLT,Nat.reduceLeDiff,Nat.reduceEqDiff,Nat.reduceGT,Int.reduceToNat,Int.reduceBEq,Int.reduceBNe];try simp (disch := omega) only [wrapI,wrapU,half_sum,toNat_sub1,toNat_add1,Int.toNat_natCast])
        (((have sx1 := Nat.add_zero 0;refine goU1 _ _ _ _ _ _ _ _ _ _ _ _ ?_ ?_ ?_ ?_ ?_ ?_ ?_ ?_ ?_ ?_ ?_ ?_) <;> (repeat intro hb) <;> first | exact True.intro | refine Lf.mk ?_))
        rw [← hQ]
        refine Fz.own (o := 1) rfl (by omega) fun q r hq hr => ?_
        rw [Nat.zero_add, grE_us, ggE_us, show srtL s s.notes.length q = rowE s q from if_pos hq]
        refine Fz.own (o := q + 3) (e := edE (rowE s q)) (n := (rowE s q).length) (ety := 74) (?_ : nthO (inn (edF (srtL s s.notes.length)) s.notes.length) q = _) (by omega) fun p r hp hr => ?_
        · rw [inn_at0 _ hq]; unfold edF; rw [show srtL s s.notes.length q = rowE s q from if_pos hq]
        · rw [Nat.zero_add]; exact Fz.pl (edE_pl _ _ _)
end Go.Proofs.Ytmglcamgpgkblaa
