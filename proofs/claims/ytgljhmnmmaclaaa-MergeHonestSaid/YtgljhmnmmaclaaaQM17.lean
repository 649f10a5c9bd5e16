/-
  What merge.Liars answers.
-/
import Derived.Test.YtgljhmnmmaclaaaQGo
import Derived.Test.YtgljhmnmmaclaaaQM16
set_option linter.unusedSimpArgs false
set_option linter.unusedVariables false
namespace Go.Proofs.Ytgljhmnmmaclaaa
open Go.Ab
def en0E : En := ⟨0, 0, 0, 0, 0, []⟩
def entOf (js : List Jn) (s : Int) (k : Int) : En := (lookE js s k.toNat).getD en0E
def lieM (js : List Jn) (cs : List Cl) : Nat → Nat → Bool
  | 0 => fun _ => false
  | i + 1 => if (entOf js (cs.toArray[i]!).s (cs.toArray[i]!).a).b = (entOf js (cs.toArray[i]!).s (cs.toArray[i]!).b).b
      then mkN (lieM js cs i) (entOf js (cs.toArray[i]!).s (cs.toArray[i]!).a).v (entOf js (cs.toArray[i]!).s (cs.toArray[i]!).b).v (entOf js (cs.toArray[i]!).s (cs.toArray[i]!).a).v.length
      else lieM js cs i
def liaR (n : Int) (js : List Jn) : List Int × Int := if jsB n js = true then (mkR (lieM js (clsL js) (clsL js).length) 8,0) else ([],1)
def ClOk (js : List Jn) (c : Cl) : Prop := ∃ (i k : Nat) (x y : En),c = ⟨x.s,k,i⟩ ∧ k < i ∧ i < js.length ∧ lookE js x.s i = some x ∧ lookE js x.s k = some y ∧ tkEq y x = false
theorem clN_ok {js : List Jn} {x : En} {i : Nat} (hi : i < js.length) (hx : lookE js x.s i = some x) : ∀ {k : Nat},k ≤ i → ∀ c ∈ clN js x i k,ClOk js c
  | 0, _, c, hc => by simp [clN] at hc
  | k + 1, hk, c, hc => by
    rw [clN] at hc
    split at hc
    · rename_i hh
      rcases List.mem_append.1 hc with h1 | h1
      · exact clN_ok hi hx (by omega) c h1
      · simp only [List.mem_singleton] at h1
        unfold hitE at hh
        cases hy : lookE js x.s k with
        | none => rw [hy] at hh; cases hh
        | some y =>
          rw [hy] at hh
          exact ⟨i, k, x, y, h1, by omega, hi, hx, hy, by simpa using hh⟩
    · exact clN_ok hi hx (by omega) c hc
theorem clA_ok {js : List Jn} (hr : ∀ k,Rising (gj js k).e) : ∀ (l : List Jn) (i : Nat),(∀ q,q < l.length → gj l q = gj js (i + q)) → i + l.length ≤ js.length → ∀ c ∈ clA js i l,ClOk js c
  | [], i, _, _, c, hc => by simp [clA] at hc
  | j :: l, i, hg, hl, c, hc => by
    rw [clA] at hc
    rcases List.mem_append.1 hc with h1 | h1
    · unfold clJ at h1
      obtain ⟨x, hx, hcx⟩ := List.mem_flatMap.1 h1
      have ej : j = gj js i := hg 0 (by simp)
      refine clN_ok (x := x) (by simp at hl; omega) ?_ (Nat.le_refl i) c hcx
      unfold lookE
      rw [ej] at hx
      exact atE_some (hr i) hx
    · refine clA_ok hr l (i + 1) (fun q hq => ?_) (by simp at hl; omega) c h1
      have := hg (q + 1) (by simpa using hq)
      rw [show i + 1 + q = i + (q + 1) by omega, ← this]
      rfl
theorem ltE_iff (x y : Cl) : ltE x y = true ↔ x.s < y.s ∨ (x.s = y.s ∧ (x.a < y.a ∨ (x.a = y.a ∧ x.b < y.b))) := by
  have c1 : ∀ {a b : Int}, a < b → cmpI a b = -1 := fun h => if_pos h
  have c2 : ∀ {a b : Int}, b < a → cmpI a b = 1 := fun h => by unfold cmpI; rw [if_neg (by omega), if_pos h]
  have c3 : ∀ {a b : Int}, a = b → cmpI a b = 0 := fun h => by unfold cmpI; rw [if_neg (by omega), if_neg (by omega)]
  rw [show ltE x y = true ↔ cmpE x y < 0 by simp [ltE]]
  unfold cmpE or3
  rcases Int.lt_trichotomy x.s y.s with h | h | h
  · rw [c1 h]; simp; omega
  · rw [c3 h]
    rcases Int.lt_trichotomy x.a y.a with h2 | h2 | h2
    · rw [c1 h2]; simp; omega
    · rw [c3 h2]
      rcases Int.lt_trichotomy x.b y.b with h3 | h3 | h3
      · rw [c1 h3]; simp; omega
      · rw [c3 h3]; simp; omega
      · rw [c2 h3]; simp; omega
    · rw [c2 h2]; simp; omega
  · rw [c2 h]; simp; omega
theorem swoE : Go.Sort.SWO ltE := by
  refine ⟨fun x => ?_, fun x y z h1 h2 => ?_, fun x y z h1 h2 => ?_⟩
  · cases h : ltE x x with
    | false => rfl
    | true => rw [ltE_iff] at h; omega
  · rw [ltE_iff] at h1 h2 ⊢; omega
  · cases h : ltE x z with
    | false => rfl
    | true =>
      have h1' : ¬ ltE x y = true := by simp [h1]
      have h2' : ¬ ltE y z = true := by simp [h2]
      rw [ltE_iff] at h h1' h2'
      omega
theorem clsL_perm (js : List Jn) : (clsL js).Perm (clA js 0 js) := by
  have h := (Go.Sort.sort_sorts ltE swoE (clA js 0 js).toArray).1
  have h1 := h.1
  have h2 := h.2.2
  rw [show (Go.Sort.sort ltE (clA js 0 js).toArray).extract 0 (clA js 0 js).toArray.size = Go.Sort.sort ltE (clA js 0 js).toArray by rw [← h1];simp,show (clA js 0 js).toArray.extract 0 (clA js 0 js).toArray.size = (clA js 0 js).toArray by simp] at h2
  exact h2
theorem clsL_ok {n : Int} {js : List Jn} (hv : jsB n js = true) : ∀ c ∈ clsL js, ClOk js c := fun c hc => by
  have hr := allJ_rise (n := n) (js := js) (by unfold jsB at hv; simp at hv; exact hv.2)
  exact clA_ok hr js 0 (fun q _ => by simp) (by simp) c ((clsL_perm js).mem_iff.1 hc)
theorem lookE_mem {js : List Jn} {s : Int} {k : Nat} {x : En} (h : lookE js s k = some x) : x ∈ (gj js k).e ∧ x.s = s := atE_mem h
theorem clJ_le (js : List Jn) (i : Nat) : ∀ es : List En, (clJ js i es).length ≤ i * es.length
  | [] => by simp [clJ]
  | x :: es => by
    have h1 := clJ_le js i es
    have h2 := clN_len js x i i
    simp only [clJ, List.flatMap_cons, List.length_append, List.length_cons] at h1 ⊢
    rw [Nat.mul_succ]
    omega
theorem clA_le (js0 : List Jn) : ∀ (l : List Jn) (i : Nat),(∀ j ∈ l,j.e.length ≤ 15) → i + l.length ≤ 8 → (clA js0 i l).length ≤ 120 * l.length
  | [], i, _, _ => by simp [clA]
  | j :: l, i, h, hl => by
    have h1 := clA_le js0 l (i + 1) (fun j hj => h j (by simp [hj])) (by simp at hl; omega)
    have h2 := clJ_le js0 i j.e
    have h3 := h j (by simp)
    have h4 : i * j.e.length ≤ 8 * 15 := Nat.mul_le_mul (by simp at hl; omega) h3
    simp only [clA, List.length_append, List.length_cons] at h1 ⊢
    omega
theorem clsL_le {n : Int} {js : List Jn} (hv : jsB n js = true) : (clsL js).length ≤ 960 := by
  rw [clsL_len]
  have hl8 : js.length ≤ 8 := by unfold jsB at hv; simp at hv; exact hv.1.2
  have := clA_le js js 0 (fun j hj => ?_) (by omega)
  · omega
  · obtain ⟨i, hi, rfl⟩ := List.getElem_of_mem hj
    have hf := jnB_facts (allJ_gj (n := n) (l := js) (by unfold jsB at hv; simp at hv; exact hv.2) hi)
    rw [show gj js i = js[i] by simp [gj, hi]] at hf
    exact rise_len hf.1 hf.2.1
theorem lookE_lt {js : List Jn} {s : Int} {k : Nat} {x : En} (h : lookE js s k = some x) : k < js.length := by
  rcases Nat.lt_or_ge k js.length with h1 | h1
  · exact h1
  · have := (lookE_mem h).1
    simp [gj, List.getElem?_eq_none h1, jn0] at this
theorem mkL_fr (M : Nat → Bool) : FreeL (mkL M) := by simp [mkL, List.range_succ, FreeL, Free]
theorem WkVL.free' {π : List Nat} {σ : List AObj} {vs : List AV} (h : FreeL vs) : WkVL π σ vs vs := fun _ _ _ _ hx => FreeL.sound (fun _ hb => pull_has hb) _ h hx
set_option maxRecDepth 100000 in
set_option maxHeartbeats 4000000 in
theorem liars_raw (n : Int) (js : List Jn) (h : JsOk js) (hv : jsB n js = true) : TC Try.prog 10 [.imm (.int .i64 n),jns js] [] (fun v σ' =>
    ∃ k E',v = .tup [.own k 0 (liaR n js).1.length none,.imm (.int .i64 (liaR n js).2)] ∧ nthO σ' k = .arr 3 1 (liaR n js).1.length E' ∧ ∀ i j,i < (liaR n js).1.length → E' i j = inE (liaR n js).1 i j) := by
  have hl := h.1
  have hc := clashes_tc n js h
  unfold clsR at hc
  unfold liaR
  rw [if_pos hv] at hc ⊢
  have hok := clsL_ok hv
  have hjv : ∀ i,i < js.length → jnB n (gj js i) = true := fun i hi => allJ_gj (n := n) (l := js) (by unfold jsB at hv;simp at hv;exact hv.2) hi
  have hn8 : n ≤ 8 := by unfold jsB cntB at hv; simp at hv; exact hv.1.1.2
  have hpk := sections_peek js h
  have hG : ∀ s k,lookG (secA [] 0 js) s k = (lookE js s k).map enA := lookG_secs (allJ_rise (n := n) (by unfold jsB at hv;simp at hv;exact hv.2))
  have hGf : Free (secs js) := secV_free (secA_GF [] 0 js (fun _ hp => nomatch hp))
  unfold secs secV at hpk hGf
  generalize secA [] 0 js = G at hpk hG hGf
  have hcl := clsL_le hv
  generalize hcc : clsL js = cs at hc hok hcl
  (refine TC_of_T Γ_ok Try.func10 rfl (by kernel_rfl) ?_;simp only [Try.ntmps10,Try.results10,List.length_cons,List.length_nil,Nat.reduceSub,Nat.reduceAdd,List.replicate,List.cons_append,List.nil_append])
  repeat' (first
    | (with_reducible refine hK _ ?_; clear hK K)
    | ((with_reducible apply callGoal_makeA (hc));(case hC=>first|exact trivial|(simp only [go_sem,and_self];done)|(simp only [go_sem];omega));(case hc=>((repeat' (first|exact CvL.nil|exact Cv.nil_view|refine CvL.cons ?_ ?_|exact Cv.imm rfl|(refine Cv.free ?_;simp [Free,FreeL] <;> assumption)|(refine Cv.free (fun _ _=>FreeL_nth ?_ _);simp [Free,FreeL];done)|refine Cv.agg ?_|(apply Cv.own;(case hob=>(with_unfolding_all exact rfl));(case hz=>decide);(case hE=>(first|(intro _ _ _ _;rfl)|(intro i j hi hj;(rcases i with _ | _|i) <;> (rcases j with _ | _ | _ | _|j) <;> first|rfl|(exfalso;omega))));(case hf=>(intro _ _;simp;done)))|(refine Cv.pvE ?_ ?_ (by decide);(focus (first|(intro _ _ _ _;rfl)|(intro i j hi hj;(rcases i with _ | _|i) <;> (rcases j with _ | _ | _ | _|j) <;> first|rfl|(exfalso;omega))));(focus (intro _ _;simp;done)))|(apply Cv.ownS;(case hob=>(with_unfolding_all exact rfl));(case hz=>decide);(case hle=>(first|omega|(simp only [decide_eq_true_eq] at hg;omega)|(simp;omega)));(case hE=>(intro _ _ _ _;first|(rw [Nat.zero_add];done)|(rw [Nat.zero_add];rfl)));(case hf=>(intro _ _;simp;done)))|(refine Cv.viewE (by decide) ?_ ?_;(focus (intro _ _ _ _;first|rfl));(focus (intro _ _;simp;done)))|refine Cv.ptr (by with_unfolding_all rfl) (by with_unfolding_all rfl) ?_|refine Cv.fn ?_ ?_));done));(case' hn=>(simp only [go_sem,↓reduceIte,Nat.reduceAdd,Nat.reduceSub,Nat.reduceMul,Nat.reduceLT,Nat.reduceLeDiff,Nat.reduceEqDiff,Nat.reduceGT,Int.reduceToNat,Int.reduceBEq,Int.reduceBNe];try simp (disch := omega) only [wrapI,wrapU,half_sum,toNat_sub1,toNat_add1,Int.toNat_natCast])))
    | ((with_reducible apply dCall_makeA (hc));(case hC=>first|exact trivial|(simp only [go_sem,and_self];done)|(simp only [go_sem];omega));(case hc=>((repeat' (first|exact CvL.nil|exact Cv.nil_view|refine CvL.cons ?_ ?_|exact Cv.imm rfl|(refine Cv.free ?_;simp [Free,FreeL] <;> assumption)|(refine Cv.free (fun _ _=>FreeL_nth ?_ _);simp [Free,FreeL];done)|refine Cv.agg ?_|(apply Cv.own;(case hob=>(with_unfolding_all exact rfl));(case hz=>decide);(case hE=>(first|(intro _ _ _ _;rfl)|(intro i j hi hj;(rcases i with _ | _|i) <;> (rcases j with _ | _ | _ | _|j) <;> first|rfl|(exfalso;omega))));(case hf=>(intro _ _;simp;done)))|(refine Cv.pvE ?_ ?_ (by decide);(focus (first|(intro _ _ _ _;rfl)|(intro i j hi hj;(rcases i with _ | _|i) <;> (rcases j with _ | _ | _ | _|j) <;> first|rfl|(exfalso;omega))));(focus (intro _ _;simp;done)))|(apply Cv.ownS;(case hob=>(with_unfolding_all exact rfl));(case hz=>decide);(case hle=>(first|omega|(simp only [decide_eq_true_eq] at hg;omega)|(simp;omega)));(case hE=>(intro _ _ _ _;first|(rw [Nat.zero_add];done)|(rw [Nat.zero_add];rfl)));(case hf=>(intro _ _;simp;done)))|(refine Cv.viewE (by decide) ?_ ?_;(focus (intro _ _ _ _;first|rfl));(focus (intro _ _;simp;done)))|refine Cv.ptr (by with_unfolding_all rfl) (by with_unfolding_all rfl) ?_|refine Cv.fn ?_ ?_));done));(case' hn=>(simp only [go_sem,↓reduceIte,Nat.reduceAdd,Nat.reduceSub,Nat.reduceMul,Nat.reduceLT,Nat.reduceLeDiff,Nat.reduceEqDiff,Nat.reduceGT,Int.reduceToNat,Int.reduceBEq,Int.reduceBNe];try simp (disch := omega) only [wrapI,wrapU,half_sum,toNat_sub1,toNat_add1,Int.toNat_natCast])))
    | (refine callGoal_peekL hpk trivial rfl (by intro a ha;simp at ha;subst ha;rfl) ?_;try (simp only [go_sem,↓reduceIte,Nat.reduceAdd,Nat.reduceSub,Nat.reduceMul,Nat.reduceLT,Nat.reduceLeDiff,Nat.reduceEqDiff,Nat.reduceGT,Int.reduceToNat,Int.reduceBEq,Int.reduceBNe];try simp (disch := omega) only [wrapI,wrapU,half_sum,toNat_sub1,toNat_add1,Int.toNat_natCast]))
    | with_reducible refine T_seq_drawT (id := 9) Γ_ok drawsAny (.fork [(0,[],[]),(1,[],[]),(2,[1],[]),(3,[0,1,2],[]),(4,[],[]),(5,[4],[]),(6,[0,1,2,3,4,5],[]),(7,[],[]),(8,[],[]),(9,[8],[]),(10,[7,8,9],[]),(11,[],[]),(12,[11],[]),(13,[7,8,9,10,11,12],[])] (.last [(14,[],[0,1,2,3,4,5,6,7,8,9,10,11,12,13]),(15,[],[0,1,2,3,4,5,6,7,8,9,10,11,12,13]),(16,[0,1,2,3,4,5,6,14,15],[7,8,9,10,11,12,13]),(17,[0,1,2,3,4,5,6,7,8,9,10,11,12,13,14,15,16],[])]) (.last [(15,[],[0,1,2,3,4,5,6,7,8,9,10,11,12,13]),(14,[],[0,1,2,3,4,5,6,7,8,9,10,11,12,13]),(16,[0,1,2,3,4,5,6,14,15],[7,8,9,10,11,12,13]),(17,[0,1,2,3,4,5,6,7,8,9,10,11,12,13,14,15,16],[])])) (by kernel_rfl) (fun K hK=>?_)
    | with_reducible refine T_last_drawT (id := 9) Γ_ok drawsAny (.fork [(0,[],[]),(1,[],[]),(2,[1],[]),(3,[0,1,2],[]),(4,[],[]),(5,[4],[]),(6,[0,1,2,3,4,5],[]),(7,[],[]),(8,[],[]),(9,[8],[]),(10,[7,8,9],[]),(11,[],[]),(12,[11],[]),(13,[7,8,9,10,11,12],[])] (.last [(14,[],[0,1,2,3,4,5,6,7,8,9,10,11,12,13]),(15,[],[0,1,2,3,4,5,6,7,8,9,10,11,12,13]),(16,[0,1,2,3,4,5,6,14,15],[7,8,9,10,11,12,13]),(17,[0,1,2,3,4,5,6,7,8,9,10,11,12,13,14,15,16],[])]) (.last [(15,[],[0,1,2,3,4,5,6,7,8,9,10,11,12,13]),(14,[],[0,1,2,3,4,5,6,7,8,9,10,11,12,13]),(16,[0,1,2,3,4,5,6,14,15],[7,8,9,10,11,12,13]),(17,[0,1,2,3,4,5,6,7,8,9,10,11,12,13,14,15,16],[])])) (by kernel_rfl) (fun K hK=>?_)
    | ((with_reducible apply DC_call);(focus exact rfl);(focus exact rfl);(focus exact rfl);intro N hN;(simp only [go_sem,↓reduceIte,Nat.reduceAdd,Nat.reduceSub,Nat.reduceMul,Nat.reduceLT,Nat.reduceLeDiff,Nat.reduceEqDiff,Nat.reduceGT,Int.reduceToNat,Int.reduceBEq,Int.reduceBNe];try simp (disch := omega) only [wrapI,wrapU,half_sum,toNat_sub1,toNat_add1,Int.toNat_natCast]))
    | ((with_reducible first|refine T_seq_region Γ_ok (fun K hK=>?_)|refine T_last_region Γ_ok (fun K hK=>?_)|refine TO_callN rfl (fun N hN=>?_)|refine DCT_fork Γ_ok (fun K2 hK2=>?_)|refine DCT_last Γ_ok ?_|refine DC_ev Γ_ok ?_|refine TO_ev Γ_ok ?_|refine retQ_r ?_|refine retQ_n ?_);(simp only [go_sem,↓reduceIte,Nat.reduceAdd,Nat.reduceSub,Nat.reduceMul,Nat.reduceLT,Nat.reduceLeDiff,Nat.reduceEqDiff,Nat.reduceGT,Int.reduceToNat,Int.reduceBEq,Int.reduceBNe];try simp (disch := omega) only [wrapI,wrapU,half_sum,toNat_sub1,toNat_add1,Int.toNat_natCast]))
    | (with_reducible refine hK2 _ ?_ ?_ <;> clear hK2 K2)
    | with_reducible refine gC_false ?_ | with_reducible refine gC_true ?_ | with_reducible refine dCall_true ?_
    | (with_reducible refine hN _ _ ?_; clear hN N)
    | (with_reducible refine hN _ _ (dInl rfl) ?_; clear hN N)
    | ((with_reducible refine hN _ _ (.inr ?_) ?_);(focus (simp only [go_sem,↓reduceIte,Nat.reduceAdd,Nat.reduceSub,Nat.reduceMul,Nat.reduceLT,Nat.reduceLeDiff,Nat.reduceEqDiff,Nat.reduceGT,Int.reduceToNat,Int.reduceBEq,Int.reduceBNe];try simp (disch := omega) only [wrapI,wrapU,half_sum,toNat_sub1,toNat_add1,Int.toNat_natCast]));all_goals (try clear hN N))
    | with_reducible refine T_seq ?_|with_reducible refine T_block ?_|with_reducible refine T_ret ?_|with_reducible refine T_exit ?_|with_reducible refine T_skip ?_|with_reducible refine T_label ?_
    | with_reducible refine thenQ_n ?_|with_reducible refine thenQ_e ?_|with_reducible refine thenQ_r ?_|with_reducible refine blockQ_n ?_|with_reducible refine blockQ_e ?_|with_reducible refine blockQ_r ?_
    | with_reducible refine blockQ_o (by decide) ?_
    | ((with_reducible refine T_cond _ rfl (fun hb=>?_) (fun hb=>?_)) <;> first|(cases hb;done)|(simp only [decide_eq_true_eq,decide_eq_false_iff_not,Bool.and_eq_true,Bool.or_eq_true,Bool.and_eq_false_imp,Bool.or_eq_false_iff,Bool.not_eq_true',Bool.not_eq_false',beq_iff_eq,bne_iff_ne,ne_eq,beq_eq_false_iff_ne,bne_eq_false_iff_eq,Int.not_lt,Int.not_le,ge_iff_le,gt_iff_lt] at hb)|skip)
    | (with_reducible refine And.intro (by first | exact trivial | omega | (intro hg;simp at hg ⊢ <;> omega) | (simp <;> omega)) ?_)
    | assumption | omega)
  refine T_loopW (fun m st => ∃ (i : Nat) (M : Nat → Bool), i ≤ cs.length ∧ m + i = cs.length ∧ M = lieM js cs i ∧
      st = ⟨[.top,.top,.top,.top,.top,.top,.top,.top,gA' G,.optr 1 0 0,.top,.top,.top,.top,.top,.top,.top,.top,.top,.top,.top,.top,.top,.top,.top,.own 0 0 cs.length none,.imm (.int .i64 cs.length),.imm (.int .i64 i)] ++ List.replicate 28 .top,
        [elO cs.length cs.toArray, .box 100 (mkL M)]⟩)
    cs.length ⟨_, ?_, 0, fun _ => false, by omega, by omega, rfl, rfl⟩ ?_
  · ((try simp only [List.length_append,List.length_cons,List.length_nil,Nat.zero_add]);refine Wk.intro [0,1] (by decide) (by decide) (by intro o ho;simp at ho ⊢ <;> omega) ?_ ?_ <;> repeat' (first|(exact WkV.free hGf)|exact WkVL.nil|refine WkVL.cons ?_ ?_|exact WkV.top|exact WkV.imm rfl|exact WkV.imm (by simp)|exact WkV.optr rfl|exact WkV.own rfl (by simp)|exact WkV.nil_own (.inl rfl)|exact WkV.map rfl|(refine WkV.free ?_;simp [Free,FreeL] <;> assumption)|(refine WkV.free (fun _ _=>FreeL_nth ?_ _);simp [Free,FreeL];done)|refine WkV.agg ?_|refine WkV.tup ?_|refine WkV.fn ?_ ?_|exact WkO.dead|exact WkO.raw|refine WkO.ghost ?_|exact WkO.mpE rfl trivial|refine WkO.box ?_ rfl|refine WkO.arr ?_|refine And.intro ?_ (And.intro (by first|exact fun h=>h|exact fun _=>rfl|exact nofun) ?_)|exact trivial|(intro i j hi hj)))
  rintro m st ⟨i, M, h0, h1, h2, rfl⟩
  by_cases hlt : i < cs.length
  · have hci := hok cs[i] (List.getElem_mem hlt)
    have hce : cs.toArray[i]! = cs[i] := by simp [hlt]
    rw [← hce] at hci
    obtain ⟨iB, iA, x, y, hcx, hik, hil, hx, hy, ht⟩ := hci
    have hlx : lookG G x.s iB = some (enA x) := by rw [hG, hx]; rfl
    have hly : lookG G x.s iA = some (enA y) := by rw [hG, hy]; rfl
    obtain ⟨q, hq⟩ := lookG_idx hlx
    have hgm : mval ((G.map fun p=>Value.int .i64 p.1).zip (G.map fun p=>AV.vmap (.int .i64) (p.2.map (·.1)) (p.2.map (·.2)))) (.imm (.map none)) (.int .i64 x.s) = .vmap (.int .i64) ((gg G q).2.map (·.1)) ((gg G q).2.map (·.2)) := by
      unfold mval; rw [mget_gA, hq]; rfl
    have hz := zip_fs (gg G q).2
    unfold lookG at hlx hly
    rw [hq] at hlx hly
    simp only [] at hlx hly
    have hmx : ∀ z, mval (gg G q).2 z (.int .i64 iB) = enA x := fun z => by unfold mval; rw [hlx]; rfl
    have hmy : ∀ z, mval (gg G q).2 z (.int .i64 iA) = enA y := fun z => by unfold mval; rw [hly]; rfl
    have hxv := (jnB_facts (hjv iB hil)).1 x (lookE_mem hx).1
    have hyv := (jnB_facts (hjv iA (by omega))).1 y (lookE_mem hy).1
    have hyr := enB_range hyv.2 hn8
    have hxl := enB_len hxv.2 hn8
    have hyl := enB_len hyv.2 hn8
    have hs1 : (cs.toArray[i]!).s = x.s := by rw [hcx]
    have hs2 : (cs.toArray[i]!).a = (iA : Int) := by rw [hcx]
    have hs3 : (cs.toArray[i]!).b = (iB : Int) := by rw [hcx]
    have hM : lieM js cs (i + 1) = if y.b = x.b then mkN (lieM js cs i) y.v x.v y.v.length else lieM js cs i := by
      rw [lieM, hs1, hs2, hs3]
      simp only [entOf, Int.toNat_natCast, hx, hy, Option.getD_some]
    rw [← h2] at hM
    have hmk := mark_tc M y x (by omega) (by omega) hyr
    (simp only [go_sem,↓reduceIte,Nat.reduceAdd,Nat.reduceSub,Nat.reduceMul,Nat.reduceLT,Nat.reduceLeDiff,Nat.reduceEqDiff,Nat.reduceGT,Int.reduceToNat,Int.reduceBEq,Int.reduceBNe];try simp (disch := omega) only [wrapI,wrapU,half_sum,toNat_sub1,toNat_add1,Int.toNat_natCast])
    (have ct1 := TurnsAt.mk [1] (hmk);have sx1 := hs1;have sx2 := hs2;have sx3 := hs3;have sx4 := hgm;have sx5 := hz;have sx6 := hmx;have sx7 := hmy;have sx8 : (0 : Nat) + 0 = 0 := rfl;have sx9 : (0 : Nat) + 0 = 0 := rfl;repeat' (first|with_reducible refine T_seq_drawT (id := 9) Γ_ok drawsAny pl10_9 (by kernel_rfl) (fun K hK=>?_)|with_reducible refine T_last_drawT (id := 9) Γ_ok drawsAny pl10_9 (by kernel_rfl) (fun K hK=>?_)|((refine goR9 _ _ _ _ _ _ _ _ ?_ ?_ ?_ ?_ ?_ ?_ ?_ ?_) <;> (repeat intro hb) <;> first|exact True.intro|refine Lf.mk ?_)))
    all_goals (by_cases hbb : y.b = x.b)
    all_goals (try (exfalso; exact absurd hbb hb))
    all_goals (try (exfalso; exact absurd hb hbb))
    all_goals first | rw [if_pos hbb] at hM | rw [if_neg hbb] at hM
    all_goals (refine ⟨cs.length - (i + 1), by omega, _, ?_, i + 1, _, by omega, by omega, hM.symm, rfl⟩)
    all_goals ((try simp only [List.length_append,List.length_cons,List.length_nil,Nat.zero_add]);refine Wk.intro [0,1] (by decide) (by decide) (by intro o ho;simp at ho ⊢ <;> omega) ?_ ?_ <;> repeat' (first|(refine WkV.imm ?_;congr 1;omega)|(exact WkV.free hGf)|(exact WkO.box (WkVL.free' (mkL_fr _)) rfl)|exact WkVL.nil|refine WkVL.cons ?_ ?_|exact WkV.top|exact WkV.imm rfl|exact WkV.imm (by simp)|exact WkV.optr rfl|exact WkV.own rfl (by simp)|exact WkV.nil_own (.inl rfl)|exact WkV.map rfl|(refine WkV.free ?_;simp [Free,FreeL] <;> assumption)|(refine WkV.free (fun _ _=>FreeL_nth ?_ _);simp [Free,FreeL];done)|refine WkV.agg ?_|refine WkV.tup ?_|refine WkV.fn ?_ ?_|exact WkO.dead|exact WkO.raw|refine WkO.ghost ?_|exact WkO.mpE rfl trivial|refine WkO.box ?_ rfl|refine WkO.arr ?_|refine And.intro ?_ (And.intro (by first|exact fun h=>h|exact fun _=>rfl|exact nofun) ?_)|exact trivial|(intro i j hi hj)))
  · (simp only [go_sem,↓reduceIte,Nat.reduceAdd,Nat.reduceSub,Nat.reduceMul,Nat.reduceLT,Nat.reduceLeDiff,Nat.reduceEqDiff,Nat.reduceGT,Int.reduceToNat,Int.reduceBEq,Int.reduceBNe];try simp (disch := omega) only [wrapI,wrapU,half_sum,toNat_sub1,toNat_add1,Int.toNat_natCast])
    (have cm1 := list_tc M;repeat' (first|with_reducible refine T_seq_drawT (id := 9) Γ_ok drawsAny pl10_9 (by kernel_rfl) (fun K hK=>?_)|with_reducible refine T_last_drawT (id := 9) Γ_ok drawsAny pl10_9 (by kernel_rfl) (fun K hK=>?_)|((refine goR0 _ _ _ _ _ _ _ _ ?_ ?_ ?_ ?_ ?_ ?_ ?_ ?_) <;> (repeat intro hb) <;> first|exact True.intro|refine Lf.mk ?_)))
    obtain rfl : i = cs.length := by omega
    subst h2
    exact ⟨2, _, rfl, rfl, fun _ _ _ => rfl⟩
set_option maxRecDepth 100000 in
set_option maxHeartbeats 4000000 in
theorem liars_no (n : Int) (js : List Jn) (h : JsOk js) (hv : jsB n js = false) : TC Try.prog 10 [.imm (.int .i64 n),jns js] [] (fun v _=>∃ x : Int,x = 1 ∧ v = .tup [.imm (.slice none 0 0),.imm (.int .i64 x)]) := by
  have hc := clashes_tc n js h
  unfold clsR at hc
  rw [if_neg (by simp [hv])] at hc
  (refine TC_of_T Γ_ok Try.func10 rfl (by kernel_rfl) ?_;simp only [Try.ntmps10,Try.results10,List.length_cons,List.length_nil,Nat.reduceSub,Nat.reduceAdd,List.replicate,List.cons_append,List.nil_append])
  (have cm1 := hc;repeat' (first|with_reducible refine T_seq_drawT (id := 9) Γ_ok drawsAny pl10_9 (by kernel_rfl) (fun K hK=>?_)|with_reducible refine T_last_drawT (id := 9) Γ_ok drawsAny pl10_9 (by kernel_rfl) (fun K hK=>?_)|((refine goR0 _ _ _ _ _ _ _ _ ?_ ?_ ?_ ?_ ?_ ?_ ?_ ?_) <;> (repeat intro hb) <;> first|exact True.intro|refine Lf.mk ?_)))
  exact ⟨1, rfl, rfl⟩
theorem liars_tc (n : Int) (js : List Jn) (h : JsOk js) : Makes Try.prog 10 [.imm (.int .i64 n),jns js] (.tup [ownI (liaR n js).1,.imm (.int .i64 (liaR n js).2)]) [intO (liaR n js).1] := by
  refine Makes.lst (fun i j => inE_pl _ i j) trivial ?_
  cases hv : jsB n js with
  | true => exact (liars_raw n js h hv).mono fun v σ' hq => .inr hq
  | false =>
    have e : liaR n js = ([], 1) := if_neg (by simp [hv])
    rw [e]
    refine (liars_no n js h hv).mono fun v σ' ⟨x, hx, h1⟩ => .inl ⟨?_, rfl⟩
    subst hx
    exact h1
end Go.Proofs.Ytgljhmnmmaclaaa
