/-
  Contract of quorum.Chosen.
-/
import Derived.Test.YtgljhmnmmaclaaaQGo
import Derived.Test.YtgljhmnmmaclaaaQV6
import Derived.Test.YtgljhmnmmaclaaaQV10
set_option linter.unusedSimpArgs false
set_option linter.unusedVariables false
namespace Go.Proofs.Ytgljhmnmmaclaaa.Q
open Go.Ab
@[go_sem,reducible] def staK (b s c n d : Int) : Value := .agg [.int .i64 b,.int .i64 s,.int .i64 c,.int .i64 n,.int .i64 d].toArray
def seenE (S : List Sta) : List (Value × AV) := S.map fun s => (staK s.b s.x.s s.x.c s.x.n s.x.d, .imm (.bool true))
theorem keq_sta (b s c n d b' s' c' n' d' : Int) : keq (staK b s c n d) (staK b' s' c' n' d') = decide ((⟨b,⟨s,c,n,d⟩⟩ : Sta) = ⟨b',⟨s',c',n',d'⟩⟩) := by
  simp only [staK, keq, keqL, Bool.and_true]
  rw [Bool.eq_iff_iff]
  simp [and_assoc]
theorem mget_seen (b s c n d : Int) : ∀ S : List Sta,mget (seenE S) (staK b s c n d) = if (⟨b,⟨s,c,n,d⟩⟩ : Sta) ∈ S then some (.imm (.bool true)) else none
  | [] => rfl
  | e :: S => by
    have ih := mget_seen b s c n d S
    simp only [seenE] at ih
    simp only [seenE, List.map_cons, mget, keq_sta, ih, List.mem_cons]
    by_cases h : (⟨b, ⟨s, c, n, d⟩⟩ : Sta) = e
    · simp [h]
    · simp only [h, false_or]
      rw [if_neg]
      simp
@[go_sem] theorem mval_seen (b s c n d : Int) (S : List Sta) : mval (seenE S) (.imm (.bool false)) (.agg [.int .i64 b,.int .i64 s,.int .i64 c,.int .i64 n,.int .i64 d].toArray) = .imm (.bool (decide ((⟨b,⟨s,c,n,d⟩⟩ : Sta) ∈ S))) := by
  unfold mval
  rw [mget_seen b s c n d S]
  split <;> simp [*]
theorem mput_seen' (b s c n d : Int) : ∀ S : List Sta,(⟨b,⟨s,c,n,d⟩⟩ : Sta) ∉ S → mput (seenE S) (staK b s c n d) (.imm (.bool true)) = seenE (S ++ [⟨b,⟨s,c,n,d⟩⟩])
  | [], _ => rfl
  | e :: S, h => by
    have ih := mput_seen' b s c n d S (fun hm => h (List.mem_cons_of_mem _ hm))
    simp only [seenE] at ih
    simp only [seenE, List.map_cons, mput, keq_sta, ih, List.cons_append]
    rw [if_neg]
    intro hh
    simp only [decide_eq_true_eq] at hh
    exact h (by rw [hh]; simp)
theorem seenE_free (S : List Sta) : FreeL ((seenE S).map (·.2)) := by
  induction S with
  | nil => trivial
  | cons d D ih => exact ⟨trivial, ih⟩
theorem mput_free (k : Value) {v : AV} : ∀ {es : List (Value × AV)},FreeL (es.map (·.2)) → Free v → FreeL ((mput es k v).map (·.2))
  | [], _, h => ⟨h, trivial⟩
  | e :: es, h, hv => by
    unfold mput
    split
    · exact ⟨hv, h.2⟩
    · exact ⟨h.1, mput_free k h.2 hv⟩
def Vot.bad (n : Int) (v : Vot) : Bool := !(decide (0 ≤ v.d) && decide (v.d < n) && balB v.b && v.x.ok)
theorem mem_gV {l : List Vot} {p : Vot} : p ∈ l ↔ ∃ i, i < l.length ∧ gV l i = p := by
  rw [List.mem_iff_getElem]; constructor
  · rintro ⟨i, h, e⟩; exact ⟨i, h, by simp [gV, h, e]⟩
  · rintro ⟨i, h, e⟩; exact ⟨i, h, by rw [← e]; simp [gV, h]⟩
set_option maxRecDepth 100000 in
set_option maxHeartbeats 4000000 in
theorem badV_raw (n d b s c k e : Int) (vs : List Vot) : TC Try.prog 19 [.agg [.imm (.int .i64 d),.imm (.int .i64 b),.imm (.int .i64 s),.imm (.int .i64 c),.imm (.int .i64 k),.imm (.int .i64 e)],.optr 0 0 0]
    [.box 3 [.imm (.int .i64 n)], .box 28 [vots vs]]
    (fun v σ'=>v = .imm (.bool (Vot.bad n ⟨d,b,⟨s,c,k,e⟩⟩)) ∧ σ' = [.box 3 [.imm (.int .i64 n)],.box 28 [vots vs],.box 45 [.imm (.int .i64 d),.imm (.int .i64 b),.imm (.int .i64 s),.imm (.int .i64 c),.imm (.int .i64 k),.imm (.int .i64 e)]]) := by
  (refine TC_of_T Γ_ok Try.func19 rfl (by kernel_rfl) ?_;simp only [Try.ntmps19,Try.results19,List.length_cons,List.length_nil,Nat.reduceSub,Nat.reduceAdd,List.replicate,List.cons_append,List.nil_append])
  (have cl1 := fun u1 u2=>isDesk_tc u1 u2;have cl2 := fun u1=>isBallot_tc u1;have cl3 := fun u1 u2 u3 u4=>take_tc u1 u2 u3 u4;((refine goR0 _ _ _ _ _ _ _ _ ?_ ?_ ?_ ?_ ?_ ?_ ?_ ?_) <;> (repeat intro hb) <;> first|exact True.intro|refine Lf.mk ?_))
  congr 2
  unfold Vot.bad balB Tk.ok
  simp only [Bool.not_and, Bool.or_assoc]
theorem badV_tc (n d b s c k e : Int) (vs : List Vot) : TC Try.prog 19 [.agg [.imm (.int .i64 d),.imm (.int .i64 b),.imm (.int .i64 s),.imm (.int .i64 c),.imm (.int .i64 k),.imm (.int .i64 e)],.optr 0 0 0]
    [.box 3 [.imm (.int .i64 n)], .box 28 [vots vs]]
    (fun v σ' => v = .imm (.bool (Vot.bad n ⟨d,b,⟨s,c,k,e⟩⟩)) ∧ σ' = [.box 3 [.imm (.int .i64 n)],.box 28 [vots vs]]) :=
  TC.weak (badV_raw n d b s c k e vs) (by
    rintro _ _ ⟨rfl, rfl⟩
    refine ⟨[0, 1], _, _, rfl, by decide, by intro o ho; simp at ho ⊢; omega, WkV.imm rfl, ?_, rfl, rfl⟩
    (repeat' (first|exact WkVL.nil|refine WkVL.cons ?_ ?_|exact WkV.top|exact WkV.imm rfl|exact WkV.imm (by simp)|exact WkV.optr rfl|exact WkV.own rfl (by simp)|exact WkV.map rfl|(refine WkV.free ?_;simp [Free,FreeL] <;> assumption)|(refine WkV.free (fun _ _=>FreeL_nth ?_ _);simp [Free,FreeL];done)|refine WkV.agg ?_|refine WkV.tup ?_|refine WkV.fn ?_ ?_|exact WkO.dead|exact WkO.raw|refine WkO.ghost ?_|exact WkO.mpE rfl trivial|refine WkO.box ?_ rfl|refine WkO.arr ?_|refine And.intro ?_ (And.intro (by first|exact fun h=>h|exact fun _=>rfl|exact nofun) ?_)|exact trivial|(intro _ _ _ _))))
set_option maxRecDepth 100000 in
set_option maxHeartbeats 4000000 in
theorem indexV_tc (n : Int) (vs : List Vot) (hl : vs.length ≤ 1000000) : TC Try.prog 43 [vots vs,.fn (.func 19) [] [.optr 0 0 0]]
    [.box 3 [.imm (.int .i64 n)], .box 28 [vots vs]]
    (fun v σ' => (∃ i : Int,v = .imm (.int .i64 i) ∧ ((0 ≤ i ∧ vs.any (Vot.bad n) = true) ∨ (i < 0 ∧ vs.any (Vot.bad n) = false))) ∧ σ' = [.box 3 [.imm (.int .i64 n)],.box 28 [vots vs]]) := by
  (refine TC_of_T Γ_ok Try.func43 rfl (by kernel_rfl) ?_;simp only [Try.ntmps43,Try.results43,List.length_cons,List.length_nil,Nat.reduceSub,Nat.reduceAdd,List.replicate,List.cons_append,List.nil_append])
  (((refine goR0 _ _ _ _ _ _ _ _ ?_ ?_ ?_ ?_ ?_ ?_ ?_ ?_) <;> (repeat intro hb) <;> first | exact True.intro | refine Lf.mk ?_))
  refine T_loopW (fun q st=>∃ (i : Nat),i ≤ vs.length ∧ q = vs.length - i ∧ (∀ j : Nat,j < i → (gV vs j).bad n = false) ∧ st = ⟨[vots vs,.fn (.func 19) [] [.optr 0 0 0],.top,.top,.imm (.int .i64 0),.top,.top,.imm (.int .i64 vs.length),.imm (.int .i64 i)] ++ List.replicate 10 .top,
    [.box 3 [.imm (.int .i64 n)],.box 28 [vots vs]]⟩) vs.length ⟨_,?_,0,by omega,by omega,fun j hj => by omega,rfl⟩ ?_
  · ((try simp only [List.length_append,List.length_cons,List.length_nil,Nat.zero_add]);refine Wk.intro [0,1] (by decide) (by decide) (by intro o ho;simp at ho ⊢ <;> omega) ?_ ?_ <;> repeat' (first|exact WkVL.nil|refine WkVL.cons ?_ ?_|exact WkV.top|exact WkV.imm rfl|exact WkV.imm (by simp)|exact WkV.optr rfl|exact WkV.own rfl (by simp)|exact WkV.nil_own (.inl rfl)|exact WkV.map rfl|(refine WkV.free ?_;simp [Free,FreeL] <;> assumption)|(refine WkV.free (fun _ _=>FreeL_nth ?_ _);simp [Free,FreeL];done)|refine WkV.agg ?_|refine WkV.tup ?_|refine WkV.fn ?_ ?_|exact WkO.dead|exact WkO.raw|refine WkO.ghost ?_|exact WkO.mpE rfl trivial|refine WkO.box ?_ rfl|refine WkO.arr ?_|refine And.intro ?_ (And.intro (by first|exact fun h=>h|exact fun _=>rfl|exact nofun) ?_)|exact trivial|(intro i j hi hj)))
  rintro q st ⟨i, h1, h2, h3, rfl⟩
  (simp only [go_sem,↓reduceIte,Nat.reduceAdd,Nat.reduceSub,Nat.reduceMul,Nat.reduceLT,Nat.reduceLeDiff,Nat.reduceEqDiff,Nat.reduceGT,Int.reduceToNat,Int.reduceBEq,Int.reduceBNe];try simp (disch := omega) only [wrapI,wrapU,half_sum,toNat_sub1,toNat_add1,Int.toNat_natCast])
  repeat' (first
    | (with_reducible refine hK _ ?_; clear hK K)
    | ((with_reducible refine callGoal_mk ?_ (badV_tc _ _ _ _ _ _ _ _) ?_);(focus (first|exact trivial|(simp only [go_sem,and_self];done)|(simp only [go_sem];omega)));(rintro _ _ ⟨rfl,rfl⟩;(simp only [go_sem,↓reduceIte,Nat.reduceAdd,Nat.reduceSub,Nat.reduceMul,Nat.reduceLT,Nat.reduceLeDiff,Nat.reduceEqDiff,Nat.reduceGT,Int.reduceToNat,Int.reduceBEq,Int.reduceBNe];try simp (disch := omega) only [wrapI,wrapU,half_sum,toNat_sub1,toNat_add1,Int.toNat_natCast])))
    | ((with_reducible apply DC_call);(focus exact rfl);(focus exact rfl);(focus exact rfl);intro N hN;(simp only [go_sem,↓reduceIte,Nat.reduceAdd,Nat.reduceSub,Nat.reduceMul,Nat.reduceLT,Nat.reduceLeDiff,Nat.reduceEqDiff,Nat.reduceGT,Int.reduceToNat,Int.reduceBEq,Int.reduceBNe];try simp (disch := omega) only [wrapI,wrapU,half_sum,toNat_sub1,toNat_add1,Int.toNat_natCast]))
    | ((with_reducible first|refine T_seq_region Γ_ok (fun K hK=>?_)|refine T_last_region Γ_ok (fun K hK=>?_)|refine TO_callN rfl (fun N hN=>?_)|refine DCT_fork Γ_ok (fun K2 hK2=>?_)|refine DCT_last Γ_ok ?_|refine DC_ev Γ_ok ?_|refine TO_ev Γ_ok ?_|refine retQ_r ?_|refine retQ_n ?_);(simp only [go_sem,↓reduceIte,Nat.reduceAdd,Nat.reduceSub,Nat.reduceMul,Nat.reduceLT,Nat.reduceLeDiff,Nat.reduceEqDiff,Nat.reduceGT,Int.reduceToNat,Int.reduceBEq,Int.reduceBNe];try simp (disch := omega) only [wrapI,wrapU,half_sum,toNat_sub1,toNat_add1,Int.toNat_natCast]))
    | (with_reducible refine hK2 _ ?_ ?_ <;> clear hK2 K2)
    | with_reducible refine gC_false ?_ | with_reducible refine gC_true ?_ | with_reducible refine dCall_true ?_
    | (with_reducible refine hN _ _ ?_; clear hN N)
    | (with_reducible refine hN _ _ (dInl rfl) ?_; clear hN N)
    | ((with_reducible refine hN _ _ (.inr ?_) ?_);(focus (simp only [go_sem,↓reduceIte,Nat.reduceAdd,Nat.reduceSub,Nat.reduceMul,Nat.reduceLT,Nat.reduceLeDiff,Nat.reduceEqDiff,Nat.reduceGT,Int.reduceToNat,Int.reduceBEq,Int.reduceBNe];try simp (disch := omega) only [wrapI,wrapU,half_sum,toNat_sub1,toNat_add1,Int.toNat_natCast]));all_goals (try clear hN N))
    | with_reducible refine T_seq ?_|with_reducible refine T_block ?_|with_reducible refine T_ret ?_|with_reducible refine T_exit ?_|with_reducible refine T_skip ?_|with_reducible refine T_label ?_
    | with_reducible refine thenQ_n ?_|with_reducible refine thenQ_e ?_|with_reducible refine thenQ_r ?_|with_reducible refine blockQ_n ?_|with_reducible refine blockQ_e ?_|with_reducible refine blockQ_r ?_
    | with_reducible refine blockQ_o (by decide) ?_
    | ((with_reducible refine T_cond _ rfl (fun hb=>?_) (fun hb=>?_)) <;> first|(cases hb;done)|(simp only [decide_eq_true_eq,decide_eq_false_iff_not,Bool.and_eq_true,Bool.or_eq_true,Bool.and_eq_false_imp,Bool.or_eq_false_iff,Bool.not_eq_true',Bool.not_eq_false',beq_iff_eq,bne_iff_ne,ne_eq,beq_eq_false_iff_ne,bne_eq_false_iff_eq,Int.not_lt,Int.not_le,ge_iff_le,gt_iff_lt] at hb)|skip)
    | (with_reducible refine And.intro (by first | exact trivial | omega | (intro hg;simp at hg ⊢ <;> omega) | (simp <;> omega)) ?_)
    | assumption | omega)
  · exact ⟨i, rfl, .inl ⟨by omega, List.any_eq_true.2 ⟨gV vs i, mem_gV.2 ⟨i, by omega, rfl⟩, hb⟩⟩⟩
  · refine ⟨vs.length - (i + 1), by omega, _, ?_, i + 1, by omega, by omega, fun j hj => ?_, rfl⟩
    · ((try simp only [List.length_append,List.length_cons,List.length_nil,Nat.zero_add]);refine Wk.intro [0,1] (by decide) (by decide) (by intro o ho;simp at ho ⊢ <;> omega) ?_ ?_ <;> repeat' (first|exact WkVL.nil|refine WkVL.cons ?_ ?_|exact WkV.top|exact WkV.imm rfl|exact WkV.imm (by simp)|exact WkV.optr rfl|exact WkV.own rfl (by simp)|exact WkV.nil_own (.inl rfl)|exact WkV.map rfl|(refine WkV.free ?_;simp [Free,FreeL] <;> assumption)|(refine WkV.free (fun _ _=>FreeL_nth ?_ _);simp [Free,FreeL];done)|refine WkV.agg ?_|refine WkV.tup ?_|refine WkV.fn ?_ ?_|exact WkO.dead|exact WkO.raw|refine WkO.ghost ?_|exact WkO.mpE rfl trivial|refine WkO.box ?_ rfl|refine WkO.arr ?_|refine And.intro ?_ (And.intro (by first|exact fun h=>h|exact fun _=>rfl|exact nofun) ?_)|exact trivial|(intro i j hi hj)))
    · by_cases e : j = i
      · subst e; exact hb
      · exact h3 j (by omega)
  · refine ⟨-1, rfl, .inr ⟨by omega, ?_⟩⟩
    rw [List.any_eq_false]
    intro v hv
    obtain ⟨j, hj, rfl⟩ := mem_gV.1 hv
    rw [h3 j (by omega)]
    simp
set_option maxRecDepth 100000 in
set_option maxHeartbeats 4000000 in
theorem anyV_tc (n : Int) (vs : List Vot) (hl : vs.length ≤ 1000000) : TC Try.prog 22 [vots vs,.fn (.func 19) [] [.optr 0 0 0]]
    [.box 3 [.imm (.int .i64 n)], .box 28 [vots vs]]
    (fun v σ' => v = .imm (.bool (vs.any (Vot.bad n))) ∧ σ' = [.box 3 [.imm (.int .i64 n)], .box 28 [vots vs]]) := by
  (refine TC_of_T Γ_ok Try.func22 rfl (by kernel_rfl) ?_;simp only [Try.ntmps22,Try.results22,List.length_cons,List.length_nil,Nat.reduceSub,Nat.reduceAdd,List.replicate,List.cons_append,List.nil_append])
  repeat' (first
    | (with_reducible refine hK _ ?_; clear hK K)
    | ((with_reducible refine callGoal_mk ?_ (indexV_tc _ _ hl) ?_);(focus (first|exact trivial|(simp only [go_sem,and_self];done)|(simp only [go_sem];omega)));(rintro _ _ ⟨⟨i,rfl,hi⟩,rfl⟩;(simp only [go_sem,↓reduceIte,Nat.reduceAdd,Nat.reduceSub,Nat.reduceMul,Nat.reduceLT,Nat.reduceLeDiff,Nat.reduceEqDiff,Nat.reduceGT,Int.reduceToNat,Int.reduceBEq,Int.reduceBNe];try simp (disch := omega) only [wrapI,wrapU,half_sum,toNat_sub1,toNat_add1,Int.toNat_natCast])))
    | ((with_reducible apply DC_call);(focus exact rfl);(focus exact rfl);(focus exact rfl);intro N hN;(simp only [go_sem,↓reduceIte,Nat.reduceAdd,Nat.reduceSub,Nat.reduceMul,Nat.reduceLT,Nat.reduceLeDiff,Nat.reduceEqDiff,Nat.reduceGT,Int.reduceToNat,Int.reduceBEq,Int.reduceBNe];try simp (disch := omega) only [wrapI,wrapU,half_sum,toNat_sub1,toNat_add1,Int.toNat_natCast]))
    | ((with_reducible first|refine T_seq_region Γ_ok (fun K hK=>?_)|refine T_last_region Γ_ok (fun K hK=>?_)|refine TO_callN rfl (fun N hN=>?_)|refine DCT_fork Γ_ok (fun K2 hK2=>?_)|refine DCT_last Γ_ok ?_|refine DC_ev Γ_ok ?_|refine TO_ev Γ_ok ?_|refine retQ_r ?_|refine retQ_n ?_);(simp only [go_sem,↓reduceIte,Nat.reduceAdd,Nat.reduceSub,Nat.reduceMul,Nat.reduceLT,Nat.reduceLeDiff,Nat.reduceEqDiff,Nat.reduceGT,Int.reduceToNat,Int.reduceBEq,Int.reduceBNe];try simp (disch := omega) only [wrapI,wrapU,half_sum,toNat_sub1,toNat_add1,Int.toNat_natCast]))
    | (with_reducible refine hK2 _ ?_ ?_ <;> clear hK2 K2)
    | with_reducible refine gC_false ?_ | with_reducible refine gC_true ?_ | with_reducible refine dCall_true ?_
    | (with_reducible refine hN _ _ ?_; clear hN N)
    | (with_reducible refine hN _ _ (dInl rfl) ?_; clear hN N)
    | ((with_reducible refine hN _ _ (.inr ?_) ?_);(focus (simp only [go_sem,↓reduceIte,Nat.reduceAdd,Nat.reduceSub,Nat.reduceMul,Nat.reduceLT,Nat.reduceLeDiff,Nat.reduceEqDiff,Nat.reduceGT,Int.reduceToNat,Int.reduceBEq,Int.reduceBNe];try simp (disch := omega) only [wrapI,wrapU,half_sum,toNat_sub1,toNat_add1,Int.toNat_natCast]));all_goals (try clear hN N))
    | with_reducible refine T_seq ?_|with_reducible refine T_block ?_|with_reducible refine T_ret ?_|with_reducible refine T_exit ?_|with_reducible refine T_skip ?_|with_reducible refine T_label ?_
    | with_reducible refine thenQ_n ?_|with_reducible refine thenQ_e ?_|with_reducible refine thenQ_r ?_|with_reducible refine blockQ_n ?_|with_reducible refine blockQ_e ?_|with_reducible refine blockQ_r ?_
    | with_reducible refine blockQ_o (by decide) ?_
    | ((with_reducible refine T_cond _ rfl (fun hb=>?_) (fun hb=>?_)) <;> first|(cases hb;done)|(simp only [decide_eq_true_eq,decide_eq_false_iff_not,Bool.and_eq_true,Bool.or_eq_true,Bool.and_eq_false_imp,Bool.or_eq_false_iff,Bool.not_eq_true',Bool.not_eq_false',beq_iff_eq,bne_iff_ne,ne_eq,beq_eq_false_iff_ne,bne_eq_false_iff_eq,Int.not_lt,Int.not_le,ge_iff_le,gt_iff_lt] at hb)|skip)
    | (with_reducible refine And.intro (by first | exact trivial | omega | (intro hg;simp at hg ⊢ <;> omega) | (simp <;> omega)) ?_)
    | assumption | omega)
  congr 2
  rcases hi with ⟨h1, h2⟩ | ⟨h1, h2⟩
  · rw [h2]; simpa using h1
  · rw [h2]; simpa using h1
theorem seenV_succ {vs : List Vot} {i : Nat} (h : i < vs.length) : seenV (vs.take (i + 1)) = if (⟨(gV vs i).b,(gV vs i).x⟩ : Sta) ∈ seenV (vs.take i) then seenV (vs.take i) else seenV (vs.take i) ++ [⟨(gV vs i).b,(gV vs i).x⟩] := by
  rw [gV_take h, seenV_snoc]
def outI (n : Int) (vs : List Vot) (i : Nat) : List Sta := (seenV (vs.take i)).filter (majB n vs)
theorem WkV.eqF {π : List Nat} {σ : List AObj} {v v2 : AV} (h : v = v2) (hf : Free v2) : WkV π σ v v2 := by subst h;exact WkV.free hf
theorem catE_snoc {R : Type} (L : R → List AV) (d : R) (z : Nat) (l : List R) (x : R) {i j : Nat} (h : i < l.length + 1) :
    catE l.length (fun i j => nth (L (l.getD i d)) j) (fun i j => nth (L x) (i * z + j)) i j = nth (L ((l ++ [x]).getD i d)) j := by
  unfold catE
  simp only [List.getD_eq_getElem?_getD]
  split
  · rename_i h1; rw [List.getElem?_append_left h1]
  · obtain rfl : i = l.length := by omega
    simp
theorem sta_snoc (l : List Sta) (x : Sta) {i j : Nat} (h : i < l.length + 1) : catE l.length (staE l) (fun i j => nth (staL x) (i * 5 + j)) i j = staE (l ++ [x]) i j := catE_snoc staL _ 5 l x h
set_option maxRecDepth 100000 in
set_option maxHeartbeats 4000000 in
theorem eachW_tc (n : Int) (vs : List Vot) (es : List (Value × AV)) (out : List Sta) (w1 w2 w3 w4 w5 w6 b c1 c2 c3 c4 : Int) (hes : FreeL (es.map (·.2))) (hl : vs.length ≤ 1000000) :
    TC Try.prog 24 [.fn (.func 44) [] [.optr 7 0 0], .optr 1 0 0, .optr 5 0 0]
    [.box 3 [.imm (.int .i64 n)],.box 28 [vots vs],.mp (.agg [some .i64,some .i64,some .i64,some .i64,some .i64]) es,.arr 40 5 out.length (staE out),
      .box 45 [.imm (.int .i64 w1),.imm (.int .i64 w2),.imm (.int .i64 w3),.imm (.int .i64 w4),.imm (.int .i64 w5),.imm (.int .i64 w6)],
      .box 40 [.imm (.int .i64 b),.imm (.int .i64 c1),.imm (.int .i64 c2),.imm (.int .i64 c3),.imm (.int .i64 c4)],.mp (.int .i64) [],.box 111 [.map 6]]
    (fun v σ' => v = .tup [] ∧ σ' = [.box 3 [.imm (.int .i64 n)],.box 28 [vots vs],.mp (.agg [some .i64,some .i64,some .i64,some .i64,some .i64]) es,.arr 40 5 out.length (staE out),
      .box 45 [.imm (.int .i64 w1),.imm (.int .i64 w2),.imm (.int .i64 w3),.imm (.int .i64 w4),.imm (.int .i64 w5),.imm (.int .i64 w6)],
      .box 40 [.imm (.int .i64 b),.imm (.int .i64 c1),.imm (.int .i64 c2),.imm (.int .i64 c3),.imm (.int .i64 c4)],dmO (cntV ⟨b,⟨c1,c2,c3,c4⟩⟩ vs []),.box 111 [.map 6]]) := by
  (refine TC_of_T Γ_ok Try.func24 rfl (by kernel_rfl) ?_;simp only [Try.ntmps24,Try.results24,List.length_cons,List.length_nil,Nat.reduceSub,Nat.reduceAdd,List.replicate,List.cons_append,List.nil_append])
  (((refine goR0 _ _ _ _ _ _ _ _ ?_ ?_ ?_ ?_ ?_ ?_ ?_ ?_) <;> (repeat intro hb) <;> first | exact True.intro | refine Lf.mk ?_))
  refine T_loopW (fun m st=>∃ (i : Nat),i ≤ vs.length ∧ m + i = vs.length ∧ st = ⟨[.fn (.func 44) [] [.optr 7 0 0],.optr 1 0 0,.optr 5 0 0,.top,.top,.top,vots vs,.imm (.int .i64 vs.length),.imm (.int .i64 i)] ++ List.replicate 20 .top,
      [.box 3 [.imm (.int .i64 n)],.box 28 [vots vs],.mp (.agg [some .i64,some .i64,some .i64,some .i64,some .i64]) es,.arr 40 5 out.length (staE out),
      .box 45 [.imm (.int .i64 w1),.imm (.int .i64 w2),.imm (.int .i64 w3),.imm (.int .i64 w4),.imm (.int .i64 w5),.imm (.int .i64 w6)],
      .box 40 [.imm (.int .i64 b),.imm (.int .i64 c1),.imm (.int .i64 c2),.imm (.int .i64 c3),.imm (.int .i64 c4)],dmO (cntV ⟨b,⟨c1,c2,c3,c4⟩⟩ (vs.take i) []),.box 111 [.map 6]]⟩) vs.length ⟨_,?_,0,Nat.zero_le _,rfl,rfl⟩ ?_
  · ((try simp only [List.length_append,List.length_cons,List.length_nil,Nat.zero_add]);refine Wk.intro [0,1,2,3,4,5,6,7] (by decide) (by decide) (by intro o ho;simp at ho ⊢ <;> omega) ?_ ?_ <;> repeat' (first|(exact WkO.mpE rfl hes)|exact WkVL.nil|refine WkVL.cons ?_ ?_|exact WkV.top|exact WkV.imm rfl|exact WkV.imm (by simp)|exact WkV.optr rfl|exact WkV.own rfl (by simp)|exact WkV.nil_own (.inl rfl)|exact WkV.map rfl|(refine WkV.free ?_;simp [Free,FreeL] <;> assumption)|(refine WkV.free (fun _ _=>FreeL_nth ?_ _);simp [Free,FreeL];done)|refine WkV.agg ?_|refine WkV.tup ?_|refine WkV.fn ?_ ?_|exact WkO.dead|exact WkO.raw|refine WkO.ghost ?_|exact WkO.mpE rfl trivial|refine WkO.box ?_ rfl|refine WkO.arr ?_|refine And.intro ?_ (And.intro (by first|exact fun h=>h|exact fun _=>rfl|exact nofun) ?_)|exact trivial|(intro i j hi hj)))
  rintro m st ⟨i, h1, h2, rfl⟩
  (simp only [go_sem,↓reduceIte,Nat.reduceAdd,Nat.reduceSub,Nat.reduceMul,Nat.reduceLT,Nat.reduceLeDiff,Nat.reduceEqDiff,Nat.reduceGT,Int.reduceToNat,Int.reduceBEq,Int.reduceBNe];try simp (disch := omega) only [wrapI,wrapU,half_sum,toNat_sub1,toNat_add1,Int.toNat_natCast])
  repeat' (first
    | (with_reducible refine hK _ ?_; clear hK K)
    | ((with_reducible refine callGoal_inline Γ_ok Try.func44 rfl (by kernel_rfl) (by first|exact trivial|(simp only [go_sem,and_self];done)|(simp only [go_sem];omega)) ?_);simp only [Try.ntmps44,Try.results44,List.length_cons,List.length_nil,Nat.reduceSub,Nat.reduceAdd,List.replicate,List.cons_append,List.nil_append])
    | ((with_reducible apply DC_call);(focus exact rfl);(focus exact rfl);(focus exact rfl);intro N hN;(simp only [go_sem,↓reduceIte,Nat.reduceAdd,Nat.reduceSub,Nat.reduceMul,Nat.reduceLT,Nat.reduceLeDiff,Nat.reduceEqDiff,Nat.reduceGT,Int.reduceToNat,Int.reduceBEq,Int.reduceBNe];try simp (disch := omega) only [wrapI,wrapU,half_sum,toNat_sub1,toNat_add1,Int.toNat_natCast]))
    | ((with_reducible first|refine T_seq_region Γ_ok (fun K hK=>?_)|refine T_last_region Γ_ok (fun K hK=>?_)|refine TO_callN rfl (fun N hN=>?_)|refine DCT_fork Γ_ok (fun K2 hK2=>?_)|refine DCT_last Γ_ok ?_|refine DC_ev Γ_ok ?_|refine TO_ev Γ_ok ?_|refine retQ_r ?_|refine retQ_n ?_);(simp only [go_sem,↓reduceIte,Nat.reduceAdd,Nat.reduceSub,Nat.reduceMul,Nat.reduceLT,Nat.reduceLeDiff,Nat.reduceEqDiff,Nat.reduceGT,Int.reduceToNat,Int.reduceBEq,Int.reduceBNe];try simp (disch := omega) only [wrapI,wrapU,half_sum,toNat_sub1,toNat_add1,Int.toNat_natCast]))
    | (with_reducible refine hK2 _ ?_ ?_ <;> clear hK2 K2)
    | with_reducible refine gC_false ?_ | with_reducible refine gC_true ?_ | with_reducible refine dCall_true ?_
    | (with_reducible refine hN _ _ ?_; clear hN N)
    | (with_reducible refine hN _ _ (dInl rfl) ?_; clear hN N)
    | ((with_reducible refine hN _ _ (.inr ?_) ?_);(focus (simp only [go_sem,↓reduceIte,Nat.reduceAdd,Nat.reduceSub,Nat.reduceMul,Nat.reduceLT,Nat.reduceLeDiff,Nat.reduceEqDiff,Nat.reduceGT,Int.reduceToNat,Int.reduceBEq,Int.reduceBNe];try simp (disch := omega) only [wrapI,wrapU,half_sum,toNat_sub1,toNat_add1,Int.toNat_natCast]));all_goals (try clear hN N))
    | with_reducible refine T_seq ?_|with_reducible refine T_block ?_|with_reducible refine T_ret ?_|with_reducible refine T_exit ?_|with_reducible refine T_skip ?_|with_reducible refine T_label ?_
    | with_reducible refine thenQ_n ?_|with_reducible refine thenQ_e ?_|with_reducible refine thenQ_r ?_|with_reducible refine blockQ_n ?_|with_reducible refine blockQ_e ?_|with_reducible refine blockQ_r ?_
    | with_reducible refine blockQ_o (by decide) ?_
    | ((with_reducible refine T_cond _ rfl (fun hb=>?_) (fun hb=>?_)) <;> first|(cases hb;done)|(simp only [decide_eq_true_eq,decide_eq_false_iff_not,Bool.and_eq_true,Bool.or_eq_true,Bool.and_eq_false_imp,Bool.or_eq_false_iff,Bool.not_eq_true',Bool.not_eq_false',beq_iff_eq,bne_iff_ne,ne_eq,beq_eq_false_iff_ne,bne_eq_false_iff_eq,Int.not_lt,Int.not_le,ge_iff_le,gt_iff_lt] at hb)|skip)
    | (with_reducible refine And.intro (by first | exact trivial | omega | (intro hg;simp at hg ⊢ <;> omega) | (simp <;> omega)) ?_)
    | assumption | omega)
  · have hs := cntV_succ (s := ⟨b, ⟨c1, c2, c3, c4⟩⟩) (vs := vs) (D := []) (i := i) (by omega)
    rw [if_pos ⟨hb.1, Tk.ext_iff'.2 (by simpa using hb.2)⟩] at hs
    refine ⟨vs.length - (i + 1), by omega, _, ?_, i + 1, by omega, by omega, rfl⟩
    ((try simp only [List.length_append,List.length_cons,List.length_nil,Nat.zero_add]);refine Wk.intro [0,1,2,3,4,5,6,7] (by decide) (by decide) (by intro o ho;simp at ho ⊢ <;> omega) ?_ ?_ <;> repeat' (first|(exact WkO.mpE rfl hes)|(exact WkO.mpE (by rw [hs]) (dmE_free _))|exact WkVL.nil|refine WkVL.cons ?_ ?_|exact WkV.top|exact WkV.imm rfl|exact WkV.imm (by simp)|exact WkV.optr rfl|exact WkV.own rfl (by simp)|exact WkV.nil_own (.inl rfl)|exact WkV.map rfl|(refine WkV.free ?_;simp [Free,FreeL] <;> assumption)|(refine WkV.free (fun _ _=>FreeL_nth ?_ _);simp [Free,FreeL];done)|refine WkV.agg ?_|refine WkV.tup ?_|refine WkV.fn ?_ ?_|exact WkO.dead|exact WkO.raw|refine WkO.ghost ?_|exact WkO.mpE rfl trivial|refine WkO.box ?_ rfl|refine WkO.arr ?_|refine And.intro ?_ (And.intro (by first|exact fun h=>h|exact fun _=>rfl|exact nofun) ?_)|exact trivial|(intro i j hi hj)))
  · have hs := cntV_succ (s := ⟨b, ⟨c1, c2, c3, c4⟩⟩) (vs := vs) (D := []) (i := i) (by omega)
    rw [if_neg (by rw [Tk.ext_iff']; grind)] at hs
    refine ⟨vs.length - (i + 1), by omega, _, ?_, i + 1, by omega, by omega, rfl⟩
    ((try simp only [List.length_append,List.length_cons,List.length_nil,Nat.zero_add]);refine Wk.intro [0,1,2,3,4,5,6,7] (by decide) (by decide) (by intro o ho;simp at ho ⊢ <;> omega) ?_ ?_ <;> repeat' (first|(exact WkO.mpE rfl hes)|(exact WkO.mpE (by rw [hs]) (dmE_free _))|exact WkVL.nil|refine WkVL.cons ?_ ?_|exact WkV.top|exact WkV.imm rfl|exact WkV.imm (by simp)|exact WkV.optr rfl|exact WkV.own rfl (by simp)|exact WkV.nil_own (.inl rfl)|exact WkV.map rfl|(refine WkV.free ?_;simp [Free,FreeL] <;> assumption)|(refine WkV.free (fun _ _=>FreeL_nth ?_ _);simp [Free,FreeL];done)|refine WkV.agg ?_|refine WkV.tup ?_|refine WkV.fn ?_ ?_|exact WkO.dead|exact WkO.raw|refine WkO.ghost ?_|exact WkO.mpE rfl trivial|refine WkO.box ?_ rfl|refine WkO.arr ?_|refine And.intro ?_ (And.intro (by first|exact fun h=>h|exact fun _=>rfl|exact nofun) ?_)|exact trivial|(intro i j hi hj)))
  · obtain rfl : i = vs.length := by omega
    rw [List.take_length]
theorem cntV_len0 (s : Sta) (vs : List Vot) : (cntV s vs []).length ≤ vs.length := by have := cntV_len s vs [];simpa using this
theorem majB_iff {n : Int} {vs : List Vot} {s : Sta} : majB n vs s = true ↔ n < 2 * ((cntV s vs []).length : Int) := by simp [majB]
theorem outI_len (n : Int) (vs : List Vot) (i : Nat) : (outI n vs i).length ≤ i := by
  refine Nat.le_trans (List.length_filter_le _ _) ?_
  induction i with
  | zero => simp [seenV]
  | succ i ih =>
    by_cases h : i < vs.length
    · rw [seenV_succ h]; split <;> (try simp only [List.length_append, List.length_cons, List.length_nil]) <;> omega
    · rw [List.take_of_length_le (by omega)]; rw [List.take_of_length_le (by omega)] at ih; omega
theorem rise_of {l : List Sta} (h : l.Pairwise (fun s t => s.b < t.b)) : Rise l := fun i j hij hj => by
  have := List.pairwise_iff_getElem.1 h i j (by omega) hj hij
  simpa [gS, hj, (by omega : i < l.length)] using this
set_option maxRecDepth 100000 in
set_option maxHeartbeats 4000000 in
theorem chosen_raw (n : Int) (vs : List Vot) (hl : vs.length ≤ 1000000) (hr : 1 ≤ n → n ≤ 8 → (outV n vs).Pairwise (fun s t => s.b < t.b)) : TC Try.prog 6 [.imm (.int .i64 n),vots vs] []
    (fun v σ' => (v = .tup [.imm (.slice none 0 0), .imm (.int .i64 (chosenR n vs).2)] ∧ (chosenR n vs).1.length = 0) ∨
    ∃ k E',v = .tup [.own k 0 (chosenR n vs).1.length none,.imm (.int .i64 (chosenR n vs).2)] ∧ nthO σ' k = .arr 40 5 (chosenR n vs).1.length E' ∧ ∀ i j,i < (chosenR n vs).1.length → E' i j = staE (chosenR n vs).1 i j) := by
  (refine TC_of_T Γ_ok Try.func6 rfl (by kernel_rfl) ?_;simp only [Try.ntmps6,Try.results6,List.length_cons,List.length_nil,Nat.reduceSub,Nat.reduceAdd,List.replicate,List.cons_append,List.nil_append])
  repeat' (first
    | (with_reducible refine hK _ ?_; clear hK K)
    | (unfold gC;(refine Or.inl ⟨_,fun hg => callGoal_mk (by first | exact trivial | exact hg) (anyV_tc _ _ hl) (fun v σ1 h => h),?_⟩))
    | ((with_reducible apply DC_call);(focus exact rfl);(focus exact rfl);(focus exact rfl);intro N hN;(simp only [go_sem,↓reduceIte,Nat.reduceAdd,Nat.reduceSub,Nat.reduceMul,Nat.reduceLT,Nat.reduceLeDiff,Nat.reduceEqDiff,Nat.reduceGT,Int.reduceToNat,Int.reduceBEq,Int.reduceBNe];try simp (disch := omega) only [wrapI,wrapU,half_sum,toNat_sub1,toNat_add1,Int.toNat_natCast]))
    | ((with_reducible first|refine T_seq_region Γ_ok (fun K hK=>?_)|refine T_last_region Γ_ok (fun K hK=>?_)|refine TO_callN rfl (fun N hN=>?_)|refine DCT_fork Γ_ok (fun K2 hK2=>?_)|refine DCT_last Γ_ok ?_|refine DC_ev Γ_ok ?_|refine TO_ev Γ_ok ?_|refine retQ_r ?_|refine retQ_n ?_);(simp only [go_sem,↓reduceIte,Nat.reduceAdd,Nat.reduceSub,Nat.reduceMul,Nat.reduceLT,Nat.reduceLeDiff,Nat.reduceEqDiff,Nat.reduceGT,Int.reduceToNat,Int.reduceBEq,Int.reduceBNe];try simp (disch := omega) only [wrapI,wrapU,half_sum,toNat_sub1,toNat_add1,Int.toNat_natCast]))
    | (with_reducible refine hK2 _ ?_ ?_ <;> clear hK2 K2)
    | with_reducible refine gC_false ?_ | with_reducible refine gC_true ?_ | with_reducible refine dCall_true ?_
    | (with_reducible refine hN _ _ ?_; clear hN N)
    | (with_reducible refine hN _ _ (dInl rfl) ?_; clear hN N)
    | ((with_reducible refine hN _ _ (.inr ?_) ?_);(focus (simp only [go_sem,↓reduceIte,Nat.reduceAdd,Nat.reduceSub,Nat.reduceMul,Nat.reduceLT,Nat.reduceLeDiff,Nat.reduceEqDiff,Nat.reduceGT,Int.reduceToNat,Int.reduceBEq,Int.reduceBNe];try simp (disch := omega) only [wrapI,wrapU,half_sum,toNat_sub1,toNat_add1,Int.toNat_natCast]));all_goals (try clear hN N))
    | with_reducible refine T_seq ?_|with_reducible refine T_block ?_|with_reducible refine T_ret ?_|with_reducible refine T_exit ?_|with_reducible refine T_skip ?_|with_reducible refine T_label ?_
    | with_reducible refine thenQ_n ?_|with_reducible refine thenQ_e ?_|with_reducible refine thenQ_r ?_|with_reducible refine blockQ_n ?_|with_reducible refine blockQ_e ?_|with_reducible refine blockQ_r ?_
    | with_reducible refine blockQ_o (by decide) ?_
    | ((with_reducible refine T_cond _ rfl (fun hb=>?_) (fun hb=>?_)) <;> first|(cases hb;done)|(simp only [decide_eq_true_eq,decide_eq_false_iff_not,Bool.and_eq_true,Bool.or_eq_true,Bool.and_eq_false_imp,Bool.or_eq_false_iff,Bool.not_eq_true',Bool.not_eq_false',beq_iff_eq,bne_iff_ne,ne_eq,beq_eq_false_iff_ne,bne_eq_false_iff_eq,Int.not_lt,Int.not_le,ge_iff_le,gt_iff_lt] at hb)|skip)
    | (with_reducible refine And.intro (by first | exact trivial | omega | (intro hg;simp at hg ⊢ <;> omega) | (simp <;> omega)) ?_)
    | assumption | omega)
  · left
    have e : chosenR n vs = ([], 1) := by
      unfold chosenR
      rw [if_neg]
      rintro ⟨h1, h2⟩
      rcases hb with hb | hb
      · omega
      · rw [List.any_eq_true] at hb
        obtain ⟨v, hv, hb⟩ := hb
        have := List.all_eq_true.1 h2 v hv
        unfold Vot.bad at hb
        rw [this] at hb
        simp at hb
    simp [e]
  have hn := hb.1
  refine T_loopW (fun q st=>∃ (i : Nat),i ≤ vs.length ∧ q = vs.length - i ∧ st = ⟨[.imm (.int .i64 n),vots vs,.optr 0 0 0,.optr 1 0 0,.imm (.slice none 0 0),.imm (.int .i64 0),.top,.own 3 0 (outI n vs i).length none,.map 2] ++ List.replicate 17 .top ++ [vots vs,.imm (.int .i64 vs.length),.imm (.int .i64 i)] ++ List.replicate 25 .top,
    [.box 3 [.imm (.int .i64 n)],.box 28 [vots vs],.mp (.agg [some .i64,some .i64,some .i64,some .i64,some .i64]) (seenE (seenV (vs.take i))),.arr 40 5 (outI n vs i).length (staE (outI n vs i))]⟩) vs.length ⟨_,Wk.trans (Wk.push 40 5 (staE [])) ?_,0,by omega,by omega,rfl⟩ ?_
  · ((try simp only [List.length_append,List.length_cons,List.length_nil,Nat.zero_add]);refine Wk.intro [0,1,2,3] (by decide) (by decide) (by intro o ho;simp at ho ⊢ <;> omega) ?_ ?_ <;> repeat' (first|exact WkVL.nil|refine WkVL.cons ?_ ?_|exact WkV.top|exact WkV.imm rfl|exact WkV.imm (by simp)|exact WkV.optr rfl|exact WkV.own rfl (by simp)|exact WkV.nil_own (.inl rfl)|exact WkV.map rfl|(refine WkV.free ?_;simp [Free,FreeL] <;> assumption)|(refine WkV.free (fun _ _=>FreeL_nth ?_ _);simp [Free,FreeL];done)|refine WkV.agg ?_|refine WkV.tup ?_|refine WkV.fn ?_ ?_|exact WkO.dead|exact WkO.raw|refine WkO.ghost ?_|exact WkO.mpE rfl trivial|refine WkO.box ?_ rfl|refine WkO.arr ?_|refine And.intro ?_ (And.intro (by first|exact fun h=>h|exact fun _=>rfl|exact nofun) ?_)|exact trivial|(intro i j hi hj)))
  rintro q st ⟨i, h1, h2, rfl⟩
  have hol := outI_len n vs i
  have hcl := fun s => cntV_len0 s vs
  have hcl1 := hcl ⟨(gV vs i).b, (gV vs i).x⟩
  have hss := fun (h : i < vs.length) => seenV_succ h
  have hsort : vs.length ≤ i → Look Try.prog 25 [stas (outI n vs i), .fn (.func 26) [] []] (.tup []) := fun h => by
    refine sort_tc _ ?_ (by omega)
    have e : outI n vs i = outV n vs := by unfold outI outV; rw [List.take_of_length_le h]
    rw [e]
    exact rise_of (hr hn.1 hn.2)
  have hfe := fun k => mput_free k (v := .imm (.bool true)) (seenE_free (seenV (vs.take i))) trivial
  (simp only [go_sem,↓reduceIte,Nat.reduceAdd,Nat.reduceSub,Nat.reduceMul,Nat.reduceLT,Nat.reduceLeDiff,Nat.reduceEqDiff,Nat.reduceGT,Int.reduceToNat,Int.reduceBEq,Int.reduceBNe];try simp (disch := omega) only [wrapI,wrapU,half_sum,toNat_sub1,toNat_add1,Int.toNat_natCast])
  repeat' (first
    | (with_reducible refine hK _ ?_; clear hK K)
    | ((with_reducible refine callGoal_inline Γ_ok Try.func23 rfl (by kernel_rfl) (by first|exact trivial|(simp only [go_sem,and_self];done)|(simp only [go_sem];omega)) ?_);simp only [Try.ntmps23,Try.results23,List.length_cons,List.length_nil,Nat.reduceSub,Nat.reduceAdd,List.replicate,List.cons_append,List.nil_append])
    | ((with_reducible refine callGoal_mk ?_ (eachW_tc _ _ _ _ _ _ _ _ _ _ _ _ _ _ _ (hfe _) hl) ?_);(focus (first|exact trivial|(simp only [go_sem,and_self];done)|(simp only [go_sem];omega)));(rintro _ _ ⟨rfl,rfl⟩;(simp only [go_sem,↓reduceIte,Nat.reduceAdd,Nat.reduceSub,Nat.reduceMul,Nat.reduceLT,Nat.reduceLeDiff,Nat.reduceEqDiff,Nat.reduceGT,Int.reduceToNat,Int.reduceBEq,Int.reduceBNe];try simp (disch := omega) only [wrapI,wrapU,half_sum,toNat_sub1,toNat_add1,Int.toNat_natCast])))
    | ((with_reducible first|apply callGoal_lookA (hsort (by omega))|apply dCall_lookA (hsort (by omega)));(case hC=>first|exact trivial|(simp only [go_sem,and_self];done)|(simp only [go_sem];omega));(case hc=>((repeat' (first|exact CvL.nil|exact Cv.nil_view|refine CvL.cons ?_ ?_|exact Cv.imm rfl|(refine Cv.free ?_;simp [Free,FreeL] <;> assumption)|(refine Cv.free (fun _ _=>FreeL_nth ?_ _);simp [Free,FreeL];done)|refine Cv.agg ?_|(apply Cv.own;(case hob=>(with_unfolding_all exact rfl));(case hz=>decide);(case hE=>(first|(intro _ _ _ _;rfl)|(intro i j hi hj;(rcases i with _ | _|i) <;> (rcases j with _ | _ | _ | _|j) <;> first|rfl|(exfalso;omega))));(case hf=>(intro _ _;simp;done)))|(refine Cv.pvE ?_ ?_ (by decide);(focus (first|(intro _ _ _ _;rfl)|(intro i j hi hj;(rcases i with _ | _|i) <;> (rcases j with _ | _ | _ | _|j) <;> first|rfl|(exfalso;omega))));(focus (intro _ _;simp;done)))|(apply Cv.ownS;(case hob=>(with_unfolding_all exact rfl));(case hz=>decide);(case hle=>(first|omega|(simp only [decide_eq_true_eq] at hg;omega)|(simp;omega)));(case hE=>(intro _ _ _ _;first|(rw [Nat.zero_add];done)|(rw [Nat.zero_add];rfl)));(case hf=>(intro _ _;simp;done)))|(refine Cv.viewE (by decide) ?_ ?_;(focus (intro _ _ _ _;first|rfl));(focus (intro _ _;simp;done)))|refine Cv.ptr (by with_unfolding_all rfl) (by with_unfolding_all rfl) ?_|refine Cv.fn ?_ ?_));done)))
    | ((with_reducible first|apply gC_lookA (fun hg=>(hsort (by omega)))|apply dCall_lookGA (fun hg=>(hsort (by omega))));(case hC=>(intro hg;first|exact trivial|exact hg|(simp only [hg,and_self,implies_true];done)|(simp only [go_sem,hg,and_self,implies_true];done)));(case hc=>(intro hg;((repeat' (first|exact CvL.nil|exact Cv.nil_view|refine CvL.cons ?_ ?_|exact Cv.imm rfl|(refine Cv.free ?_;simp [Free,FreeL] <;> assumption)|(refine Cv.free (fun _ _=>FreeL_nth ?_ _);simp [Free,FreeL];done)|refine Cv.agg ?_|(apply Cv.own;(case hob=>(with_unfolding_all exact rfl));(case hz=>decide);(case hE=>(first|(intro _ _ _ _;rfl)|(intro i j hi hj;(rcases i with _ | _|i) <;> (rcases j with _ | _ | _ | _|j) <;> first|rfl|(exfalso;omega))));(case hf=>(intro _ _;simp;done)))|(refine Cv.pvE ?_ ?_ (by decide);(focus (first|(intro _ _ _ _;rfl)|(intro i j hi hj;(rcases i with _ | _|i) <;> (rcases j with _ | _ | _ | _|j) <;> first|rfl|(exfalso;omega))));(focus (intro _ _;simp;done)))|(apply Cv.ownS;(case hob=>(with_unfolding_all exact rfl));(case hz=>decide);(case hle=>(first|omega|(simp only [decide_eq_true_eq] at hg;omega)|(simp;omega)));(case hE=>(intro _ _ _ _;first|(rw [Nat.zero_add];done)|(rw [Nat.zero_add];rfl)));(case hf=>(intro _ _;simp;done)))|(refine Cv.viewE (by decide) ?_ ?_;(focus (intro _ _ _ _;first|rfl));(focus (intro _ _;simp;done)))|refine Cv.ptr (by with_unfolding_all rfl) (by with_unfolding_all rfl) ?_|refine Cv.fn ?_ ?_));done))))
    | ((with_reducible apply DC_call);(focus exact rfl);(focus exact rfl);(focus exact rfl);intro N hN;(simp only [go_sem,↓reduceIte,Nat.reduceAdd,Nat.reduceSub,Nat.reduceMul,Nat.reduceLT,Nat.reduceLeDiff,Nat.reduceEqDiff,Nat.reduceGT,Int.reduceToNat,Int.reduceBEq,Int.reduceBNe];try simp (disch := omega) only [wrapI,wrapU,half_sum,toNat_sub1,toNat_add1,Int.toNat_natCast]))
    | ((with_reducible first|refine T_seq_region Γ_ok (fun K hK=>?_)|refine T_last_region Γ_ok (fun K hK=>?_)|refine TO_callN rfl (fun N hN=>?_)|refine DCT_fork Γ_ok (fun K2 hK2=>?_)|refine DCT_last Γ_ok ?_|refine DC_ev Γ_ok ?_|refine TO_ev Γ_ok ?_|refine retQ_r ?_|refine retQ_n ?_);(simp only [go_sem,↓reduceIte,Nat.reduceAdd,Nat.reduceSub,Nat.reduceMul,Nat.reduceLT,Nat.reduceLeDiff,Nat.reduceEqDiff,Nat.reduceGT,Int.reduceToNat,Int.reduceBEq,Int.reduceBNe];try simp (disch := omega) only [wrapI,wrapU,half_sum,toNat_sub1,toNat_add1,Int.toNat_natCast]))
    | (with_reducible refine hK2 _ ?_ ?_ <;> clear hK2 K2)
    | with_reducible refine gC_false ?_ | with_reducible refine gC_true ?_ | with_reducible refine dCall_true ?_
    | (with_reducible refine hN _ _ ?_; clear hN N)
    | (with_reducible refine hN _ _ (dInl rfl) ?_; clear hN N)
    | ((with_reducible refine hN _ _ (.inr ?_) ?_);(focus (simp only [go_sem,↓reduceIte,Nat.reduceAdd,Nat.reduceSub,Nat.reduceMul,Nat.reduceLT,Nat.reduceLeDiff,Nat.reduceEqDiff,Nat.reduceGT,Int.reduceToNat,Int.reduceBEq,Int.reduceBNe];try simp (disch := omega) only [wrapI,wrapU,half_sum,toNat_sub1,toNat_add1,Int.toNat_natCast]));all_goals (try clear hN N))
    | with_reducible refine T_seq ?_|with_reducible refine T_block ?_|with_reducible refine T_ret ?_|with_reducible refine T_exit ?_|with_reducible refine T_skip ?_|with_reducible refine T_label ?_
    | with_reducible refine thenQ_n ?_|with_reducible refine thenQ_e ?_|with_reducible refine thenQ_r ?_|with_reducible refine blockQ_n ?_|with_reducible refine blockQ_e ?_|with_reducible refine blockQ_r ?_
    | with_reducible refine blockQ_o (by decide) ?_
    | ((with_reducible refine T_cond _ rfl (fun hb=>?_) (fun hb=>?_)) <;> first|(cases hb;done)|(simp only [decide_eq_true_eq,decide_eq_false_iff_not,Bool.and_eq_true,Bool.or_eq_true,Bool.and_eq_false_imp,Bool.or_eq_false_iff,Bool.not_eq_true',Bool.not_eq_false',beq_iff_eq,bne_iff_ne,ne_eq,beq_eq_false_iff_ne,bne_eq_false_iff_eq,Int.not_lt,Int.not_le,ge_iff_le,gt_iff_lt] at hb)|skip)
    | (with_reducible refine And.intro (by first | exact trivial | omega | (intro hg;simp at hg ⊢ <;> omega) | (simp <;> omega)) ?_)
    | assumption | omega)
  · have hs := hss (by omega)
    rw [if_pos hb] at hs
    have ho : outI n vs (i + 1) = outI n vs i := by unfold outI; rw [hs]
    refine ⟨vs.length - (i + 1), by omega, _, ?_, i + 1, by omega, by omega, rfl⟩
    rw [ho, hs]
    ((try simp only [List.length_append,List.length_cons,List.length_nil,Nat.zero_add]);refine Wk.intro [0,1,2,3] (by decide) (by decide) (by intro o ho;simp at ho ⊢ <;> omega) ?_ ?_ <;> repeat' (first|(exact WkO.mpE rfl (seenE_free _))|exact WkVL.nil|refine WkVL.cons ?_ ?_|exact WkV.top|exact WkV.imm rfl|exact WkV.imm (by simp)|exact WkV.optr rfl|exact WkV.own rfl (by simp)|exact WkV.nil_own (.inl rfl)|exact WkV.map rfl|(refine WkV.free ?_;simp [Free,FreeL] <;> assumption)|(refine WkV.free (fun _ _=>FreeL_nth ?_ _);simp [Free,FreeL];done)|refine WkV.agg ?_|refine WkV.tup ?_|refine WkV.fn ?_ ?_|exact WkO.dead|exact WkO.raw|refine WkO.ghost ?_|exact WkO.mpE rfl trivial|refine WkO.box ?_ rfl|refine WkO.arr ?_|refine And.intro ?_ (And.intro (by first|exact fun h=>h|exact fun _=>rfl|exact nofun) ?_)|exact trivial|(intro i j hi hj)))
  · rename_i hb1 hb2
    have hs := hss (by omega)
    rw [if_neg hb2] at hs
    have ho : outI n vs (i + 1) = outI n vs i ++ [⟨(gV vs i).b, (gV vs i).x⟩] := by
      unfold outI; rw [hs, List.filter_append]
      congr 1
      rw [List.filter_cons, if_pos (majB_iff.2 hb)]; rfl
    have hm := mput_seen' (gV vs i).b (gV vs i).x.s (gV vs i).x.c (gV vs i).x.n (gV vs i).x.d _ hb2
    refine ⟨vs.length - (i + 1), by omega, _, ?_, i + 1, by omega, by omega, rfl⟩
    have hsn := fun (i' j' : Nat) h => sta_snoc (outI n vs i) ⟨(gV vs i).b, (gV vs i).x⟩ (i := i') (j := j') h
    rw [ho, hs]
    ((try simp only [List.length_append,List.length_cons,List.length_nil,Nat.zero_add]);refine Wk.intro [0,1,2,9] (by decide) (by decide) (by intro o ho;simp at ho ⊢ <;> omega) ?_ ?_ <;> repeat' (first|(exact WkO.mpE hm (hfe _))|(exact WkV.eqF (hsn _ _ (by assumption)) (staE_free _ _ _))|exact WkVL.nil|refine WkVL.cons ?_ ?_|exact WkV.top|exact WkV.imm rfl|exact WkV.imm (by simp)|exact WkV.optr rfl|exact WkV.own rfl (by simp)|exact WkV.nil_own (.inl rfl)|exact WkV.map rfl|(refine WkV.free ?_;simp [Free,FreeL] <;> assumption)|(refine WkV.free (fun _ _=>FreeL_nth ?_ _);simp [Free,FreeL];done)|refine WkV.agg ?_|refine WkV.tup ?_|refine WkV.fn ?_ ?_|exact WkO.dead|exact WkO.raw|refine WkO.ghost ?_|exact WkO.mpE rfl trivial|refine WkO.box ?_ rfl|refine WkO.arr ?_|refine And.intro ?_ (And.intro (by first|exact fun h=>h|exact fun _=>rfl|exact nofun) ?_)|exact trivial|(intro i j hi hj)))
  · rename_i hb1 hb2
    have hs := hss (by omega)
    rw [if_neg hb2] at hs
    have ho : outI n vs (i + 1) = outI n vs i := by
      unfold outI; rw [hs, List.filter_append, List.filter_cons, if_neg (by rw [majB_iff]; omega)]; simp
    have hm := mput_seen' (gV vs i).b (gV vs i).x.s (gV vs i).x.c (gV vs i).x.n (gV vs i).x.d _ hb2
    refine ⟨vs.length - (i + 1), by omega, _, ?_, i + 1, by omega, by omega, rfl⟩
    rw [ho, hs]
    ((try simp only [List.length_append,List.length_cons,List.length_nil,Nat.zero_add]);refine Wk.intro [0,1,2,3] (by decide) (by decide) (by intro o ho;simp at ho ⊢ <;> omega) ?_ ?_ <;> repeat' (first|(exact WkO.mpE hm (hfe _))|exact WkVL.nil|refine WkVL.cons ?_ ?_|exact WkV.top|exact WkV.imm rfl|exact WkV.imm (by simp)|exact WkV.optr rfl|exact WkV.own rfl (by simp)|exact WkV.nil_own (.inl rfl)|exact WkV.map rfl|(refine WkV.free ?_;simp [Free,FreeL] <;> assumption)|(refine WkV.free (fun _ _=>FreeL_nth ?_ _);simp [Free,FreeL];done)|refine WkV.agg ?_|refine WkV.tup ?_|refine WkV.fn ?_ ?_|exact WkO.dead|exact WkO.raw|refine WkO.ghost ?_|exact WkO.mpE rfl trivial|refine WkO.box ?_ rfl|refine WkO.arr ?_|refine And.intro ?_ (And.intro (by first|exact fun h=>h|exact fun _=>rfl|exact nofun) ?_)|exact trivial|(intro i j hi hj)))
  · right
    rename_i hb1
    have e : chosenR n vs = (outI n vs i, 0) := by
      unfold chosenR
      rw [if_pos]
      · unfold outI outV; rw [List.take_of_length_le (by omega)]
      · refine ⟨hn, ?_⟩
        rw [List.all_eq_true]
        intro v hv
        have h0 := List.any_eq_false.1 hb1.2 v hv
        unfold Vot.bad at h0
        simpa using h0
    rw [e]
    exact ⟨3, _, rfl, rfl, fun _ _ _ => rfl⟩
@[go_sem, reducible] def ownS (l : List Sta) : AV := .own 0 0 l.length none
@[go_sem, reducible] def stasO (l : List Sta) : AObj := .arr 40 5 l.length (staE l)
theorem chosen_tc (n : Int) (vs : List Vot) (hl : vs.length ≤ 1000000) (hr : 1 ≤ n → n ≤ 8 → (outV n vs).Pairwise (fun s t => s.b < t.b)) :
    Makes Try.prog 6 [.imm (.int .i64 n),vots vs] (.tup [ownS (chosenR n vs).1,.imm (.int .i64 (chosenR n vs).2)]) [stasO (chosenR n vs).1] :=
  Makes.lst (fun i j => staE_pl _ i j) trivial (chosen_raw n vs hl hr)
end Go.Proofs.Ytgljhmnmmaclaaa.Q
