/-
  Parts joined: V8f V8g V8h.
-/
import Derived.Test.YtonmienclploaaaGreatDoorQGo
import Derived.Test.YtonmienclploaaaGreatDoorQU4
import Derived.Test.YtonmienclploaaaGreatDoorQGo2
set_option linter.unusedSimpArgs false
set_option linter.unusedVariables false
namespace Go.Proofs.YtonmienclploaaaGreatDoor
open Go.Ab
theorem ogB_iff {o : Og} : ogB o = true ↔ (∀ i,i < o.ps.length → ppB o.ps i = true) ∧ o.ps.length ≤ 120 ∧ (0 ≤ o.sup ∧ o.sup ≤ 1000000) ∧ 0 ≤ o.tol ∧ o.tol ≤ 50000 := by
  unfold ogB
  simp only [Bool.and_eq_true, decide_eq_true_eq]
  refine and_congr ⟨fun h i hi => ?_, fun h => ?_⟩ Iff.rfl
  · have := (fstF_spec (f := fun i => !ppB o.ps i) (d := o.ps.length) (i := 0)).2.2.1 i (by omega) (by omega)
    simpa using this
  · have q := fstF_spec (f := fun i => !ppB o.ps i) (d := o.ps.length) (i := 0)
    by_cases e : fstF (fun i => !ppB o.ps i) 0 o.ps.length = o.ps.length
    · exact e
    · have := q.2.2.2 (by omega)
      rw [h _ (by omega)] at this
      cases this
def PpOk (x : Pp) : Prop := pOk x.p = true ∧ (0 ≤ x.wind ∧ x.wind ≤ 1000) ∧ (0 ≤ x.sag ∧ x.sag ≤ 100000000) ∧ 0 ≤ x.warm ∧ x.warm ≤ 100000000
theorem pp_ok {o : Og} (h : ogB o = true) {i : Nat} (hi : i < o.ps.length) : PpOk (gP o.ps i) := by
  obtain ⟨_, _, h3, h4, h5, h6⟩ := ppB_iff.1 ((ogB_iff.1 h).1 i hi)
  exact ⟨h3, h4, h5, h6⟩
theorem pip_ok {o : Og} (h : ogB o = true) (n : Int) : PpOk (pipR o.ps n).1 := by
  unfold pipR
  split
  · rename_i hi; exact pp_ok h hi
  · exact ⟨by decide, by decide, by decide, by decide⟩
def szB (lo hi : Int) : Bool := decide (-100000000000000 ≤ lo) && (decide (lo ≤ hi) && decide (hi ≤ 100000000000000))
set_option maxRecDepth 100000 in
set_option maxHeartbeats 4000000 in
theorem szvalid_tc (lo hi : Int) : Look Tryz.prog 66 [.agg [.imm (.int .i64 lo),.imm (.int .i64 hi)]] (.imm (.bool (szB lo hi))) := by
  refine Look.mk trivial ?_
  unfold szB
  (refine TC_of_T Γ_ok Tryz.func66 rfl (by kernel_rfl) ?_;simp only [Tryz.ntmps66,Tryz.results66,List.length_cons,List.length_nil,Nat.reduceSub,Nat.reduceAdd,List.replicate,List.cons_append,List.nil_append])
  (((refine goR0 _ _ _ _ _ _ _ _ ?_ ?_ ?_ ?_ ?_ ?_ ?_ ?_) <;> (repeat intro hb) <;> first | exact True.intro | refine Lf.mk ?_))
  all_goals (congr 2; try grind)
def witR (lo hi a b : Int) : Int × Int := if szB lo hi = true ∧ a ≤ b then (surelyI lo hi a b, 0) else (0, 1)
set_option maxRecDepth 100000 in
set_option maxHeartbeats 4000000 in
theorem within_sz (lo hi a b : Int) : Look Tryz.prog 44 [.agg [.imm (.int .i64 lo),.imm (.int .i64 hi)],.imm (.int .i64 a),.imm (.int .i64 b)] (.tup [.imm (.int .i64 (witR lo hi a b).1),.imm (.int .i64 (witR lo hi a b).2)]) := by
  have h1 := szvalid_tc lo hi
  have h2 := surely_tc lo hi a b
  unfold witR
  by_cases h : szB lo hi = true ∧ a ≤ b
  · rw [if_pos h]
    rw [h.1] at h1
    have hq := h.2
    refine Look.mk (by simp [Pl, PlL]) ?_
    (refine TC_of_T Γ_ok Tryz.func44 rfl (by kernel_rfl) ?_;simp only [Tryz.ntmps44,Tryz.results44,List.length_cons,List.length_nil,Nat.reduceSub,Nat.reduceAdd,List.replicate,List.cons_append,List.nil_append])
    (have cl1 := h1;have cl2 := h2;((refine goR0 _ _ _ _ _ _ _ _ ?_ ?_ ?_ ?_ ?_ ?_ ?_ ?_) <;> (repeat intro hb) <;> first | exact True.intro | refine Lf.mk ?_))
  · rw [if_neg h]
    refine Look.mk (by simp [Pl, PlL]) ?_
    (refine TC_of_T Γ_ok Tryz.func44 rfl (by kernel_rfl) ?_;simp only [Tryz.ntmps44,Tryz.results44,List.length_cons,List.length_nil,Nat.reduceSub,Nat.reduceAdd,List.replicate,List.cons_append,List.nil_append])
    (have cl1 := h1;have cl2 := h2;((refine goR0 _ _ _ _ _ _ _ _ ?_ ?_ ?_ ?_ ?_ ?_ ?_ ?_) <;> (repeat intro hb) <;> first | exact True.intro | refine Lf.mk ?_))
    all_goals (first | exact absurd hb h | exact absurd ⟨hb.1, hb.2⟩ h)
set_option maxRecDepth 100000 in
set_option maxHeartbeats 4000000 in
theorem moved_tc (lo hi n : Int) (h1 : -1000000000000000 ≤ lo ∧ lo ≤ 1000000000000000) (h2 : -1000000000000000 ≤ hi ∧ hi ≤ 1000000000000000) (h3 : -1000000000000000 ≤ n ∧ n ≤ 1000000000000000) : Look Tryz.prog 169 [.agg [.imm (.int .i64 lo),.imm (.int .i64 hi)],.imm (.int .i64 n)] (.agg [.imm (.int .i64 (lo + n)),.imm (.int .i64 (hi + n))]) := by
  refine Look.mk (by simp [Pl, PlL]) ?_
  (refine TC_of_T Γ_ok Tryz.func169 rfl (by kernel_rfl) ?_;simp only [Tryz.ntmps169,Tryz.results169,List.length_cons,List.length_nil,Nat.reduceSub,Nat.reduceAdd,List.replicate,List.cons_append,List.nil_append])
  (((refine goR0 _ _ _ _ _ _ _ _ ?_ ?_ ?_ ?_ ?_ ?_ ?_ ?_) <;> (repeat intro hb) <;> first | exact True.intro | refine Lf.mk ?_))
@[go_sem,reducible] def sdA (o : Og) (ids : List Int) (n : Int) : AV := .agg [pps o.ps,.imm (.int .i64 o.sup),.imm (.int .i64 o.tol),its ids,.imm (.int .i64 n)]
def shR (x : Pp) (n w : Int) : Int := x.warm * w - x.sag * n
set_option maxRecDepth 100000 in
set_option maxHeartbeats 4000000 in
theorem shift_tc (o : Og) (ids : List Int) (x : Pp) (n w : Int) (hx : PpOk x) (hn : 0 ≤ n ∧ n ≤ 1000000) (hw : -100 ≤ w ∧ w ≤ 100) : Look Tryz.prog 64 [sdA o ids n,ppA x,.imm (.int .i64 w)] (.imm (.int .i64 (shR x n w))) := by
  obtain ⟨_, _, h1, h2⟩ := hx
  have e1 : IntKind.i64.wrap (x.warm * w) = x.warm * w := by
    have a1 := Int.mul_le_mul_of_nonneg_left hw.2 h2.1
    have a2 := Int.mul_le_mul_of_nonneg_left hw.1 h2.1
    exact wrapI (by omega) (by omega)
  have e2 : IntKind.i64.wrap (x.sag * n) = x.sag * n := by
    have a1 := Int.mul_le_mul_of_nonneg_left hn.2 h1.1
    have a2 := Int.mul_nonneg h1.1 hn.1
    exact wrapI (by omega) (by omega)
  have e3 : IntKind.i64.wrap (x.warm * w - x.sag * n) = x.warm * w - x.sag * n := by
    have a1 := Int.mul_le_mul_of_nonneg_left hw.2 h2.1
    have a2 := Int.mul_le_mul_of_nonneg_left hw.1 h2.1
    have a3 := Int.mul_le_mul_of_nonneg_left hn.2 h1.1
    have a4 := Int.mul_nonneg h1.1 hn.1
    exact wrapI (by omega) (by omega)
  refine Look.mk trivial ?_
  unfold shR
  (refine TC_of_T Γ_ok Tryz.func64 rfl (by kernel_rfl) ?_;simp only [Tryz.ntmps64,Tryz.results64,List.length_cons,List.length_nil,Nat.reduceSub,Nat.reduceAdd,List.replicate,List.cons_append,List.nil_append])
  (have sx1 := e1;have sx2 := e2;have sx3 := e3;have sx4 : (0 : Nat) + 0 = 0 := rfl;((have sx5 : (0 : Nat) + 0 = 0 := rfl;have sx6 : (0 : Nat) + 0 = 0 := rfl;refine goR6 _ _ _ _ _ _ _ _ ?_ ?_ ?_ ?_ ?_ ?_ ?_ ?_) <;> (repeat intro hb) <;> first|exact True.intro|refine Lf.mk ?_))
def demK (l : List Pp) (ids : List Int) : Nat → Int
  | 0 => 0
  | k + 1 => demK l ids k + (if (pipR l (gL ids k)).2 = true then (pipR l (gL ids k)).1.wind else 0)
theorem demK_bd {o : Og} (h : ogB o = true) (ids : List Int) : ∀ k : Nat,0 ≤ demK o.ps ids k ∧ demK o.ps ids k ≤ 1000 * k
  | 0 => by simp [demK]
  | k + 1 => by
    have h1 := demK_bd h ids k
    have h2 := (pip_ok h (gL ids k)).2.1
    rw [demK]
    split <;> omega
def lacR (o : Og) (ids : List Int) : Int := if demK o.ps ids ids.length - o.sup > 0 then demK o.ps ids ids.length - o.sup else 0
end Go.Proofs.YtonmienclploaaaGreatDoor
namespace Go.Proofs.YtonmienclploaaaGreatDoor
open Go.Ab
theorem dem_nn {o : Og} (ho : ogB o = true) (ids : List Int) (hl : ids.length ≤ 1000) : 0 ≤ lacR o ids ∧ lacR o ids ≤ 1000000 := by
  have h1 := demK_bd ho ids ids.length
  have h2 := (ogB_iff.1 ho).2.2.1
  unfold lacR
  split <;> omega
@[go_sem, reducible] def opO (o : Og) : AObj := .box 49 (ogL o)
@[go_sem,reducible] def sd0 : AObj := .box 150 [.imm (.slice none 0 0),.imm (.int .i64 0),.imm (.int .i64 0),.imm (.slice none 0 0),.imm (.int .i64 0)]
theorem dCall_tc {P : Program} {σ σ' : List AObj} {N : AV → List AObj → Prop} {k : FuncId} {args : List AV} {C : Prop} {v : AV} (h : TC P k args σ (fun u s=>u = v ∧ s = σ')) (hC : C) (hn : N v σ') : dCall P σ N (some (k,args,C)) (some none) := ⟨v,σ',callGoal_mk hC h fun _ _ h=>h,hn⟩
set_option maxRecDepth 100000 in
set_option maxHeartbeats 4000000 in
theorem together_tc (o : Og) (ids : List Int) (ho : ogB o = true) (hl : ids.length ≤ 1000) : TC Tryz.prog 98 [ogA o,its ids] [opO o] (fun v σ' => v = sdA o ids (lacR o ids) ∧ σ' = [opO o]) := by
  have hps := (ogB_iff.1 ho).2.1
  have hsu := (ogB_iff.1 ho).2.2.1
  refine TC.weak (Q := fun u σ'=>u = sdA o ids (lacR o ids) ∧ nthO σ' 0 = opO o ∧ 0 < σ'.length) ?_ fun u σ' h=>⟨[0],_,[opO o],rfl,by simp,by have := h.2.2;simp;omega,?_,⟨?_,fun _=>by rw [h.2.1];rfl,trivial⟩,rfl,rfl⟩
  · unfold lacR
    (refine TC_of_TM Γ_ok Tryz.func98 rfl (by kernel_rfl) ?_;simp only [Tryz.ntmps98,Tryz.results98,List.length_cons,List.length_nil,Nat.reduceSub,Nat.reduceAdd,List.replicate,List.cons_append,List.nil_append])
    repeat' (first
    | (with_reducible refine hK _ ?_; clear hK K)
    | ((with_reducible first|refine retQM_r ?_|refine retQM_n ?_);try (simp only [go_sem,↓reduceIte,Nat.reduceAdd,Nat.reduceSub,Nat.reduceMul,Nat.reduceLT,Nat.reduceLeDiff,Nat.reduceEqDiff,Nat.reduceGT,Int.reduceToNat,Int.reduceBEq,Int.reduceBNe];try simp (disch := omega) only [wrapI,wrapU,half_sum,toNat_sub1,toNat_add1,Int.toNat_natCast]))
    | ((with_reducible refine callGoal_inline Γ_ok Tryz.func120 rfl (by kernel_rfl) (by first|exact trivial|(simp only [go_sem,and_self];done)|(simp only [go_sem];omega)) ?_);simp only [Tryz.ntmps120,Tryz.results120,List.length_cons,List.length_nil,Nat.reduceSub,Nat.reduceAdd,List.replicate,List.cons_append,List.nil_append])
    | ((refine T_rangeFunc (fnI := Tryz.f131) (.inl rfl) rfl trivial Tryz.func131 rfl (by kernel_rfl) rfl (fun l r tc lo hi ds hL=>?_));simp only [Tryz.ntmps131,List.length_cons,List.length_nil,Nat.reduceSub,Nat.reduceAdd,List.replicate,List.cons_append,List.nil_append];try (simp only [go_sem,↓reduceIte,Nat.reduceAdd,Nat.reduceSub,Nat.reduceMul,Nat.reduceLT,Nat.reduceLeDiff,Nat.reduceEqDiff,Nat.reduceGT,Int.reduceToNat,Int.reduceBEq,Int.reduceBNe];try simp (disch := omega) only [wrapI,wrapU,half_sum,toNat_sub1,toNat_add1,Int.toNat_natCast]))
    | ((with_reducible apply DC_call);(focus exact rfl);(focus exact rfl);(focus exact rfl);intro N hN;(simp only [go_sem,↓reduceIte,Nat.reduceAdd,Nat.reduceSub,Nat.reduceMul,Nat.reduceLT,Nat.reduceLeDiff,Nat.reduceEqDiff,Nat.reduceGT,Int.reduceToNat,Int.reduceBEq,Int.reduceBNe];try simp (disch := omega) only [wrapI,wrapU,half_sum,toNat_sub1,toNat_add1,Int.toNat_natCast]))
    | ((with_reducible first|refine T_seq_region Γ_ok (fun K hK=>?_)|refine T_last_region Γ_ok (fun K hK=>?_)|refine TO_callN rfl (fun N hN=>?_)|refine DCT_fork Γ_ok (fun K2 hK2=>?_)|refine DCT_last Γ_ok ?_|refine DC_ev Γ_ok ?_|refine TO_ev Γ_ok ?_|refine retQ_r ?_|refine retQ_n ?_);(simp only [go_sem,↓reduceIte,Nat.reduceAdd,Nat.reduceSub,Nat.reduceMul,Nat.reduceLT,Nat.reduceLeDiff,Nat.reduceEqDiff,Nat.reduceGT,Int.reduceToNat,Int.reduceBEq,Int.reduceBNe];try simp (disch := omega) only [wrapI,wrapU,half_sum,toNat_sub1,toNat_add1,Int.toNat_natCast]))
    | (with_reducible refine hK2 _ ?_ ?_ <;> clear hK2 K2)
    | with_reducible refine gC_false ?_ | with_reducible refine gC_true ?_ | with_reducible refine dCall_true ?_
    | (with_reducible refine hN _ _ ?_; clear hN N)
    | (with_reducible refine hN _ _ (dInl rfl) ?_; clear hN N)
    | ((with_reducible refine hN _ _ (.inr ?_) ?_);(focus (simp only [go_sem,↓reduceIte,Nat.reduceAdd,Nat.reduceSub,Nat.reduceMul,Nat.reduceLT,Nat.reduceLeDiff,Nat.reduceEqDiff,Nat.reduceGT,Int.reduceToNat,Int.reduceBEq,Int.reduceBNe];try simp (disch := omega) only [wrapI,wrapU,half_sum,toNat_sub1,toNat_add1,Int.toNat_natCast]));all_goals (try clear hN N))
    | with_reducible refine T_seq ?_|with_reducible refine T_block ?_|with_reducible refine T_ret ?_|with_reducible refine T_exit ?_|with_reducible refine T_skip ?_|with_reducible refine T_label ?_
    | with_reducible refine thenQ_n ?_|with_reducible refine thenQ_e ?_|with_reducible refine thenQ_r ?_|with_reducible refine blockQ_n ?_|with_reducible refine blockQ_e ?_|with_reducible refine blockQ_r ?_
    | with_reducible refine blockQ_o (by decide) ?_
    | ((with_reducible refine T_cond _ rfl (fun hb=>?_) (fun hb=>?_)) <;> first|(cases hb;done)|(simp only [decide_eq_true_eq,decide_eq_false_iff_not,Bool.and_eq_true,Bool.or_eq_true,Bool.and_eq_false_imp,Bool.or_eq_false_iff,Bool.not_eq_true',Bool.not_eq_false',beq_iff_eq,bne_iff_ne,ne_eq,beq_eq_false_iff_ne,bne_eq_false_iff_eq,Int.not_lt,Int.not_le,ge_iff_le,gt_iff_lt] at hb)|skip)
    | (with_reducible refine And.intro (by first | exact trivial | omega | (intro hg;simp at hg ⊢ <;> omega) | (simp <;> omega)) ?_)
    | assumption | omega)
    refine T_loopW (fun m st=>∃ i : Nat,i ≤ ids.length ∧ m + i = ids.length ∧ st = ⟨[.fn (.yield l) [] [],.optr 5 0 0,.optr 4 0 0] ++ List.replicate 5 .top ++ [its ids,.imm (.int .i64 ids.length),.imm (.int .i64 i)] ++ List.replicate 17 .top,
        [opO o, .box 49 (ogL o), sd0, .box 3 [.imm (.int .i64 (demK o.ps ids i))], .box 49 (ogL o), .box 26 [its ids],
          .ghost ([.top,its ids,.optr 1 0 0,.top,.optr 2 0 0,.optr 3 0 0] ++ List.replicate 17 .top) tc.toList lo hi ds,.raw l (.loop (r.at .ready none))]⟩)
      ids.length ⟨_, ?_, 0, by omega, rfl, rfl⟩ ?_
    · ((try simp only [List.length_append,List.length_cons,List.length_nil,Nat.zero_add]);refine Wk.intro [0,1,2,3,4,5,6,7] (by decide) (by decide) (by intro o ho;simp at ho ⊢ <;> omega) ?_ ?_ <;> repeat' (first|exact WkVL.nil|refine WkVL.cons ?_ ?_|exact WkV.top|exact WkV.imm rfl|exact WkV.imm (by simp)|exact WkV.optr rfl|exact WkV.own rfl (by simp)|exact WkV.nil_own (.inl rfl)|exact WkV.map rfl|(refine WkV.free ?_;simp [Free,FreeL] <;> assumption)|(refine WkV.free (fun _ _=>FreeL_nth ?_ _);simp [Free,FreeL];done)|refine WkV.agg ?_|refine WkV.tup ?_|refine WkV.fn ?_ ?_|exact WkO.dead|exact WkO.raw|refine WkO.ghost ?_|exact WkO.mpE rfl trivial|refine WkO.box ?_ rfl|refine WkO.arr ?_|refine And.intro ?_ (And.intro (by first|exact fun h=>h|exact fun _=>rfl|exact nofun) ?_)|exact trivial|(intro i j hi hj)))
    rintro m st ⟨i, g0, g1, rfl⟩
    have hd := demK_bd ho ids i
    by_cases hi : i < ids.length
    · have h1 := pipe_tc o (gL ids i) (by omega)
      have hw := (pip_ok ho (gL ids i)).2.1
      have hs : demK o.ps ids (i + 1) = demK o.ps ids i + (if (pipR o.ps (gL ids i)).2 = true then (pipR o.ps (gL ids i)).1.wind else 0) := rfl
      generalize demK o.ps ids i = dk at hd hs
      generalize pipR o.ps (gL ids i) = pp at h1 hs hw
      obtain ⟨x, ok⟩ := pp
      simp only [] at h1 hs hw
      cases ok with
      | true =>
        rw [if_pos rfl] at hs
        (simp only [go_sem,↓reduceIte,Nat.reduceAdd,Nat.reduceSub,Nat.reduceMul,Nat.reduceLT,Nat.reduceLeDiff,Nat.reduceEqDiff,Nat.reduceGT,Int.reduceToNat,Int.reduceBEq,Int.reduceBNe];try simp (disch := omega) only [wrapI,wrapU,half_sum,toNat_sub1,toNat_add1,Int.toNat_natCast])
        repeat' (first
    | (with_reducible refine hK _ ?_; clear hK K)
    | ((refine TO_yield hL 7 6 rfl rfl rfl (by first|exact Or.inl rfl|exact Or.inr rfl) rfl rfl rfl (by simp only [go_sem,and_self]) (fun ti lo' hi' ds'=>?_));try (simp only [go_sem,↓reduceIte,Nat.reduceAdd,Nat.reduceSub,Nat.reduceMul,Nat.reduceLT,Nat.reduceLeDiff,Nat.reduceEqDiff,Nat.reduceGT,Int.reduceToNat,Int.reduceBEq,Int.reduceBNe];try simp (disch := omega) only [wrapI,wrapU,half_sum,toNat_sub1,toNat_add1,Int.toNat_natCast]))
    | ((with_reducible refine assignQ_mk 7 (by with_unfolding_all rfl) ?_);try (simp only [go_sem,↓reduceIte,Nat.reduceAdd,Nat.reduceSub,Nat.reduceMul,Nat.reduceLT,Nat.reduceLeDiff,Nat.reduceEqDiff,Nat.reduceGT,Int.reduceToNat,Int.reduceBEq,Int.reduceBNe];try simp (disch := omega) only [wrapI,wrapU,half_sum,toNat_sub1,toNat_add1,Int.toNat_natCast]))
    | ((with_reducible first|refine roundQ_n 7 9 (by with_unfolding_all rfl) (by with_unfolding_all rfl) ?_|refine roundQ_r 7 9 (by with_unfolding_all rfl) (by with_unfolding_all rfl) ?_|refine roundQ_e 7 9 (by with_unfolding_all rfl) (by with_unfolding_all rfl) ?_);try (simp only [go_sem,↓reduceIte,Nat.reduceAdd,Nat.reduceSub,Nat.reduceMul,Nat.reduceLT,Nat.reduceLeDiff,Nat.reduceEqDiff,Nat.reduceGT,Int.reduceToNat,Int.reduceBEq,Int.reduceBNe];try simp (disch := omega) only [wrapI,wrapU,half_sum,toNat_sub1,toNat_add1,Int.toNat_natCast]))
    | ((with_reducible first|apply callGoal_lookA (h1)|apply dCall_lookA (h1));(case hC=>first|exact trivial|(simp only [go_sem,and_self];done)|(simp only [go_sem];omega));(case hc=>((repeat' (first|exact CvL.nil|exact Cv.nil_view|refine CvL.cons ?_ ?_|exact Cv.imm rfl|(refine Cv.free ?_;simp [Free,FreeL] <;> assumption)|(refine Cv.free (fun _ _=>FreeL_nth ?_ _);simp [Free,FreeL];done)|refine Cv.agg ?_|(apply Cv.own;(case hob=>(with_unfolding_all exact rfl));(case hz=>decide);(case hE=>(first|(intro _ _ _ _;rfl)|(intro i j hi hj;exact hv5 i j hi hj)|(intro i j hi hj;(rcases i with _ | _|i) <;> (rcases j with _ | _ | _ | _|j) <;> first|rfl|(exfalso;omega))));(case hf=>(intro _ _;simp;done)))|(refine Cv.pvE ?_ ?_ (by decide);(focus (first|(intro _ _ _ _;rfl)|(intro i j hi hj;exact hv5 i j hi hj)|(intro i j hi hj;(rcases i with _ | _|i) <;> (rcases j with _ | _ | _ | _|j) <;> first|rfl|(exfalso;omega))));(focus (intro _ _;simp;done)))|(apply Cv.ownS;(case hob=>(with_unfolding_all exact rfl));(case hz=>decide);(case hle=>(first|omega|(simp only [decide_eq_true_eq] at hg;omega)|(simp;omega)));(case hE=>(intro _ _ _ _;first|(rw [Nat.zero_add];done)|(rw [Nat.zero_add];rfl)|(simpa using hv1 _ _ (by assumption) (by assumption))|(simpa using hv2 _ _ (by assumption) (by assumption))|(simpa using hv3 _ _ (by assumption) (by assumption))|(simpa using hv4 _ _ (by assumption) (by assumption))));(case hf=>(intro _ _;simp;done)))|(refine Cv.viewE (by decide) ?_ ?_;(focus (intro _ _ _ _;first|rfl|(simpa using hv1 _ _ (by assumption) (by assumption))|(simpa using hv2 _ _ (by assumption) (by assumption))|(simpa using hv3 _ _ (by assumption) (by assumption))|(simpa using hv4 _ _ (by assumption) (by assumption))));(focus (intro _ _;simp;done)))|refine Cv.ptr (by with_unfolding_all rfl) (by with_unfolding_all rfl) ?_|refine Cv.fn ?_ ?_));done)))
    | ((with_reducible first|apply gC_lookA (fun hg=>(h1))|apply dCall_lookGA (fun hg=>(h1)));(case hC=>(intro hg;first|exact trivial|exact hg|(simp only [hg,and_self,implies_true];done)|(simp only [go_sem,hg,and_self,implies_true];done)));(case hc=>(intro hg;((repeat' (first|exact CvL.nil|exact Cv.nil_view|refine CvL.cons ?_ ?_|exact Cv.imm rfl|(refine Cv.free ?_;simp [Free,FreeL] <;> assumption)|(refine Cv.free (fun _ _=>FreeL_nth ?_ _);simp [Free,FreeL];done)|refine Cv.agg ?_|(apply Cv.own;(case hob=>(with_unfolding_all exact rfl));(case hz=>decide);(case hE=>(first|(intro _ _ _ _;rfl)|(intro i j hi hj;exact hv5 i j hi hj)|(intro i j hi hj;(rcases i with _ | _|i) <;> (rcases j with _ | _ | _ | _|j) <;> first|rfl|(exfalso;omega))));(case hf=>(intro _ _;simp;done)))|(refine Cv.pvE ?_ ?_ (by decide);(focus (first|(intro _ _ _ _;rfl)|(intro i j hi hj;exact hv5 i j hi hj)|(intro i j hi hj;(rcases i with _ | _|i) <;> (rcases j with _ | _ | _ | _|j) <;> first|rfl|(exfalso;omega))));(focus (intro _ _;simp;done)))|(apply Cv.ownS;(case hob=>(with_unfolding_all exact rfl));(case hz=>decide);(case hle=>(first|omega|(simp only [decide_eq_true_eq] at hg;omega)|(simp;omega)));(case hE=>(intro _ _ _ _;first|(rw [Nat.zero_add];done)|(rw [Nat.zero_add];rfl)|(simpa using hv1 _ _ (by assumption) (by assumption))|(simpa using hv2 _ _ (by assumption) (by assumption))|(simpa using hv3 _ _ (by assumption) (by assumption))|(simpa using hv4 _ _ (by assumption) (by assumption))));(case hf=>(intro _ _;simp;done)))|(refine Cv.viewE (by decide) ?_ ?_;(focus (intro _ _ _ _;first|rfl|(simpa using hv1 _ _ (by assumption) (by assumption))|(simpa using hv2 _ _ (by assumption) (by assumption))|(simpa using hv3 _ _ (by assumption) (by assumption))|(simpa using hv4 _ _ (by assumption) (by assumption))));(focus (intro _ _;simp;done)))|refine Cv.ptr (by with_unfolding_all rfl) (by with_unfolding_all rfl) ?_|refine Cv.fn ?_ ?_));done))))
    | ((with_reducible apply DC_call);(focus exact rfl);(focus exact rfl);(focus exact rfl);intro N hN;(simp only [go_sem,↓reduceIte,Nat.reduceAdd,Nat.reduceSub,Nat.reduceMul,Nat.reduceLT,Nat.reduceLeDiff,Nat.reduceEqDiff,Nat.reduceGT,Int.reduceToNat,Int.reduceBEq,Int.reduceBNe];try simp (disch := omega) only [wrapI,wrapU,half_sum,toNat_sub1,toNat_add1,Int.toNat_natCast]))
    | ((with_reducible first|refine T_seq_region Γ_ok (fun K hK=>?_)|refine T_last_region Γ_ok (fun K hK=>?_)|refine TO_callN rfl (fun N hN=>?_)|refine DCT_fork Γ_ok (fun K2 hK2=>?_)|refine DCT_last Γ_ok ?_|refine DC_ev Γ_ok ?_|refine TO_ev Γ_ok ?_|refine retQ_r ?_|refine retQ_n ?_);(simp only [go_sem,↓reduceIte,Nat.reduceAdd,Nat.reduceSub,Nat.reduceMul,Nat.reduceLT,Nat.reduceLeDiff,Nat.reduceEqDiff,Nat.reduceGT,Int.reduceToNat,Int.reduceBEq,Int.reduceBNe];try simp (disch := omega) only [wrapI,wrapU,half_sum,toNat_sub1,toNat_add1,Int.toNat_natCast]))
    | (with_reducible refine hK2 _ ?_ ?_ <;> clear hK2 K2)
    | with_reducible refine gC_false ?_ | with_reducible refine gC_true ?_ | with_reducible refine dCall_true ?_
    | (with_reducible refine hN _ _ ?_; clear hN N)
    | (with_reducible refine hN _ _ (dInl rfl) ?_; clear hN N)
    | ((with_reducible refine hN _ _ (.inr ?_) ?_);(focus (simp only [go_sem,↓reduceIte,Nat.reduceAdd,Nat.reduceSub,Nat.reduceMul,Nat.reduceLT,Nat.reduceLeDiff,Nat.reduceEqDiff,Nat.reduceGT,Int.reduceToNat,Int.reduceBEq,Int.reduceBNe];try simp (disch := omega) only [wrapI,wrapU,half_sum,toNat_sub1,toNat_add1,Int.toNat_natCast]));all_goals (try clear hN N))
    | with_reducible refine T_seq ?_|with_reducible refine T_block ?_|with_reducible refine T_ret ?_|with_reducible refine T_exit ?_|with_reducible refine T_skip ?_|with_reducible refine T_label ?_
    | with_reducible refine thenQ_n ?_|with_reducible refine thenQ_e ?_|with_reducible refine thenQ_r ?_|with_reducible refine blockQ_n ?_|with_reducible refine blockQ_e ?_|with_reducible refine blockQ_r ?_
    | with_reducible refine blockQ_o (by decide) ?_
    | ((with_reducible refine T_cond _ rfl (fun hb=>?_) (fun hb=>?_)) <;> first|(cases hb;done)|(simp only [decide_eq_true_eq,decide_eq_false_iff_not,Bool.and_eq_true,Bool.or_eq_true,Bool.and_eq_false_imp,Bool.or_eq_false_iff,Bool.not_eq_true',Bool.not_eq_false',beq_iff_eq,bne_iff_ne,ne_eq,beq_eq_false_iff_ne,bne_eq_false_iff_eq,Int.not_lt,Int.not_le,ge_iff_le,gt_iff_lt] at hb)|skip)
    | (with_reducible refine And.intro (by first | exact trivial | omega | (intro hg;simp at hg ⊢ <;> omega) | (simp <;> omega)) ?_)
    | assumption | omega)
        refine ⟨ids.length - (i + 1), by omega, _, ?_, i + 1, by omega, by omega, rfl⟩
        rw [hs]
        ((try simp only [List.length_append,List.length_cons,List.length_nil,Nat.zero_add]);refine Wk.intro [0,1,2,3,4,5,6,7] (by decide) (by decide) (by intro o ho;simp at ho ⊢ <;> omega) ?_ ?_ <;> repeat' (first|exact WkVL.nil|refine WkVL.cons ?_ ?_|exact WkV.top|exact WkV.imm rfl|exact WkV.imm (by simp)|exact WkV.optr rfl|exact WkV.own rfl (by simp)|exact WkV.nil_own (.inl rfl)|exact WkV.map rfl|(refine WkV.free ?_;simp [Free,FreeL] <;> assumption)|(refine WkV.free (fun _ _=>FreeL_nth ?_ _);simp [Free,FreeL];done)|refine WkV.agg ?_|refine WkV.tup ?_|refine WkV.fn ?_ ?_|exact WkO.dead|exact WkO.raw|refine WkO.ghost ?_|exact WkO.mpE rfl trivial|refine WkO.box ?_ rfl|refine WkO.arr ?_|refine And.intro ?_ (And.intro (by first|exact fun h=>h|exact fun _=>rfl|exact nofun) ?_)|exact trivial|(intro i j hi hj)))
      | false =>
        rw [if_neg (by simp), Int.add_zero] at hs
        (simp only [go_sem,↓reduceIte,Nat.reduceAdd,Nat.reduceSub,Nat.reduceMul,Nat.reduceLT,Nat.reduceLeDiff,Nat.reduceEqDiff,Nat.reduceGT,Int.reduceToNat,Int.reduceBEq,Int.reduceBNe];try simp (disch := omega) only [wrapI,wrapU,half_sum,toNat_sub1,toNat_add1,Int.toNat_natCast])
        (have cl1 := h1;((have sx1 : (0 : Nat) + 0 = 0 := rfl;refine goB1 _ _ _ _ _ _ _ _ ?_ ?_ ?_ ?_ ?_ ?_ ?_ ?_) <;> (repeat intro hb) <;> first | exact True.intro | refine Lf.mk ?_))
        refine ⟨ids.length - (i + 1), by omega, _, ?_, i + 1, by omega, by omega, rfl⟩
        rw [hs]
        ((try simp only [List.length_append,List.length_cons,List.length_nil,Nat.zero_add]);refine Wk.intro [0,1,2,3,4,5,6,7] (by decide) (by decide) (by intro o ho;simp at ho ⊢ <;> omega) ?_ ?_ <;> repeat' (first|exact WkVL.nil|refine WkVL.cons ?_ ?_|exact WkV.top|exact WkV.imm rfl|exact WkV.imm (by simp)|exact WkV.optr rfl|exact WkV.own rfl (by simp)|exact WkV.nil_own (.inl rfl)|exact WkV.map rfl|(refine WkV.free ?_;simp [Free,FreeL] <;> assumption)|(refine WkV.free (fun _ _=>FreeL_nth ?_ _);simp [Free,FreeL];done)|refine WkV.agg ?_|refine WkV.tup ?_|refine WkV.fn ?_ ?_|exact WkO.dead|exact WkO.raw|refine WkO.ghost ?_|exact WkO.mpE rfl trivial|refine WkO.box ?_ rfl|refine WkO.arr ?_|refine And.intro ?_ (And.intro (by first|exact fun h=>h|exact fun _=>rfl|exact nofun) ?_)|exact trivial|(intro i j hi hj)))
    · obtain rfl : i = ids.length := by omega
      (simp only [go_sem,↓reduceIte,Nat.reduceAdd,Nat.reduceSub,Nat.reduceMul,Nat.reduceLT,Nat.reduceLeDiff,Nat.reduceEqDiff,Nat.reduceGT,Int.reduceToNat,Int.reduceBEq,Int.reduceBNe];try simp (disch := omega) only [wrapI,wrapU,half_sum,toNat_sub1,toNat_add1,Int.toNat_natCast])
      repeat' (first
    | (with_reducible refine hK _ ?_; clear hK K)
    | ((with_reducible first|refine iterQ_r 7 6 (by with_unfolding_all rfl) (by with_unfolding_all rfl) ?_|refine iterQ_n 7 6 (by with_unfolding_all rfl) (by with_unfolding_all rfl) ?_|refine iterQ_rr 7 6 (by with_unfolding_all rfl) (by with_unfolding_all rfl) ?_|refine iterQ_nr 7 6 (by with_unfolding_all rfl) (by with_unfolding_all rfl) ?_|refine iterQ_re 7 6 (by with_unfolding_all rfl) (by with_unfolding_all rfl) ?_|refine iterQ_ne 7 6 (by with_unfolding_all rfl) (by with_unfolding_all rfl) ?_);try (simp only [go_sem,↓reduceIte,Nat.reduceAdd,Nat.reduceSub,Nat.reduceMul,Nat.reduceLT,Nat.reduceLeDiff,Nat.reduceEqDiff,Nat.reduceGT,Int.reduceToNat,Int.reduceBEq,Int.reduceBNe];try simp (disch := omega) only [wrapI,wrapU,half_sum,toNat_sub1,toNat_add1,Int.toNat_natCast]))
    | ((with_reducible first|refine retQM_r ?_|refine retQM_n ?_);try (simp only [go_sem,↓reduceIte,Nat.reduceAdd,Nat.reduceSub,Nat.reduceMul,Nat.reduceLT,Nat.reduceLeDiff,Nat.reduceEqDiff,Nat.reduceGT,Int.reduceToNat,Int.reduceBEq,Int.reduceBNe];try simp (disch := omega) only [wrapI,wrapU,half_sum,toNat_sub1,toNat_add1,Int.toNat_natCast]))
    | ((with_reducible apply DC_call);(focus exact rfl);(focus exact rfl);(focus exact rfl);intro N hN;(simp only [go_sem,↓reduceIte,Nat.reduceAdd,Nat.reduceSub,Nat.reduceMul,Nat.reduceLT,Nat.reduceLeDiff,Nat.reduceEqDiff,Nat.reduceGT,Int.reduceToNat,Int.reduceBEq,Int.reduceBNe];try simp (disch := omega) only [wrapI,wrapU,half_sum,toNat_sub1,toNat_add1,Int.toNat_natCast]))
    | ((with_reducible first|refine T_seq_region Γ_ok (fun K hK=>?_)|refine T_last_region Γ_ok (fun K hK=>?_)|refine TO_callN rfl (fun N hN=>?_)|refine DCT_fork Γ_ok (fun K2 hK2=>?_)|refine DCT_last Γ_ok ?_|refine DC_ev Γ_ok ?_|refine TO_ev Γ_ok ?_|refine retQ_r ?_|refine retQ_n ?_);(simp only [go_sem,↓reduceIte,Nat.reduceAdd,Nat.reduceSub,Nat.reduceMul,Nat.reduceLT,Nat.reduceLeDiff,Nat.reduceEqDiff,Nat.reduceGT,Int.reduceToNat,Int.reduceBEq,Int.reduceBNe];try simp (disch := omega) only [wrapI,wrapU,half_sum,toNat_sub1,toNat_add1,Int.toNat_natCast]))
    | (with_reducible refine hK2 _ ?_ ?_ <;> clear hK2 K2)
    | with_reducible refine gC_false ?_ | with_reducible refine gC_true ?_ | with_reducible refine dCall_true ?_
    | (with_reducible refine hN _ _ ?_; clear hN N)
    | (with_reducible refine hN _ _ (dInl rfl) ?_; clear hN N)
    | ((with_reducible refine hN _ _ (.inr ?_) ?_);(focus (simp only [go_sem,↓reduceIte,Nat.reduceAdd,Nat.reduceSub,Nat.reduceMul,Nat.reduceLT,Nat.reduceLeDiff,Nat.reduceEqDiff,Nat.reduceGT,Int.reduceToNat,Int.reduceBEq,Int.reduceBNe];try simp (disch := omega) only [wrapI,wrapU,half_sum,toNat_sub1,toNat_add1,Int.toNat_natCast]));all_goals (try clear hN N))
    | with_reducible refine T_seq ?_|with_reducible refine T_block ?_|with_reducible refine T_ret ?_|with_reducible refine T_exit ?_|with_reducible refine T_skip ?_|with_reducible refine T_label ?_
    | with_reducible refine thenQ_n ?_|with_reducible refine thenQ_e ?_|with_reducible refine thenQ_r ?_|with_reducible refine blockQ_n ?_|with_reducible refine blockQ_e ?_|with_reducible refine blockQ_r ?_
    | with_reducible refine blockQ_o (by decide) ?_
    | ((with_reducible refine T_cond _ rfl (fun hb=>?_) (fun hb=>?_)) <;> first|(cases hb;done)|(simp only [decide_eq_true_eq,decide_eq_false_iff_not,Bool.and_eq_true,Bool.or_eq_true,Bool.and_eq_false_imp,Bool.or_eq_false_iff,Bool.not_eq_true',Bool.not_eq_false',beq_iff_eq,bne_iff_ne,ne_eq,beq_eq_false_iff_ne,bne_eq_false_iff_eq,Int.not_lt,Int.not_le,ge_iff_le,gt_iff_lt] at hb)|skip)
    | (with_reducible refine And.intro (by first | exact trivial | omega | (intro hg;simp at hg ⊢ <;> omega) | (simp <;> omega)) ?_)
    | assumption | omega)
  · rw [h.1]
    exact WkV.free (by simp [Free, FreeL])
  · rw [h.2.1]
    (repeat' (first|(exact WkV.free (by simp [Free]))|exact WkVL.nil|refine WkVL.cons ?_ ?_|exact WkV.top|exact WkV.imm rfl|exact WkV.imm (by simp)|exact WkV.optr rfl|exact WkV.own rfl (by simp)|exact WkV.nil_own (.inl rfl)|exact WkV.map rfl|(refine WkV.free ?_;simp [Free,FreeL] <;> assumption)|(refine WkV.free (fun _ _=>FreeL_nth ?_ _);simp [Free,FreeL];done)|refine WkV.agg ?_|refine WkV.tup ?_|refine WkV.fn ?_ ?_|exact WkO.dead|exact WkO.raw|refine WkO.ghost ?_|exact WkO.mpE rfl trivial|refine WkO.box ?_ rfl|refine WkO.arr ?_|refine And.intro ?_ (And.intro (by first|exact fun h=>h|exact fun _=>rfl|exact nofun) ?_)|exact trivial|(intro i j hi hj)))
set_option maxRecDepth 100000 in
set_option maxHeartbeats 4000000 in
theorem together_tc2 (o : Og) (ids : List Int) (ho : ogB o = true) (hl : ids.length ≤ 1000) : TC Tryz.prog 98 [ogA o,its ids] [opO o,sd0] (fun v σ'=>v = sdA o ids (lacR o ids) ∧ σ' = [opO o,sd0]) := by
  have hps := (ogB_iff.1 ho).2.1
  have hsu := (ogB_iff.1 ho).2.2.1
  refine TC.weak (Q := fun u σ'=>u = sdA o ids (lacR o ids) ∧ nthO σ' 0 = opO o ∧ nthO σ' 1 = sd0 ∧ 1 < σ'.length) ?_ fun u σ' h=>⟨[0,1],_,[opO o,sd0],rfl,by simp,by have := h.2.2.2;simp;omega,?_,⟨?_,fun _=>by rw [h.2.1];rfl,?_,fun _=>by rw [h.2.2.1];rfl,trivial⟩,rfl,rfl⟩
  · unfold lacR
    (refine TC_of_TM Γ_ok Tryz.func98 rfl (by kernel_rfl) ?_;simp only [Tryz.ntmps98,Tryz.results98,List.length_cons,List.length_nil,Nat.reduceSub,Nat.reduceAdd,List.replicate,List.cons_append,List.nil_append])
    repeat' (first
    | (with_reducible refine hK _ ?_; clear hK K)
    | ((with_reducible first|refine retQM_r ?_|refine retQM_n ?_);try (simp only [go_sem,↓reduceIte,Nat.reduceAdd,Nat.reduceSub,Nat.reduceMul,Nat.reduceLT,Nat.reduceLeDiff,Nat.reduceEqDiff,Nat.reduceGT,Int.reduceToNat,Int.reduceBEq,Int.reduceBNe];try simp (disch := omega) only [wrapI,wrapU,half_sum,toNat_sub1,toNat_add1,Int.toNat_natCast]))
    | ((with_reducible refine callGoal_inline Γ_ok Tryz.func120 rfl (by kernel_rfl) (by first|exact trivial|(simp only [go_sem,and_self];done)|(simp only [go_sem];omega)) ?_);simp only [Tryz.ntmps120,Tryz.results120,List.length_cons,List.length_nil,Nat.reduceSub,Nat.reduceAdd,List.replicate,List.cons_append,List.nil_append])
    | ((refine T_rangeFunc (fnI := Tryz.f131) (.inl rfl) rfl trivial Tryz.func131 rfl (by kernel_rfl) rfl (fun l r tc lo hi ds hL=>?_));simp only [Tryz.ntmps131,List.length_cons,List.length_nil,Nat.reduceSub,Nat.reduceAdd,List.replicate,List.cons_append,List.nil_append];try (simp only [go_sem,↓reduceIte,Nat.reduceAdd,Nat.reduceSub,Nat.reduceMul,Nat.reduceLT,Nat.reduceLeDiff,Nat.reduceEqDiff,Nat.reduceGT,Int.reduceToNat,Int.reduceBEq,Int.reduceBNe];try simp (disch := omega) only [wrapI,wrapU,half_sum,toNat_sub1,toNat_add1,Int.toNat_natCast]))
    | ((with_reducible apply DC_call);(focus exact rfl);(focus exact rfl);(focus exact rfl);intro N hN;(simp only [go_sem,↓reduceIte,Nat.reduceAdd,Nat.reduceSub,Nat.reduceMul,Nat.reduceLT,Nat.reduceLeDiff,Nat.reduceEqDiff,Nat.reduceGT,Int.reduceToNat,Int.reduceBEq,Int.reduceBNe];try simp (disch := omega) only [wrapI,wrapU,half_sum,toNat_sub1,toNat_add1,Int.toNat_natCast]))
    | ((with_reducible first|refine T_seq_region Γ_ok (fun K hK=>?_)|refine T_last_region Γ_ok (fun K hK=>?_)|refine TO_callN rfl (fun N hN=>?_)|refine DCT_fork Γ_ok (fun K2 hK2=>?_)|refine DCT_last Γ_ok ?_|refine DC_ev Γ_ok ?_|refine TO_ev Γ_ok ?_|refine retQ_r ?_|refine retQ_n ?_);(simp only [go_sem,↓reduceIte,Nat.reduceAdd,Nat.reduceSub,Nat.reduceMul,Nat.reduceLT,Nat.reduceLeDiff,Nat.reduceEqDiff,Nat.reduceGT,Int.reduceToNat,Int.reduceBEq,Int.reduceBNe];try simp (disch := omega) only [wrapI,wrapU,half_sum,toNat_sub1,toNat_add1,Int.toNat_natCast]))
    | (with_reducible refine hK2 _ ?_ ?_ <;> clear hK2 K2)
    | with_reducible refine gC_false ?_ | with_reducible refine gC_true ?_ | with_reducible refine dCall_true ?_
    | (with_reducible refine hN _ _ ?_; clear hN N)
    | (with_reducible refine hN _ _ (dInl rfl) ?_; clear hN N)
    | ((with_reducible refine hN _ _ (.inr ?_) ?_);(focus (simp only [go_sem,↓reduceIte,Nat.reduceAdd,Nat.reduceSub,Nat.reduceMul,Nat.reduceLT,Nat.reduceLeDiff,Nat.reduceEqDiff,Nat.reduceGT,Int.reduceToNat,Int.reduceBEq,Int.reduceBNe];try simp (disch := omega) only [wrapI,wrapU,half_sum,toNat_sub1,toNat_add1,Int.toNat_natCast]));all_goals (try clear hN N))
    | with_reducible refine T_seq ?_|with_reducible refine T_block ?_|with_reducible refine T_ret ?_|with_reducible refine T_exit ?_|with_reducible refine T_skip ?_|with_reducible refine T_label ?_
    | with_reducible refine thenQ_n ?_|with_reducible refine thenQ_e ?_|with_reducible refine thenQ_r ?_|with_reducible refine blockQ_n ?_|with_reducible refine blockQ_e ?_|with_reducible refine blockQ_r ?_
    | with_reducible refine blockQ_o (by decide) ?_
    | ((with_reducible refine T_cond _ rfl (fun hb=>?_) (fun hb=>?_)) <;> first|(cases hb;done)|(simp only [decide_eq_true_eq,decide_eq_false_iff_not,Bool.and_eq_true,Bool.or_eq_true,Bool.and_eq_false_imp,Bool.or_eq_false_iff,Bool.not_eq_true',Bool.not_eq_false',beq_iff_eq,bne_iff_ne,ne_eq,beq_eq_false_iff_ne,bne_eq_false_iff_eq,Int.not_lt,Int.not_le,ge_iff_le,gt_iff_lt] at hb)|skip)
    | (with_reducible refine And.intro (by first | exact trivial | omega | (intro hg;simp at hg ⊢ <;> omega) | (simp <;> omega)) ?_)
    | assumption | omega)
    refine T_loopW (fun m st=>∃ i : Nat,i ≤ ids.length ∧ m + i = ids.length ∧ st = ⟨[.fn (.yield l) [] [],.optr 6 0 0,.optr 5 0 0] ++ List.replicate 5 .top ++ [its ids,.imm (.int .i64 ids.length),.imm (.int .i64 i)] ++ List.replicate 17 .top,
        [opO o,sd0,.box 49 (ogL o),sd0,.box 3 [.imm (.int .i64 (demK o.ps ids i))],.box 49 (ogL o),.box 26 [its ids],
          .ghost ([.top,its ids,.optr 2 0 0,.top,.optr 3 0 0,.optr 4 0 0] ++ List.replicate 17 .top) tc.toList lo hi ds,.raw l (.loop (r.at .ready none))]⟩)
      ids.length ⟨_, ?_, 0, by omega, rfl, rfl⟩ ?_
    · ((try simp only [List.length_append,List.length_cons,List.length_nil,Nat.zero_add]);refine Wk.intro [0,1,2,3,4,5,6,7,8] (by decide) (by decide) (by intro o ho;simp at ho ⊢ <;> omega) ?_ ?_ <;> repeat' (first|exact WkVL.nil|refine WkVL.cons ?_ ?_|exact WkV.top|exact WkV.imm rfl|exact WkV.imm (by simp)|exact WkV.optr rfl|exact WkV.own rfl (by simp)|exact WkV.nil_own (.inl rfl)|exact WkV.map rfl|(refine WkV.free ?_;simp [Free,FreeL] <;> assumption)|(refine WkV.free (fun _ _=>FreeL_nth ?_ _);simp [Free,FreeL];done)|refine WkV.agg ?_|refine WkV.tup ?_|refine WkV.fn ?_ ?_|exact WkO.dead|exact WkO.raw|refine WkO.ghost ?_|exact WkO.mpE rfl trivial|refine WkO.box ?_ rfl|refine WkO.arr ?_|refine And.intro ?_ (And.intro (by first|exact fun h=>h|exact fun _=>rfl|exact nofun) ?_)|exact trivial|(intro i j hi hj)))
    rintro m st ⟨i, g0, g1, rfl⟩
    have hd := demK_bd ho ids i
    by_cases hi : i < ids.length
    · have h1 := pipe_tc o (gL ids i) (by omega)
      have hw := (pip_ok ho (gL ids i)).2.1
      have hs : demK o.ps ids (i + 1) = demK o.ps ids i + (if (pipR o.ps (gL ids i)).2 = true then (pipR o.ps (gL ids i)).1.wind else 0) := rfl
      generalize demK o.ps ids i = dk at hd hs
      generalize pipR o.ps (gL ids i) = pp at h1 hs hw
      obtain ⟨x, ok⟩ := pp
      simp only [] at h1 hs hw
      cases ok with
      | true =>
        rw [if_pos rfl] at hs
        (simp only [go_sem,↓reduceIte,Nat.reduceAdd,Nat.reduceSub,Nat.reduceMul,Nat.reduceLT,Nat.reduceLeDiff,Nat.reduceEqDiff,Nat.reduceGT,Int.reduceToNat,Int.reduceBEq,Int.reduceBNe];try simp (disch := omega) only [wrapI,wrapU,half_sum,toNat_sub1,toNat_add1,Int.toNat_natCast])
        repeat' (first
    | (with_reducible refine hK _ ?_; clear hK K)
    | ((refine TO_yield hL 8 7 rfl rfl rfl (by first|exact Or.inl rfl|exact Or.inr rfl) rfl rfl rfl (by simp only [go_sem,and_self]) (fun ti lo' hi' ds'=>?_));try (simp only [go_sem,↓reduceIte,Nat.reduceAdd,Nat.reduceSub,Nat.reduceMul,Nat.reduceLT,Nat.reduceLeDiff,Nat.reduceEqDiff,Nat.reduceGT,Int.reduceToNat,Int.reduceBEq,Int.reduceBNe];try simp (disch := omega) only [wrapI,wrapU,half_sum,toNat_sub1,toNat_add1,Int.toNat_natCast]))
    | ((with_reducible refine assignQ_mk 8 (by with_unfolding_all rfl) ?_);try (simp only [go_sem,↓reduceIte,Nat.reduceAdd,Nat.reduceSub,Nat.reduceMul,Nat.reduceLT,Nat.reduceLeDiff,Nat.reduceEqDiff,Nat.reduceGT,Int.reduceToNat,Int.reduceBEq,Int.reduceBNe];try simp (disch := omega) only [wrapI,wrapU,half_sum,toNat_sub1,toNat_add1,Int.toNat_natCast]))
    | ((with_reducible first|refine roundQ_n 8 10 (by with_unfolding_all rfl) (by with_unfolding_all rfl) ?_|refine roundQ_r 8 10 (by with_unfolding_all rfl) (by with_unfolding_all rfl) ?_|refine roundQ_e 8 10 (by with_unfolding_all rfl) (by with_unfolding_all rfl) ?_);try (simp only [go_sem,↓reduceIte,Nat.reduceAdd,Nat.reduceSub,Nat.reduceMul,Nat.reduceLT,Nat.reduceLeDiff,Nat.reduceEqDiff,Nat.reduceGT,Int.reduceToNat,Int.reduceBEq,Int.reduceBNe];try simp (disch := omega) only [wrapI,wrapU,half_sum,toNat_sub1,toNat_add1,Int.toNat_natCast]))
    | ((with_reducible first|apply callGoal_lookA (h1)|apply dCall_lookA (h1));(case hC=>first|exact trivial|(simp only [go_sem,and_self];done)|(simp only [go_sem];omega));(case hc=>((repeat' (first|exact CvL.nil|exact Cv.nil_view|refine CvL.cons ?_ ?_|exact Cv.imm rfl|(refine Cv.free ?_;simp [Free,FreeL] <;> assumption)|(refine Cv.free (fun _ _=>FreeL_nth ?_ _);simp [Free,FreeL];done)|refine Cv.agg ?_|(apply Cv.own;(case hob=>(with_unfolding_all exact rfl));(case hz=>decide);(case hE=>(first|(intro _ _ _ _;rfl)|(intro i j hi hj;exact hv5 i j hi hj)|(intro i j hi hj;(rcases i with _ | _|i) <;> (rcases j with _ | _ | _ | _|j) <;> first|rfl|(exfalso;omega))));(case hf=>(intro _ _;simp;done)))|(refine Cv.pvE ?_ ?_ (by decide);(focus (first|(intro _ _ _ _;rfl)|(intro i j hi hj;exact hv5 i j hi hj)|(intro i j hi hj;(rcases i with _ | _|i) <;> (rcases j with _ | _ | _ | _|j) <;> first|rfl|(exfalso;omega))));(focus (intro _ _;simp;done)))|(apply Cv.ownS;(case hob=>(with_unfolding_all exact rfl));(case hz=>decide);(case hle=>(first|omega|(simp only [decide_eq_true_eq] at hg;omega)|(simp;omega)));(case hE=>(intro _ _ _ _;first|(rw [Nat.zero_add];done)|(rw [Nat.zero_add];rfl)|(simpa using hv1 _ _ (by assumption) (by assumption))|(simpa using hv2 _ _ (by assumption) (by assumption))|(simpa using hv3 _ _ (by assumption) (by assumption))|(simpa using hv4 _ _ (by assumption) (by assumption))));(case hf=>(intro _ _;simp;done)))|(refine Cv.viewE (by decide) ?_ ?_;(focus (intro _ _ _ _;first|rfl|(simpa using hv1 _ _ (by assumption) (by assumption))|(simpa using hv2 _ _ (by assumption) (by assumption))|(simpa using hv3 _ _ (by assumption) (by assumption))|(simpa using hv4 _ _ (by assumption) (by assumption))));(focus (intro _ _;simp;done)))|refine Cv.ptr (by with_unfolding_all rfl) (by with_unfolding_all rfl) ?_|refine Cv.fn ?_ ?_));done)))
    | ((with_reducible first|apply gC_lookA (fun hg=>(h1))|apply dCall_lookGA (fun hg=>(h1)));(case hC=>(intro hg;first|exact trivial|exact hg|(simp only [hg,and_self,implies_true];done)|(simp only [go_sem,hg,and_self,implies_true];done)));(case hc=>(intro hg;((repeat' (first|exact CvL.nil|exact Cv.nil_view|refine CvL.cons ?_ ?_|exact Cv.imm rfl|(refine Cv.free ?_;simp [Free,FreeL] <;> assumption)|(refine Cv.free (fun _ _=>FreeL_nth ?_ _);simp [Free,FreeL];done)|refine Cv.agg ?_|(apply Cv.own;(case hob=>(with_unfolding_all exact rfl));(case hz=>decide);(case hE=>(first|(intro _ _ _ _;rfl)|(intro i j hi hj;exact hv5 i j hi hj)|(intro i j hi hj;(rcases i with _ | _|i) <;> (rcases j with _ | _ | _ | _|j) <;> first|rfl|(exfalso;omega))));(case hf=>(intro _ _;simp;done)))|(refine Cv.pvE ?_ ?_ (by decide);(focus (first|(intro _ _ _ _;rfl)|(intro i j hi hj;exact hv5 i j hi hj)|(intro i j hi hj;(rcases i with _ | _|i) <;> (rcases j with _ | _ | _ | _|j) <;> first|rfl|(exfalso;omega))));(focus (intro _ _;simp;done)))|(apply Cv.ownS;(case hob=>(with_unfolding_all exact rfl));(case hz=>decide);(case hle=>(first|omega|(simp only [decide_eq_true_eq] at hg;omega)|(simp;omega)));(case hE=>(intro _ _ _ _;first|(rw [Nat.zero_add];done)|(rw [Nat.zero_add];rfl)|(simpa using hv1 _ _ (by assumption) (by assumption))|(simpa using hv2 _ _ (by assumption) (by assumption))|(simpa using hv3 _ _ (by assumption) (by assumption))|(simpa using hv4 _ _ (by assumption) (by assumption))));(case hf=>(intro _ _;simp;done)))|(refine Cv.viewE (by decide) ?_ ?_;(focus (intro _ _ _ _;first|rfl|(simpa using hv1 _ _ (by assumption) (by assumption))|(simpa using hv2 _ _ (by assumption) (by assumption))|(simpa using hv3 _ _ (by assumption) (by assumption))|(simpa using hv4 _ _ (by assumption) (by assumption))));(focus (intro _ _;simp;done)))|refine Cv.ptr (by with_unfolding_all rfl) (by with_unfolding_all rfl) ?_|refine Cv.fn ?_ ?_));done))))
    | ((with_reducible apply DC_call);(focus exact rfl);(focus exact rfl);(focus exact rfl);intro N hN;(simp only [go_sem,↓reduceIte,Nat.reduceAdd,Nat.reduceSub,Nat.reduceMul,Nat.reduceLT,Nat.reduceLeDiff,Nat.reduceEqDiff,Nat.reduceGT,Int.reduceToNat,Int.reduceBEq,Int.reduceBNe];try simp (disch := omega) only [wrapI,wrapU,half_sum,toNat_sub1,toNat_add1,Int.toNat_natCast]))
    | ((with_reducible first|refine T_seq_region Γ_ok (fun K hK=>?_)|refine T_last_region Γ_ok (fun K hK=>?_)|refine TO_callN rfl (fun N hN=>?_)|refine DCT_fork Γ_ok (fun K2 hK2=>?_)|refine DCT_last Γ_ok ?_|refine DC_ev Γ_ok ?_|refine TO_ev Γ_ok ?_|refine retQ_r ?_|refine retQ_n ?_);(simp only [go_sem,↓reduceIte,Nat.reduceAdd,Nat.reduceSub,Nat.reduceMul,Nat.reduceLT,Nat.reduceLeDiff,Nat.reduceEqDiff,Nat.reduceGT,Int.reduceToNat,Int.reduceBEq,Int.reduceBNe];try simp (disch := omega) only [wrapI,wrapU,half_sum,toNat_sub1,toNat_add1,Int.toNat_natCast]))
    | (with_reducible refine hK2 _ ?_ ?_ <;> clear hK2 K2)
    | with_reducible refine gC_false ?_ | with_reducible refine gC_true ?_ | with_reducible refine dCall_true ?_
    | (with_reducible refine hN _ _ ?_; clear hN N)
    | (with_reducible refine hN _ _ (dInl rfl) ?_; clear hN N)
    | ((with_reducible refine hN _ _ (.inr ?_) ?_);(focus (simp only [go_sem,↓reduceIte,Nat.reduceAdd,Nat.reduceSub,Nat.reduceMul,Nat.reduceLT,Nat.reduceLeDiff,Nat.reduceEqDiff,Nat.reduceGT,Int.reduceToNat,Int.reduceBEq,Int.reduceBNe];try simp (disch := omega) only [wrapI,wrapU,half_sum,toNat_sub1,toNat_add1,Int.toNat_natCast]));all_goals (try clear hN N))
    | with_reducible refine T_seq ?_|with_reducible refine T_block ?_|with_reducible refine T_ret ?_|with_reducible refine T_exit ?_|with_reducible refine T_skip ?_|with_reducible refine T_label ?_
    | with_reducible refine thenQ_n ?_|with_reducible refine thenQ_e ?_|with_reducible refine thenQ_r ?_|with_reducible refine blockQ_n ?_|with_reducible refine blockQ_e ?_|with_reducible refine blockQ_r ?_
    | with_reducible refine blockQ_o (by decide) ?_
    | ((with_reducible refine T_cond _ rfl (fun hb=>?_) (fun hb=>?_)) <;> first|(cases hb;done)|(simp only [decide_eq_true_eq,decide_eq_false_iff_not,Bool.and_eq_true,Bool.or_eq_true,Bool.and_eq_false_imp,Bool.or_eq_false_iff,Bool.not_eq_true',Bool.not_eq_false',beq_iff_eq,bne_iff_ne,ne_eq,beq_eq_false_iff_ne,bne_eq_false_iff_eq,Int.not_lt,Int.not_le,ge_iff_le,gt_iff_lt] at hb)|skip)
    | (with_reducible refine And.intro (by first | exact trivial | omega | (intro hg;simp at hg ⊢ <;> omega) | (simp <;> omega)) ?_)
    | assumption | omega)
        refine ⟨ids.length - (i + 1), by omega, _, ?_, i + 1, by omega, by omega, rfl⟩
        rw [hs]
        ((try simp only [List.length_append,List.length_cons,List.length_nil,Nat.zero_add]);refine Wk.intro [0,1,2,3,4,5,6,7,8] (by decide) (by decide) (by intro o ho;simp at ho ⊢ <;> omega) ?_ ?_ <;> repeat' (first|exact WkVL.nil|refine WkVL.cons ?_ ?_|exact WkV.top|exact WkV.imm rfl|exact WkV.imm (by simp)|exact WkV.optr rfl|exact WkV.own rfl (by simp)|exact WkV.nil_own (.inl rfl)|exact WkV.map rfl|(refine WkV.free ?_;simp [Free,FreeL] <;> assumption)|(refine WkV.free (fun _ _=>FreeL_nth ?_ _);simp [Free,FreeL];done)|refine WkV.agg ?_|refine WkV.tup ?_|refine WkV.fn ?_ ?_|exact WkO.dead|exact WkO.raw|refine WkO.ghost ?_|exact WkO.mpE rfl trivial|refine WkO.box ?_ rfl|refine WkO.arr ?_|refine And.intro ?_ (And.intro (by first|exact fun h=>h|exact fun _=>rfl|exact nofun) ?_)|exact trivial|(intro i j hi hj)))
      | false =>
        rw [if_neg (by simp), Int.add_zero] at hs
        (simp only [go_sem,↓reduceIte,Nat.reduceAdd,Nat.reduceSub,Nat.reduceMul,Nat.reduceLT,Nat.reduceLeDiff,Nat.reduceEqDiff,Nat.reduceGT,Int.reduceToNat,Int.reduceBEq,Int.reduceBNe];try simp (disch := omega) only [wrapI,wrapU,half_sum,toNat_sub1,toNat_add1,Int.toNat_natCast])
        (have cl1 := h1;((have sx1 : (0 : Nat) + 0 = 0 := rfl;refine goB1 _ _ _ _ _ _ _ _ ?_ ?_ ?_ ?_ ?_ ?_ ?_ ?_) <;> (repeat intro hb) <;> first | exact True.intro | refine Lf.mk ?_))
        refine ⟨ids.length - (i + 1), by omega, _, ?_, i + 1, by omega, by omega, rfl⟩
        rw [hs]
        ((try simp only [List.length_append,List.length_cons,List.length_nil,Nat.zero_add]);refine Wk.intro [0,1,2,3,4,5,6,7,8] (by decide) (by decide) (by intro o ho;simp at ho ⊢ <;> omega) ?_ ?_ <;> repeat' (first|exact WkVL.nil|refine WkVL.cons ?_ ?_|exact WkV.top|exact WkV.imm rfl|exact WkV.imm (by simp)|exact WkV.optr rfl|exact WkV.own rfl (by simp)|exact WkV.nil_own (.inl rfl)|exact WkV.map rfl|(refine WkV.free ?_;simp [Free,FreeL] <;> assumption)|(refine WkV.free (fun _ _=>FreeL_nth ?_ _);simp [Free,FreeL];done)|refine WkV.agg ?_|refine WkV.tup ?_|refine WkV.fn ?_ ?_|exact WkO.dead|exact WkO.raw|refine WkO.ghost ?_|exact WkO.mpE rfl trivial|refine WkO.box ?_ rfl|refine WkO.arr ?_|refine And.intro ?_ (And.intro (by first|exact fun h=>h|exact fun _=>rfl|exact nofun) ?_)|exact trivial|(intro i j hi hj)))
    · obtain rfl : i = ids.length := by omega
      (simp only [go_sem,↓reduceIte,Nat.reduceAdd,Nat.reduceSub,Nat.reduceMul,Nat.reduceLT,Nat.reduceLeDiff,Nat.reduceEqDiff,Nat.reduceGT,Int.reduceToNat,Int.reduceBEq,Int.reduceBNe];try simp (disch := omega) only [wrapI,wrapU,half_sum,toNat_sub1,toNat_add1,Int.toNat_natCast])
      repeat' (first
    | (with_reducible refine hK _ ?_; clear hK K)
    | ((with_reducible first|refine iterQ_r 8 7 (by with_unfolding_all rfl) (by with_unfolding_all rfl) ?_|refine iterQ_n 8 7 (by with_unfolding_all rfl) (by with_unfolding_all rfl) ?_|refine iterQ_rr 8 7 (by with_unfolding_all rfl) (by with_unfolding_all rfl) ?_|refine iterQ_nr 8 7 (by with_unfolding_all rfl) (by with_unfolding_all rfl) ?_|refine iterQ_re 8 7 (by with_unfolding_all rfl) (by with_unfolding_all rfl) ?_|refine iterQ_ne 8 7 (by with_unfolding_all rfl) (by with_unfolding_all rfl) ?_);try (simp only [go_sem,↓reduceIte,Nat.reduceAdd,Nat.reduceSub,Nat.reduceMul,Nat.reduceLT,Nat.reduceLeDiff,Nat.reduceEqDiff,Nat.reduceGT,Int.reduceToNat,Int.reduceBEq,Int.reduceBNe];try simp (disch := omega) only [wrapI,wrapU,half_sum,toNat_sub1,toNat_add1,Int.toNat_natCast]))
    | ((with_reducible first|refine retQM_r ?_|refine retQM_n ?_);try (simp only [go_sem,↓reduceIte,Nat.reduceAdd,Nat.reduceSub,Nat.reduceMul,Nat.reduceLT,Nat.reduceLeDiff,Nat.reduceEqDiff,Nat.reduceGT,Int.reduceToNat,Int.reduceBEq,Int.reduceBNe];try simp (disch := omega) only [wrapI,wrapU,half_sum,toNat_sub1,toNat_add1,Int.toNat_natCast]))
    | ((with_reducible apply DC_call);(focus exact rfl);(focus exact rfl);(focus exact rfl);intro N hN;(simp only [go_sem,↓reduceIte,Nat.reduceAdd,Nat.reduceSub,Nat.reduceMul,Nat.reduceLT,Nat.reduceLeDiff,Nat.reduceEqDiff,Nat.reduceGT,Int.reduceToNat,Int.reduceBEq,Int.reduceBNe];try simp (disch := omega) only [wrapI,wrapU,half_sum,toNat_sub1,toNat_add1,Int.toNat_natCast]))
    | ((with_reducible first|refine T_seq_region Γ_ok (fun K hK=>?_)|refine T_last_region Γ_ok (fun K hK=>?_)|refine TO_callN rfl (fun N hN=>?_)|refine DCT_fork Γ_ok (fun K2 hK2=>?_)|refine DCT_last Γ_ok ?_|refine DC_ev Γ_ok ?_|refine TO_ev Γ_ok ?_|refine retQ_r ?_|refine retQ_n ?_);(simp only [go_sem,↓reduceIte,Nat.reduceAdd,Nat.reduceSub,Nat.reduceMul,Nat.reduceLT,Nat.reduceLeDiff,Nat.reduceEqDiff,Nat.reduceGT,Int.reduceToNat,Int.reduceBEq,Int.reduceBNe];try simp (disch := omega) only [wrapI,wrapU,half_sum,toNat_sub1,toNat_add1,Int.toNat_natCast]))
    | (with_reducible refine hK2 _ ?_ ?_ <;> clear hK2 K2)
    | with_reducible refine gC_false ?_ | with_reducible refine gC_true ?_ | with_reducible refine dCall_true ?_
    | (with_reducible refine hN _ _ ?_; clear hN N)
    | (with_reducible refine hN _ _ (dInl rfl) ?_; clear hN N)
    | ((with_reducible refine hN _ _ (.inr ?_) ?_);(focus (simp only [go_sem,↓reduceIte,Nat.reduceAdd,Nat.reduceSub,Nat.reduceMul,Nat.reduceLT,Nat.reduceLeDiff,Nat.reduceEqDiff,Nat.reduceGT,Int.reduceToNat,Int.reduceBEq,Int.reduceBNe];try simp (disch := omega) only [wrapI,wrapU,half_sum,toNat_sub1,toNat_add1,Int.toNat_natCast]));all_goals (try clear hN N))
    | with_reducible refine T_seq ?_|with_reducible refine T_block ?_|with_reducible refine T_ret ?_|with_reducible refine T_exit ?_|with_reducible refine T_skip ?_|with_reducible refine T_label ?_
    | with_reducible refine thenQ_n ?_|with_reducible refine thenQ_e ?_|with_reducible refine thenQ_r ?_|with_reducible refine blockQ_n ?_|with_reducible refine blockQ_e ?_|with_reducible refine blockQ_r ?_
    | with_reducible refine blockQ_o (by decide) ?_
    | ((with_reducible refine T_cond _ rfl (fun hb=>?_) (fun hb=>?_)) <;> first|(cases hb;done)|(simp only [decide_eq_true_eq,decide_eq_false_iff_not,Bool.and_eq_true,Bool.or_eq_true,Bool.and_eq_false_imp,Bool.or_eq_false_iff,Bool.not_eq_true',Bool.not_eq_false',beq_iff_eq,bne_iff_ne,ne_eq,beq_eq_false_iff_ne,bne_eq_false_iff_eq,Int.not_lt,Int.not_le,ge_iff_le,gt_iff_lt] at hb)|skip)
    | (with_reducible refine And.intro (by first | exact trivial | omega | (intro hg;simp at hg ⊢ <;> omega) | (simp <;> omega)) ?_)
    | assumption | omega)
  · rw [h.1]
    exact WkV.free (by simp [Free, FreeL])
  · rw [h.2.1]
    (repeat' (first|(exact WkV.free (by simp [Free]))|exact WkVL.nil|refine WkVL.cons ?_ ?_|exact WkV.top|exact WkV.imm rfl|exact WkV.imm (by simp)|exact WkV.optr rfl|exact WkV.own rfl (by simp)|exact WkV.nil_own (.inl rfl)|exact WkV.map rfl|(refine WkV.free ?_;simp [Free,FreeL] <;> assumption)|(refine WkV.free (fun _ _=>FreeL_nth ?_ _);simp [Free,FreeL];done)|refine WkV.agg ?_|refine WkV.tup ?_|refine WkV.fn ?_ ?_|exact WkO.dead|exact WkO.raw|refine WkO.ghost ?_|exact WkO.mpE rfl trivial|refine WkO.box ?_ rfl|refine WkO.arr ?_|refine And.intro ?_ (And.intro (by first|exact fun h=>h|exact fun _=>rfl|exact nofun) ?_)|exact trivial|(intro i j hi hj)))
  · rw [h.2.2.1]
    (repeat' (first|(fail)|exact WkVL.nil|refine WkVL.cons ?_ ?_|exact WkV.top|exact WkV.imm rfl|exact WkV.imm (by simp)|exact WkV.optr rfl|exact WkV.own rfl (by simp)|exact WkV.nil_own (.inl rfl)|exact WkV.map rfl|(refine WkV.free ?_;simp [Free,FreeL] <;> assumption)|(refine WkV.free (fun _ _=>FreeL_nth ?_ _);simp [Free,FreeL];done)|refine WkV.agg ?_|refine WkV.tup ?_|refine WkV.fn ?_ ?_|exact WkO.dead|exact WkO.raw|refine WkO.ghost ?_|exact WkO.mpE rfl trivial|refine WkO.box ?_ rfl|refine WkO.arr ?_|refine And.intro ?_ (And.intro (by first|exact fun h=>h|exact fun _=>rfl|exact nofun) ?_)|exact trivial|(intro i j hi hj)))
end Go.Proofs.YtonmienclploaaaGreatDoor
namespace Go.Proofs.YtonmienclploaaaGreatDoor
open Go.Ab
def plK (o : Og) (ids : List Int) (vs : List P6) (w : Int) (k : Nat) : Int × Int :=
  witR ((gapR (pipR o.ps (gL ids k)).1.p (ofR (gV vs k)).1).1.1 + shR (pipR o.ps (gL ids k)).1 (lacR o ids) w) ((gapR (pipR o.ps (gL ids k)).1.p (ofR (gV vs k)).1).1.2 + shR (pipR o.ps (gL ids k)).1 (lacR o ids) w) (0 - o.tol * 10000) (o.tol * 10000)
def plBad (o : Og) (ids : List Int) (vs : List P6) (w : Int) (k : Nat) : Bool := !(decide ((plK o ids vs w k).2 = 0) && decide ((plK o ids vs w k).1 = 1))
def plB (o : Og) (ids : List Int) (vs : List P6) (w : Int) : Bool := decide (fstF (plBad o ids vs w) 0 ids.length = ids.length)
theorem gap_bd (p q : P6) : (-30000000000000 ≤ (gapR p q).1.1 ∧ (gapR p q).1.1 ≤ 30000000000000) ∧ (-30000000000000 ≤ (gapR p q).1.2 ∧ (gapR p q).1.2 ≤ 30000000000000) := by
  unfold gapR
  split
  · rename_i h
    have h1 := loS_bd (pOk_sub h.1 h.2) 6
    have h2 := hiS_bd (pOk_sub h.1 h.2) 6
    rw [loS_6] at h1
    rw [hiS_6] at h2
    simp only []
    omega
  · simp
theorem sh_bd {x : Pp} {n w : Int} (hx : PpOk x) (hn : 0 ≤ n ∧ n ≤ 1000000) (hw : -100 ≤ w ∧ w ≤ 100) : -110000000000000 ≤ shR x n w ∧ shR x n w ≤ 110000000000000 := by
  obtain ⟨_, _, h1, h2⟩ := hx
  have a1 := Int.mul_le_mul_of_nonneg_left hw.2 h2.1
  have a2 := Int.mul_le_mul_of_nonneg_left hw.1 h2.1
  have a3 := Int.mul_le_mul_of_nonneg_left hn.2 h1.1
  have a4 := Int.mul_nonneg h1.1 hn.1
  unfold shR
  omega
set_option maxRecDepth 100000 in
set_option maxHeartbeats 4000000 in
theorem plays_tc (o : Og) (ids : List Int) (vs : List P6) (w : Int) (ho : ogB o = true) (hl : ids.length ≤ 1000) (hv : ids.length ≤ vs.length) (hw : -100 ≤ w ∧ w ≤ 100) : Look Tryz.prog 167 [ogA o,its ids,vts vs,.imm (.int .i64 w)] (.imm (.bool (plB o ids vs w))) := by
  have hps := (ogB_iff.1 ho).2.1
  have hto := (ogB_iff.1 ho).2.2.2
  have ht := together_tc o ids ho hl
  have ht2 := together_tc2 o ids ho hl
  have hn := dem_nn ho ids hl
  refine Look.mk trivial ?_
  unfold plB
  generalize hr : fstF (plBad o ids vs w) 0 ids.length = r
  (refine TC_of_T Γ_ok Tryz.func167 rfl (by kernel_rfl) ?_;simp only [Tryz.ntmps167,Tryz.results167,List.length_cons,List.length_nil,Nat.reduceSub,Nat.reduceAdd,List.replicate,List.cons_append,List.nil_append])
  repeat' (first
    | (with_reducible refine hK _ ?_; clear hK K)
    | ((with_reducible refine dCall_tc ht ?_ ?_);(focus (first|exact trivial|(simp only [go_sem,and_self];done)|(simp only [go_sem];omega)));(simp only [go_sem,↓reduceIte,Nat.reduceAdd,Nat.reduceSub,Nat.reduceMul,Nat.reduceLT,Nat.reduceLeDiff,Nat.reduceEqDiff,Nat.reduceGT,Int.reduceToNat,Int.reduceBEq,Int.reduceBNe];try simp (disch := omega) only [wrapI,wrapU,half_sum,toNat_sub1,toNat_add1,Int.toNat_natCast]))
    | ((with_reducible refine dCall_tc ht2 ?_ ?_);(focus (first|exact trivial|(simp only [go_sem,and_self];done)|(simp only [go_sem];omega)));(simp only [go_sem,↓reduceIte,Nat.reduceAdd,Nat.reduceSub,Nat.reduceMul,Nat.reduceLT,Nat.reduceLeDiff,Nat.reduceEqDiff,Nat.reduceGT,Int.reduceToNat,Int.reduceBEq,Int.reduceBNe];try simp (disch := omega) only [wrapI,wrapU,half_sum,toNat_sub1,toNat_add1,Int.toNat_natCast]))
    | with_reducible refine T_seq_drawT (id := 1) Γ_ok drawsAny (.fork [(0,[],[]),(1,[],[]),(3,[],[]),(4,[3],[]),(5,[3,4],[])] (.last [(2,[0,1],[3,4,5]),(6,[],[0,1,3,4,5]),(7,[0,1,2,6],[3,4,5]),(8,[0,1,2,3,4,5,6,7],[])]) (.last [(6,[],[0,1,3,4,5]),(2,[0,1],[3,4,5]),(7,[0,1,2,6],[3,4,5]),(8,[0,1,2,3,4,5,6,7],[])])) (by kernel_rfl) (fun K hK=>?_)
    | with_reducible refine T_last_drawT (id := 1) Γ_ok drawsAny (.fork [(0,[],[]),(1,[],[]),(3,[],[]),(4,[3],[]),(5,[3,4],[])] (.last [(2,[0,1],[3,4,5]),(6,[],[0,1,3,4,5]),(7,[0,1,2,6],[3,4,5]),(8,[0,1,2,3,4,5,6,7],[])]) (.last [(6,[],[0,1,3,4,5]),(2,[0,1],[3,4,5]),(7,[0,1,2,6],[3,4,5]),(8,[0,1,2,3,4,5,6,7],[])])) (by kernel_rfl) (fun K hK=>?_)
    | ((with_reducible apply DC_call);(focus exact rfl);(focus exact rfl);(focus exact rfl);intro N hN;(simp only [go_sem,↓reduceIte,Nat.reduceAdd,Nat.reduceSub,Nat.reduceMul,Nat.reduceLT,Nat.reduceLeDiff,Nat.reduceEqDiff,Nat.reduceGT,Int.reduceToNat,Int.reduceBEq,Int.reduceBNe];try simp (disch := omega) only [wrapI,wrapU,half_sum,toNat_sub1,toNat_add1,Int.toNat_natCast]))
    | ((with_reducible first|refine T_seq_region Γ_ok (fun K hK=>?_)|refine T_last_region Γ_ok (fun K hK=>?_)|refine T_seq_draw (id := 8) Γ_ok drawsAny [(0,[],[]),(1,[],[]),(2,[],[]),(3,[],[]),(6,[],[]),(7,[6],[]),(8,[],[]),(4,[1,2,3],[0,6,7,8]),(5,[0,1,2,3,4],[6,7,8]),(9,[0,1,2,3,4,5,6,7,8],[]),(10,[0,1,2,3,4,5,6,7,8,9],[]),(11,[0,1,2,3,4,5,6,7,8,9,10],[]),(12,[0,1,2,3,4,5,6,7,8,9,10],[]),(13,[0,1,2,3,4,5,6,7,8,9,10,11],[]),(14,[0,1,2,3,4,5,6,7,8,9,10,11,12,13],[])] (by kernel_rfl) (fun K hK=>?_)|refine T_last_draw (id := 8) Γ_ok drawsAny [(0,[],[]),(1,[],[]),(2,[],[]),(3,[],[]),(6,[],[]),(7,[6],[]),(8,[],[]),(4,[1,2,3],[0,6,7,8]),(5,[0,1,2,3,4],[6,7,8]),(9,[0,1,2,3,4,5,6,7,8],[]),(10,[0,1,2,3,4,5,6,7,8,9],[]),(11,[0,1,2,3,4,5,6,7,8,9,10],[]),(12,[0,1,2,3,4,5,6,7,8,9,10],[]),(13,[0,1,2,3,4,5,6,7,8,9,10,11],[]),(14,[0,1,2,3,4,5,6,7,8,9,10,11,12,13],[])] (by kernel_rfl) (fun K hK=>?_)|refine TO_callN rfl (fun N hN=>?_)|refine DCT_fork Γ_ok (fun K2 hK2=>?_)|refine DCT_last Γ_ok ?_|refine DC_ev Γ_ok ?_|refine TO_ev Γ_ok ?_|refine retQ_r ?_|refine retQ_n ?_);(simp only [go_sem,↓reduceIte,Nat.reduceAdd,Nat.reduceSub,Nat.reduceMul,Nat.reduceLT,Nat.reduceLeDiff,Nat.reduceEqDiff,Nat.reduceGT,Int.reduceToNat,Int.reduceBEq,Int.reduceBNe];try simp (disch := omega) only [wrapI,wrapU,half_sum,toNat_sub1,toNat_add1,Int.toNat_natCast]))
    | (with_reducible refine hK2 _ ?_ ?_ <;> clear hK2 K2)
    | with_reducible refine gC_false ?_ | with_reducible refine gC_true ?_ | with_reducible refine dCall_true ?_
    | (with_reducible refine hN _ _ ?_; clear hN N)
    | (with_reducible refine hN _ _ (dInl rfl) ?_; clear hN N)
    | ((with_reducible refine hN _ _ (.inr ?_) ?_);(focus (simp only [go_sem,↓reduceIte,Nat.reduceAdd,Nat.reduceSub,Nat.reduceMul,Nat.reduceLT,Nat.reduceLeDiff,Nat.reduceEqDiff,Nat.reduceGT,Int.reduceToNat,Int.reduceBEq,Int.reduceBNe];try simp (disch := omega) only [wrapI,wrapU,half_sum,toNat_sub1,toNat_add1,Int.toNat_natCast]));all_goals (try clear hN N))
    | with_reducible refine T_seq ?_|with_reducible refine T_block ?_|with_reducible refine T_ret ?_|with_reducible refine T_exit ?_|with_reducible refine T_skip ?_|with_reducible refine T_label ?_
    | with_reducible refine thenQ_n ?_|with_reducible refine thenQ_e ?_|with_reducible refine thenQ_r ?_|with_reducible refine blockQ_n ?_|with_reducible refine blockQ_e ?_|with_reducible refine blockQ_r ?_
    | with_reducible refine blockQ_o (by decide) ?_
    | ((with_reducible refine T_cond _ rfl (fun hb=>?_) (fun hb=>?_)) <;> first|(cases hb;done)|(simp only [decide_eq_true_eq,decide_eq_false_iff_not,Bool.and_eq_true,Bool.or_eq_true,Bool.and_eq_false_imp,Bool.or_eq_false_iff,Bool.not_eq_true',Bool.not_eq_false',beq_iff_eq,bne_iff_ne,ne_eq,beq_eq_false_iff_ne,bne_eq_false_iff_eq,Int.not_lt,Int.not_le,ge_iff_le,gt_iff_lt] at hb)|skip)
    | (with_reducible refine And.intro (by first | exact trivial | omega | (intro hg;simp at hg ⊢ <;> omega) | (simp <;> omega)) ?_)
    | assumption | omega)
  all_goals
    refine T_loopW (fun m st=>∃ i : Nat,i ≤ ids.length ∧ m + i = ids.length ∧ fstF (plBad o ids vs w) i (ids.length - i) = r ∧ st = ⟨[.top,its ids,vts vs,.imm (.int .i64 w),.optr 0 0 0,.top,.top,.top,.top,.optr 1 0 0,.imm (.int .i64 (o.tol * 10000))] ++ List.replicate 16 .top ++ [its ids,.imm (.int .i64 ids.length),.imm (.int .i64 i)] ++ List.replicate 45 .top,
        [.box 49 (ogL o), .box 150 (cellsOf (sdA o ids (lacR o ids)))]⟩)
      ids.length ⟨_, ?_, 0, by omega, rfl, hr, rfl⟩ ?_
    · ((try simp only [List.length_append,List.length_cons,List.length_nil,Nat.zero_add]);refine Wk.intro [0,1] (by decide) (by decide) (by intro o ho;simp at ho ⊢ <;> omega) ?_ ?_ <;> repeat' (first|exact WkVL.nil|refine WkVL.cons ?_ ?_|exact WkV.top|exact WkV.imm rfl|exact WkV.imm (by simp)|exact WkV.optr rfl|exact WkV.own rfl (by simp)|exact WkV.nil_own (.inl rfl)|exact WkV.map rfl|(refine WkV.free ?_;simp [Free,FreeL] <;> assumption)|(refine WkV.free (fun _ _=>FreeL_nth ?_ _);simp [Free,FreeL];done)|refine WkV.agg ?_|refine WkV.tup ?_|refine WkV.fn ?_ ?_|exact WkO.dead|exact WkO.raw|refine WkO.ghost ?_|exact WkO.mpE rfl trivial|refine WkO.box ?_ rfl|refine WkO.arr ?_|refine And.intro ?_ (And.intro (by first|exact fun h=>h|exact fun _=>rfl|exact nofun) ?_)|exact trivial|(intro i j hi hj)))
    rintro m st ⟨i, g0, g1, g2, rfl⟩
    by_cases hi : i < ids.length
    · have h1 := pipe_tc o (gL ids i) (by omega)
      have h2 := of_tc (gV vs i)
      have hpo := pip_ok ho (gL ids i)
      have hpl : plK o ids vs w i = witR ((gapR (pipR o.ps (gL ids i)).1.p (ofR (gV vs i)).1).1.1 + shR (pipR o.ps (gL ids i)).1 (lacR o ids) w) ((gapR (pipR o.ps (gL ids i)).1.p (ofR (gV vs i)).1).1.2 + shR (pipR o.ps (gL ids i)).1 (lacR o ids) w) (0 - o.tol * 10000) (o.tol * 10000) := rfl
      generalize (pipR o.ps (gL ids i)).1 = x at h1 hpo hpl
      generalize (pipR o.ps (gL ids i)).2 = ok at h1
      generalize (ofR (gV vs i)).1 = q at h2 hpl
      generalize (ofR (gV vs i)).2 = e at h2
      have h3 := gap_tc x.p q
      have hgb := gap_bd x.p q
      generalize (gapR x.p q).1.1 = ga at h3 hgb hpl
      generalize (gapR x.p q).1.2 = gb at h3 hgb hpl
      have h4 := shift_tc o ids x _ w hpo hn hw
      have hsb := sh_bd hpo hn hw
      generalize shR x (lacR o ids) w = sh at h4 hpl hsb
      have h5 := moved_tc ga gb sh (by omega) (by omega) (by omega)
      have h6 := within_sz (ga + sh) (gb + sh) (0 - o.tol * 10000) (o.tol * 10000)
      rw [← hpl] at h6
      have hbd : plBad o ids vs w i = !(decide ((plK o ids vs w i).2 = 0) && decide ((plK o ids vs w i).1 = 1)) := rfl
      generalize (plK o ids vs w i).1 = wn at h6 hbd
      generalize (plK o ids vs w i).2 = we at h6 hbd
      (simp only [go_sem,↓reduceIte,Nat.reduceAdd,Nat.reduceSub,Nat.reduceMul,Nat.reduceLT,Nat.reduceLeDiff,Nat.reduceEqDiff,Nat.reduceGT,Int.reduceToNat,Int.reduceBEq,Int.reduceBNe];try simp (disch := omega) only [wrapI,wrapU,half_sum,toNat_sub1,toNat_add1,Int.toNat_natCast])
      (have cl1 := h1;have cl2 := h2;have cl3 := h3;have cl4 := h4;have cl5 := h5;have cl6 := h6;repeat' (first|with_reducible refine T_seq_drawT (id := 1) Γ_ok drawsAny pl167_1 (by kernel_rfl) (fun K hK=>?_)|with_reducible refine T_last_drawT (id := 1) Γ_ok drawsAny pl167_1 (by kernel_rfl) (fun K hK=>?_)|with_reducible refine T_seq_drawT (id := 8) Γ_ok drawsAny pl167_8 (by kernel_rfl) (fun K hK=>?_)|with_reducible refine T_last_drawT (id := 8) Γ_ok drawsAny pl167_8 (by kernel_rfl) (fun K hK=>?_)|((refine goR0 _ _ _ _ _ _ _ _ ?_ ?_ ?_ ?_ ?_ ?_ ?_ ?_) <;> (repeat intro hb) <;> first|exact True.intro|refine Lf.mk ?_)))
      · rw [fstF_yes (by rw [hbd]; simp; omega) (by omega)] at g2
        rw [decide_eq_false (show ¬ r = ids.length by omega)]
      · rw [show ids.length - i = ids.length - (i + 1) + 1 by omega, fstF_no (by rw [hbd]; simp; omega)] at g2
        refine ⟨ids.length - (i + 1), by omega, _, ?_, i + 1, by omega, by omega, g2, rfl⟩
        ((try simp only [List.length_append,List.length_cons,List.length_nil,Nat.zero_add]);refine Wk.intro [0,1] (by decide) (by decide) (by intro o ho;simp at ho ⊢ <;> omega) ?_ ?_ <;> repeat' (first|exact WkVL.nil|refine WkVL.cons ?_ ?_|exact WkV.top|exact WkV.imm rfl|exact WkV.imm (by simp)|exact WkV.optr rfl|exact WkV.own rfl (by simp)|exact WkV.nil_own (.inl rfl)|exact WkV.map rfl|(refine WkV.free ?_;simp [Free,FreeL] <;> assumption)|(refine WkV.free (fun _ _=>FreeL_nth ?_ _);simp [Free,FreeL];done)|refine WkV.agg ?_|refine WkV.tup ?_|refine WkV.fn ?_ ?_|exact WkO.dead|exact WkO.raw|refine WkO.ghost ?_|exact WkO.mpE rfl trivial|refine WkO.box ?_ rfl|refine WkO.arr ?_|refine And.intro ?_ (And.intro (by first|exact fun h=>h|exact fun _=>rfl|exact nofun) ?_)|exact trivial|(intro i j hi hj)))
    · (simp only [go_sem,↓reduceIte,Nat.reduceAdd,Nat.reduceSub,Nat.reduceMul,Nat.reduceLT,Nat.reduceLeDiff,Nat.reduceEqDiff,Nat.reduceGT,Int.reduceToNat,Int.reduceBEq,Int.reduceBNe];try simp (disch := omega) only [wrapI,wrapU,half_sum,toNat_sub1,toNat_add1,Int.toNat_natCast])
      (((refine goR0 _ _ _ _ _ _ _ _ ?_ ?_ ?_ ?_ ?_ ?_ ?_ ?_) <;> (repeat intro hb) <;> first | exact True.intro | refine Lf.mk ?_))
      rw [show ids.length - i = 0 by omega, fstF] at g2
      rw [decide_eq_true (show r = ids.length by omega)]
end Go.Proofs.YtonmienclploaaaGreatDoor
