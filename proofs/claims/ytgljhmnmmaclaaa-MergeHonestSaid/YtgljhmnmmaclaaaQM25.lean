/-
  The examples (head).
-/
import Derived.Test.YtgljhmnmmaclaaaQM21
import Derived.Test.YtgljhmnmmaclaaaQM10
set_option linter.unusedSimpArgs false
set_option linter.unusedVariables false
namespace Go.Proofs.Ytgljhmnmmaclaaa
open Go.Ab
def hA : En := ⟨1, 0, 1, 0, 2, [0, 1]⟩
def hB : En := ⟨1, 1, 1, 1, 2, [1, 2]⟩
def hC : En := ⟨2, 0, 0, 0, 1, [0, 1, 2]⟩
def hX : List Jn := [⟨0, [hA]⟩, ⟨1, [hA, hC]⟩]
def hY : List Jn := [⟨0, [hA]⟩, ⟨2, [hB, hC]⟩]
theorem jnOk_of {j : Jn} (h1 : j.e.length ≤ 9223372036854775807) (h2 : ∀ x ∈ j.e,x.v.length ≤ 9223372036854775807) : JnOk j := by
  refine ⟨h1, fun i => ?_⟩
  by_cases hi : i < j.e.length
  · exact h2 _ (ge_mem hi)
  · simp [ge, List.getElem?_eq_none (show j.e.length ≤ i by omega), en0]
theorem jsOk_of {l : List Jn} (h1 : l.length ≤ 9223372036854775807) (h2 : ∀ j ∈ l, JnOk j) : JsOk l := by
  refine ⟨h1, fun i => ?_⟩
  by_cases hi : i < l.length
  · exact h2 _ (by simp [gj, hi])
  · simp [gj, List.getElem?_eq_none (show l.length ≤ i by omega), jn0, JnOk, ge, en0]
theorem h_jok (d : Int) {l : List En} (h : l.length ≤ 9223372036854775807) (h2 : ∀ x ∈ l,x = hA ∨ x = hB ∨ x = hC) : JnOk ⟨d,l⟩ := by
  refine jnOk_of h fun x hx => ?_
  rcases h2 x hx with rfl | rfl | rfl <;> decide
theorem hX_ok : JsOk hX := by
  refine jsOk_of (by decide) fun j hj => ?_
  simp only [hX, List.mem_cons, List.not_mem_nil, or_false] at hj
  rcases hj with rfl | rfl
  · exact h_jok 0 (by decide) (by simp)
  · exact h_jok 1 (by decide) (by simp)
theorem hY_ok : JsOk hY := by
  refine jsOk_of (by decide) fun j hj => ?_
  simp only [hY, List.mem_cons, List.not_mem_nil, or_false] at hj
  rcases hj with rfl | rfl
  · exact h_jok 0 (by decide) (by simp)
  · exact h_jok 2 (by decide) (by simp)
theorem cls_X : clsL hX = [] := by
  have h := clsL_perm hX
  rw [show clA hX 0 hX = [] by decide +kernel] at h
  exact List.perm_nil.1 h
theorem cls_Y : clsL hY = [⟨1, 0, 1⟩] := by
  have h := clsL_perm hY
  rw [show clA hY 0 hY = [⟨1, 0, 1⟩] by decide +kernel] at h
  exact List.perm_singleton.1 h
theorem h_merge : Makes Try.prog 9 [.imm (.int .i64 3),jns hX] (.tup [.own 0 0 2 none,.imm (.int .i64 0)]) [tkO [⟨1,0,1,0⟩,⟨2,0,0,0⟩]] := by
  have h := merge_tc 3 hX hX_ok
  rw [show mrgR 3 hX = ([⟨1, 0, 1, 0⟩, ⟨2, 0, 0, 0⟩], 0) by unfold mrgR; rw [cls_X]; decide +kernel] at h
  exact h
theorem h_clash : Makes Try.prog 13 [.imm (.int .i64 3),jns hY] (.tup [.own 0 0 1 none,.imm (.int .i64 0)]) [elO 1 #[⟨1,0,1⟩]] := by
  have h := clashes_tc 3 hY hY_ok
  rw [show clsR 3 hY = ([⟨1, 0, 1⟩], 0) by unfold clsR; rw [cls_Y]; decide +kernel] at h
  exact h
theorem h_merge2 : Makes Try.prog 9 [.imm (.int .i64 3),jns hY] (.tup [.own 0 0 0 none,.imm (.int .i64 23)]) [tkO []] := by
  have h := merge_tc 3 hY hY_ok
  rw [show mrgR 3 hY = ([], 23) by unfold mrgR; rw [cls_Y]; decide +kernel] at h
  exact h
theorem h_liars : Makes Try.prog 10 [.imm (.int .i64 3),jns hY] (.tup [.own 0 0 1 none,.imm (.int .i64 0)]) [intO [1]] := by
  have h := liars_tc 3 hY hY_ok
  rw [show liaR 3 hY = ([1], 0) by unfold liaR; rw [cls_Y]; decide +kernel] at h
  exact h
theorem h_common : Makes Try.prog 14 [.imm (.int .i64 3),enA hA,enA hC] (.tup [.own 0 0 2 none,.imm (.int .i64 0)]) [intO [0,1]] := by
  have h := common_tc 3 hA hC (by decide) (by decide)
  rw [show comR 3 hA hC = ([0, 1], 0) by decide +kernel] at h
  exact h
theorem h_valid : Look Try.prog 8 [.imm (.int .i64 3), jnA ⟨1, [hA, hC]⟩] (.imm (.bool true)) := by
  have h := valid_tc 3 ⟨1,[hA,hC]⟩ (h_jok 1 (l := [hA,hC]) (by decide) (by simp)).1 (h_jok 1 (l := [hA,hC]) (by decide) (by simp)).2
  rwa [show jnB 3 ⟨1, [hA, hC]⟩ = true by decide +kernel] at h
theorem h_valid2 : Look Try.prog 8 [.imm (.int .i64 4), jnA ⟨0, [hA]⟩] (.imm (.bool false)) := by
  have h := valid_tc 4 ⟨0,[hA]⟩ (h_jok 0 (l := [hA]) (by decide) (by simp)).1 (h_jok 0 (l := [hA]) (by decide) (by simp)).2
  rwa [show jnB 4 ⟨0, [hA]⟩ = false by decide +kernel] at h
theorem h_sameT : Look Try.prog 11 [tks [⟨1,0,1,0⟩,⟨2,0,0,0⟩],tks [⟨1,0,1,0⟩,⟨2,0,0,0⟩]] (.imm (.bool true)) := by
  have h := sameT_tc [⟨1, 0, 1, 0⟩, ⟨2, 0, 0, 0⟩] [⟨1, 0, 1, 0⟩, ⟨2, 0, 0, 0⟩] (by decide) (by decide)
  rwa [decide_eq_true rfl] at h
theorem h_sameC : Look Try.prog 15 [cls [⟨1, 0, 1⟩], cls [⟨1, 0, 1⟩]] (.imm (.bool true)) := by
  have h := sameC_tc [⟨1, 0, 1⟩] [⟨1, 0, 1⟩] (by decide) (by decide)
  rwa [decide_eq_true rfl] at h
theorem h_ints1 : Look Try.prog 16 [ints [1], ints [1]] (.imm (.bool true)) := by
  have h := ints_tc [1] [1] (by decide) (by decide)
  rwa [decide_eq_true rfl] at h
theorem h_ints2 : Look Try.prog 16 [ints [0, 1], ints [0, 1]] (.imm (.bool true)) := by
  have h := ints_tc [0, 1] [0, 1] (by decide) (by decide)
  rwa [decide_eq_true rfl] at h
set_option maxRecDepth 100000 in
set_option maxHeartbeats 8000000 in
theorem head_tc : Look Try.prog 4 [] (.imm (.bool true)) := by
  refine Look.mk trivial ?_
  (refine TC_of_T Γ_ok Try.func4 rfl (by kernel_rfl) ?_;simp only [Try.ntmps4,Try.results4,List.length_cons,List.length_nil,Nat.reduceSub,Nat.reduceAdd,List.replicate,List.cons_append,List.nil_append])
  refine T_seq ?_
  repeat' (first
    | (with_reducible refine hK _ ?_; clear hK K)
    | ((with_reducible refine callGoal_inline Γ_ok Try.func12 rfl (by kernel_rfl) (by first|exact trivial|(simp only [go_sem,and_self];done)|(simp only [go_sem];omega)) ?_);simp only [Try.ntmps12,Try.results12,List.length_cons,List.length_nil,Nat.reduceSub,Nat.reduceAdd,List.replicate,List.cons_append,List.nil_append])
    | ((with_reducible refine callGoal_make trivial ?_ h_merge ?_);(focus ((repeat' (first|exact CvL.nil|refine CvL.cons ?_ ?_|exact Cv.imm rfl|(refine Cv.agg ?_)|(refine Cv.view (by with_unfolding_all rfl) (by first|trivial|decide|(simp;done)) (by decide) ?_;intro i j hi hj;have hi3 := Nat.lt_of_lt_of_le hi (show _ ≤ 3 by decide);((rcases i with _ | _ | _|i) <;> (rcases j with _ | _ | _ | _ | _ | _|j) <;> (first|(exfalso;omega)|(exfalso;clear hi3;revert hi;decide)|(clear hi3 hi hj))))));done));(simp only [go_sem,↓reduceIte,Nat.reduceAdd,Nat.reduceSub,Nat.reduceMul,Nat.reduceLT,Nat.reduceLeDiff,Nat.reduceEqDiff,Nat.reduceGT,Int.reduceToNat,Int.reduceBEq,Int.reduceBNe];try simp (disch := omega) only [wrapI,wrapU,half_sum,toNat_sub1,toNat_add1,Int.toNat_natCast]))
    | ((with_reducible refine callGoal_make trivial ?_ h_clash ?_);(focus ((repeat' (first|exact CvL.nil|refine CvL.cons ?_ ?_|exact Cv.imm rfl|(refine Cv.agg ?_)|(refine Cv.view (by with_unfolding_all rfl) (by first|trivial|decide|(simp;done)) (by decide) ?_;intro i j hi hj;have hi3 := Nat.lt_of_lt_of_le hi (show _ ≤ 3 by decide);((rcases i with _ | _ | _|i) <;> (rcases j with _ | _ | _ | _ | _ | _|j) <;> (first|(exfalso;omega)|(exfalso;clear hi3;revert hi;decide)|(clear hi3 hi hj))))));done));(simp only [go_sem,↓reduceIte,Nat.reduceAdd,Nat.reduceSub,Nat.reduceMul,Nat.reduceLT,Nat.reduceLeDiff,Nat.reduceEqDiff,Nat.reduceGT,Int.reduceToNat,Int.reduceBEq,Int.reduceBNe];try simp (disch := omega) only [wrapI,wrapU,half_sum,toNat_sub1,toNat_add1,Int.toNat_natCast]))
    | ((with_reducible refine callGoal_make trivial ?_ h_merge2 ?_);(focus ((repeat' (first|exact CvL.nil|refine CvL.cons ?_ ?_|exact Cv.imm rfl|(refine Cv.agg ?_)|(refine Cv.view (by with_unfolding_all rfl) (by first|trivial|decide|(simp;done)) (by decide) ?_;intro i j hi hj;have hi3 := Nat.lt_of_lt_of_le hi (show _ ≤ 3 by decide);((rcases i with _ | _ | _|i) <;> (rcases j with _ | _ | _ | _ | _ | _|j) <;> (first|(exfalso;omega)|(exfalso;clear hi3;revert hi;decide)|(clear hi3 hi hj))))));done));(simp only [go_sem,↓reduceIte,Nat.reduceAdd,Nat.reduceSub,Nat.reduceMul,Nat.reduceLT,Nat.reduceLeDiff,Nat.reduceEqDiff,Nat.reduceGT,Int.reduceToNat,Int.reduceBEq,Int.reduceBNe];try simp (disch := omega) only [wrapI,wrapU,half_sum,toNat_sub1,toNat_add1,Int.toNat_natCast]))
    | ((with_reducible refine callGoal_make trivial ?_ h_liars ?_);(focus ((repeat' (first|exact CvL.nil|refine CvL.cons ?_ ?_|exact Cv.imm rfl|(refine Cv.agg ?_)|(refine Cv.view (by with_unfolding_all rfl) (by first|trivial|decide|(simp;done)) (by decide) ?_;intro i j hi hj;have hi3 := Nat.lt_of_lt_of_le hi (show _ ≤ 3 by decide);((rcases i with _ | _ | _|i) <;> (rcases j with _ | _ | _ | _ | _ | _|j) <;> (first|(exfalso;omega)|(exfalso;clear hi3;revert hi;decide)|(clear hi3 hi hj))))));done));(simp only [go_sem,↓reduceIte,Nat.reduceAdd,Nat.reduceSub,Nat.reduceMul,Nat.reduceLT,Nat.reduceLeDiff,Nat.reduceEqDiff,Nat.reduceGT,Int.reduceToNat,Int.reduceBEq,Int.reduceBNe];try simp (disch := omega) only [wrapI,wrapU,half_sum,toNat_sub1,toNat_add1,Int.toNat_natCast]))
    | ((with_reducible refine callGoal_make trivial ?_ h_common ?_);(focus ((repeat' (first|exact CvL.nil|refine CvL.cons ?_ ?_|exact Cv.imm rfl|(refine Cv.agg ?_)|(refine Cv.view (by with_unfolding_all rfl) (by first|trivial|decide|(simp;done)) (by decide) ?_;intro i j hi hj;have hi3 := Nat.lt_of_lt_of_le hi (show _ ≤ 3 by decide);((rcases i with _ | _ | _|i) <;> (rcases j with _ | _ | _ | _ | _ | _|j) <;> (first|(exfalso;omega)|(exfalso;clear hi3;revert hi;decide)|(clear hi3 hi hj))))));done));(simp only [go_sem,↓reduceIte,Nat.reduceAdd,Nat.reduceSub,Nat.reduceMul,Nat.reduceLT,Nat.reduceLeDiff,Nat.reduceEqDiff,Nat.reduceGT,Int.reduceToNat,Int.reduceBEq,Int.reduceBNe];try simp (disch := omega) only [wrapI,wrapU,half_sum,toNat_sub1,toNat_add1,Int.toNat_natCast]))
    | ((with_reducible refine callGoal_look trivial ?_ h_sameT ?_);(focus ((repeat' (first|exact CvL.nil|refine CvL.cons ?_ ?_|exact Cv.imm rfl|(refine Cv.agg ?_)|(refine Cv.view (by with_unfolding_all rfl) (by first|trivial|decide|(simp;done)) (by decide) ?_;intro i j hi hj;have hi3 := Nat.lt_of_lt_of_le hi (show _ ≤ 3 by decide);((rcases i with _ | _ | _|i) <;> (rcases j with _ | _ | _ | _ | _ | _|j) <;> (first|(exfalso;omega)|(exfalso;clear hi3;revert hi;decide)|(clear hi3 hi hj))))));done));try (simp only [go_sem,↓reduceIte,Nat.reduceAdd,Nat.reduceSub,Nat.reduceMul,Nat.reduceLT,Nat.reduceLeDiff,Nat.reduceEqDiff,Nat.reduceGT,Int.reduceToNat,Int.reduceBEq,Int.reduceBNe];try simp (disch := omega) only [wrapI,wrapU,half_sum,toNat_sub1,toNat_add1,Int.toNat_natCast]))
    | ((with_reducible refine callGoal_look trivial ?_ h_sameC ?_);(focus ((repeat' (first|exact CvL.nil|refine CvL.cons ?_ ?_|exact Cv.imm rfl|(refine Cv.agg ?_)|(refine Cv.view (by with_unfolding_all rfl) (by first|trivial|decide|(simp;done)) (by decide) ?_;intro i j hi hj;have hi3 := Nat.lt_of_lt_of_le hi (show _ ≤ 3 by decide);((rcases i with _ | _ | _|i) <;> (rcases j with _ | _ | _ | _ | _ | _|j) <;> (first|(exfalso;omega)|(exfalso;clear hi3;revert hi;decide)|(clear hi3 hi hj))))));done));try (simp only [go_sem,↓reduceIte,Nat.reduceAdd,Nat.reduceSub,Nat.reduceMul,Nat.reduceLT,Nat.reduceLeDiff,Nat.reduceEqDiff,Nat.reduceGT,Int.reduceToNat,Int.reduceBEq,Int.reduceBNe];try simp (disch := omega) only [wrapI,wrapU,half_sum,toNat_sub1,toNat_add1,Int.toNat_natCast]))
    | ((with_reducible refine callGoal_look trivial ?_ h_ints1 ?_);(focus ((repeat' (first|exact CvL.nil|refine CvL.cons ?_ ?_|exact Cv.imm rfl|(refine Cv.agg ?_)|(refine Cv.view (by with_unfolding_all rfl) (by first|trivial|decide|(simp;done)) (by decide) ?_;intro i j hi hj;have hi3 := Nat.lt_of_lt_of_le hi (show _ ≤ 3 by decide);((rcases i with _ | _ | _|i) <;> (rcases j with _ | _ | _ | _ | _ | _|j) <;> (first|(exfalso;omega)|(exfalso;clear hi3;revert hi;decide)|(clear hi3 hi hj))))));done));try (simp only [go_sem,↓reduceIte,Nat.reduceAdd,Nat.reduceSub,Nat.reduceMul,Nat.reduceLT,Nat.reduceLeDiff,Nat.reduceEqDiff,Nat.reduceGT,Int.reduceToNat,Int.reduceBEq,Int.reduceBNe];try simp (disch := omega) only [wrapI,wrapU,half_sum,toNat_sub1,toNat_add1,Int.toNat_natCast]))
    | ((with_reducible refine callGoal_look trivial ?_ h_ints2 ?_);(focus ((repeat' (first|exact CvL.nil|refine CvL.cons ?_ ?_|exact Cv.imm rfl|(refine Cv.agg ?_)|(refine Cv.view (by with_unfolding_all rfl) (by first|trivial|decide|(simp;done)) (by decide) ?_;intro i j hi hj;have hi3 := Nat.lt_of_lt_of_le hi (show _ ≤ 3 by decide);((rcases i with _ | _ | _|i) <;> (rcases j with _ | _ | _ | _ | _ | _|j) <;> (first|(exfalso;omega)|(exfalso;clear hi3;revert hi;decide)|(clear hi3 hi hj))))));done));try (simp only [go_sem,↓reduceIte,Nat.reduceAdd,Nat.reduceSub,Nat.reduceMul,Nat.reduceLT,Nat.reduceLeDiff,Nat.reduceEqDiff,Nat.reduceGT,Int.reduceToNat,Int.reduceBEq,Int.reduceBNe];try simp (disch := omega) only [wrapI,wrapU,half_sum,toNat_sub1,toNat_add1,Int.toNat_natCast]))
    | ((with_reducible refine callGoal_look trivial ?_ h_valid ?_);(focus ((repeat' (first|exact CvL.nil|refine CvL.cons ?_ ?_|exact Cv.imm rfl|(refine Cv.agg ?_)|(refine Cv.view (by with_unfolding_all rfl) (by first|trivial|decide|(simp;done)) (by decide) ?_;intro i j hi hj;have hi3 := Nat.lt_of_lt_of_le hi (show _ ≤ 3 by decide);((rcases i with _ | _ | _|i) <;> (rcases j with _ | _ | _ | _ | _ | _|j) <;> (first|(exfalso;omega)|(exfalso;clear hi3;revert hi;decide)|(clear hi3 hi hj))))));done));try (simp only [go_sem,↓reduceIte,Nat.reduceAdd,Nat.reduceSub,Nat.reduceMul,Nat.reduceLT,Nat.reduceLeDiff,Nat.reduceEqDiff,Nat.reduceGT,Int.reduceToNat,Int.reduceBEq,Int.reduceBNe];try simp (disch := omega) only [wrapI,wrapU,half_sum,toNat_sub1,toNat_add1,Int.toNat_natCast]))
    | ((with_reducible refine callGoal_look trivial ?_ h_valid2 ?_);(focus ((repeat' (first|exact CvL.nil|refine CvL.cons ?_ ?_|exact Cv.imm rfl|(refine Cv.agg ?_)|(refine Cv.view (by with_unfolding_all rfl) (by first|trivial|decide|(simp;done)) (by decide) ?_;intro i j hi hj;have hi3 := Nat.lt_of_lt_of_le hi (show _ ≤ 3 by decide);((rcases i with _ | _ | _|i) <;> (rcases j with _ | _ | _ | _ | _ | _|j) <;> (first|(exfalso;omega)|(exfalso;clear hi3;revert hi;decide)|(clear hi3 hi hj))))));done));try (simp only [go_sem,↓reduceIte,Nat.reduceAdd,Nat.reduceSub,Nat.reduceMul,Nat.reduceLT,Nat.reduceLeDiff,Nat.reduceEqDiff,Nat.reduceGT,Int.reduceToNat,Int.reduceBEq,Int.reduceBNe];try simp (disch := omega) only [wrapI,wrapU,half_sum,toNat_sub1,toNat_add1,Int.toNat_natCast]))
    | ((with_reducible apply DC_call);(focus exact rfl);(focus exact rfl);(focus exact rfl);intro N hN;(simp only [go_sem,↓reduceIte,Nat.reduceAdd,Nat.reduceSub,Nat.reduceMul,Nat.reduceLT,Nat.reduceLeDiff,Nat.reduceEqDiff,Nat.reduceGT,Int.reduceToNat,Int.reduceBEq,Int.reduceBNe];try simp (disch := omega) only [wrapI,wrapU,half_sum,toNat_sub1,toNat_add1,Int.toNat_natCast]))
    | ((with_reducible first|refine T_seq_region Γ_ok (fun K hK=>?_)|refine T_last_region Γ_ok (fun K hK=>?_)|refine TO_callN rfl (fun N hN=>?_)|refine DCT_fork Γ_ok (fun K2 hK2=>?_)|refine DCT_last Γ_ok ?_|refine DC_ev Γ_ok ?_|refine TO_ev Γ_ok ?_|refine retQ_r ?_|refine retQ_n ?_);(simp only [go_sem,↓reduceIte,Nat.reduceAdd,Nat.reduceSub,Nat.reduceMul,Nat.reduceLT,Nat.reduceLeDiff,Nat.reduceEqDiff,Nat.reduceGT,Int.reduceToNat,Int.reduceBEq,Int.reduceBNe];try simp (disch := omega) only [wrapI,wrapU,half_sum,toNat_sub1,toNat_add1,Int.toNat_natCast]))
    | (with_reducible refine hK2 _ ?_ ?_ <;> clear hK2 K2)
    | with_reducible refine gC_false ?_ | with_reducible refine gC_true ?_ | with_reducible refine dCall_true ?_
    | (with_reducible refine hN _ _ ?_; clear hN N)
    | (with_reducible refine hN _ _ (dInl rfl) ?_; clear hN N)
    | ((with_reducible refine hN _ _ (.inr ?_) ?_);(focus (simp only [go_sem,↓reduceIte,Nat.reduceAdd,Nat.reduceSub,Nat.reduceMul,Nat.reduceLT,Nat.reduceLeDiff,Nat.reduceEqDiff,Nat.reduceGT,Int.reduceToNat,Int.reduceBEq,Int.reduceBNe];try simp (disch := omega) only [wrapI,wrapU,half_sum,toNat_sub1,toNat_add1,Int.toNat_natCast]));all_goals (try clear hN N))
    | with_reducible refine T_seq ?_|with_reducible refine T_block ?_|with_reducible refine T_ret ?_|with_reducible refine T_exit ?_|with_reducible refine T_skip ?_|with_reducible refine T_label ?_
    | with_reducible refine thenQ_n ?_|with_reducible refine thenQ_e ?_|with_reducible refine thenQ_r ?_|with_reducible refine blockQ_n ?_|with_reducible refine blockQ_e ?_|with_reducible refine blockQ_r ?_
    | with_reducible refine blockQ_o (by decide) ?_
    | ((with_reducible refine T_cond _ rfl (fun hb=>?_) (fun hb=>?_)) <;> first|(cases hb;done)|(simp only [decide_eq_true_eq,decide_eq_false_iff_not,Bool.and_eq_true,Bool.or_eq_true,Bool.and_eq_false_imp,Bool.or_eq_false_iff,Bool.not_eq_true',Bool.not_eq_false',beq_iff_eq,bne_iff_ne,ne_eq,beq_eq_false_iff_ne,bne_eq_false_iff_eq,Int.not_lt,Int.not_le,ge_iff_le,gt_iff_lt] at hb)|skip)
    | (with_reducible refine And.intro (by first | exact trivial | omega | (intro hg;simp at hg ⊢ <;> omega) | (simp <;> omega)) ?_)
    | assumption | omega)
end Go.Proofs.Ytgljhmnmmaclaaa
