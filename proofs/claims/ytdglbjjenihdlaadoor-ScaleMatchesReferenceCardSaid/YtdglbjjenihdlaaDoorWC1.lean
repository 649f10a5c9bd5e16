/-
  The examples (head).
-/
import Derived.Test.YtdglbjjenihdlaaDoorWQ7
import Derived.Test.YtdglbjjenihdlaaDoorWN18
import Derived.Test.YtdglbjjenihdlaaDoorWN21
import Derived.Test.YtdglbjjenihdlaaDoorWN23
set_option linter.unusedSimpArgs false
set_option linter.unusedVariables false
namespace Go.Proofs.YtdglbjjenihdlaaDoor
open Go.Ab
def S3 : List P6 := [z6, ⟨-36, 24, 0, 0, 0, 0⟩, ⟨-12, 12, 0, 0, 0, 0⟩]
theorem S3_ok : SclOk S3 where
  ne := by decide
  len := by decide
  zero := rfl
  step := fun i hi => by
    have h3 : S3.length = 3 := rfl
    match i, (show i < 2 by omega) with
    | 0, _ => decide +kernel
    | 1, _ => decide +kernel
  last := by decide +kernel
theorem k1 : octR ⟨0, 12, 0, 0, 0, 0⟩ = (⟨-12, 12, 0, 0, 0, 0⟩, 1, 0) := by decide +kernel
theorem k2 : octR ⟨0, -12, 0, 0, 0, 0⟩ = (⟨24, -12, 0, 0, 0, 0⟩, -2, 0) := by decide +kernel
theorem k3 : chR ⟨-12, 12, 0, 0, 0, 0⟩ 3 = (S3, 0) := by decide +kernel
theorem k4 : chR ⟨12, 0, 0, 0, 0, 0⟩ 2 = ([], 5) := by decide +kernel
theorem k5 : ¬ SclOk [] := fun h => h.ne rfl
theorem k6 : ¬ SclOk [z6, ⟨12, 0, 0, 0, 0, 0⟩] := fun h => absurd h.last (by decide +kernel)
def St3 : List P6 := [⟨-36, 24, 0, 0, 0, 0⟩, ⟨24, -12, 0, 0, 0, 0⟩, ⟨24, -12, 0, 0, 0, 0⟩]
def Md3 : List P6 := [z6, ⟨24, -12, 0, 0, 0, 0⟩, ⟨48, -24, 0, 0, 0, 0⟩]
theorem k7 : stepsR S3 = (St3, 0) := by
  unfold stepsR
  rw [tf_t S3_ok, if_pos rfl]
  decide +kernel
theorem k8 : modeR S3 1 = (Md3, 0) := by
  unfold modeR
  rw [tf_t S3_ok, if_pos ⟨rfl, by decide⟩]
  decide +kernel
theorem k9 : nearR S3 ⟨0, -12, 12, 0, 0, 0⟩ = (2, 0, 0) := by
  unfold nearR
  rw [tf_t S3_ok, if_pos rfl]
  decide +kernel
theorem k10 : nearR S3 ⟨-36, 12, 12, 0, 0, 0⟩ = (0, 1, 0) := by
  unfold nearR
  rw [tf_t S3_ok, if_pos rfl]
  decide +kernel
theorem k11 : degR S3 ⟨-12, 24, 0, 0, 0, 0⟩ = (1, 2, 0) := by
  unfold degR
  rw [tf_t S3_ok, if_pos rfl]
  decide +kernel
theorem k12 : degR S3 ⟨1, 0, 0, 0, 0, 0⟩ = (0, 0, 4) := by
  unfold degR
  rw [tf_t S3_ok, if_pos rfl]
  decide +kernel
theorem h_same (a : List P6) (h : a.length ≤ 9223372036854775807) : Look Tryd.prog 16 [pts a,pts a] (.imm (.bool true)) := by
  have c := rsame_tc a a h h
  rwa [decide_eq_true rfl] at c
set_option maxRecDepth 100000 in
set_option maxHeartbeats 8000000 in
theorem head_tc : Look Tryd.prog 11 [] (.imm (.bool true)) := by
  refine Look.mk trivial ?_
  have o1 := octave_tc ⟨0, 12, 0, 0, 0, 0⟩
  have o2 := octave_tc ⟨0, -12, 0, 0, 0, 0⟩
  have m1 := chain_mk ⟨-12, 12, 0, 0, 0, 0⟩ 3
  have m2 := chain_mk ⟨12, 0, 0, 0, 0, 0⟩ 2
  have v1 := svalid_tc S3 (by decide)
  have v2 := svalid_tc [] (by decide)
  have v3 := svalid_tc [z6, ⟨12, 0, 0, 0, 0, 0⟩] (by decide)
  have t1 := steps_mk S3 (by decide)
  have d1 := mode_mk S3 (by decide) 1
  have s1 := h_same S3 (by decide)
  have s2 := h_same St3 (by decide)
  have s3 := h_same Md3 (by decide)
  have n1 := nearest_tc S3 ⟨0, -12, 12, 0, 0, 0⟩ (by decide)
  have n2 := nearest_tc S3 ⟨-36, 12, 12, 0, 0, 0⟩ (by decide)
  have g1 := degree_tc S3 ⟨-12, 24, 0, 0, 0, 0⟩ (by decide)
  have g2 := degree_tc S3 ⟨1, 0, 0, 0, 0, 0⟩ (by decide)
  rw [k1] at o1
  rw [k2] at o2
  rw [k3] at m1
  rw [k4] at m2
  rw [tf_t S3_ok] at v1
  rw [tf_f k5] at v2
  rw [tf_f k6] at v3
  rw [k7] at t1
  rw [k8] at d1
  rw [k9] at n1
  rw [k10] at n2
  rw [k11] at g1
  rw [k12] at g2
  (refine TC_of_T Γ_ok Tryd.func11 rfl (by kernel_rfl) ?_;simp only [Tryd.ntmps11,Tryd.results11,List.length_cons,List.length_nil,Nat.reduceSub,Nat.reduceAdd,List.replicate,List.cons_append,List.nil_append])
  repeat' (first
    | (with_reducible refine hK _ ?_; clear hK K)
    | ((with_reducible first|refine callGoal_look trivial ?_ (o1) ?_|refine dCall_look trivial ?_ (o1) ?_);(focus ((repeat' (first|exact CvL.nil|refine CvL.cons ?_ ?_|exact Cv.imm rfl|exact Cv.nil_view|refine Cv.agg ?_|(apply Cv.own;(case hob=>(with_unfolding_all exact rfl));(case hz=>decide);(case hE=>(intro i j hi hj;(rcases i with _ | _ | _|i) <;> (rcases j with _ | _ | _ | _ | _ | _|j) <;> first|rfl|(exfalso;omega)));(case hf=>(intro _ _;simp;done)))|(refine Cv.pvE ?_ ?_ (by decide);(focus (intro i j hi hj;(rcases i with _ | _ | _|i) <;> (rcases j with _ | _ | _ | _ | _ | _|j) <;> first|rfl|(exfalso;omega)));(focus (intro _ _;simp;done)))));done));try (simp only [go_sem,↓reduceIte,Nat.reduceAdd,Nat.reduceSub,Nat.reduceMul,Nat.reduceLT,Nat.reduceLeDiff,Nat.reduceEqDiff,Nat.reduceGT,Int.reduceToNat,Int.reduceBEq,Int.reduceBNe];try simp (disch := omega) only [wrapI,wrapU,half_sum,toNat_sub1,toNat_add1,Int.toNat_natCast]))
    | ((with_reducible first|refine callGoal_look trivial ?_ (o2) ?_|refine dCall_look trivial ?_ (o2) ?_);(focus ((repeat' (first|exact CvL.nil|refine CvL.cons ?_ ?_|exact Cv.imm rfl|exact Cv.nil_view|refine Cv.agg ?_|(apply Cv.own;(case hob=>(with_unfolding_all exact rfl));(case hz=>decide);(case hE=>(intro i j hi hj;(rcases i with _ | _ | _|i) <;> (rcases j with _ | _ | _ | _ | _ | _|j) <;> first|rfl|(exfalso;omega)));(case hf=>(intro _ _;simp;done)))|(refine Cv.pvE ?_ ?_ (by decide);(focus (intro i j hi hj;(rcases i with _ | _ | _|i) <;> (rcases j with _ | _ | _ | _ | _ | _|j) <;> first|rfl|(exfalso;omega)));(focus (intro _ _;simp;done)))));done));try (simp only [go_sem,↓reduceIte,Nat.reduceAdd,Nat.reduceSub,Nat.reduceMul,Nat.reduceLT,Nat.reduceLeDiff,Nat.reduceEqDiff,Nat.reduceGT,Int.reduceToNat,Int.reduceBEq,Int.reduceBNe];try simp (disch := omega) only [wrapI,wrapU,half_sum,toNat_sub1,toNat_add1,Int.toNat_natCast]))
    | ((with_reducible first|refine callGoal_make trivial ?_ (m1) ?_|refine dCall_make trivial ?_ (m1) ?_);(focus ((repeat' (first|exact CvL.nil|refine CvL.cons ?_ ?_|exact Cv.imm rfl|exact Cv.nil_view|refine Cv.agg ?_|(apply Cv.own;(case hob=>(with_unfolding_all exact rfl));(case hz=>decide);(case hE=>(intro i j hi hj;(rcases i with _ | _ | _|i) <;> (rcases j with _ | _ | _ | _ | _ | _|j) <;> first|rfl|(exfalso;omega)));(case hf=>(intro _ _;simp;done)))|(refine Cv.pvE ?_ ?_ (by decide);(focus (intro i j hi hj;(rcases i with _ | _ | _|i) <;> (rcases j with _ | _ | _ | _ | _ | _|j) <;> first|rfl|(exfalso;omega)));(focus (intro _ _;simp;done)))));done));try (simp only [go_sem,↓reduceIte,Nat.reduceAdd,Nat.reduceSub,Nat.reduceMul,Nat.reduceLT,Nat.reduceLeDiff,Nat.reduceEqDiff,Nat.reduceGT,Int.reduceToNat,Int.reduceBEq,Int.reduceBNe];try simp (disch := omega) only [wrapI,wrapU,half_sum,toNat_sub1,toNat_add1,Int.toNat_natCast]))
    | ((with_reducible first|refine callGoal_make trivial ?_ (m2) ?_|refine dCall_make trivial ?_ (m2) ?_);(focus ((repeat' (first|exact CvL.nil|refine CvL.cons ?_ ?_|exact Cv.imm rfl|exact Cv.nil_view|refine Cv.agg ?_|(apply Cv.own;(case hob=>(with_unfolding_all exact rfl));(case hz=>decide);(case hE=>(intro i j hi hj;(rcases i with _ | _ | _|i) <;> (rcases j with _ | _ | _ | _ | _ | _|j) <;> first|rfl|(exfalso;omega)));(case hf=>(intro _ _;simp;done)))|(refine Cv.pvE ?_ ?_ (by decide);(focus (intro i j hi hj;(rcases i with _ | _ | _|i) <;> (rcases j with _ | _ | _ | _ | _ | _|j) <;> first|rfl|(exfalso;omega)));(focus (intro _ _;simp;done)))));done));try (simp only [go_sem,↓reduceIte,Nat.reduceAdd,Nat.reduceSub,Nat.reduceMul,Nat.reduceLT,Nat.reduceLeDiff,Nat.reduceEqDiff,Nat.reduceGT,Int.reduceToNat,Int.reduceBEq,Int.reduceBNe];try simp (disch := omega) only [wrapI,wrapU,half_sum,toNat_sub1,toNat_add1,Int.toNat_natCast]))
    | ((with_reducible first|refine callGoal_make trivial ?_ (t1) ?_|refine dCall_make trivial ?_ (t1) ?_);(focus ((repeat' (first|exact CvL.nil|refine CvL.cons ?_ ?_|exact Cv.imm rfl|exact Cv.nil_view|refine Cv.agg ?_|(apply Cv.own;(case hob=>(with_unfolding_all exact rfl));(case hz=>decide);(case hE=>(intro i j hi hj;(rcases i with _ | _ | _|i) <;> (rcases j with _ | _ | _ | _ | _ | _|j) <;> first|rfl|(exfalso;omega)));(case hf=>(intro _ _;simp;done)))|(refine Cv.pvE ?_ ?_ (by decide);(focus (intro i j hi hj;(rcases i with _ | _ | _|i) <;> (rcases j with _ | _ | _ | _ | _ | _|j) <;> first|rfl|(exfalso;omega)));(focus (intro _ _;simp;done)))));done));try (simp only [go_sem,↓reduceIte,Nat.reduceAdd,Nat.reduceSub,Nat.reduceMul,Nat.reduceLT,Nat.reduceLeDiff,Nat.reduceEqDiff,Nat.reduceGT,Int.reduceToNat,Int.reduceBEq,Int.reduceBNe];try simp (disch := omega) only [wrapI,wrapU,half_sum,toNat_sub1,toNat_add1,Int.toNat_natCast]))
    | ((with_reducible first|refine callGoal_make trivial ?_ (d1) ?_|refine dCall_make trivial ?_ (d1) ?_);(focus ((repeat' (first|exact CvL.nil|refine CvL.cons ?_ ?_|exact Cv.imm rfl|exact Cv.nil_view|refine Cv.agg ?_|(apply Cv.own;(case hob=>(with_unfolding_all exact rfl));(case hz=>decide);(case hE=>(intro i j hi hj;(rcases i with _ | _ | _|i) <;> (rcases j with _ | _ | _ | _ | _ | _|j) <;> first|rfl|(exfalso;omega)));(case hf=>(intro _ _;simp;done)))|(refine Cv.pvE ?_ ?_ (by decide);(focus (intro i j hi hj;(rcases i with _ | _ | _|i) <;> (rcases j with _ | _ | _ | _ | _ | _|j) <;> first|rfl|(exfalso;omega)));(focus (intro _ _;simp;done)))));done));try (simp only [go_sem,↓reduceIte,Nat.reduceAdd,Nat.reduceSub,Nat.reduceMul,Nat.reduceLT,Nat.reduceLeDiff,Nat.reduceEqDiff,Nat.reduceGT,Int.reduceToNat,Int.reduceBEq,Int.reduceBNe];try simp (disch := omega) only [wrapI,wrapU,half_sum,toNat_sub1,toNat_add1,Int.toNat_natCast]))
    | ((with_reducible first|refine callGoal_look trivial ?_ (v1) ?_|refine dCall_look trivial ?_ (v1) ?_);(focus ((repeat' (first|exact CvL.nil|refine CvL.cons ?_ ?_|exact Cv.imm rfl|exact Cv.nil_view|refine Cv.agg ?_|(apply Cv.own;(case hob=>(with_unfolding_all exact rfl));(case hz=>decide);(case hE=>(intro i j hi hj;(rcases i with _ | _ | _|i) <;> (rcases j with _ | _ | _ | _ | _ | _|j) <;> first|rfl|(exfalso;omega)));(case hf=>(intro _ _;simp;done)))|(refine Cv.pvE ?_ ?_ (by decide);(focus (intro i j hi hj;(rcases i with _ | _ | _|i) <;> (rcases j with _ | _ | _ | _ | _ | _|j) <;> first|rfl|(exfalso;omega)));(focus (intro _ _;simp;done)))));done));try (simp only [go_sem,↓reduceIte,Nat.reduceAdd,Nat.reduceSub,Nat.reduceMul,Nat.reduceLT,Nat.reduceLeDiff,Nat.reduceEqDiff,Nat.reduceGT,Int.reduceToNat,Int.reduceBEq,Int.reduceBNe];try simp (disch := omega) only [wrapI,wrapU,half_sum,toNat_sub1,toNat_add1,Int.toNat_natCast]))
    | ((with_reducible first|refine callGoal_look trivial ?_ (v2) ?_|refine dCall_look trivial ?_ (v2) ?_);(focus ((repeat' (first|exact CvL.nil|refine CvL.cons ?_ ?_|exact Cv.imm rfl|exact Cv.nil_view|refine Cv.agg ?_|(apply Cv.own;(case hob=>(with_unfolding_all exact rfl));(case hz=>decide);(case hE=>(intro i j hi hj;(rcases i with _ | _ | _|i) <;> (rcases j with _ | _ | _ | _ | _ | _|j) <;> first|rfl|(exfalso;omega)));(case hf=>(intro _ _;simp;done)))|(refine Cv.pvE ?_ ?_ (by decide);(focus (intro i j hi hj;(rcases i with _ | _ | _|i) <;> (rcases j with _ | _ | _ | _ | _ | _|j) <;> first|rfl|(exfalso;omega)));(focus (intro _ _;simp;done)))));done));try (simp only [go_sem,↓reduceIte,Nat.reduceAdd,Nat.reduceSub,Nat.reduceMul,Nat.reduceLT,Nat.reduceLeDiff,Nat.reduceEqDiff,Nat.reduceGT,Int.reduceToNat,Int.reduceBEq,Int.reduceBNe];try simp (disch := omega) only [wrapI,wrapU,half_sum,toNat_sub1,toNat_add1,Int.toNat_natCast]))
    | ((with_reducible first|refine callGoal_look trivial ?_ (v3) ?_|refine dCall_look trivial ?_ (v3) ?_);(focus ((repeat' (first|exact CvL.nil|refine CvL.cons ?_ ?_|exact Cv.imm rfl|exact Cv.nil_view|refine Cv.agg ?_|(apply Cv.own;(case hob=>(with_unfolding_all exact rfl));(case hz=>decide);(case hE=>(intro i j hi hj;(rcases i with _ | _ | _|i) <;> (rcases j with _ | _ | _ | _ | _ | _|j) <;> first|rfl|(exfalso;omega)));(case hf=>(intro _ _;simp;done)))|(refine Cv.pvE ?_ ?_ (by decide);(focus (intro i j hi hj;(rcases i with _ | _ | _|i) <;> (rcases j with _ | _ | _ | _ | _ | _|j) <;> first|rfl|(exfalso;omega)));(focus (intro _ _;simp;done)))));done));try (simp only [go_sem,↓reduceIte,Nat.reduceAdd,Nat.reduceSub,Nat.reduceMul,Nat.reduceLT,Nat.reduceLeDiff,Nat.reduceEqDiff,Nat.reduceGT,Int.reduceToNat,Int.reduceBEq,Int.reduceBNe];try simp (disch := omega) only [wrapI,wrapU,half_sum,toNat_sub1,toNat_add1,Int.toNat_natCast]))
    | ((with_reducible first|refine callGoal_look trivial ?_ (s1) ?_|refine dCall_look trivial ?_ (s1) ?_);(focus ((repeat' (first|exact CvL.nil|refine CvL.cons ?_ ?_|exact Cv.imm rfl|exact Cv.nil_view|refine Cv.agg ?_|(apply Cv.own;(case hob=>(with_unfolding_all exact rfl));(case hz=>decide);(case hE=>(intro i j hi hj;(rcases i with _ | _ | _|i) <;> (rcases j with _ | _ | _ | _ | _ | _|j) <;> first|rfl|(exfalso;omega)));(case hf=>(intro _ _;simp;done)))|(refine Cv.pvE ?_ ?_ (by decide);(focus (intro i j hi hj;(rcases i with _ | _ | _|i) <;> (rcases j with _ | _ | _ | _ | _ | _|j) <;> first|rfl|(exfalso;omega)));(focus (intro _ _;simp;done)))));done));try (simp only [go_sem,↓reduceIte,Nat.reduceAdd,Nat.reduceSub,Nat.reduceMul,Nat.reduceLT,Nat.reduceLeDiff,Nat.reduceEqDiff,Nat.reduceGT,Int.reduceToNat,Int.reduceBEq,Int.reduceBNe];try simp (disch := omega) only [wrapI,wrapU,half_sum,toNat_sub1,toNat_add1,Int.toNat_natCast]))
    | ((with_reducible first|refine callGoal_look trivial ?_ (s2) ?_|refine dCall_look trivial ?_ (s2) ?_);(focus ((repeat' (first|exact CvL.nil|refine CvL.cons ?_ ?_|exact Cv.imm rfl|exact Cv.nil_view|refine Cv.agg ?_|(apply Cv.own;(case hob=>(with_unfolding_all exact rfl));(case hz=>decide);(case hE=>(intro i j hi hj;(rcases i with _ | _ | _|i) <;> (rcases j with _ | _ | _ | _ | _ | _|j) <;> first|rfl|(exfalso;omega)));(case hf=>(intro _ _;simp;done)))|(refine Cv.pvE ?_ ?_ (by decide);(focus (intro i j hi hj;(rcases i with _ | _ | _|i) <;> (rcases j with _ | _ | _ | _ | _ | _|j) <;> first|rfl|(exfalso;omega)));(focus (intro _ _;simp;done)))));done));try (simp only [go_sem,↓reduceIte,Nat.reduceAdd,Nat.reduceSub,Nat.reduceMul,Nat.reduceLT,Nat.reduceLeDiff,Nat.reduceEqDiff,Nat.reduceGT,Int.reduceToNat,Int.reduceBEq,Int.reduceBNe];try simp (disch := omega) only [wrapI,wrapU,half_sum,toNat_sub1,toNat_add1,Int.toNat_natCast]))
    | ((with_reducible first|refine callGoal_look trivial ?_ (s3) ?_|refine dCall_look trivial ?_ (s3) ?_);(focus ((repeat' (first|exact CvL.nil|refine CvL.cons ?_ ?_|exact Cv.imm rfl|exact Cv.nil_view|refine Cv.agg ?_|(apply Cv.own;(case hob=>(with_unfolding_all exact rfl));(case hz=>decide);(case hE=>(intro i j hi hj;(rcases i with _ | _ | _|i) <;> (rcases j with _ | _ | _ | _ | _ | _|j) <;> first|rfl|(exfalso;omega)));(case hf=>(intro _ _;simp;done)))|(refine Cv.pvE ?_ ?_ (by decide);(focus (intro i j hi hj;(rcases i with _ | _ | _|i) <;> (rcases j with _ | _ | _ | _ | _ | _|j) <;> first|rfl|(exfalso;omega)));(focus (intro _ _;simp;done)))));done));try (simp only [go_sem,↓reduceIte,Nat.reduceAdd,Nat.reduceSub,Nat.reduceMul,Nat.reduceLT,Nat.reduceLeDiff,Nat.reduceEqDiff,Nat.reduceGT,Int.reduceToNat,Int.reduceBEq,Int.reduceBNe];try simp (disch := omega) only [wrapI,wrapU,half_sum,toNat_sub1,toNat_add1,Int.toNat_natCast]))
    | ((with_reducible first|refine callGoal_look trivial ?_ (n1) ?_|refine dCall_look trivial ?_ (n1) ?_);(focus ((repeat' (first|exact CvL.nil|refine CvL.cons ?_ ?_|exact Cv.imm rfl|exact Cv.nil_view|refine Cv.agg ?_|(apply Cv.own;(case hob=>(with_unfolding_all exact rfl));(case hz=>decide);(case hE=>(intro i j hi hj;(rcases i with _ | _ | _|i) <;> (rcases j with _ | _ | _ | _ | _ | _|j) <;> first|rfl|(exfalso;omega)));(case hf=>(intro _ _;simp;done)))|(refine Cv.pvE ?_ ?_ (by decide);(focus (intro i j hi hj;(rcases i with _ | _ | _|i) <;> (rcases j with _ | _ | _ | _ | _ | _|j) <;> first|rfl|(exfalso;omega)));(focus (intro _ _;simp;done)))));done));try (simp only [go_sem,↓reduceIte,Nat.reduceAdd,Nat.reduceSub,Nat.reduceMul,Nat.reduceLT,Nat.reduceLeDiff,Nat.reduceEqDiff,Nat.reduceGT,Int.reduceToNat,Int.reduceBEq,Int.reduceBNe];try simp (disch := omega) only [wrapI,wrapU,half_sum,toNat_sub1,toNat_add1,Int.toNat_natCast]))
    | ((with_reducible first|refine callGoal_look trivial ?_ (n2) ?_|refine dCall_look trivial ?_ (n2) ?_);(focus ((repeat' (first|exact CvL.nil|refine CvL.cons ?_ ?_|exact Cv.imm rfl|exact Cv.nil_view|refine Cv.agg ?_|(apply Cv.own;(case hob=>(with_unfolding_all exact rfl));(case hz=>decide);(case hE=>(intro i j hi hj;(rcases i with _ | _ | _|i) <;> (rcases j with _ | _ | _ | _ | _ | _|j) <;> first|rfl|(exfalso;omega)));(case hf=>(intro _ _;simp;done)))|(refine Cv.pvE ?_ ?_ (by decide);(focus (intro i j hi hj;(rcases i with _ | _ | _|i) <;> (rcases j with _ | _ | _ | _ | _ | _|j) <;> first|rfl|(exfalso;omega)));(focus (intro _ _;simp;done)))));done));try (simp only [go_sem,↓reduceIte,Nat.reduceAdd,Nat.reduceSub,Nat.reduceMul,Nat.reduceLT,Nat.reduceLeDiff,Nat.reduceEqDiff,Nat.reduceGT,Int.reduceToNat,Int.reduceBEq,Int.reduceBNe];try simp (disch := omega) only [wrapI,wrapU,half_sum,toNat_sub1,toNat_add1,Int.toNat_natCast]))
    | ((with_reducible first|refine callGoal_look trivial ?_ (g1) ?_|refine dCall_look trivial ?_ (g1) ?_);(focus ((repeat' (first|exact CvL.nil|refine CvL.cons ?_ ?_|exact Cv.imm rfl|exact Cv.nil_view|refine Cv.agg ?_|(apply Cv.own;(case hob=>(with_unfolding_all exact rfl));(case hz=>decide);(case hE=>(intro i j hi hj;(rcases i with _ | _ | _|i) <;> (rcases j with _ | _ | _ | _ | _ | _|j) <;> first|rfl|(exfalso;omega)));(case hf=>(intro _ _;simp;done)))|(refine Cv.pvE ?_ ?_ (by decide);(focus (intro i j hi hj;(rcases i with _ | _ | _|i) <;> (rcases j with _ | _ | _ | _ | _ | _|j) <;> first|rfl|(exfalso;omega)));(focus (intro _ _;simp;done)))));done));try (simp only [go_sem,↓reduceIte,Nat.reduceAdd,Nat.reduceSub,Nat.reduceMul,Nat.reduceLT,Nat.reduceLeDiff,Nat.reduceEqDiff,Nat.reduceGT,Int.reduceToNat,Int.reduceBEq,Int.reduceBNe];try simp (disch := omega) only [wrapI,wrapU,half_sum,toNat_sub1,toNat_add1,Int.toNat_natCast]))
    | ((with_reducible first|refine callGoal_look trivial ?_ (g2) ?_|refine dCall_look trivial ?_ (g2) ?_);(focus ((repeat' (first|exact CvL.nil|refine CvL.cons ?_ ?_|exact Cv.imm rfl|exact Cv.nil_view|refine Cv.agg ?_|(apply Cv.own;(case hob=>(with_unfolding_all exact rfl));(case hz=>decide);(case hE=>(intro i j hi hj;(rcases i with _ | _ | _|i) <;> (rcases j with _ | _ | _ | _ | _ | _|j) <;> first|rfl|(exfalso;omega)));(case hf=>(intro _ _;simp;done)))|(refine Cv.pvE ?_ ?_ (by decide);(focus (intro i j hi hj;(rcases i with _ | _ | _|i) <;> (rcases j with _ | _ | _ | _ | _ | _|j) <;> first|rfl|(exfalso;omega)));(focus (intro _ _;simp;done)))));done));try (simp only [go_sem,↓reduceIte,Nat.reduceAdd,Nat.reduceSub,Nat.reduceMul,Nat.reduceLT,Nat.reduceLeDiff,Nat.reduceEqDiff,Nat.reduceGT,Int.reduceToNat,Int.reduceBEq,Int.reduceBNe];try simp (disch := omega) only [wrapI,wrapU,half_sum,toNat_sub1,toNat_add1,Int.toNat_natCast]))
    | ((with_reducible apply DC_call);(focus exact rfl);(focus exact rfl);(focus exact rfl);intro N hN;(simp only [go_sem,↓reduceIte,Nat.reduceAdd,Nat.reduceSub,Nat.reduceMul,Nat.reduceLT,Nat.reduceLeDiff,Nat.reduceEqDiff,Nat.reduceGT,Int.reduceToNat,Int.reduceBEq,Int.reduceBNe];try simp (disch := omega) only [wrapI,wrapU,half_sum,toNat_sub1,toNat_add1,Int.toNat_natCast]))
    | ((with_reducible first|refine T_seq_region Γ_ok (fun K hK=>?_)|refine T_last_region Γ_ok (fun K hK=>?_)|refine TO_callN rfl (fun N hN=>?_)|refine DCT_fork Γ_ok (fun K2 hK2=>?_)|refine DCT_last Γ_ok ?_|refine DC_ev Γ_ok ?_|refine TO_ev Γ_ok ?_|refine retQ_r ?_|refine retQ_n ?_);(simp only [go_sem,↓reduceIte,Nat.reduceAdd,Nat.reduceSub,Nat.reduceMul,Nat.reduceLT,Nat.reduceLeDiff,Nat.reduceEqDiff,Nat.reduceGT,Int.reduceToNat,Int.reduceBEq,Int.reduceBNe];try simp (disch := omega) only [wrapI,wrapU,half_sum,toNat_sub1,toNat_add1,Int.toNat_natCast]))
    | (with_reducible refine hK2 _ ?_ ?_ <;> clear hK2 K2)
    | with_reducible refine gC_false ?_ | with_reducible refine gC_true ?_ | with_reducible refine dCall_true ?_
    | (with_reducible refine hN _ _ ?_; clear hN N)
    | (with_reducible refine hN _ _ (dInl rfl) ?_; clear hN N)
    | ((with_reducible refine hN _ _ (.inr ?_) ?_);(focus (simp only [go_sem,↓reduceIte,Nat.reduceAdd,Nat.reduceSub,Nat.reduceMul,Nat.reduceLT,Nat.reduceLeDiff,Nat.reduceEqDiff,Nat.reduceGT,Int.reduceToNat,Int.reduceBEq,Int.reduceBNe];try simp (disch := omega) only [wrapI,wrapU,half_sum,toNat_sub1,toNat_add1,Int.toNat_natCast]));all_goals (try clear hN N))
    | with_reducible refine T_seq ?_|with_reducible refine T_block ?_|with_reducible refine T_ret ?_|with_reducible refine T_exit ?_|with_reducible refine T_skip ?_|with_reducible refine T_label ?_
    | with_reducible refine thenQ_n ?_|with_reducible refine thenQ_e ?_|with_reducible refine thenQ_r ?_|with_reducible refine blockQ_n ?_|with_reducible refine blockQ_e ?_|with_reducible refine blockQ_r ?_
    | with_reducible refine blockQ_o (by decide) ?_
    | ((with_reducible refine T_cond _ rfl (fun hb=>?_) (fun hb=>?_)) <;> first|(cases hb;done)|(simp only [decide_eq_true_eq,decide_eq_false_iff_not,Bool.and_eq_true,Bool.or_eq_true,Bool.and_eq_false_imp,Bool.or_eq_false_iff,Bool.not_eq_true',Bool.not_eq_false',beq_iff_eq,bne_iff_ne,ne_eq,beq_eq_false_iff_ne,bne_eq_false_iff_eq,Int.not_lt,Int.not_le,ge_iff_le,gt_iff_lt] at hb)|skip)
    | (with_reducible refine And.intro (by first | exact trivial | omega | (intro hg;simp at hg ⊢ <;> omega) | (simp <;> omega)) ?_)
    | assumption | omega)
end Go.Proofs.YtdglbjjenihdlaaDoor
