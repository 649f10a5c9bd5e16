/-
  BoardMatchesReference: the walk of the law.
-/
import Derived.Test.YtddcnafocohghaaDoorQGo
import Derived.Test.YtddcnafocohghaaDoorQR7
import Derived.Test.YtddcnafocohghaaDoorQS5
set_option linter.unusedSimpArgs false
set_option linter.unusedVariables false
namespace Go.Proofs.YtddcnafocohghaaDoor
open Go.Ab
set_option maxRecDepth 100000 in
set_option maxHeartbeats 4000000 in
theorem ref_law (b : Bd) (v : P6) (ids : List Int) (vs : List P6) (hl : b.ks.length ≤ 9223372036854775807) (hi : ids.length ≤ 9223372036854775807) (hv : vs.length * 48 ≤ 140737488351232) : Look Tryd.prog 3 [bdA b, p6A v, ints ids, vts vs] (.imm (.bool true)) := by
  have c1 := valid_tc b hl
  have c2 := rvalid_b b hl
  have f1 := find_tc b v hl
  have f2 := rfind_tc b v hl
  have h1 := hands_tc b ids hl hi
  have h2 := rhands_tc b ids hl hi
  have q1 := chord_tc b vs hl hv
  have q2 := rchord_tc b vs hl hv
  have s1 := h_same (findR b v).1 (by have := findR_len b v; omega)
  have s2 := h_same (handsR b ids).1 (by have := handsR_len b ids; omega)
  have s3 := h_same (handsR b ids).2.1 (by have := handsR_len b ids; omega)
  have s4 := h_same (chordR b vs).1 (by have := chordR_len b vs; omega)
  generalize bdB b = g at *
  generalize (findR b v).1 = a1 at *
  generalize (findR b v).2 = e1 at *
  generalize (handsR b ids).1 = a2 at *
  generalize (handsR b ids).2.1 = a3 at *
  generalize (handsR b ids).2.2 = e2 at *
  generalize (chordR b vs).1 = a4 at *
  generalize (chordR b vs).2 = e3 at *
  have t1 : ∀ x : Int, (x == x) = true := fun x => by simp
  have t3 : ∀ x : Bool, (x == x) = true := fun x => by simp
  refine Look.mk trivial ?_
  (refine TC_of_T Γ_ok Tryd.func3 rfl (by kernel_rfl) ?_; simp only [Tryd.ntmps3, Tryd.results3, List.length_cons, List.length_nil, Nat.reduceSub, Nat.reduceAdd, List.replicate, List.cons_append, List.nil_append])
  (have cl1 := head_tc; have dl1 := c1; have dl2 := c2; have cm1 := f1; have cm2 := f2; have cm3 := h1; have cm4 := h2; have cm5 := q1; have cm6 := q2; have dl3 := s1; have dl4 := s2; have dl5 := s3; have dl6 := s4; have sx1 := t1; have sx2 := t3; repeat' (first | with_reducible refine T_seq_drawT (id := 1) Γ_ok drawsAny pl3_1 (by kernel_rfl) (fun K hK => ?_) | with_reducible refine T_last_drawT (id := 1) Γ_ok drawsAny pl3_1 (by kernel_rfl) (fun K hK => ?_) | ((have sx3 : (0 : Nat) + 0 = 0 := rfl; have sx4 : (0 : Nat) + 0 = 0 := rfl; refine goR4 _ _ _ _ _ _ _ _ ?_ ?_ ?_ ?_ ?_ ?_ ?_ ?_) <;> (repeat intro hb) <;> first | exact True.intro | refine Lf.mk ?_)))
end Go.Proofs.YtddcnafocohghaaDoor
