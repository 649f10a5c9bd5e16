/-
  BoardFewer: the walk of the law.
-/
import Derived.Test.YtddcnafocohghaaDoorQGo
import Derived.Test.YtddcnafocohghaaDoorQC4
import Derived.Test.YtddcnafocohghaaDoorQP6
set_option linter.unusedSimpArgs false
set_option linter.unusedVariables false
namespace Go.Proofs.YtddcnafocohghaaDoor
open Go.Ab
set_option maxRecDepth 100000 in
set_option maxHeartbeats 4000000 in
theorem fewer_law (b : Bd) (vs : List P6) (drop : Int) (hl : b.ks.length ≤ 9223372036854775807) (hv : vs.length * 48 ≤ 140737488351232) : Look Tryd.prog 7 [bdA b, vts vs, .imm (.int .i64 drop)] (.imm (.bool true)) := by
  have c1 := chord_tc b vs hl hv
  refine Look.mk trivial ?_
  by_cases he : (chordR b vs).2 = 0
  · by_cases hd : 0 ≤ drop ∧ drop < vs.length
    · obtain ⟨d, rfl⟩ := Int.eq_ofNat_of_zero_le hd.1
      have hd2 : d < vs.length := by omega
      have hlen : (vs.take d ++ vs.drop (d + 1)).length = d + (vs.length - (d + 1)) := by rw [List.length_append, List.length_take, List.length_drop]; omega
      have c2 := chord_tc b (vs.take d ++ vs.drop (d + 1)) hl (by rw [hlen]; omega)
      rw [chord_fewer he hd2] at c2
      rw [he] at c1
      generalize (chordR b vs).1 = l at c1
      generalize (chordR b (vs.take d ++ vs.drop (d + 1))).1 = l2 at c2
      unfold vts at c2
      rw [hlen] at c2
      have hv5 : ∀ i j, i < d + (vs.length - (d + 1)) → j < 6 → catE d (fun i j => catE 0 (fun _ _ => AV.top) (fun i j => vtE vs i j) i j) (fun i j => vtE vs (d + 1 + i) j) i j = vtE (vs.take d ++ vs.drop (d + 1)) i j := fun i j hi hj => by
        unfold catE vtE gv
        simp only [Nat.not_lt_zero, if_false, Nat.sub_zero, List.getD_eq_getElem?_getD]
        split
        · rename_i h1
          rw [List.getElem?_append_left (by rw [List.length_take]; omega), List.getElem?_take_of_lt h1]
        · rename_i h1
          rw [List.getElem?_append_right (by rw [List.length_take]; omega), List.length_take, Nat.min_eq_left (by omega), List.getElem?_drop]
      (refine TC_of_T Γ_ok Tryd.func7 rfl (by kernel_rfl) ?_; simp only [Tryd.ntmps7, Tryd.results7, List.length_cons, List.length_nil, Nat.reduceSub, Nat.reduceAdd, List.replicate, List.cons_append, List.nil_append])
      (have cl1 := head_tc; have dm1 := c1; have cm1 := c2; repeat' (first | with_reducible refine T_seq_drawT (id := 5) Γ_ok drawsAny pl7_5 (by kernel_rfl) (fun K hK => ?_) | with_reducible refine T_last_drawT (id := 5) Γ_ok drawsAny pl7_5 (by kernel_rfl) (fun K hK => ?_) | ((refine goR0 _ _ _ _ _ _ _ _ ?_ ?_ ?_ ?_ ?_ ?_ ?_ ?_) <;> (repeat intro hb) <;> first | exact True.intro | refine Lf.mk ?_)))
    · rw [he] at c1
      generalize (chordR b vs).1 = l at c1
      (refine TC_of_T Γ_ok Tryd.func7 rfl (by kernel_rfl) ?_; simp only [Tryd.ntmps7, Tryd.results7, List.length_cons, List.length_nil, Nat.reduceSub, Nat.reduceAdd, List.replicate, List.cons_append, List.nil_append])
      (have cl1 := head_tc; have dm1 := c1; repeat' (first | with_reducible refine T_seq_drawT (id := 5) Γ_ok drawsAny pl7_5 (by kernel_rfl) (fun K hK => ?_) | with_reducible refine T_last_drawT (id := 5) Γ_ok drawsAny pl7_5 (by kernel_rfl) (fun K hK => ?_) | ((refine goR0 _ _ _ _ _ _ _ _ ?_ ?_ ?_ ?_ ?_ ?_ ?_ ?_) <;> (repeat intro hb) <;> first | exact True.intro | refine Lf.mk ?_)))
  · generalize (chordR b vs).1 = l at c1
    generalize (chordR b vs).2 = e at c1 he
    (refine TC_of_T Γ_ok Tryd.func7 rfl (by kernel_rfl) ?_; simp only [Tryd.ntmps7, Tryd.results7, List.length_cons, List.length_nil, Nat.reduceSub, Nat.reduceAdd, List.replicate, List.cons_append, List.nil_append])
    (have cl1 := head_tc; have cm1 := c1; repeat' (first | with_reducible refine T_seq_drawT (id := 5) Γ_ok drawsAny pl7_5 (by kernel_rfl) (fun K hK => ?_) | with_reducible refine T_last_drawT (id := 5) Γ_ok drawsAny pl7_5 (by kernel_rfl) (fun K hK => ?_) | ((refine goR0 _ _ _ _ _ _ _ _ ?_ ?_ ?_ ?_ ?_ ?_ ?_ ?_) <;> (repeat intro hb) <;> first | exact True.intro | refine Lf.mk ?_)))
end Go.Proofs.YtddcnafocohghaaDoor
