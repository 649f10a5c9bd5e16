/-
  Gap and Near.
-/
import Derived.Test.YtonmienclploaaaGreatDoorQGo3
import Derived.Test.YtonmienclploaaaGreatDoorQB2
set_option linter.unusedSimpArgs false
set_option linter.unusedVariables false
namespace Go.Proofs.YtonmienclploaaaGreatDoor
open Go.Ab
theorem pOk_sub {p q : P6} (hp : pOk p = true) (hq : pOk q = true) : Small (p.sub q) := by
  unfold pOk P6.all inB at hp hq
  simp only [Bool.and_eq_true, decide_eq_true_eq] at hp hq
  unfold Small P6.sub P6.map2
  simp only []
  omega
def gapR (p q : P6) : (Int × Int) × Int := if pOk p = true ∧ pOk q = true then ((sizeLo (p.sub q),sizeHi (p.sub q)),0) else ((0,0),1)
set_option maxRecDepth 100000 in
set_option maxHeartbeats 4000000 in
theorem gap_tc (p q : P6) : Look Tryz.prog 43 [p6A p,p6A q] (.tup [.agg [.imm (.int .i64 (gapR p q).1.1),.imm (.int .i64 (gapR p q).1.2)],.imm (.int .i64 (gapR p q).2)]) := by
  have h1 := valid_p p
  have h2 := valid_p q
  unfold gapR
  by_cases h : pOk p = true ∧ pOk q = true
  · rw [if_pos h]
    have he := exponents_tc (p.sub q) (pOk_sub h.1 h.2)
    have hp := h.1
    have hq := h.2
    rw [hp] at h1
    rw [hq] at h2
    unfold pOk P6.all inB at hp hq
    simp only [Bool.and_eq_true, decide_eq_true_eq] at hp hq
    refine Look.mk (by simp [Pl, PlL]) ?_
    (refine TC_of_T Γ_ok Tryz.func43 rfl (by kernel_rfl) ?_;simp only [Tryz.ntmps43,Tryz.results43,List.length_cons,List.length_nil,Nat.reduceSub,Nat.reduceAdd,List.replicate,List.cons_append,List.nil_append])
    (have dl1 := h1;have dl2 := h2;have sx1 : (0 : Nat) + 0 = 0 := rfl;repeat' (first|with_reducible refine T_seq_drawT (id := 6) Γ_ok drawsAny pl43_6 (by kernel_rfl) (fun K hK=>?_)|with_reducible refine T_last_drawT (id := 6) Γ_ok drawsAny pl43_6 (by kernel_rfl) (fun K hK=>?_)|((refine goU1 _ _ _ _ _ _ _ _ _ _ _ _ ?_ ?_ ?_ ?_ ?_ ?_ ?_ ?_ ?_ ?_ ?_ ?_) <;> (repeat intro hb) <;> first|exact True.intro|refine Lf.mk ?_)))
    refine T_rounds 7 ?_
    (have cl1 := he;have sx1 : (0 : Nat) + 0 = 0 := rfl;repeat' (first|with_reducible refine T_seq_drawT (id := 6) Γ_ok drawsAny pl43_6 (by kernel_rfl) (fun K hK=>?_)|with_reducible refine T_last_drawT (id := 6) Γ_ok drawsAny pl43_6 (by kernel_rfl) (fun K hK=>?_)|((refine goU1 _ _ _ _ _ _ _ _ _ _ _ _ ?_ ?_ ?_ ?_ ?_ ?_ ?_ ?_ ?_ ?_ ?_ ?_) <;> (repeat intro hb) <;> first|exact True.intro|refine Lf.mk ?_)))
  · rw [if_neg h]
    refine Look.mk (by simp [Pl, PlL]) ?_
    (refine TC_of_T Γ_ok Tryz.func43 rfl (by kernel_rfl) ?_;simp only [Tryz.ntmps43,Tryz.results43,List.length_cons,List.length_nil,Nat.reduceSub,Nat.reduceAdd,List.replicate,List.cons_append,List.nil_append])
    (have dl1 := h1;have dl2 := h2;have sx1 : (0 : Nat) + 0 = 0 := rfl;repeat' (first|with_reducible refine T_seq_drawT (id := 6) Γ_ok drawsAny pl43_6 (by kernel_rfl) (fun K hK=>?_)|with_reducible refine T_last_drawT (id := 6) Γ_ok drawsAny pl43_6 (by kernel_rfl) (fun K hK=>?_)|((refine goU1 _ _ _ _ _ _ _ _ _ _ _ _ ?_ ?_ ?_ ?_ ?_ ?_ ?_ ?_ ?_ ?_ ?_ ?_) <;> (repeat intro hb) <;> first|exact True.intro|refine Lf.mk ?_)))
    exact absurd hb h
set_option maxRecDepth 100000 in
set_option maxHeartbeats 4000000 in
theorem surely_tc (l h x y : Int) : Look Tryz.prog 60 [.agg [.imm (.int .i64 l),.imm (.int .i64 h)],.imm (.int .i64 x),.imm (.int .i64 y)] (.imm (.int .i64 (surelyI l h x y))) := by
  refine Look.mk trivial ?_
  (refine TC_of_T Γ_ok Tryz.func60 rfl (by kernel_rfl) ?_;simp only [Tryz.ntmps60,Tryz.results60,List.length_cons,List.length_nil,Nat.reduceSub,Nat.reduceAdd,List.replicate,List.cons_append,List.nil_append])
  (have sx1 : (0 : Nat) + 0 = 0 := rfl;((refine goU1 _ _ _ _ _ _ _ _ _ _ _ _ ?_ ?_ ?_ ?_ ?_ ?_ ?_ ?_ ?_ ?_ ?_ ?_) <;> (repeat intro hb) <;> first | exact True.intro | refine Lf.mk ?_))
  all_goals (congr 2; unfold surelyI)
  all_goals grind
set_option maxRecDepth 100000 in
set_option maxHeartbeats 4000000 in
theorem near_tc (p q : P6) (t : Int) : Look Tryz.prog 39 [p6A p,p6A q,.imm (.int .i64 t)] (.tup [.imm (.int .i64 (nearI p q t).1),.imm (.int .i64 (nearI p q t).2)]) := by
  have hga := gap_tc p q
  unfold gapR at hga
  unfold nearI
  by_cases h : pOk p = true ∧ pOk q = true
  · rw [if_pos h] at hga
    by_cases ht : 0 ≤ t ∧ t ≤ 2400000
    · rw [if_pos ⟨h.1, h.2, ht.1, ht.2⟩]
      refine Look.mk (by simp [Pl, PlL]) ?_
      (refine TC_of_T Γ_ok Tryz.func39 rfl (by kernel_rfl) ?_;simp only [Tryz.ntmps39,Tryz.results39,List.length_cons,List.length_nil,Nat.reduceSub,Nat.reduceAdd,List.replicate,List.cons_append,List.nil_append])
      (have dl1 := hga;have dl2 := fun u1 u2 u3 u4=>surely_tc u1 u2 u3 u4;have sx1 : (0 : Nat) + 0 = 0 := rfl;((refine goU1 _ _ _ _ _ _ _ _ _ _ _ _ ?_ ?_ ?_ ?_ ?_ ?_ ?_ ?_ ?_ ?_ ?_ ?_) <;> (repeat intro hb) <;> first|exact True.intro|refine Lf.mk ?_))
    · rw [if_neg fun hh => ht hh.2.2]
      refine Look.mk (by simp [Pl, PlL]) ?_
      (refine TC_of_T Γ_ok Tryz.func39 rfl (by kernel_rfl) ?_;simp only [Tryz.ntmps39,Tryz.results39,List.length_cons,List.length_nil,Nat.reduceSub,Nat.reduceAdd,List.replicate,List.cons_append,List.nil_append])
      (have dl1 := hga;have dl2 := fun u1 u2 u3 u4=>surely_tc u1 u2 u3 u4;have sx1 : (0 : Nat) + 0 = 0 := rfl;((refine goU1 _ _ _ _ _ _ _ _ _ _ _ _ ?_ ?_ ?_ ?_ ?_ ?_ ?_ ?_ ?_ ?_ ?_ ?_) <;> (repeat intro hb) <;> first|exact True.intro|refine Lf.mk ?_))
  · rw [if_neg h] at hga
    rw [if_neg fun hh => h ⟨hh.1, hh.2.1⟩]
    refine Look.mk (by simp [Pl, PlL]) ?_
    (refine TC_of_T Γ_ok Tryz.func39 rfl (by kernel_rfl) ?_;simp only [Tryz.ntmps39,Tryz.results39,List.length_cons,List.length_nil,Nat.reduceSub,Nat.reduceAdd,List.replicate,List.cons_append,List.nil_append])
    (have dl1 := hga;have dl2 := fun u1 u2 u3 u4=>surely_tc u1 u2 u3 u4;have sx1 : (0 : Nat) + 0 = 0 := rfl;((refine goU1 _ _ _ _ _ _ _ _ _ _ _ _ ?_ ?_ ?_ ?_ ?_ ?_ ?_ ?_ ?_ ?_ ?_ ?_) <;> (repeat intro hb) <;> first|exact True.intro|refine Lf.mk ?_))
end Go.Proofs.YtonmienclploaaaGreatDoor
