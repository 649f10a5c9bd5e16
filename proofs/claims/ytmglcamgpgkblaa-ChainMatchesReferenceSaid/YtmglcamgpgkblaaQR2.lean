/-
  The reference's plus and Before.
-/
import Derived.Test.YtmglcamgpgkblaaQGo
import Derived.Test.YtmglcamgpgkblaaQR1
import Derived.Test.YtmglcamgpgkblaaQAb30
set_option linter.unusedSimpArgs false
set_option linter.unusedVariables false
namespace Go.Proofs.Ytmglcamgpgkblaa
open Go.Ab
set_option maxRecDepth 100000 in
set_option maxHeartbeats 4000000 in
theorem rplus_tc (p q : P6) (hp : Bd6 1000000 p) (hq : Bd6 1000000 q) : Look Try.prog 30 [p6A p,p6A q,.imm (.int .i64 1)] (p6A (p.add q)) := by
  have h1 : ∀ x : Int, 1 * x = x := Int.one_mul
  unfold Bd6 at hp hq
  obtain ⟨a1, a2, a3, a4, a5, a6⟩ := p
  obtain ⟨b1, b2, b3, b4, b5, b6⟩ := q
  simp only [P6.add]
  simp only [] at hp hq
  refine Look.mk (by simp [Pl, PlL]) ?_
  (refine TC_of_T Γ_ok Try.func30 rfl (by kernel_rfl) ?_;simp only [Try.ntmps30,Try.results30,List.length_cons,List.length_nil,Nat.reduceSub,Nat.reduceAdd,List.replicate,List.cons_append,List.nil_append])
  (have sx1 : (0 : Nat) + 0 = 0 := rfl;repeat' (first|with_reducible refine T_seq_drawT (id := 4) Γ_ok drawsAny pl30_4 (by kernel_rfl) (fun K hK=>?_)|with_reducible refine T_last_drawT (id := 4) Γ_ok drawsAny pl30_4 (by kernel_rfl) (fun K hK=>?_)|((refine goU1 _ _ _ _ _ _ _ _ _ _ _ _ ?_ ?_ ?_ ?_ ?_ ?_ ?_ ?_ ?_ ?_ ?_ ?_) <;> (repeat intro hb) <;> first|exact True.intro|refine Lf.mk ?_)))
  refine T_rounds 7 ?_
  (have sx1 := h1;repeat' (first|with_reducible refine T_seq_drawT (id := 4) Γ_ok drawsAny pl30_4 (by kernel_rfl) (fun K hK=>?_)|with_reducible refine T_last_drawT (id := 4) Γ_ok drawsAny pl30_4 (by kernel_rfl) (fun K hK=>?_)|((refine goU1 _ _ _ _ _ _ _ _ _ _ _ _ ?_ ?_ ?_ ?_ ?_ ?_ ?_ ?_ ?_ ?_ ?_ ?_) <;> (repeat intro hb) <;> first|exact True.intro|refine Lf.mk ?_)))
set_option maxRecDepth 100000 in
set_option maxHeartbeats 4000000 in
theorem rminus_tc (q : P6) (hq : Bd6 1000000 q) : Look Try.prog 30 [p6A ⟨0,0,0,0,0,0⟩,p6A q,.imm (.int .i64 (-1))] (p6A q.neg) := by
  have h1 : ∀ x : Int, -1 * x = -x := fun x => by omega
  have h2 : ∀ x : Int, 0 + -x = -x := fun x => by omega
  unfold Bd6 at hq
  obtain ⟨b1, b2, b3, b4, b5, b6⟩ := q
  simp only [P6.neg]
  simp only [] at hq
  refine Look.mk (by simp [Pl, PlL]) ?_
  (refine TC_of_T Γ_ok Try.func30 rfl (by kernel_rfl) ?_;simp only [Try.ntmps30,Try.results30,List.length_cons,List.length_nil,Nat.reduceSub,Nat.reduceAdd,List.replicate,List.cons_append,List.nil_append])
  (have sx1 : (0 : Nat) + 0 = 0 := rfl;repeat' (first|with_reducible refine T_seq_drawT (id := 4) Γ_ok drawsAny pl30_4 (by kernel_rfl) (fun K hK=>?_)|with_reducible refine T_last_drawT (id := 4) Γ_ok drawsAny pl30_4 (by kernel_rfl) (fun K hK=>?_)|((refine goU1 _ _ _ _ _ _ _ _ _ _ _ _ ?_ ?_ ?_ ?_ ?_ ?_ ?_ ?_ ?_ ?_ ?_ ?_) <;> (repeat intro hb) <;> first|exact True.intro|refine Lf.mk ?_)))
  refine T_rounds 7 ?_
  (have sx1 := (And.intro h1 h2);repeat' (first|with_reducible refine T_seq_drawT (id := 4) Γ_ok drawsAny pl30_4 (by kernel_rfl) (fun K hK=>?_)|with_reducible refine T_last_drawT (id := 4) Γ_ok drawsAny pl30_4 (by kernel_rfl) (fun K hK=>?_)|((refine goU1 _ _ _ _ _ _ _ _ _ _ _ _ ?_ ?_ ?_ ?_ ?_ ?_ ?_ ?_ ?_ ?_ ?_ ?_) <;> (repeat intro hb) <;> first|exact True.intro|refine Lf.mk ?_)))
set_option maxRecDepth 100000 in
set_option maxHeartbeats 4000000 in
theorem rbefore_tc (s : Sc) (hl : ScL s) (hs : ScOk s) (n : Nat) (hn : n < s.notes.length) : Look Try.prog 51 [scA s,.imm (.int .i64 n)] (.tup [.imm (.int .i64 (befI s n)),.imm (.int .i64 0)]) := by
  have c1 := rvalid_tc s hl
  rw [tf_t hs] at c1
  have hsz := hs.sz
  unfold SzOk at hsz
  have c2 := rahead_tc s (gn s.notes n).v (gn s.notes n).f (by omega)
  refine Look.mk (by simp [Pl, PlL]) ?_
  by_cases ht : (gn s.notes n).tied = true
  · rw [befI_tied ht]
    (refine TC_of_T Γ_ok Try.func51 rfl (by kernel_rfl) ?_;simp only [Try.ntmps51,Try.results51,List.length_cons,List.length_nil,Nat.reduceSub,Nat.reduceAdd,List.replicate,List.cons_append,List.nil_append])
    (have cl1 := c1;have cl2 := c2;have sx1 := ht;repeat' (first|with_reducible refine T_seq_drawT (id := 5) Γ_ok drawsAny pl51_5 (by kernel_rfl) (fun K hK=>?_)|with_reducible refine T_last_drawT (id := 5) Γ_ok drawsAny pl51_5 (by kernel_rfl) (fun K hK=>?_)|((refine goU1 _ _ _ _ _ _ _ _ _ _ _ _ ?_ ?_ ?_ ?_ ?_ ?_ ?_ ?_ ?_ ?_ ?_ ?_) <;> (repeat intro hb) <;> first|exact True.intro|refine Lf.mk ?_)))
  · rw [Bool.not_eq_true] at ht
    rw [befI_not ht]
    (refine TC_of_T Γ_ok Try.func51 rfl (by kernel_rfl) ?_;simp only [Try.ntmps51,Try.results51,List.length_cons,List.length_nil,Nat.reduceSub,Nat.reduceAdd,List.replicate,List.cons_append,List.nil_append])
    (have cl1 := c1;have cl2 := c2;have sx1 := ht;repeat' (first|with_reducible refine T_seq_drawT (id := 5) Γ_ok drawsAny pl51_5 (by kernel_rfl) (fun K hK=>?_)|with_reducible refine T_last_drawT (id := 5) Γ_ok drawsAny pl51_5 (by kernel_rfl) (fun K hK=>?_)|((refine goU1 _ _ _ _ _ _ _ _ _ _ _ _ ?_ ?_ ?_ ?_ ?_ ?_ ?_ ?_ ?_ ?_ ?_ ?_) <;> (repeat intro hb) <;> first|exact True.intro|refine Lf.mk ?_)))
end Go.Proofs.Ytmglcamgpgkblaa
