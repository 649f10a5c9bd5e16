/-
  Contract of slices.Clone at takes.
-/
import Derived.Test.YtnomenmakhielaaDoorQGo
import Derived.Test.YtnomenmakhielaaDoorQW6
import Derived.Test.YtnomenmakhielaaDoorQL5
set_option linter.unusedSimpArgs false
set_option linter.unusedVariables false
namespace Go.Proofs.YtnomenmakhielaaDoor
open Go.Ab

/-- A new slice of takes. -/
@[go_sem, reducible] def tkO (l : List Tk) : AObj := .arr 33 4 l.length (tkE l)
@[go_sem, reducible] def ownT (l : List Tk) : AV := .own 0 0 l.length none

set_option maxRecDepth 100000 in
set_option maxHeartbeats 400000 in
theorem clone_nil (c : Nat) : TC Tryd.prog 87 [.imm (.slice none 0 c)] [] (fun v σ' => v = .imm (.slice none 0 0) ∧ σ' = []) := by
  (refine TC_of_T Γ_ok Tryd.func87 rfl (by kernel_rfl) ?_; simp only [Tryd.ntmps87, Tryd.results87, List.length_cons, List.length_nil, Nat.reduceSub, Nat.reduceAdd, List.replicate, List.cons_append, List.nil_append])
  (((refine goR0 _ _ _ _ _ _ _ _ ?_ ?_ ?_ ?_ ?_ ?_ ?_ ?_) <;> (repeat intro hb) <;> first | exact True.intro | refine Lf.mk ?_))
  all_goals simp

set_option maxRecDepth 100000 in
set_option maxHeartbeats 400000 in
theorem clone_emp (a : Addr) (c : Nat) : TC Tryd.prog 87 [.imm (.slice (some a) 0 c)] [] (fun v σ' => ∃ o g, v = .own 1 0 0 none ∧ σ' = [o, .arr 33 4 0 g]) := by
  (refine TC_of_T Γ_ok Tryd.func87 rfl (by kernel_rfl) ?_; simp only [Tryd.ntmps87, Tryd.results87, List.length_cons, List.length_nil, Nat.reduceSub, Nat.reduceAdd, List.replicate, List.cons_append, List.nil_append])
  (((refine goR0 _ _ _ _ _ _ _ _ ?_ ?_ ?_ ?_ ?_ ?_ ?_ ?_) <;> (repeat intro hb) <;> first | exact True.intro | refine Lf.mk ?_))
  all_goals exact ⟨_, _, rfl⟩

set_option maxRecDepth 100000 in
set_option maxHeartbeats 400000 in
theorem clone_pos (n : Nat) (E : Nat → Nat → AV) (hl : n ≤ 1000000000) (h0 : 0 < n) : TC Tryd.prog 87 [.view n 4 E] [] (fun v σ' => ∃ o, v = .own 1 0 n none ∧ σ' = [o, .arr 33 4 n E]) := by
  (refine TC_of_T Γ_ok Tryd.func87 rfl (by kernel_rfl) ?_; simp only [Tryd.ntmps87, Tryd.results87, List.length_cons, List.length_nil, Nat.reduceSub, Nat.reduceAdd, List.replicate, List.cons_append, List.nil_append])
  (((refine goR0 _ _ _ _ _ _ _ _ ?_ ?_ ?_ ?_ ?_ ?_ ?_ ?_) <;> (repeat intro hb) <;> first | exact True.intro | refine Lf.mk ?_))
  all_goals exact ⟨_, rfl⟩

theorem tkO_pl (l : List Tk) : PlO (tkO l) := fun i j => tkE_pl l i j

theorem clone_gen (n : Nat) (E : Nat → Nat → AV) (hl : n ≤ 1000000000) (hE : ∀ i j, Pl (E i j)) : Makes Tryd.prog 87 [.view n 4 E] (.own 0 0 n none) [.arr 33 4 n E] := by
  refine ⟨TC_view_cases (us1 := []) (us2 := []) (fun h0 a c => ?_) (fun h0 c => ?_) (fun h0 => ?_), trivial, fun a ha => by simp only [List.mem_singleton] at ha; subst ha; exact hE⟩
  · refine (clone_emp a c).weak fun v σ' ⟨o, g, hv, hs⟩ => ⟨[1], _, [.arr 33 4 n E], by simp, by simp, by subst hs; simp, ?_, ?_, rfl, rfl⟩
    · subst hv
      rw [h0]
      exact WkV.own rfl (by simp)
    · subst hs
      simp only [WkOL, nthO, and_true]
      refine ⟨?_, fun _ => rfl⟩
      rw [h0]
      exact WkO.arr fun i j hi => by omega
  · refine ((clone_nil c).pushNone 33 4 E).weak fun v σ' ⟨σ0, ⟨hv, hs0⟩, hs⟩ => ⟨[0], _, [.arr 33 4 n E], by simp, by simp, by subst hs; subst hs0; simp, ?_, ?_, rfl, rfl⟩
    · subst hv
      rw [h0]
      exact WkV.nil_own (.inl rfl)
    · subst hs; subst hs0
      simp only [List.nil_append, WkOL, nthO, and_true]
      refine ⟨?_, fun _ => rfl⟩
      rw [h0]
      exact WkO.arr fun i j hi => by omega
  · refine (clone_pos n E hl h0).weak fun v σ' ⟨o, hv, hs⟩ => ⟨[1], _, [.arr 33 4 n E], by simp, by simp, by subst hs; simp, ?_, ?_, rfl, rfl⟩
    · subst hv
      exact WkV.own rfl (by simp)
    · subst hs
      simp only [WkOL, nthO, and_true]
      refine ⟨?_, fun _ => rfl⟩
      exact WkO.arr fun i j _ _ => WkV.free (Pl.free _ (hE i j))

theorem clone_tc (l : List Tk) (hl : l.length ≤ 1000000000) : Makes Tryd.prog 87 [tks l] (ownT l) [tkO l] := clone_gen l.length (tkE l) hl (tkE_pl l)
end Go.Proofs.YtnomenmakhielaaDoor
