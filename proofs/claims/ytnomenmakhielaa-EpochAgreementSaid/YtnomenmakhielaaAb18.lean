/-
  Contracts that say less; slices that may be nil.
-/
import Derived.Test.YtnomenmakhielaaAb17
namespace Go.Ab
section
variable {P : Program} {Γ : Tab}

/-- A contract whose answer says less: the objects kept are those of π. -/
theorem TC.weak {f : FuncId} {args : List AV} {σ : List AObj} {Q Q2 : AV → List AObj → Prop} (h : TC P f args σ Q)
    (hq : ∀ v σ', Q v σ' → ∃ (π : List Nat) (v2 : AV) (σ2 : List AObj), π.take σ.length = List.range σ.length ∧ π.Nodup ∧ (∀ o ∈ π, o < σ'.length) ∧ WkV π σ' v v2 ∧ WkOL π σ' π σ2 ∧ Q2 v2 σ2) : TC P f args σ Q2 :=
  ⟨h.1, fun ρ w vs ha hH => (h.2 ρ w vs ha hH).mono fun e w' ⟨ρ', v, σ', x, he, hv, hr, hH', hs⟩ => by
    obtain ⟨π, v2, σ2, h1, h2, h3, h4, h5, h6⟩ := hq v σ' hv
    have hw : Wk σ.length ⟨[v], σ'⟩ ⟨[v2], σ2⟩ := Wk.intro π h1 h2 h3 (WkVL.cons h4 WkVL.nil) h5
    have hrel : Rel ρ w ⟨[v], σ'⟩ { tmps := #[x], defers := [] } w' := ⟨ρ', hs, rfl, by simp [RvL, hr], hH'⟩
    obtain ⟨ρ2, q1, _, q3, q4⟩ := hw ρ w _ w' hH.len hrel
    simp only [RvL, and_true] at q3
    exact ⟨ρ2, v2, σ2, x, he, h6, q3, q4, q1⟩⟩

/-- One more object that lies nowhere. -/
theorem TC.pushNone {f : FuncId} {args : List AV} {σ : List AObj} {Q : AV → List AObj → Prop} (h : TC P f args σ Q) (ety : TypeId) (esz : Nat) (g : Nat → Nat → AV) : TC P f args σ (fun v σ' => ∃ σ0, Q v σ0 ∧ σ' = σ0 ++ [.arr ety esz 0 g]) :=
  ⟨h.1, fun ρ w vs ha hH => (h.2 ρ w vs ha hH).mono fun _ w' ⟨ρ', v, σ', x, he, hv, hr, hH', hs⟩ => by
    obtain ⟨h1, h2⟩ := hH'.pushNone ety esz g
    exact ⟨ρ' ++ [none], v, σ' ++ [.arr ety esz 0 g], x, he, ⟨σ', hv, rfl⟩, Rv.mono h2 _ hr, h1, hs.trans h2⟩⟩

/-- A slice that is only read, told apart: empty (and then nil or not), or not. -/
theorem TC_view_cases {f : FuncId} {us1 us2 : List AV} {n esz : Nat} {e : Nat → Nat → AV} {σ : List AObj} {Q : AV → List AObj → Prop} 
    (hemp : n = 0 → ∀ a c, TC P f (us1 ++ .imm (.slice (some a) 0 c) :: us2) σ Q) (hcap : n = 0 → ∀ c, TC P f (us1 ++ .imm (.slice none 0 c) :: us2) σ Q) (hpos : 0 < n → TC P f (us1 ++ .view n esz e :: us2) σ Q) : TC P f (us1 ++ .view n esz e :: us2) σ Q := by
  rcases Nat.eq_zero_or_pos n with h0 | hp
  · refine ⟨trivial, fun ρ w vs ha hH => ?_⟩
    have key : ∀ {us1 : List AV} {vs : List Value}, RvL ρ w (us1 ++ .view n esz e :: us2) vs → ∃ (a : Option Addr) (c : Nat), RvL ρ w (us1 ++ .imm (.slice a 0 c) :: us2) vs := by
      intro us1
      induction us1 with
      | nil =>
        intro vs hv
        cases vs with
        | nil => simp [RvL] at hv
        | cons x xs =>
          simp only [List.nil_append, RvL, Rv] at hv ⊢
          obtain ⟨⟨a, c, rfl, _⟩, h2⟩ := hv
          exact ⟨a, c, by rw [h0], h2⟩
      | cons u us ih =>
        intro vs hv
        cases vs with
        | nil => simp [RvL] at hv
        | cons x xs =>
          simp only [List.cons_append, RvL] at hv ⊢
          obtain ⟨a, c, h3⟩ := ih hv.2
          exact ⟨a, c, hv.1, h3⟩
    obtain ⟨a, c, h3⟩ := key ha
    cases a with
    | none => exact (hcap h0 c).2 ρ w vs h3 hH
    | some a => exact (hemp h0 a c).2 ρ w vs h3 hH
  · exact hpos hp
end
end Go.Ab
