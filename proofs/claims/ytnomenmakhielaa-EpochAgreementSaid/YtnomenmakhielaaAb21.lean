/-
  More ways to hand a slice to a function that only reads it.
-/
import Derived.Test.YtnomenmakhielaaAb20
namespace Go.Ab
section
variable {P : Program} {Γ : Tab}
theorem Look.conv {k : FuncId} {args args' : List AV} {v : AV} (hc : ∀ w xs, RvL [] w args xs → RvL [] w args' xs) (h : Look P k args' v) : Look P k args v :=
  ⟨⟨trivial, fun ρ w vs ha hH => by
    obtain rfl : ρ = [] := List.eq_nil_of_length_eq_zero (by simpa using hH.len)
    exact h.1.2 [] w vs (hc w vs ha) hH⟩, h.2⟩
theorem Makes.conv {k : FuncId} {args args' : List AV} {v : AV} {σ1 : List AObj} (hc : ∀ w xs, RvL [] w args xs → RvL [] w args' xs) (h : Makes P k args' v σ1) : Makes P k args v σ1 :=
  ⟨⟨trivial, fun ρ w vs ha hH => by
    obtain rfl : ρ = [] := List.eq_nil_of_length_eq_zero (by simpa using hH.len)
    exact h.1.2 [] w vs (hc w vs ha) hH⟩, h.2⟩
theorem RvL.cons_conv {w : World} {u u' : AV} {us us' : List AV} {xs : List Value} (h1 : ∀ x, Rv [] w u x → Rv [] w u' x) (h2 : ∀ ys, RvL [] w us ys → RvL [] w us' ys) (h : RvL [] w (u :: us) xs) : RvL [] w (u' :: us') xs := by
  cases xs with
  | nil => simp [RvL] at h
  | cons x xs => simp only [RvL] at h ⊢; exact ⟨h1 x h.1, h2 xs h.2⟩

/-- A part of an own slice as one that is only read. -/
theorem Cv.ownS {σ : List AObj} {o s n N esz : Nat} {ety : TypeId} {c : Option Nat} {E E2 : Nat → Nat → AV} (hob : nthO σ o = .arr ety esz N E) (hle : s + n ≤ N) (hz : 0 < esz) (hE : ∀ i j, i < n → j < esz → E (s + i) j = E2 i j) (hf : ∀ i j, Free (E2 i j)) : Cv σ (.own o s n c) (.view n esz E2) :=
  Cv.view (v := .own o s n c) (f := fun i j => E (s + i) j) (c := s + n ≤ N) (by simp only [src, hob]) hle hz fun i j hi hj => by rw [hE i j hi hj]; exact Cv.free (hf i j)
theorem Cv.viewE {σ : List AObj} {n esz : Nat} {E E2 : Nat → Nat → AV} (hz : 0 < esz) (hE : ∀ i j, i < n → j < esz → E i j = E2 i j) (hf : ∀ i j, Free (E2 i j)) : Cv σ (.view n esz E) (.view n esz E2) :=
  Cv.view (v := .view n esz E) (f := E) (c := True) rfl trivial hz fun i j hi hj => by rw [hE i j hi hj]; exact Cv.free (hf i j)
end
end Go.Ab
