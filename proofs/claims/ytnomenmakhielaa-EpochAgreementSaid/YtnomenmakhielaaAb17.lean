/-
  Arithmetic of the walk.
-/
import Derived.Test.YtnomenmakhielaaAb16
namespace Go.Ab
theorem wrapI {x : Int} (h1 : -9223372036854775808 ≤ x) (h2 : x ≤ 9223372036854775807) : IntKind.i64.wrap x = x := by
  unfold IntKind.wrap
  simp only [IntKind.bits, IntKind.signed]
  simp
  omega
theorem wrapU {x : Int} (h1 : 0 ≤ x) (h2 : x ≤ 18446744073709551615) : IntKind.u64.wrap x = x := by
  unfold IntKind.wrap
  simp only [IntKind.bits, IntKind.signed]
  simp
  omega
theorem half_sum (a b : Nat) : ((a : Int) + b).fdiv (2 ^ min 1 64) = (((a + b) / 2 : Nat) : Int) := by
  have : min 1 64 = 1 := by decide
  rw [this, Int.fdiv_eq_ediv_of_nonneg _ (by omega)]
  omega
theorem FreeL_nth : ∀ {vs : List AV}, FreeL vs → ∀ j, Free (nth vs j)
  | [], _, j => by simp [nth, Free]
  | v :: vs, h, 0 => by simp only [FreeL] at h; simpa [nth] using h.1
  | v :: vs, h, j + 1 => by simp only [FreeL] at h; simpa [nth] using FreeL_nth h.2 j
@[simp] theorem Free_nth_iff {vs : List AV} : (∀ j, Free (nth vs j)) ↔ FreeL vs := by
  constructor
  · intro h
    induction vs with
    | nil => simp [FreeL]
    | cons v vs ih =>
      simp only [FreeL]
      exact ⟨by simpa [nth] using h 0, ih fun j => by simpa [nth] using h (j + 1)⟩
  · exact fun h => FreeL_nth h
theorem toNat_sub1 (i : Nat) : ((i : Int) - 1).toNat = i - 1 := by omega
theorem toNat_add1 (i : Nat) : ((i : Int) + 1).toNat = i + 1 := by omega
/-- A box of one's own as memory that is only read. -/
theorem Cv.ptr {σ : List AObj} {o n : Nat} {ety : TypeId} {cells cells2 : List AV} (h : nthO σ o = .box ety cells) (hn : cells.length = n) (hc : CvL σ cells cells2) : Cv σ (.optr o 0 0) (.rptr n (nth cells2)) := fun ρ w x hH hx => by
  simp only [Rv] at hx ⊢
  obtain ⟨l, hl, rfl⟩ := hx
  have hso := nthO_eq h (a := .box ety cells) rfl
  obtain ⟨l', c, hl', h0, h1, h2, hh, h3, hr⟩ := hH.obj o _ hso
  rw [hl] at hl'
  simp only [Option.some.injEq] at hl'
  subst hl'
  have hr2 := hc _ _ _ hH hr
  refine ⟨_, rfl, hH.lt o l hl, not_has_nil, fun j hj => ?_⟩
  have hlen := hr2.length
  have hlen0 := hr.length
  obtain ⟨y, hy, hv⟩ := RvL.get hr2 (nth_eq (l := cells2) (i := j) (by omega))
  refine ⟨y, ?_, h3 y (List.mem_of_getElem? hy), hv⟩
  rw [add_lit]
  simp only [World.cell?, hh, h0]
  simpa using hy
attribute [go_sem] toNat_sub1 toNat_add1 Int.cast_ofNat_Int Option.isNone_none Option.isNone_some Bool.and_self Bool.or_self
end Go.Ab
