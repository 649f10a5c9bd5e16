/-
  Pitches and integers as arguments; the primes as the row lays them.
-/
import Derived.Test.YtdglbjjenihdlaaDoorWS3
import Derived.Test.YtdglbjjenihdlaaDoorWAb31
import Derived.Test.YtdglbjjenihdlaaDoorCards
import Derived.Test.YtdglbjjenihdlaaDoorTie
import Derived.Lib.LaidTab
import Derived.ProofKit
set_option linter.unusedSimpArgs false
set_option linter.unusedVariables false
namespace Go.Proofs.YtdglbjjenihdlaaDoor
open Go.Ab
def inD (n : Int) : DatX := .int .i64 n
def p6D (p : P6) : DatX := .arr [inD p.a, inD p.b, inD p.c, inD p.d, inD p.e, inD p.f]
theorem p6D_cells (p : P6) : (p6D p).cells = p6L p := rfl
theorem fits_int {D : DatX} (h : FitsX Γ 3 D) : ∃ n, D = .int .i64 n := by
  cases D <;> simp [FitsX, Γ_3] at h
  rename_i k n
  exact ⟨n, by rw [← h.1]⟩
theorem fits_six {l : List DatX} (hl : l.length = 6) (h : FitsAX Γ 3 l) : ∃ p : P6,l = [inD p.a,inD p.b,inD p.c,inD p.d,inD p.e,inD p.f] := by
  match l, hl, h with
  | [a, b, c, d, e, f], _, h =>
    simp only [FitsAX] at h
    obtain ⟨h1, h2, h3, h4, h5, h6, _⟩ := h
    obtain ⟨a, rfl⟩ := fits_int h1
    obtain ⟨b, rfl⟩ := fits_int h2
    obtain ⟨c, rfl⟩ := fits_int h3
    obtain ⟨d, rfl⟩ := fits_int h4
    obtain ⟨e, rfl⟩ := fits_int h5
    obtain ⟨f, rfl⟩ := fits_int h6
    exact ⟨⟨a, b, c, d, e, f⟩, rfl⟩
theorem fits_pitch {D : DatX} (h : FitsX Γ 24 D) : ∃ p : P6, D = p6D p := by
  match D, h with
  | .arr l, h =>
    simp only [FitsX] at h
    obtain ⟨ti, m, e, hg, hd, hl, h⟩ := h
    rw [Γ_24] at hg
    cases hg
    cases hd
    obtain ⟨p, rfl⟩ := fits_six hl h
    exact ⟨p, rfl⟩
  | .int _ _, h => simp [FitsX, Γ_24] at h
  | .bool _, h => simp [FitsX, Γ_24] at h
  | .str _, h => simp [FitsX, Γ_24] at h
  | .strct _, h => simp [FitsX, Γ_24] at h
  | .slice _ _, h => simp [FitsX, Γ_24] at h
theorem fits_pts_aux : ∀ {Ds : List DatX}, FitsAX Γ 24 Ds → ∃ l : List P6, Ds = l.map p6D
  | [], _ => ⟨[], rfl⟩
  | D :: Ds, h => by
    simp only [FitsAX] at h
    obtain ⟨n, rfl⟩ := fits_pitch h.1
    obtain ⟨l, rfl⟩ := fits_pts_aux h.2
    exact ⟨n :: l, rfl⟩
theorem fits_pts {D : DatX} (h : FitsX Γ 22 D) : ∃ l : List P6,l.length ≤ 9223372036854775807 ∧ D = .slice 6 (l.map p6D) := by
  cases D <;> simp [FitsX, Γ_22, Γ_24] at h
  rename_i z Ds
  obtain ⟨rfl, hl, h⟩ := h
  obtain ⟨l, rfl⟩ := fits_pts_aux h
  exact ⟨l, by simpa [maxLen] using hl, rfl⟩
theorem pit_val {p : P6} {w : World} {x : Value} (h : Rv [] w (DatX.val true (p6D p)) x) : Rv [] w (p6A p) x := h
theorem pts_val {l : List P6} {w : World} {x : Value} (h : Rv [] w (DatX.val false (.slice 6 (l.map p6D))) x) : Rv [] w (pts l) x := by
  simp only [DatX.val, DatX.cells, nth, Bool.false_eq_true, if_false] at h
  rw [List.length_map] at h
  refine Rv_view_ext (fun i j hi hj => ?_) h
  rw [cellsLLX_get _ _ (by simpa using hi), List.getElem_map, p6D_cells]
  simp [ptE, gP, hi]
theorem own : ownKnob Tryd.prog.godebug = none := by kernel_rfl
theorem laidOut : laidOutB Tryd.prog = true := by kernel_rfl
theorem gTab : Tryd.prog.globalNamed "schisma/pitch.primes" = some 0 := by kernel_rfl
theorem globs {W : World} (h : laidMetH Tryd.prog [("schisma/pitch.primes", Rows.laid_schisma_pitch_primes)] W) : Glob [] W := by
  intro g k vs hm
  simp only [gtab, List.mem_singleton, Prod.mk.injEq] at hm
  obtain ⟨rfl, rfl, rfl⟩ := hm
  have ht : Lib.TabIs Tryd.prog W "schisma/pitch.primes" .i64 primL :=
    Lib.tabIs_of_head (rest := []) gTab (by kernel_rfl) (n := 6) (t := 23) (e := 3) (by kernel_rfl) (by kernel_rfl) (by kernel_rfl) (by kernel_rfl) h
  exact glob_tab (by decide) fun i hi => ht.cell gTab i hi
noncomputable def laidWorld (os : Os) : World :=
  { World.holding Tryd.prog os ⟨#[], #[], []⟩ with heap := (World.holding Tryd.prog os ⟨#[], #[], []⟩).heap.modify 0 fun
      | .cells _ t frozen => .cells #[.int .i64 2,.int .i64 3,.int .i64 5,.int .i64 7,.int .i64 11,.int .i64 13] t frozen
      | o => o }
end Go.Proofs.YtdglbjjenihdlaaDoor
