/-
  Records, disks, bytes and integers as arguments; the checksum's table as the row lays it.
-/
import Derived.Test.YtnomenmakhielaaDoorQS37
import Derived.Test.YtnomenmakhielaaDoorQL5
import Derived.Test.YtnomenmakhielaaDoorCards
import Derived.Test.YtnomenmakhielaaDoorTie
import Derived.ProofKit
set_option linter.unusedSimpArgs false
set_option linter.unusedVariables false
namespace Go.Proofs.YtnomenmakhielaaDoor
open Go.Ab

def tkD (t : Tk) : Dat := .strct [.int .i64 t.s, .int .i64 t.c, .int .i64 t.n, .int .i64 t.d]
def rcD (r : Rcd) : Dat := .strct [.int .i64 r.k, .int .i64 r.s, .int .i64 r.b, tkD r.x]
theorem rcD_cells (r : Rcd) : (rcD r).cells = rcL r := rfl
def byD (n : Nat) : Dat := .int .u8 n
def dsD (d : Dsk) : Dat := .strct [.slice 1 (d.b.map byD), .int .i64 d.s]

theorem fits_int {D : Dat} (h : Fits Γ 3 D) : ∃ n, D = .int .i64 n := by
  cases D <;> simp [Fits, Γ_3] at h
  rename_i k n
  exact ⟨n, by rw [← h.1]⟩
theorem fits_u8 {D : Dat} (h : Fits Γ 5 D) : ∃ n : Nat, n < 256 ∧ D = .int .u8 n := by
  cases D <;> simp [Fits, Γ_5] at h
  rename_i k n
  obtain ⟨rfl, h⟩ := h
  have h2 : 0 ≤ n ∧ n ≤ 255 := by
    simp [Lit.wf, IntKind.min, IntKind.max, IntKind.bits, IntKind.signed] at h
    omega
  exact ⟨n.toNat, by omega, by rw [Int.toNat_of_nonneg h2.1]⟩
theorem fits_u16 {D : Dat} (h : Fits Γ 23 D) : ∃ n : Nat, n < 65536 ∧ D = .int .u16 n := by
  cases D <;> simp [Fits, Γ_23] at h
  rename_i k n
  obtain ⟨rfl, h⟩ := h
  have h2 : 0 ≤ n ∧ n ≤ 65535 := by
    simp [Lit.wf, IntKind.min, IntKind.max, IntKind.bits, IntKind.signed] at h
    omega
  exact ⟨n.toNat, by omega, by rw [Int.toNat_of_nonneg h2.1]⟩
theorem fits_take {D : Dat} (h : Fits Γ 33 D) : ∃ t, D = tkD t := by
  cases D <;> simp [Fits, Γ_33] at h
  rename_i fs
  match fs, h with
  | [a, b, c, d], h =>
    simp only [FitsL] at h
    obtain ⟨h1, h2, h3, h4, _⟩ := h
    obtain ⟨s, rfl⟩ := fits_int h1
    obtain ⟨c, rfl⟩ := fits_int h2
    obtain ⟨n, rfl⟩ := fits_int h3
    obtain ⟨d, rfl⟩ := fits_int h4
    exact ⟨⟨s, c, n, d⟩, rfl⟩
  | [], h => simp [FitsL] at h
  | [_], h => simp [FitsL] at h
  | [_, _], h => simp [FitsL] at h
  | [_, _, _], h => simp [FitsL] at h
  | _ :: _ :: _ :: _ :: _ :: _, h => simp [FitsL] at h
theorem fits_rec {D : Dat} (h : Fits Γ 39 D) : ∃ r, D = rcD r := by
  cases D <;> simp [Fits, Γ_39] at h
  rename_i fs
  match fs, h with
  | [a, b, c, d], h =>
    simp only [FitsL] at h
    obtain ⟨h1, h2, h3, h4, _⟩ := h
    obtain ⟨k, rfl⟩ := fits_int h1
    obtain ⟨s, rfl⟩ := fits_int h2
    obtain ⟨b, rfl⟩ := fits_int h3
    obtain ⟨x, rfl⟩ := fits_take h4
    exact ⟨⟨k, s, b, x⟩, rfl⟩
  | [], h => simp [FitsL] at h
  | [_], h => simp [FitsL] at h
  | [_, _], h => simp [FitsL] at h
  | [_, _, _], h => simp [FitsL] at h
  | _ :: _ :: _ :: _ :: _ :: _, h => simp [FitsL] at h
theorem fits_recs_aux : ∀ {Ds : List Dat}, FitsA Γ 39 Ds → ∃ l : List Rcd, Ds = l.map rcD
  | [], _ => ⟨[], rfl⟩
  | D :: Ds, h => by
    simp only [FitsA] at h
    obtain ⟨t, rfl⟩ := fits_rec h.1
    obtain ⟨l, rfl⟩ := fits_recs_aux h.2
    exact ⟨t :: l, rfl⟩
theorem fits_recs {D : Dat} (h : Fits Γ 22 D) : ∃ l : List Rcd, l.length ≤ 9223372036854775807 ∧ D = .slice 7 (l.map rcD) := by
  cases D <;> simp [Fits, Γ_22, Γ_39] at h
  rename_i z Ds
  obtain ⟨rfl, hl, h⟩ := h
  obtain ⟨l, rfl⟩ := fits_recs_aux h
  exact ⟨l, by simpa [maxLen] using hl, rfl⟩
theorem recs_val {l : List Rcd} {w : World} {x : Value} (h : Rv [] w (Dat.val false (.slice 7 (l.map rcD))) x) : Rv [] w (rcs l) x := by
  simp only [Dat.val, Dat.cells, nth, Bool.false_eq_true, if_false] at h
  rw [List.length_map] at h
  refine Rv_view_ext (fun i j hi hj => ?_) h
  rw [cellsLL_get _ _ (by simpa using hi), List.getElem_map, rcD_cells]
  simp [rcE, gR, hi]
theorem fits_bytes_aux : ∀ {Ds : List Dat}, FitsA Γ 5 Ds → ∃ l : List Nat, ByOk l ∧ Ds = l.map byD
  | [], _ => ⟨[], (by intro x hx; cases hx), rfl⟩
  | D :: Ds, h => by
    simp only [FitsA] at h
    obtain ⟨t, h1, rfl⟩ := fits_u8 h.1
    obtain ⟨l, h2, rfl⟩ := fits_bytes_aux h.2
    exact ⟨t :: l, fun x hx => (by rcases List.mem_cons.1 hx with rfl | hx; exact h1; exact h2 x hx), rfl⟩
theorem fits_bytes {D : Dat} (h : Fits Γ 41 D) : ∃ l : List Nat, ByOk l ∧ l.length ≤ 9223372036854775807 ∧ D = .slice 1 (l.map byD) := by
  cases D <;> simp [Fits, Γ_41, Γ_5] at h
  rename_i z Ds
  obtain ⟨rfl, hl, h⟩ := h
  obtain ⟨l, h2, rfl⟩ := fits_bytes_aux h
  exact ⟨l, h2, by simpa [maxLen] using hl, rfl⟩
theorem fits_disk {D : Dat} (h : Fits Γ 43 D) : ∃ d : Dsk, ByOk d.b ∧ d.b.length ≤ 9223372036854775807 ∧ D = dsD d := by
  cases D <;> simp [Fits, Γ_43] at h
  rename_i fs
  match fs, h with
  | [a, b], h =>
    simp only [FitsL] at h
    obtain ⟨h1, h2, _⟩ := h
    obtain ⟨l, h3, h4, rfl⟩ := fits_bytes h1
    obtain ⟨s, rfl⟩ := fits_int h2
    exact ⟨⟨l, s⟩, h3, h4, rfl⟩
  | [], h => simp [FitsL] at h
  | [_], h => simp [FitsL] at h
  | _ :: _ :: _ :: _, h => simp [FitsL] at h
theorem disk_val {d : Dsk} {w : World} {x : Value} (h : Rv [] w (Dat.val true (dsD d)) x) : Rv [] w (dsA d) x := by
  simp only [Dat.val, dsD, Dat.cells, cellsL, if_true, List.cons_append, List.nil_append, Rv] at h ⊢
  obtain ⟨cs, rfl, h⟩ := h
  refine ⟨cs, rfl, ?_⟩
  match cs, h with
  | [c1, c2], h =>
    simp only [RvL] at h ⊢
    refine ⟨?_, h.2⟩
    have h1 := h.1
    rw [List.length_map] at h1
    refine Rv_view_ext (fun i j hi hj => ?_) h1
    rw [cellsLL_get _ _ (by simpa using hi), List.getElem_map]
    obtain rfl : j = 0 := by omega
    simp [byD, Dat.cells, nth, byE, gb8, hi]
  | [], h => simp [RvL] at h
  | [_], h => simp [RvL] at h
  | _ :: _ :: _ :: _, h => simp [RvL] at h

theorem own : ownKnob Tryd.prog.godebug = none := by kernel_rfl
theorem laidOut : laidOutB Tryd.prog = true := by kernel_rfl
theorem gTab : Tryd.prog.globalNamed "schisma/wire.nibbles" = some 0 := by kernel_rfl
theorem globs {W : World} (h : laidMetH Tryd.prog [("schisma/wire.nibbles", Rows.laid_schisma_wire_nibbles)] W) : Glob [] W := by
  intro g k vs hm
  simp only [gtab, List.mem_singleton, Prod.mk.injEq] at hm
  obtain ⟨rfl, rfl, rfl⟩ := hm
  have ht : Lib.TabIs Tryd.prog W "schisma/wire.nibbles" .u32 nibL :=
    Lib.tabIs_of_head (rest := []) gTab (by kernel_rfl) (n := 16) (t := 122) (e := 101) (by kernel_rfl) (by kernel_rfl) (by kernel_rfl) (by kernel_rfl) h
  exact glob_tab (by decide) fun i hi => ht.cell gTab i hi
noncomputable def laidWorld (os : Os) : World :=
  { World.holding Tryd.prog os ⟨#[], #[], []⟩ with heap := (World.holding Tryd.prog os ⟨#[], #[], []⟩).heap.modify 0 fun
      | .cells _ t frozen => .cells #[.int .u32 0, .int .u32 498536548, .int .u32 997073096, .int .u32 651767980, .int .u32 1994146192, .int .u32 1802195444, .int .u32 1303535960, .int .u32 1342533948, .int .u32 3988292384, .int .u32 4027552580, .int .u32 3604390888, .int .u32 3412177804, .int .u32 2607071920, .int .u32 2262029012, .int .u32 2685067896, .int .u32 3183342108] t frozen
      | o => o }
theorem bytes_rec : Tryd.prog.bytesOf 39 = 56 := by kernel_rfl
end Go.Proofs.YtnomenmakhielaaDoor
