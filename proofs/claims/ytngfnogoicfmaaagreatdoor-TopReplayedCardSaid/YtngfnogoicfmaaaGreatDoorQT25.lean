/-
  Names, takes and integers as arguments; the checksum's table as the row lays it.
-/
import Derived.Test.YtngfnogoicfmaaaGreatDoorQT24
import Derived.Test.YtngfnogoicfmaaaGreatDoorQA6
import Derived.Test.YtngfnogoicfmaaaGreatDoorCards
import Derived.Test.YtngfnogoicfmaaaGreatDoorTie
import Derived.Lib.LaidTab
import Derived.Stop.LaidErr
import Derived.ProofKit
set_option linter.unusedSimpArgs false
set_option linter.unusedVariables false
namespace Go.Proofs.YtngfnogoicfmaaaGreatDoor
open Go.Ab
def inD (n : Int) : DatX := .int .i64 n
def p6D (p : P6) : DatX := .arr [inD p.a, inD p.b, inD p.c, inD p.d, inD p.e, inD p.f]
def nmD (n : Nm) : DatX := .strct [.str (sB n.s), p6D n.v]
def tkD (t : Tk) : DatX := .strct [inD t.s, inD t.c, inD t.n, inD t.d]
theorem nmD_cells (n : Nm) : (nmD n).cells = nmL n := rfl
theorem tkD_cells (t : Tk) : (tkD t).cells = tkL t := rfl
theorem fits_int {D : DatX} (h : FitsX Γ 3 D) : ∃ n, D = .int .i64 n := by
  cases D <;> simp [FitsX, Γ_3] at h
  rename_i k n
  exact ⟨n, by rw [← h.1]⟩
theorem fits_u8 {D : DatX} (h : FitsX Γ 5 D) : ∃ n : Nat, n < 256 ∧ D = .int .u8 n := by
  cases D <;> simp [FitsX, Γ_5] at h
  rename_i k n
  obtain ⟨rfl, h⟩ := h
  have h2 : 0 ≤ n ∧ n ≤ 255 := by
    simp [Lit.wf, IntKind.min, IntKind.max, IntKind.bits, IntKind.signed] at h
    omega
  exact ⟨n.toNat, by omega, by rw [Int.toNat_of_nonneg h2.1]⟩
theorem fits_six {l : List DatX} (hl : l.length = 6) (h : FitsAX Γ 3 l) : ∃ p : P6,l = [inD p.a,inD p.b,inD p.c,inD p.d,inD p.e,inD p.f] := by
  match l, hl, h with
  | [a, b, c, d, e, f], _, h =>
    simp only [FitsAX] at h
    obtain ⟨h1, h2, h3, h4, h5, h6, _⟩ := h
    obtain ⟨a, rfl⟩ := fits_int h1
    obtain ⟨b, rfl⟩ := fits_int h2
    obtain ⟨c, rfl⟩ := fits_int h3
    obtain ⟨d, rfl⟩ := fits_int h4
    obtain ⟨e, rfl⟩ := fits_int h5
    obtain ⟨f, rfl⟩ := fits_int h6
    exact ⟨⟨a, b, c, d, e, f⟩, rfl⟩
theorem fits_vec {D : DatX} (h : FitsX Γ 37 D) : ∃ p : P6, D = p6D p := by
  match D, h with
  | .arr l, h =>
    simp only [FitsX] at h
    obtain ⟨ti, m, e, hg, hd, hl, h⟩ := h
    rw [Γ_37] at hg
    cases hg
    cases hd
    obtain ⟨p, rfl⟩ := fits_six hl h
    exact ⟨p, rfl⟩
  | .int _ _, h => simp [FitsX, Γ_37] at h
  | .bool _, h => simp [FitsX, Γ_37] at h
  | .str _, h => simp [FitsX, Γ_37] at h
  | .strct _, h => simp [FitsX, Γ_37] at h
  | .slice _ _, h => simp [FitsX, Γ_37] at h
theorem fits_take {D : DatX} (h : FitsX Γ 47 D) : ∃ t, D = tkD t := by
  cases D <;> simp [FitsX, Γ_47] at h
  rename_i fs
  match fs, h with
  | [a, b, c, d], h =>
    simp only [FitsLX] at h
    obtain ⟨h1, h2, h3, h4, _⟩ := h
    obtain ⟨s, rfl⟩ := fits_int h1
    obtain ⟨c, rfl⟩ := fits_int h2
    obtain ⟨n, rfl⟩ := fits_int h3
    obtain ⟨d, rfl⟩ := fits_int h4
    exact ⟨⟨s, c, n, d⟩, rfl⟩
  | [], h => simp [FitsLX] at h
  | [_], h => simp [FitsLX] at h
  | [_, _], h => simp [FitsLX] at h
  | [_, _, _], h => simp [FitsLX] at h
  | _ :: _ :: _ :: _ :: _ :: _, h => simp [FitsLX] at h
theorem fits_str {D : DatX} (h : FitsX Γ 9 D) : ∃ l : List UInt8, D = .str (sB l) := by
  cases D <;> simp [FitsX, Γ_9] at h
  exact ⟨_, by rw [sB_eta]⟩
theorem fits_named {D : DatX} (h : FitsX Γ 57 D) : ∃ n : Nm, D = nmD n := by
  cases D <;> simp [FitsX, Γ_57] at h
  rename_i fs
  match fs, h with
  | [a, b], h =>
    simp only [FitsLX] at h
    obtain ⟨h1, h2, _⟩ := h
    obtain ⟨s, rfl⟩ := fits_str h1
    obtain ⟨p, rfl⟩ := fits_vec h2
    exact ⟨⟨s, p⟩, rfl⟩
  | [], h => simp [FitsLX] at h
  | [_], h => simp [FitsLX] at h
  | _ :: _ :: _ :: _, h => simp [FitsLX] at h
theorem fits_names_aux : ∀ {Ds : List DatX}, FitsAX Γ 57 Ds → ∃ l : List Nm, Ds = l.map nmD
  | [], _ => ⟨[], rfl⟩
  | D :: Ds, h => by
    simp only [FitsAX] at h
    obtain ⟨n, rfl⟩ := fits_named h.1
    obtain ⟨l, rfl⟩ := fits_names_aux h.2
    exact ⟨n :: l, rfl⟩
theorem fits_names {D : DatX} (h : FitsX Γ 22 D) : ∃ l : List Nm,l.length ≤ 9223372036854775807 ∧ D = .slice 7 (l.map nmD) := by
  cases D <;> simp [FitsX, Γ_22, Γ_57] at h
  rename_i z Ds
  obtain ⟨rfl, hl, h⟩ := h
  obtain ⟨l, rfl⟩ := fits_names_aux h
  exact ⟨l, by simpa [maxLen] using hl, rfl⟩
theorem fits_takes_aux : ∀ {Ds : List DatX}, FitsAX Γ 47 Ds → ∃ l : List Tk, Ds = l.map tkD
  | [], _ => ⟨[], rfl⟩
  | D :: Ds, h => by
    simp only [FitsAX] at h
    obtain ⟨n, rfl⟩ := fits_take h.1
    obtain ⟨l, rfl⟩ := fits_takes_aux h.2
    exact ⟨n :: l, rfl⟩
theorem fits_takes {D : DatX} (h : FitsX Γ 23 D) : ∃ l : List Tk,l.length ≤ 9223372036854775807 ∧ D = .slice 4 (l.map tkD) := by
  cases D <;> simp [FitsX, Γ_23, Γ_47] at h
  rename_i z Ds
  obtain ⟨rfl, hl, h⟩ := h
  obtain ⟨l, rfl⟩ := fits_takes_aux h
  exact ⟨l, by simpa [maxLen] using hl, rfl⟩
theorem names_val {l : List Nm} {w : World} {x : Value} (h : Rv [] w (DatX.val false (.slice 7 (l.map nmD))) x) : Rv [] w (nmV l) x := by
  simp only [DatX.val, DatX.cells, nth, Bool.false_eq_true, if_false] at h
  rw [List.length_map] at h
  refine Rv_view_ext (fun i j hi hj => ?_) h
  rw [cellsLLX_get _ _ (by simpa using hi), List.getElem_map, nmD_cells]
  simp [nmE, gN, hi]
theorem takes_val {l : List Tk} {w : World} {x : Value} (h : Rv [] w (DatX.val false (.slice 4 (l.map tkD))) x) : Rv [] w (tks l) x := by
  simp only [DatX.val, DatX.cells, nth, Bool.false_eq_true, if_false] at h
  rw [List.length_map] at h
  refine Rv_view_ext (fun i j hi hj => ?_) h
  rw [cellsLLX_get _ _ (by simpa using hi), List.getElem_map, tkD_cells]
  simp [tkE, gt, hi]
theorem own : ownKnob Tryz.prog.godebug = none := by kernel_rfl
theorem laidOut : laidOutB Tryz.prog = true := by kernel_rfl
theorem gTab : Tryz.prog.globalNamed "schisma/wire.nibbles" = some 0 := by kernel_rfl
theorem globs {W : World} (h : laidMetH Tryz.prog Rows.topReplayedRow.laid W) : Glob [] W := by
  intro g k vs hm
  simp only [gtab, List.mem_singleton, Prod.mk.injEq] at hm
  obtain ⟨rfl, rfl, rfl⟩ := hm
  have h2 : laidMet Tryz.prog [("unicode/utf8.acceptRanges", Rows.laid_unicode_utf8_acceptRanges), ("schisma/wire.nibbles", Rows.laid_schisma_wire_nibbles), ("unicode/utf8.first", Rows.laid_unicode_utf8_first)] W := h
  have ht : Lib.TabIs Tryz.prog W "schisma/wire.nibbles" .u32 nibL :=
    Lib.tabIs_of_head gTab (by kernel_rfl) (n := 16) (t := 165) (e := 152) (by kernel_rfl) (by kernel_rfl) (by kernel_rfl) (by kernel_rfl) (laidMet.tail h2)
  exact glob_tab (by decide) fun i hi => ht.cell gTab i hi
def fill (cs : List Value) : Obj → Obj
  | .cells _ t frozen => .cells cs.toArray t frozen
  | o => o
noncomputable def laidWorld (os : Os) : World :=
  { World.holding Tryz.prog os ⟨#[], #[], []⟩ with
    heap := (((World.holding Tryz.prog os ⟨#[],#[],[]⟩).heap.modify 0 (fill (nibL.map (Value.int .u32)))).modify 1 (fill (Go.Pinned.utf8FirstZ.map fun (n : Nat)=>Value.int .u8 (n : Int)))).modify 2
      (fill ([128,191,160,191,128,159,144,191,128,143,0,0,0,0,0,0,0,0,0,0,0,0,0,0,0,0,0,0,0,0,0,0].map (Value.int .u8))) }
end Go.Proofs.YtngfnogoicfmaaaGreatDoor
