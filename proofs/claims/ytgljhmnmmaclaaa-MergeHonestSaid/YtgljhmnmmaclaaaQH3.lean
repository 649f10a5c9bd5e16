/-
  Moves, takes, integers and bytes as arguments.
-/
import Derived.Test.YtgljhmnmmaclaaaQH2
import Derived.Test.YtgljhmnmmaclaaaQA5
import Derived.Test.YtgljhmnmmaclaaaRows
import Derived.ProofKit
set_option linter.unusedSimpArgs false
set_option linter.unusedVariables false
namespace Go.Proofs.Ytgljhmnmmaclaaa
open Go.Ab Q
def tkD (t : Q.Tk) : Dat := .strct [.int .i64 t.s, .int .i64 t.c, .int .i64 t.n, .int .i64 t.d]
def movD (m : Q.Mov) : Dat := .strct [.int .i64 m.k, .int .i64 m.b, .int .i64 m.t, tkD m.x]
theorem movD_cells (m : Q.Mov) : (movD m).cells = Q.movL m := rfl
theorem fits_int {D : Dat} (h : Fits Γ 3 D) : ∃ n, D = .int .i64 n := by
  cases D <;> simp [Fits, Γ_3] at h
  rename_i k n
  exact ⟨n, by rw [← h.1]⟩
theorem fits_u8 {D : Dat} (h : Fits Γ 5 D) : ∃ n : Nat, n ≤ 255 ∧ D = .int .u8 n := by
  cases D <;> simp [Fits, Γ_5] at h
  rename_i k n
  obtain ⟨rfl, h⟩ := h
  have h2 : 0 ≤ n ∧ n ≤ 255 := by
    simp [Lit.wf, IntKind.min, IntKind.max, IntKind.bits, IntKind.signed] at h
    omega
  exact ⟨n.toNat, by omega, by rw [Int.toNat_of_nonneg h2.1]⟩
theorem fits_take {D : Dat} (h : Fits Γ 38 D) : ∃ t, D = tkD t := by
  cases D <;> simp [Fits, Γ_38] at h
  rename_i fs
  match fs, h with
  | [a, b, c, d], h =>
    simp only [FitsL] at h
    obtain ⟨h1, h2, h3, h4, _⟩ := h
    obtain ⟨s, rfl⟩ := fits_int h1
    obtain ⟨c, rfl⟩ := fits_int h2
    obtain ⟨n, rfl⟩ := fits_int h3
    obtain ⟨d, rfl⟩ := fits_int h4
    exact ⟨⟨s, c, n, d⟩, rfl⟩
  | [], h => simp [FitsL] at h
  | [_], h => simp [FitsL] at h
  | [_, _], h => simp [FitsL] at h
  | [_, _, _], h => simp [FitsL] at h
  | _ :: _ :: _ :: _ :: _ :: _, h => simp [FitsL] at h
theorem fits_move {D : Dat} (h : Fits Γ 70 D) : ∃ m, D = movD m := by
  cases D <;> simp [Fits, Γ_70] at h
  rename_i fs
  match fs, h with
  | [a, b, c, d], h =>
    simp only [FitsL] at h
    obtain ⟨h1, h2, h3, h4, _⟩ := h
    obtain ⟨k, rfl⟩ := fits_int h1
    obtain ⟨b, rfl⟩ := fits_int h2
    obtain ⟨t, rfl⟩ := fits_int h3
    obtain ⟨x, rfl⟩ := fits_take h4
    exact ⟨⟨k, b, t, x⟩, rfl⟩
  | [], h => simp [FitsL] at h
  | [_], h => simp [FitsL] at h
  | [_, _], h => simp [FitsL] at h
  | [_, _, _], h => simp [FitsL] at h
  | _ :: _ :: _ :: _ :: _ :: _, h => simp [FitsL] at h
theorem fits_moves_aux : ∀ {Ds : List Dat}, FitsA Γ 70 Ds → ∃ l : List Q.Mov, Ds = l.map movD
  | [], _ => ⟨[], rfl⟩
  | D :: Ds, h => by
    simp only [FitsA] at h
    obtain ⟨t, rfl⟩ := fits_move h.1
    obtain ⟨l, rfl⟩ := fits_moves_aux h.2
    exact ⟨t :: l, rfl⟩
theorem fits_moves {D : Dat} (h : Fits Γ 22 D) : ∃ l : List Q.Mov,l.length ≤ 9223372036854775807 ∧ D = .slice 7 (l.map movD) := by
  cases D <;> simp [Fits, Γ_22, Γ_70] at h
  rename_i z Ds
  obtain ⟨rfl, hl, h⟩ := h
  obtain ⟨l, rfl⟩ := fits_moves_aux h
  exact ⟨l, by simpa [maxLen] using hl, rfl⟩
theorem moves_val {l : List Q.Mov} {w : World} {x : Value} (h : Rv [] w (Dat.val false (.slice 7 (l.map movD))) x) : Rv [] w (Q.movs l) x := by
  simp only [Dat.val, Dat.cells, nth, Bool.false_eq_true, if_false] at h
  rw [List.length_map] at h
  refine Rv_view_ext (fun i j hi hj => ?_) h
  rw [cellsLL_get _ _ (by simpa using hi), List.getElem_map, movD_cells]
  simp [Q.movE, Q.gM, hi]def by9D (b : Nat) : Dat := .int .u8 b
theorem fits_bytes_aux : ∀ {Ds : List Dat}, FitsA Γ 5 Ds → ∃ l : List Nat, (∀ x ∈ l, x < 256) ∧ Ds = l.map by9D
  | [], _ => ⟨[], (fun _ h => by cases h), rfl⟩
  | D :: Ds, h => by
    simp only [FitsA] at h
    obtain ⟨t, ht, rfl⟩ := fits_u8 h.1
    obtain ⟨l, hl, rfl⟩ := fits_bytes_aux h.2
    refine ⟨t :: l, fun x hx => ?_, rfl⟩
    rcases List.mem_cons.1 hx with rfl | hx
    · omega
    · exact hl x hx
theorem fits_bytes {D : Dat} (h : Fits Γ 23 D) : ∃ l : List Nat,(l.length ≤ 9223372036854775807 ∧ ∀ i,gb9 l i < 256) ∧ D = .slice 1 (l.map by9D) := by
  cases D <;> simp [Fits, Γ_23, Γ_5] at h
  rename_i z Ds
  obtain ⟨rfl, hl, h⟩ := h
  obtain ⟨l, h256, rfl⟩ := fits_bytes_aux h
  refine ⟨l, ⟨by simpa [maxLen] using hl, fun i => ?_⟩, rfl⟩
  by_cases hi : i < l.length
  · have : gb9 l i = l[i] := by unfold gb9; rw [List.getD_eq_getElem?_getD, List.getElem?_eq_getElem hi]; rfl
    rw [this]
    exact h256 _ (List.getElem_mem hi)
  · have : gb9 l i = 0 := by unfold gb9; rw [List.getD_eq_getElem?_getD, List.getElem?_eq_none (by omega)]; rfl
    rw [this]; omega
theorem bytes_val {l : List Nat} {w : World} {x : Value} (h : Rv [] w (Dat.val false (.slice 1 (l.map by9D))) x) : Rv [] w (byV l) x := by
  simp only [Dat.val, Dat.cells, nth, Bool.false_eq_true, if_false] at h
  rw [List.length_map] at h
  refine Rv_view_ext (fun i j hi hj => ?_) h
  rw [cellsLL_get _ _ (by simpa using hi), List.getElem_map]
  obtain rfl : j = 0 := by omega
  simp [by9D, Dat.cells, nth, byE9, gb9, hi]
theorem own : ownKnob Try.prog.godebug = none := by kernel_rfl
theorem laid : laidOutB Try.prog = true := by kernel_rfl
end Go.Proofs.Ytgljhmnmmaclaaa
