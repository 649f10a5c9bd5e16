/-
  Keyboards, keys, intervals and integers as arguments; the logarithms as the row lays them.
-/
import Derived.Test.YtddcnafocohghaaDoorQS5
import Derived.Test.YtddcnafocohghaaDoorQAb31
import Derived.Test.YtddcnafocohghaaDoorCards
import Derived.Test.YtddcnafocohghaaDoorTie
import Derived.ProofKit
set_option linter.unusedSimpArgs false
set_option linter.unusedVariables false
namespace Go.Proofs.YtddcnafocohghaaDoor
open Go.Ab
def inD (n : Int) : DatX := .int .i64 n
def p6D (p : P6) : DatX := .arr [inD p.a, inD p.b, inD p.c, inD p.d, inD p.e, inD p.f]
def kyD (k : Ky) : DatX := .strct [inD k.id, inD k.x, inD k.row, p6D k.p]
def bdD (b : Bd) : DatX := .strct [.slice 9 (b.ks.map kyD), inD b.span, inD b.tol]
theorem p6D_cells (p : P6) : (p6D p).cells = p6L p := rfl
theorem kyD_cells (k : Ky) : (kyD k).cells = kyL k := rfl
theorem fits_int {D : DatX} (h : FitsX Γ 3 D) : ∃ n, D = .int .i64 n := by
  cases D <;> simp [FitsX, Γ_3] at h
  rename_i k n
  exact ⟨n, by rw [← h.1]⟩
theorem fits_six {l : List DatX} (hl : l.length = 6) (h : FitsAX Γ 3 l) : ∃ p : P6, l = [inD p.a, inD p.b, inD p.c, inD p.d, inD p.e, inD p.f] := by
  match l, hl, h with
  | [a, b, c, d, e, f], _, h =>
    simp only [FitsAX] at h
    obtain ⟨h1, h2, h3, h4, h5, h6, _⟩ := h
    obtain ⟨a, rfl⟩ := fits_int h1
    obtain ⟨b, rfl⟩ := fits_int h2
    obtain ⟨c, rfl⟩ := fits_int h3
    obtain ⟨d, rfl⟩ := fits_int h4
    obtain ⟨e, rfl⟩ := fits_int h5
    obtain ⟨f, rfl⟩ := fits_int h6
    exact ⟨⟨a, b, c, d, e, f⟩, rfl⟩
theorem fits_vec {D : DatX} (h : FitsX Γ 26 D) : ∃ p : P6, D = p6D p := by
  match D, h with
  | .arr l, h =>
    simp only [FitsX] at h
    obtain ⟨ti, m, e, hg, hd, hl, h⟩ := h
    rw [Γ_26] at hg
    cases hg
    cases hd
    obtain ⟨p, rfl⟩ := fits_six hl h
    exact ⟨p, rfl⟩
  | .int _ _, h => simp [FitsX, Γ_26] at h
  | .bool _, h => simp [FitsX, Γ_26] at h
  | .str _, h => simp [FitsX, Γ_26] at h
  | .strct _, h => simp [FitsX, Γ_26] at h
  | .slice _ _, h => simp [FitsX, Γ_26] at h
theorem fits_pitch {D : DatX} (h : FitsX Γ 41 D) : ∃ p : P6, D = p6D p := by
  match D, h with
  | .arr l, h =>
    simp only [FitsX] at h
    obtain ⟨ti, m, e, hg, hd, hl, h⟩ := h
    rw [Γ_41] at hg
    cases hg
    cases hd
    obtain ⟨p, rfl⟩ := fits_six hl h
    exact ⟨p, rfl⟩
  | .int _ _, h => simp [FitsX, Γ_41] at h
  | .bool _, h => simp [FitsX, Γ_41] at h
  | .str _, h => simp [FitsX, Γ_41] at h
  | .strct _, h => simp [FitsX, Γ_41] at h
  | .slice _ _, h => simp [FitsX, Γ_41] at h
theorem fits_key {D : DatX} (h : FitsX Γ 43 D) : ∃ k : Ky, D = kyD k := by
  cases D <;> simp [FitsX, Γ_43] at h
  rename_i fs
  match fs, h with
  | [a, b, c, d], h =>
    simp only [FitsLX] at h
    obtain ⟨h1, h2, h3, h4, _⟩ := h
    obtain ⟨a, rfl⟩ := fits_int h1
    obtain ⟨b, rfl⟩ := fits_int h2
    obtain ⟨c, rfl⟩ := fits_int h3
    obtain ⟨p, rfl⟩ := fits_pitch h4
    exact ⟨⟨a, b, c, p⟩, rfl⟩
  | [], h => simp [FitsLX] at h
  | [_], h => simp [FitsLX] at h
  | [_, _], h => simp [FitsLX] at h
  | [_, _, _], h => simp [FitsLX] at h
  | _ :: _ :: _ :: _ :: _ :: _, h => simp [FitsLX] at h
theorem fits_keys_aux : ∀ {Ds : List DatX}, FitsAX Γ 43 Ds → ∃ l : List Ky, Ds = l.map kyD
  | [], _ => ⟨[], rfl⟩
  | D :: Ds, h => by
    simp only [FitsAX] at h
    obtain ⟨k, rfl⟩ := fits_key h.1
    obtain ⟨l, rfl⟩ := fits_keys_aux h.2
    exact ⟨k :: l, rfl⟩
theorem fits_keys {D : DatX} (h : FitsX Γ 22 D) : ∃ l : List Ky, l.length ≤ 9223372036854775807 ∧ D = .slice 9 (l.map kyD) := by
  cases D <;> simp [FitsX, Γ_22, Γ_43] at h
  rename_i z Ds
  obtain ⟨rfl, hl, h⟩ := h
  obtain ⟨l, rfl⟩ := fits_keys_aux h
  exact ⟨l, by simpa [maxLen] using hl, rfl⟩
theorem fits_board {D : DatX} (h : FitsX Γ 24 D) : ∃ b : Bd, b.ks.length ≤ 9223372036854775807 ∧ D = bdD b := by
  cases D <;> simp [FitsX, Γ_24] at h
  rename_i fs
  match fs, h with
  | [a, b, c], h =>
    simp only [FitsLX] at h
    obtain ⟨h1, h2, h3, _⟩ := h
    obtain ⟨l, hl, rfl⟩ := fits_keys h1
    obtain ⟨s, rfl⟩ := fits_int h2
    obtain ⟨t, rfl⟩ := fits_int h3
    exact ⟨⟨l, s, t⟩, hl, rfl⟩
  | [], h => simp [FitsLX] at h
  | [_], h => simp [FitsLX] at h
  | [_, _], h => simp [FitsLX] at h
  | _ :: _ :: _ :: _ :: _, h => simp [FitsLX] at h
theorem fits_ints_aux : ∀ {Ds : List DatX}, FitsAX Γ 3 Ds → ∃ l : List Int, Ds = l.map inD
  | [], _ => ⟨[], rfl⟩
  | D :: Ds, h => by
    simp only [FitsAX] at h
    obtain ⟨n, rfl⟩ := fits_int h.1
    obtain ⟨l, rfl⟩ := fits_ints_aux h.2
    exact ⟨n :: l, rfl⟩
theorem fits_ints {D : DatX} (h : FitsX Γ 27 D) : ∃ l : List Int, l.length ≤ 9223372036854775807 ∧ D = .slice 1 (l.map inD) := by
  cases D <;> simp [FitsX, Γ_27, Γ_3] at h
  rename_i z Ds
  obtain ⟨rfl, hl, h⟩ := h
  obtain ⟨l, rfl⟩ := fits_ints_aux h
  exact ⟨l, by simpa [maxLen] using hl, rfl⟩
theorem fits_vecs_aux : ∀ {Ds : List DatX}, FitsAX Γ 26 Ds → ∃ l : List P6, Ds = l.map p6D
  | [], _ => ⟨[], rfl⟩
  | D :: Ds, h => by
    simp only [FitsAX] at h
    obtain ⟨n, rfl⟩ := fits_vec h.1
    obtain ⟨l, rfl⟩ := fits_vecs_aux h.2
    exact ⟨n :: l, rfl⟩
theorem fits_vecs {D : DatX} (h : FitsX Γ 28 D) : ∃ l : List P6, l.length ≤ 9223372036854775807 ∧ D = .slice 6 (l.map p6D) := by
  cases D <;> simp [FitsX, Γ_28, Γ_26] at h
  rename_i z Ds
  obtain ⟨rfl, hl, h⟩ := h
  obtain ⟨l, rfl⟩ := fits_vecs_aux h
  exact ⟨l, by simpa [maxLen] using hl, rfl⟩
theorem kys_imp {l : List Ky} {w : World} {x : Value} (h : Rv [] w (.view (l.map kyD).length 9 (fun i j => nth (nthL (cellsLLX (l.map kyD)) i) j)) x) : Rv [] w (kys l) x := by
  rw [List.length_map] at h
  refine Rv_view_ext (fun i j hi hj => ?_) h
  rw [cellsLLX_get _ _ (by simpa using hi), List.getElem_map, kyD_cells]
  simp [kyE, gk, hi]
theorem board_val {b : Bd} {w : World} {x : Value} (h : Rv [] w (DatX.val true (bdD b)) x) : Rv [] w (bdA b) x := by
  simp only [DatX.val, bdD, DatX.cells, cellsLX, if_true, List.cons_append, List.nil_append, inD, Rv] at h ⊢
  obtain ⟨cs, rfl, h⟩ := h
  refine ⟨cs, rfl, ?_⟩
  match cs, h with
  | [c1, c2, c3], h =>
    simp only [RvL] at h ⊢
    exact ⟨kys_imp h.1, h.2⟩
  | [], h => simp [RvL] at h
  | [_], h => simp [RvL] at h
  | [_, _], h => simp [RvL] at h
  | _ :: _ :: _ :: _ :: _, h => simp [RvL] at h
theorem vec_val {p : P6} {w : World} {x : Value} (h : Rv [] w (DatX.val true (p6D p)) x) : Rv [] w (p6A p) x := h
theorem ints_val {l : List Int} {w : World} {x : Value} (h : Rv [] w (DatX.val false (.slice 1 (l.map inD))) x) : Rv [] w (ints l) x := by
  simp only [DatX.val, DatX.cells, nth, Bool.false_eq_true, if_false] at h
  rw [List.length_map] at h
  refine Rv_view_ext (fun i j hi hj => ?_) h
  rw [cellsLLX_get _ _ (by simpa using hi), List.getElem_map]
  obtain rfl : j = 0 := by omega
  simp [inD, DatX.cells, nth, inE, gi, hi]
theorem vecs_val {l : List P6} {w : World} {x : Value} (h : Rv [] w (DatX.val false (.slice 6 (l.map p6D))) x) : Rv [] w (vts l) x := by
  simp only [DatX.val, DatX.cells, nth, Bool.false_eq_true, if_false] at h
  rw [List.length_map] at h
  refine Rv_view_ext (fun i j hi hj => ?_) h
  rw [cellsLLX_get _ _ (by simpa using hi), List.getElem_map, p6D_cells]
  simp [vtE, gv, hi]
theorem own : ownKnob Tryd.prog.godebug = none := by kernel_rfl
theorem laidOut : laidOutB Tryd.prog = true := by kernel_rfl
theorem gTab : Tryd.prog.globalNamed "schisma/size.logs" = some 0 := by kernel_rfl
section
variable {H : Type} {enc : TypeId × Value → H} {w : World} {base : Nat} {spare : Nat → Bool} {held : Bool} {fuel : Nat} {cs : List Value} {x : DataW H × List MemPlace}
theorem int1 : Tryd.prog.cellsOf 3 = 1 := by kernel_rfl
theorem size2 : Tryd.prog.cellsOf 80 = 2 := by kernel_rfl
theorem two_list {α : Type} {l : List α} (h : l.length = 2) : ∃ a b, l = [a, b] := by
  match l, h with
  | [a, b], _ => exact ⟨a, b, rfl⟩
set_option maxRecDepth 100000 in
theorem size_cells (h : DataW.trod enc Tryd.prog w base spare held fuel 80 cs = some x) : ∃ a b, cs = [.int .i64 a, .int .i64 b] ∧ x.1 = .agg [.lit (.int .i64 a), .lit (.int .i64 b)] := by
  obtain ⟨xs, n, _, rfl, hl, hxl, hx⟩ := DataW.trod_struct Tryd.underlying80 h
  have hxl : xs.length = 2 := hxl
  have hl : cs.length = 2 := hl.trans size2
  obtain ⟨x0, x1, rfl⟩ := two_list hxl
  obtain ⟨c0, c1, rfl⟩ := two_list hl
  have h0 := hx 0 _ rfl
  have h1 := hx 1 _ rfl
  obtain ⟨a, ha, hxa, _⟩ := DataW.trod_int (x := x0) Tryd.underlying3 h0
  obtain ⟨b, hb, hxb, _⟩ := DataW.trod_int (x := x1) Tryd.underlying3 h1
  have ha : List.take (Tryd.prog.cellsOf 3) [c0, c1] = [.int .i64 a] := ha
  have hb : List.take (Tryd.prog.cellsOf 3) [c1] = [.int .i64 b] := hb
  rw [int1] at ha hb
  cases ha
  cases hb
  cases hxa
  cases hxb
  exact ⟨_, _, rfl, rfl⟩
theorem six_list {α : Type} {l : List α} (h : l.length = 6) : ∃ a b c d e f, l = [a, b, c, d, e, f] := by
  match l, h with
  | [a, b, c, d, e, f], _ => exact ⟨a, b, c, d, e, f, rfl⟩
theorem drop_two (cs : List Value) (i : Nat) : cs.drop i = (cs.drop i).take 2 ++ cs.drop (i + 2) := by
  rw [← List.drop_drop, List.take_append_drop]
set_option maxRecDepth 100000 in
theorem logs_cells {p : List MemPlace} (h : DataW.trod enc Tryd.prog w base spare held fuel 108 cs = some (Rows.laid_schisma_size_logs, p)) : cs = logL.map fun z => Value.int .i64 z := by
  obtain ⟨xs, n, _, he, hl, hxl, hx⟩ := DataW.trod_array Tryd.underlying108 h
  have hl : cs.length = 12 := hl.trans (by kernel_rfl)
  rw [size2] at hx
  obtain ⟨x0, x1, x2, x3, x4, x5, rfl⟩ := six_list hxl
  have he := congrArg Prod.fst he
  simp only [Rows.laid_schisma_size_logs, List.map_cons, List.map_nil, DataW.agg.injEq, List.cons.injEq, and_true] at he
  obtain ⟨e0, e1, e2, e3, e4, e5⟩ := he
  obtain ⟨a0, b0, h0, k0⟩ := size_cells (x := x0) (hx 0 (by decide))
  obtain ⟨a1, b1, h1, k1⟩ := size_cells (x := x1) (hx 1 (by decide))
  obtain ⟨a2, b2, h2, k2⟩ := size_cells (x := x2) (hx 2 (by decide))
  obtain ⟨a3, b3, h3, k3⟩ := size_cells (x := x3) (hx 3 (by decide))
  obtain ⟨a4, b4, h4, k4⟩ := size_cells (x := x4) (hx 4 (by decide))
  obtain ⟨a5, b5, h5, k5⟩ := size_cells (x := x5) (hx 5 (by decide))
  rw [← e0] at k0
  rw [← e1] at k1
  rw [← e2] at k2
  rw [← e3] at k3
  rw [← e4] at k4
  rw [← e5] at k5
  simp only [DataW.agg.injEq, List.cons.injEq, DataW.lit.injEq, Lit.int.injEq, true_and, and_true] at k0 k1 k2 k3 k4 k5
  obtain ⟨rfl, rfl⟩ := k0
  obtain ⟨rfl, rfl⟩ := k1
  obtain ⟨rfl, rfl⟩ := k2
  obtain ⟨rfl, rfl⟩ := k3
  obtain ⟨rfl, rfl⟩ := k4
  obtain ⟨rfl, rfl⟩ := k5
  have t0 : cs.drop 0 = [_, _] ++ cs.drop 2 := (drop_two cs 0).trans (congrArg (· ++ cs.drop 2) h0)
  have t1 : cs.drop 2 = [_, _] ++ cs.drop 4 := (drop_two cs 2).trans (congrArg (· ++ cs.drop 4) h1)
  have t2 : cs.drop 4 = [_, _] ++ cs.drop 6 := (drop_two cs 4).trans (congrArg (· ++ cs.drop 6) h2)
  have t3 : cs.drop 6 = [_, _] ++ cs.drop 8 := (drop_two cs 6).trans (congrArg (· ++ cs.drop 8) h3)
  have t4 : cs.drop 8 = [_, _] ++ cs.drop 10 := (drop_two cs 8).trans (congrArg (· ++ cs.drop 10) h4)
  have t5 : cs.drop 10 = [_, _] ++ cs.drop 12 := (drop_two cs 10).trans (congrArg (· ++ cs.drop 12) h5)
  have t6 : cs.drop 12 = [] := List.drop_eq_nil_of_le (by omega)
  have : cs.drop 0 = logL.map fun z => Value.int .i64 z := by
    rw [t0, t1, t2, t3, t4, t5, t6]
    rfl
  exact this
end
set_option maxRecDepth 100000 in
theorem globs {W : World} (h : laidMetH Tryd.prog [("schisma/size.logs", Rows.laid_schisma_size_logs)] W) : Glob [] W := by
  intro g k vs hm
  simp only [gtab, List.mem_singleton, Prod.mk.injEq] at hm
  obtain ⟨rfl, rfl, rfl⟩ := hm
  have ht : Lib.TabIs Tryd.prog W "schisma/size.logs" .i64 logL := by
    obtain ⟨ps, ⟨g', t', cs, fuel, p, q, hg', ht', hvar, hd, _, _⟩, _⟩ := (show laidMet Tryd.prog [("schisma/size.logs", Rows.laid_schisma_size_logs)] W from h)
    obtain rfl := Option.some.inj (gTab.symm.trans hg')
    obtain rfl := Option.some.inj ((show (Tryd.prog.globals[0]?).map (·.type) = some 108 by kernel_rfl).symm.trans ht')
    unfold Lib.TabIs
    rw [hvar, ← logs_cells hd]
  exact glob_tab (by decide) fun i hi => ht.cell gTab i hi
noncomputable def laidWorld (os : Os) : World :=
  { World.holding Tryd.prog os ⟨#[], #[], []⟩ with heap := (World.holding Tryd.prog os ⟨#[], #[], []⟩).heap.modify 0 fun
      | .cells _ t frozen => .cells #[.int .i64 1000000000, .int .i64 1000000000, .int .i64 1584962500, .int .i64 1584962501, .int .i64 2321928094, .int .i64 2321928095, .int .i64 2807354922, .int .i64 2807354923, .int .i64 3459431618, .int .i64 3459431619, .int .i64 3700439718, .int .i64 3700439719] t frozen
      | o => o }
theorem bytes_vec : Tryd.prog.bytesOf 26 = 48 := by kernel_rfl
end Go.Proofs.YtddcnafocohghaaDoor
