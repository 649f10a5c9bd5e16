/-
  Singers, integers and intervals as arguments; the primes and the logarithms as the row lays them.
-/
import Derived.Test.YtonmienclploaaaGreatDoorQV7
import Derived.Test.YtonmienclploaaaGreatDoorQA6
import Derived.Test.YtonmienclploaaaGreatDoorCards
import Derived.Test.YtonmienclploaaaGreatDoorTie
import Derived.Lib.LaidTab
import Derived.Stop.LaidErr
import Derived.ProofKit
set_option linter.unusedSimpArgs false
set_option linter.unusedVariables false
namespace Go.Proofs.YtonmienclploaaaGreatDoor
open Go.Ab
def inD (n : Int) : DatX := .int .i64 n
def p6D (p : P6) : DatX := .arr [inD p.a, inD p.b, inD p.c, inD p.d, inD p.e, inD p.f]
def vcD (v : Vc) : DatX := .strct [p6D v.lo, p6D v.hi, inD v.st, inD v.br]
theorem p6D_cells (p : P6) : (p6D p).cells = p6L p := rfl
theorem fits_int {D : DatX} (h : FitsX Γ 3 D) : ∃ n, D = .int .i64 n := by
  cases D <;> simp [FitsX, Γ_3] at h
  rename_i k n
  exact ⟨n, by rw [← h.1]⟩
theorem fits_six {l : List DatX} (hl : l.length = 6) (h : FitsAX Γ 3 l) : ∃ p : P6,l = [inD p.a,inD p.b,inD p.c,inD p.d,inD p.e,inD p.f] := by
  match l, hl, h with
  | [a, b, c, d, e, f], _, h =>
    simp only [FitsAX] at h
    obtain ⟨h1, h2, h3, h4, h5, h6, _⟩ := h
    obtain ⟨a, rfl⟩ := fits_int h1
    obtain ⟨b, rfl⟩ := fits_int h2
    obtain ⟨c, rfl⟩ := fits_int h3
    obtain ⟨d, rfl⟩ := fits_int h4
    obtain ⟨e, rfl⟩ := fits_int h5
    obtain ⟨f, rfl⟩ := fits_int h6
    exact ⟨⟨a, b, c, d, e, f⟩, rfl⟩
theorem fits_vec {D : DatX} (h : FitsX Γ 34 D) : ∃ p : P6, D = p6D p := by
  match D, h with
  | .arr l, h =>
    simp only [FitsX] at h
    obtain ⟨ti, m, e, hg, hd, hl, h⟩ := h
    rw [Γ_34] at hg
    cases hg
    cases hd
    obtain ⟨p, rfl⟩ := fits_six hl h
    exact ⟨p, rfl⟩
  | .int _ _, h => simp [FitsX, Γ_34] at h
  | .bool _, h => simp [FitsX, Γ_34] at h
  | .str _, h => simp [FitsX, Γ_34] at h
  | .strct _, h => simp [FitsX, Γ_34] at h
  | .slice _ _, h => simp [FitsX, Γ_34] at h
theorem fits_pitch {D : DatX} (h : FitsX Γ 23 D) : ∃ p : P6, D = p6D p := by
  match D, h with
  | .arr l, h =>
    simp only [FitsX] at h
    obtain ⟨ti, m, e, hg, hd, hl, h⟩ := h
    rw [Γ_23] at hg
    cases hg
    cases hd
    obtain ⟨p, rfl⟩ := fits_six hl h
    exact ⟨p, rfl⟩
  | .int _ _, h => simp [FitsX, Γ_23] at h
  | .bool _, h => simp [FitsX, Γ_23] at h
  | .str _, h => simp [FitsX, Γ_23] at h
  | .strct _, h => simp [FitsX, Γ_23] at h
  | .slice _ _, h => simp [FitsX, Γ_23] at h
theorem fits_voice {D : DatX} (h : FitsX Γ 25 D) : ∃ v : Vc, D = vcD v := by
  cases D <;> simp [FitsX, Γ_25] at h
  rename_i fs
  match fs, h with
  | [a, b, c, d], h =>
    simp only [FitsLX] at h
    obtain ⟨h1, h2, h3, h4, _⟩ := h
    obtain ⟨a, rfl⟩ := fits_pitch h1
    obtain ⟨b, rfl⟩ := fits_pitch h2
    obtain ⟨c, rfl⟩ := fits_int h3
    obtain ⟨d, rfl⟩ := fits_int h4
    exact ⟨⟨a, b, c, d⟩, rfl⟩
  | [], h => simp [FitsLX] at h
  | [_], h => simp [FitsLX] at h
  | [_, _], h => simp [FitsLX] at h
  | [_, _, _], h => simp [FitsLX] at h
  | _ :: _ :: _ :: _ :: _ :: _, h => simp [FitsLX] at h
theorem fits_ints_aux : ∀ {Ds : List DatX}, FitsAX Γ 3 Ds → ∃ l : List Int, Ds = l.map inD
  | [], _ => ⟨[], rfl⟩
  | D :: Ds, h => by
    simp only [FitsAX] at h
    obtain ⟨n, rfl⟩ := fits_int h.1
    obtain ⟨l, rfl⟩ := fits_ints_aux h.2
    exact ⟨n :: l, rfl⟩
theorem fits_ints {D : DatX} (h : FitsX Γ 26 D) : ∃ l : List Int,l.length ≤ 9223372036854775807 ∧ D = .slice 1 (l.map inD) := by
  cases D <;> simp [FitsX, Γ_26, Γ_3] at h
  rename_i z Ds
  obtain ⟨rfl, hl, h⟩ := h
  obtain ⟨l, rfl⟩ := fits_ints_aux h
  exact ⟨l, by simpa [maxLen] using hl, rfl⟩
theorem fits_vecs_aux : ∀ {Ds : List DatX}, FitsAX Γ 34 Ds → ∃ l : List P6, Ds = l.map p6D
  | [], _ => ⟨[], rfl⟩
  | D :: Ds, h => by
    simp only [FitsAX] at h
    obtain ⟨n, rfl⟩ := fits_vec h.1
    obtain ⟨l, rfl⟩ := fits_vecs_aux h.2
    exact ⟨n :: l, rfl⟩
theorem fits_vecs {D : DatX} (h : FitsX Γ 27 D) : ∃ l : List P6,l.length ≤ 9223372036854775807 ∧ D = .slice 6 (l.map p6D) := by
  cases D <;> simp [FitsX, Γ_27, Γ_34] at h
  rename_i z Ds
  obtain ⟨rfl, hl, h⟩ := h
  obtain ⟨l, rfl⟩ := fits_vecs_aux h
  exact ⟨l, by simpa [maxLen] using hl, rfl⟩
theorem voice_val {v : Vc} {w : World} {x : Value} (h : Rv [] w (DatX.val true (vcD v)) x) : Rv [] w (vcA v) x := h
theorem ints_val {l : List Int} {w : World} {x : Value} (h : Rv [] w (DatX.val false (.slice 1 (l.map inD))) x) : Rv [] w (its l) x := by
  simp only [DatX.val, DatX.cells, nth, Bool.false_eq_true, if_false] at h
  rw [List.length_map] at h
  refine Rv_view_ext (fun i j hi hj => ?_) h
  rw [cellsLLX_get _ _ (by simpa using hi), List.getElem_map]
  obtain rfl : j = 0 := by omega
  simp [inD, DatX.cells, nth, itE, gL, hi]
theorem vecs_val {l : List P6} {w : World} {x : Value} (h : Rv [] w (DatX.val false (.slice 6 (l.map p6D))) x) : Rv [] w (vts l) x := by
  simp only [DatX.val, DatX.cells, nth, Bool.false_eq_true, if_false] at h
  rw [List.length_map] at h
  refine Rv_view_ext (fun i j hi hj => ?_) h
  rw [cellsLLX_get _ _ (by simpa using hi), List.getElem_map, p6D_cells]
  simp [vtE, gV, hi]
theorem own : ownKnob Tryz.prog.godebug = none := by kernel_rfl
theorem laidOut : laidOutB Tryz.prog = true := by kernel_rfl
theorem gTab1 : Tryz.prog.globalNamed "schisma/size.logs" = some 1 := by kernel_rfl
theorem gTab2 : Tryz.prog.globalNamed "schisma/pitch.primes" = some 2 := by kernel_rfl
section
variable {H : Type} {enc : TypeId × Value → H} {w : World} {base : Nat} {spare : Nat → Bool} {held : Bool} {fuel : Nat} {cs : List Value} {x : DataW H × List MemPlace}
theorem int1 : Tryz.prog.cellsOf 3 = 1 := by kernel_rfl
theorem size2 : Tryz.prog.cellsOf 108 = 2 := by kernel_rfl
theorem two_list {α : Type} {l : List α} (h : l.length = 2) : ∃ a b, l = [a, b] := by
  match l, h with
  | [a, b], _ => exact ⟨a, b, rfl⟩
set_option maxRecDepth 100000 in
theorem size_cells (h : DataW.trod enc Tryz.prog w base spare held fuel 108 cs = some x) : ∃ a b,cs = [.int .i64 a,.int .i64 b] ∧ x.1 = .agg [.lit (.int .i64 a),.lit (.int .i64 b)] := by
  obtain ⟨xs, n, _, rfl, hl, hxl, hx⟩ := DataW.trod_struct Tryz.underlying108 h
  have hxl : xs.length = 2 := hxl
  have hl : cs.length = 2 := hl.trans size2
  obtain ⟨x0, x1, rfl⟩ := two_list hxl
  obtain ⟨c0, c1, rfl⟩ := two_list hl
  have h0 := hx 0 _ rfl
  have h1 := hx 1 _ rfl
  obtain ⟨a, ha, hxa, _⟩ := DataW.trod_int (x := x0) Tryz.underlying3 h0
  obtain ⟨b, hb, hxb, _⟩ := DataW.trod_int (x := x1) Tryz.underlying3 h1
  have ha : List.take (Tryz.prog.cellsOf 3) [c0, c1] = [.int .i64 a] := ha
  have hb : List.take (Tryz.prog.cellsOf 3) [c1] = [.int .i64 b] := hb
  rw [int1] at ha hb
  cases ha
  cases hb
  cases hxa
  cases hxb
  exact ⟨_, _, rfl, rfl⟩
theorem six_list {α : Type} {l : List α} (h : l.length = 6) : ∃ a b c d e f, l = [a, b, c, d, e, f] := by
  match l, h with
  | [a, b, c, d, e, f], _ => exact ⟨a, b, c, d, e, f, rfl⟩
theorem drop_two (cs : List Value) (i : Nat) : cs.drop i = (cs.drop i).take 2 ++ cs.drop (i + 2) := by
  rw [← List.drop_drop, List.take_append_drop]
set_option maxRecDepth 100000 in
theorem logs_cells {p : List MemPlace} (h : DataW.trod enc Tryz.prog w base spare held fuel 192 cs = some (Rows.laid_schisma_size_logs,p)) : cs = logL.map fun z => Value.int .i64 z := by
  obtain ⟨xs, n, _, he, hl, hxl, hx⟩ := DataW.trod_array Tryz.underlying192 h
  have hl : cs.length = 12 := hl.trans (by kernel_rfl)
  rw [size2] at hx
  obtain ⟨x0, x1, x2, x3, x4, x5, rfl⟩ := six_list hxl
  have he := congrArg Prod.fst he
  simp only [Rows.laid_schisma_size_logs, List.map_cons, List.map_nil, DataW.agg.injEq, List.cons.injEq, and_true] at he
  obtain ⟨e0, e1, e2, e3, e4, e5⟩ := he
  obtain ⟨a0, b0, h0, k0⟩ := size_cells (x := x0) (hx 0 (by decide))
  obtain ⟨a1, b1, h1, k1⟩ := size_cells (x := x1) (hx 1 (by decide))
  obtain ⟨a2, b2, h2, k2⟩ := size_cells (x := x2) (hx 2 (by decide))
  obtain ⟨a3, b3, h3, k3⟩ := size_cells (x := x3) (hx 3 (by decide))
  obtain ⟨a4, b4, h4, k4⟩ := size_cells (x := x4) (hx 4 (by decide))
  obtain ⟨a5, b5, h5, k5⟩ := size_cells (x := x5) (hx 5 (by decide))
  rw [← e0] at k0
  rw [← e1] at k1
  rw [← e2] at k2
  rw [← e3] at k3
  rw [← e4] at k4
  rw [← e5] at k5
  simp only [DataW.agg.injEq, List.cons.injEq, DataW.lit.injEq, Lit.int.injEq, true_and, and_true] at k0 k1 k2 k3 k4 k5
  obtain ⟨rfl, rfl⟩ := k0
  obtain ⟨rfl, rfl⟩ := k1
  obtain ⟨rfl, rfl⟩ := k2
  obtain ⟨rfl, rfl⟩ := k3
  obtain ⟨rfl, rfl⟩ := k4
  obtain ⟨rfl, rfl⟩ := k5
  have t0 : cs.drop 0 = [_, _] ++ cs.drop 2 := (drop_two cs 0).trans (congrArg (· ++ cs.drop 2) h0)
  have t1 : cs.drop 2 = [_, _] ++ cs.drop 4 := (drop_two cs 2).trans (congrArg (· ++ cs.drop 4) h1)
  have t2 : cs.drop 4 = [_, _] ++ cs.drop 6 := (drop_two cs 4).trans (congrArg (· ++ cs.drop 6) h2)
  have t3 : cs.drop 6 = [_, _] ++ cs.drop 8 := (drop_two cs 6).trans (congrArg (· ++ cs.drop 8) h3)
  have t4 : cs.drop 8 = [_, _] ++ cs.drop 10 := (drop_two cs 8).trans (congrArg (· ++ cs.drop 10) h4)
  have t5 : cs.drop 10 = [_, _] ++ cs.drop 12 := (drop_two cs 10).trans (congrArg (· ++ cs.drop 12) h5)
  have t6 : cs.drop 12 = [] := List.drop_eq_nil_of_le (by omega)
  have : cs.drop 0 = logL.map fun z => Value.int .i64 z := by
    rw [t0, t1, t2, t3, t4, t5, t6]
    rfl
  exact this
end
set_option maxRecDepth 100000 in
theorem globs {W : World} (h : laidMetH Tryz.prog Rows.topBreathedRow.laid W) : Glob [] W := by
  have h2 : laidMet Tryz.prog [("schisma/pitch.primes", Rows.laid_schisma_pitch_primes), ("schisma/size.logs", Rows.laid_schisma_size_logs)] W := h
  intro g k vs hm
  simp only [gtab, List.mem_cons, List.not_mem_nil, or_false, Prod.mk.injEq] at hm
  rcases hm with ⟨rfl, rfl, rfl⟩ | ⟨rfl, rfl, rfl⟩
  · have ht : Lib.TabIs Tryz.prog W "schisma/size.logs" .i64 logL := by
      obtain ⟨ps, ⟨g', t', cs, fuel, p, q, hg', ht', hvar, hd, _, _⟩, _⟩ := laidMet.tail h2
      obtain rfl := Option.some.inj (gTab1.symm.trans hg')
      obtain rfl := Option.some.inj ((show (Tryz.prog.globals[1]?).map (·.type) = some 192 by kernel_rfl).symm.trans ht')
      unfold Lib.TabIs
      rw [hvar, ← logs_cells hd]
    exact glob_tab (by decide) fun i hi => ht.cell gTab1 i hi
  · have ht : Lib.TabIs Tryz.prog W "schisma/pitch.primes" .i64 primL :=
      Lib.tabIs_of_head gTab2 (by kernel_rfl) (n := 6) (t := 22) (e := 3) (by kernel_rfl) (by kernel_rfl) (by kernel_rfl) (by kernel_rfl) h2
    exact glob_tab (by decide) fun i hi => ht.cell gTab2 i hi
def fill (cs : List Value) : Obj → Obj
  | .cells _ t frozen => .cells cs.toArray t frozen
  | o => o
noncomputable def laidWorld (os : Os) : World :=
  { World.holding Tryz.prog os ⟨#[], #[], []⟩ with
    heap := ((World.holding Tryz.prog os ⟨#[],#[],[]⟩).heap.modify 1 (fill (logL.map (Value.int .i64)))).modify 2 (fill (primL.map (Value.int .i64))) }
end Go.Proofs.YtonmienclploaaaGreatDoor
