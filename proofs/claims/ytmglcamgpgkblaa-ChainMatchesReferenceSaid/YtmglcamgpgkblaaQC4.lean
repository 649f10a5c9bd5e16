/-
  The arguments of the laws as data: scores, steps, intervals, integers.
-/
import Derived.Test.YtmglcamgpgkblaaQC3
import Derived.Test.YtmglcamgpgkblaaQAb33
import Derived.Test.YtmglcamgpgkblaaRows
import Derived.ProofKit
set_option linter.unusedSimpArgs false
set_option linter.unusedVariables false
namespace Go.Proofs.Ytmglcamgpgkblaa
open Go.Ab
def inD (n : Int) : DatX := .int .i64 n
def p6D (p : P6) : DatX := .arr [inD p.a, inD p.b, inD p.c, inD p.d, inD p.e, inD p.f]
def ntD (n : Nt) : DatX := .strct [inD n.v, inD n.f, inD n.u, p6D n.pl, .bool n.tied]
def prD (p : Pr) : DatX := .strct [inD p.a, inD p.b, p6D p.want, inD p.bound]
def spD (x : Sp) : DatX := .strct [inD x.fr, inD x.to, inD x.k]
def scD (s : Sc) : DatX := .strct [inD s.voices,.slice 10 (s.notes.map ntD),.slice 9 (s.pairs.map prD),.slice 1 (s.cads.map inD)]
theorem ntD_cells (n : Nt) : (ntD n).cells = ntL n := rfl
theorem prD_cells (p : Pr) : (prD p).cells = prL p := rfl
theorem spD_cells (x : Sp) : (spD x).cells = spL x := rfl
theorem fits_int {D : DatX} (h : FitsX Γ 3 D) : ∃ n, D = .int .i64 n := by
  cases D <;> simp [FitsX, Γ_3] at h
  rename_i k n
  exact ⟨n, by rw [← h.1]⟩
theorem fits_bool {D : DatX} (h : FitsX Γ 4 D) : ∃ b, D = .bool b := by
  cases D <;> simp [FitsX, Γ_4] at h
  rename_i b
  exact ⟨b, rfl⟩
theorem fits_six {l : List DatX} (hl : l.length = 6) (h : FitsAX Γ 3 l) : ∃ p : P6,l = [inD p.a,inD p.b,inD p.c,inD p.d,inD p.e,inD p.f] := by
  match l, hl, h with
  | [a, b, c, d, e, f], _, h =>
    simp only [FitsAX] at h
    obtain ⟨h1, h2, h3, h4, h5, h6, _⟩ := h
    obtain ⟨a, rfl⟩ := fits_int h1
    obtain ⟨b, rfl⟩ := fits_int h2
    obtain ⟨c, rfl⟩ := fits_int h3
    obtain ⟨d, rfl⟩ := fits_int h4
    obtain ⟨e, rfl⟩ := fits_int h5
    obtain ⟨f, rfl⟩ := fits_int h6
    exact ⟨⟨a, b, c, d, e, f⟩, rfl⟩
theorem fits_vec {D : DatX} (h : FitsX Γ 31 D) : ∃ p : P6, D = p6D p := by
  match D, h with
  | .arr l, h =>
    simp only [FitsX] at h
    obtain ⟨ti, m, e, hg, hd, hl, h⟩ := h
    rw [Γ_31] at hg
    cases hg
    cases hd
    obtain ⟨p, rfl⟩ := fits_six hl h
    exact ⟨p, rfl⟩
  | .int _ _, h => simp [FitsX, Γ_31] at h
  | .bool _, h => simp [FitsX, Γ_31] at h
  | .str _, h => simp [FitsX, Γ_31] at h
  | .strct _, h => simp [FitsX, Γ_31] at h
  | .slice _ _, h => simp [FitsX, Γ_31] at h
theorem fits_note {D : DatX} (h : FitsX Γ 47 D) : ∃ n : Nt, D = ntD n := by
  cases D <;> simp [FitsX, Γ_47] at h
  rename_i fs
  match fs, h with
  | [a, b, c, d, e], h =>
    simp only [FitsLX] at h
    obtain ⟨h1, h2, h3, h4, h5, _⟩ := h
    obtain ⟨a, rfl⟩ := fits_int h1
    obtain ⟨b, rfl⟩ := fits_int h2
    obtain ⟨c, rfl⟩ := fits_int h3
    obtain ⟨p, rfl⟩ := fits_vec h4
    obtain ⟨t, rfl⟩ := fits_bool h5
    exact ⟨⟨a, b, c, p, t⟩, rfl⟩
  | [], h => simp [FitsLX] at h
  | [_], h => simp [FitsLX] at h
  | [_, _], h => simp [FitsLX] at h
  | [_, _, _], h => simp [FitsLX] at h
  | [_, _, _, _], h => simp [FitsLX] at h
  | _ :: _ :: _ :: _ :: _ :: _ :: _, h => simp [FitsLX] at h
theorem fits_pair {D : DatX} (h : FitsX Γ 45 D) : ∃ p : Pr, D = prD p := by
  cases D <;> simp [FitsX, Γ_45] at h
  rename_i fs
  match fs, h with
  | [a, b, c, d], h =>
    simp only [FitsLX] at h
    obtain ⟨h1, h2, h3, h4, _⟩ := h
    obtain ⟨a, rfl⟩ := fits_int h1
    obtain ⟨b, rfl⟩ := fits_int h2
    obtain ⟨p, rfl⟩ := fits_vec h3
    obtain ⟨d, rfl⟩ := fits_int h4
    exact ⟨⟨a, b, p, d⟩, rfl⟩
  | [], h => simp [FitsLX] at h
  | [_], h => simp [FitsLX] at h
  | [_, _], h => simp [FitsLX] at h
  | [_, _, _], h => simp [FitsLX] at h
  | _ :: _ :: _ :: _ :: _ :: _, h => simp [FitsLX] at h
theorem fits_step {D : DatX} (h : FitsX Γ 41 D) : ∃ x : Sp, D = spD x := by
  cases D <;> simp [FitsX, Γ_41] at h
  rename_i fs
  match fs, h with
  | [a, b, c], h =>
    simp only [FitsLX] at h
    obtain ⟨h1, h2, h3, _⟩ := h
    obtain ⟨a, rfl⟩ := fits_int h1
    obtain ⟨b, rfl⟩ := fits_int h2
    obtain ⟨c, rfl⟩ := fits_int h3
    exact ⟨⟨a, b, c⟩, rfl⟩
  | [], h => simp [FitsLX] at h
  | [_], h => simp [FitsLX] at h
  | [_, _], h => simp [FitsLX] at h
  | _ :: _ :: _ :: _ :: _, h => simp [FitsLX] at h
theorem fits_map {α : Type} {t : TypeId} {g : α → DatX} (hf : ∀ {D},FitsX Γ t D → ∃ x,D = g x) : ∀ {Ds : List DatX},FitsAX Γ t Ds → ∃ l : List α,Ds = l.map g
  | [], _ => ⟨[], rfl⟩
  | D :: Ds, h => by
    simp only [FitsAX] at h
    obtain ⟨k, rfl⟩ := hf h.1
    obtain ⟨l, rfl⟩ := fits_map hf h.2
    exact ⟨k :: l, rfl⟩
theorem fits_notes {D : DatX} (h : FitsX Γ 22 D) : ∃ l : List Nt,l.length ≤ 9223372036854775807 ∧ D = .slice 10 (l.map ntD) := by
  cases D <;> simp [FitsX, Γ_22, Γ_47] at h
  rename_i z Ds
  obtain ⟨rfl, hl, h⟩ := h
  obtain ⟨l, rfl⟩ := fits_map fits_note h
  exact ⟨l, by simpa [maxLen] using hl, rfl⟩
theorem fits_pairs {D : DatX} (h : FitsX Γ 23 D) : ∃ l : List Pr,l.length ≤ 9223372036854775807 ∧ D = .slice 9 (l.map prD) := by
  cases D <;> simp [FitsX, Γ_23, Γ_45] at h
  rename_i z Ds
  obtain ⟨rfl, hl, h⟩ := h
  obtain ⟨l, rfl⟩ := fits_map fits_pair h
  exact ⟨l, by simpa [maxLen] using hl, rfl⟩
theorem fits_steps {D : DatX} (h : FitsX Γ 27 D) : ∃ l : List Sp,l.length ≤ 9223372036854775807 ∧ D = .slice 3 (l.map spD) := by
  cases D <;> simp [FitsX, Γ_27, Γ_41] at h
  rename_i z Ds
  obtain ⟨rfl, hl, h⟩ := h
  obtain ⟨l, rfl⟩ := fits_map fits_step h
  exact ⟨l, by simpa [maxLen] using hl, rfl⟩
theorem fits_ints {D : DatX} (h : FitsX Γ 24 D) : ∃ l : List Int,l.length ≤ 9223372036854775807 ∧ D = .slice 1 (l.map inD) := by
  cases D <;> simp [FitsX, Γ_24, Γ_3] at h
  rename_i z Ds
  obtain ⟨rfl, hl, h⟩ := h
  obtain ⟨l, rfl⟩ := fits_map (g := inD) fits_int h
  exact ⟨l, by simpa [maxLen] using hl, rfl⟩
theorem fits_score {D : DatX} (h : FitsX Γ 26 D) : ∃ s : Sc, ScL s ∧ D = scD s := by
  cases D <;> simp [FitsX, Γ_26] at h
  rename_i fs
  match fs, h with
  | [a, b, c, d], h =>
    simp only [FitsLX] at h
    obtain ⟨h1, h2, h3, h4, _⟩ := h
    obtain ⟨a, rfl⟩ := fits_int h1
    obtain ⟨l, hl, rfl⟩ := fits_notes h2
    obtain ⟨m, hm, rfl⟩ := fits_pairs h3
    obtain ⟨k, hk, rfl⟩ := fits_ints h4
    exact ⟨⟨a, l, m, k⟩, ⟨hl, hm, hk⟩, rfl⟩
  | [], h => simp [FitsLX] at h
  | [_], h => simp [FitsLX] at h
  | [_, _], h => simp [FitsLX] at h
  | [_, _, _], h => simp [FitsLX] at h
  | _ :: _ :: _ :: _ :: _ :: _, h => simp [FitsLX] at h
theorem nts_imp {l : List Nt} {w : World} {x : Value} (h : Rv [] w (.view (l.map ntD).length 10 (fun i j => nth (nthL (cellsLLX (l.map ntD)) i) j)) x) : Rv [] w (nts l) x := by
  rw [List.length_map] at h
  refine Rv_view_ext (fun i j hi hj => ?_) h
  rw [cellsLLX_get _ _ (by simpa using hi), List.getElem_map, ntD_cells]
  simp [ntE, gn, hi]
theorem prs_imp {l : List Pr} {w : World} {x : Value} (h : Rv [] w (.view (l.map prD).length 9 (fun i j => nth (nthL (cellsLLX (l.map prD)) i) j)) x) : Rv [] w (prs l) x := by
  rw [List.length_map] at h
  refine Rv_view_ext (fun i j hi hj => ?_) h
  rw [cellsLLX_get _ _ (by simpa using hi), List.getElem_map, prD_cells]
  simp [prE, gp, hi]
theorem ints_imp {l : List Int} {w : World} {x : Value} (h : Rv [] w (.view (l.map inD).length 1 (fun i j => nth (nthL (cellsLLX (l.map inD)) i) j)) x) : Rv [] w (ints l) x := by
  rw [List.length_map] at h
  refine Rv_view_ext (fun i j hi hj => ?_) h
  rw [cellsLLX_get _ _ (by simpa using hi), List.getElem_map]
  obtain rfl : j = 0 := by omega
  simp [inD, DatX.cells, nth, inE, gi, hi]
theorem score_val {s : Sc} {w : World} {x : Value} (h : Rv [] w (DatX.val true (scD s)) x) : Rv [] w (scA s) x := by
  simp only [DatX.val, scD, DatX.cells, cellsLX, if_true, List.cons_append, List.nil_append, inD, Rv] at h ⊢
  obtain ⟨cs, rfl, h⟩ := h
  refine ⟨cs, rfl, ?_⟩
  match cs, h with
  | [c1, c2, c3, c4], h =>
    simp only [RvL] at h ⊢
    exact ⟨h.1, nts_imp h.2.1, prs_imp h.2.2.1, ints_imp h.2.2.2.1, trivial⟩
  | [], h => simp [RvL] at h
  | [_], h => simp [RvL] at h
  | [_, _], h => simp [RvL] at h
  | [_, _, _], h => simp [RvL] at h
  | _ :: _ :: _ :: _ :: _ :: _, h => simp [RvL] at h
theorem steps_val {l : List Sp} {w : World} {x : Value} (h : Rv [] w (DatX.val false (.slice 3 (l.map spD))) x) : Rv [] w (sps l) x := by
  simp only [DatX.val, DatX.cells, nth, Bool.false_eq_true, if_false] at h
  rw [List.length_map] at h
  refine Rv_view_ext (fun i j hi hj => ?_) h
  rw [cellsLLX_get _ _ (by simpa using hi), List.getElem_map, spD_cells]
  simp [spE, gs, hi]
def gv (l : List P6) (i : Nat) : P6 := l.getD i z6
def vtE (l : List P6) (i j : Nat) : AV := nth (p6L (gv l i)) j
@[go_sem] theorem vtE_0 (l : List P6) (i : Nat) : vtE l i 0 = .imm (.int .i64 (gv l i).a) := rfl
@[go_sem] theorem vtE_1 (l : List P6) (i : Nat) : vtE l i 1 = .imm (.int .i64 (gv l i).b) := rfl
@[go_sem] theorem vtE_2 (l : List P6) (i : Nat) : vtE l i 2 = .imm (.int .i64 (gv l i).c) := rfl
@[go_sem] theorem vtE_3 (l : List P6) (i : Nat) : vtE l i 3 = .imm (.int .i64 (gv l i).d) := rfl
@[go_sem] theorem vtE_4 (l : List P6) (i : Nat) : vtE l i 4 = .imm (.int .i64 (gv l i).e) := rfl
@[go_sem] theorem vtE_5 (l : List P6) (i : Nat) : vtE l i 5 = .imm (.int .i64 (gv l i).f) := rfl
@[simp] theorem vtE_free (l : List P6) (i j : Nat) : Free (vtE l i j) := by rcases j with _ | _ | _ | _ | _ | _ | j <;> trivial
@[go_sem, reducible] def vts (l : List P6) : AV := .view l.length 6 (vtE l)
theorem own : ownKnob Try.prog.godebug = none := by kernel_rfl
theorem laid : laidOutB Try.prog = true := by kernel_rfl
end Go.Proofs.Ytmglcamgpgkblaa
