/-
 Players and intervals as arguments; the primes and the logarithms as the row lays them (printed by mk.py).
-/
import Derived.Test.YtonmienclploaaaGreatDoorQR1
import Derived.Test.YtonmienclploaaaGreatDoorQX1
import Derived.Test.YtonmienclploaaaGreatDoorQA6
import Derived.Test.YtonmienclploaaaGreatDoorCards
import Derived.Test.YtonmienclploaaaGreatDoorTie
import Derived.Lib.LaidTab
import Derived.Stop.LaidErr
import Derived.ProofKit
set_option linter.unusedSimpArgs false
set_option linter.unusedVariables false
namespace Go.Proofs.YtonmienclploaaaGreatDoor
open Go.Ab
def inD (n : Int) : DatX := .int .i64 n
def p6D (p : P6) : DatX := .arr [inD p.a, inD p.b, inD p.c, inD p.d, inD p.e, inD p.f]
def vcD (v : Vc) : DatX := .strct [p6D v.lo, p6D v.hi, inD v.st, inD v.br]
def kyD (k : Ky) : DatX := .strct [inD k.id, inD k.x, inD k.row, p6D k.p]
def bdD (b : Bd) : DatX := .strct [.slice 9 (b.ks.map kyD), inD b.span, inD b.tol]
def ppD (x : Pp) : DatX := .strct [inD x.id, p6D x.p, inD x.wind, inD x.sag, inD x.warm]
def ogD (o : Og) : DatX := .strct [.slice 10 (o.ps.map ppD), inD o.sup, inD o.tol]
def nkD (n : Nk) : DatX := .strct [.slice 6 (n.op.map p6D), .slice 6 (n.fr.map p6D), inD n.span, inD n.tol]
def hnD (h : Hn) : DatX := .strct [p6D h.bs, .slice 6 (h.vl.map p6D), inD h.most, inD h.tol]
def plyD (k : Int) (p : Ply) : DatX := .strct [inD k, bdD p.bd, ogD p.og, nkD p.nk, hnD p.hn, vcD p.vc]
theorem p6D_cells (p : P6) : (p6D p).cells = p6L p := rfl
theorem fits_int {D : DatX} (h : FitsX Γ 3 D) : ∃ n, D = .int .i64 n := by
 cases D <;> simp [FitsX, Γ_3] at h
 rename_i k n
 exact ⟨n, by rw [← h.1]⟩
theorem fits_six {l : List DatX} (hl : l.length = 6) (h : FitsAX Γ 3 l) : ∃ p : P6,l = [inD p.a,inD p.b,inD p.c,inD p.d,inD p.e,inD p.f] := by
 match l, hl, h with
 | [a, b, c, d, e, f], _, h =>
  simp only [FitsAX] at h
  obtain ⟨h1, h2, h3, h4, h5, h6, _⟩ := h
  obtain ⟨a, rfl⟩ := fits_int h1
  obtain ⟨b, rfl⟩ := fits_int h2
  obtain ⟨c, rfl⟩ := fits_int h3
  obtain ⟨d, rfl⟩ := fits_int h4
  obtain ⟨e, rfl⟩ := fits_int h5
  obtain ⟨f, rfl⟩ := fits_int h6
  exact ⟨⟨a, b, c, d, e, f⟩, rfl⟩
theorem fits_vec {D : DatX} (h : FitsX Γ 34 D) : ∃ p : P6, D = p6D p := by
 match D, h with
 | .arr l, h =>
  simp only [FitsX] at h
  obtain ⟨ti, m, e, hg, hd, hl, h⟩ := h
  rw [Γ_34] at hg
  cases hg
  cases hd
  obtain ⟨p, rfl⟩ := fits_six hl h
  exact ⟨p, rfl⟩
 | .int _ _, h => simp [FitsX, Γ_34] at h
 | .bool _, h => simp [FitsX, Γ_34] at h
 | .str _, h => simp [FitsX, Γ_34] at h
 | .strct _, h => simp [FitsX, Γ_34] at h
 | .slice _ _, h => simp [FitsX, Γ_34] at h
theorem fits_pitch {D : DatX} (h : FitsX Γ 23 D) : ∃ p : P6, D = p6D p := by
 match D, h with
 | .arr l, h =>
  simp only [FitsX] at h
  obtain ⟨ti, m, e, hg, hd, hl, h⟩ := h
  rw [Γ_23] at hg
  cases hg
  cases hd
  obtain ⟨p, rfl⟩ := fits_six hl h
  exact ⟨p, rfl⟩
 | .int _ _, h => simp [FitsX, Γ_23] at h
 | .bool _, h => simp [FitsX, Γ_23] at h
 | .str _, h => simp [FitsX, Γ_23] at h
 | .strct _, h => simp [FitsX, Γ_23] at h
 | .slice _ _, h => simp [FitsX, Γ_23] at h
theorem fits_voice {D : DatX} (h : FitsX Γ 25 D) : ∃ v : Vc, D = vcD v := by
 cases D <;> simp [FitsX, Γ_25] at h
 rename_i fs
 match fs, h with
 | [a, b, c, d], h =>
  simp only [FitsLX] at h
  obtain ⟨h1, h2, h3, h4, _⟩ := h
  obtain ⟨a, rfl⟩ := fits_pitch h1
  obtain ⟨b, rfl⟩ := fits_pitch h2
  obtain ⟨c, rfl⟩ := fits_int h3
  obtain ⟨d, rfl⟩ := fits_int h4
  exact ⟨⟨a, b, c, d⟩, rfl⟩
 | [], h => simp [FitsLX] at h
 | [_], h => simp [FitsLX] at h
 | [_, _], h => simp [FitsLX] at h
 | [_, _, _], h => simp [FitsLX] at h
 | _ :: _ :: _ :: _ :: _ :: _, h => simp [FitsLX] at h
theorem fits_vecs_aux : ∀ {Ds : List DatX}, FitsAX Γ 34 Ds → ∃ l : List P6, Ds = l.map p6D
 | [], _ => ⟨[], rfl⟩
 | D :: Ds, h => by
  simp only [FitsAX] at h
  obtain ⟨n, rfl⟩ := fits_vec h.1
  obtain ⟨l, rfl⟩ := fits_vecs_aux h.2
  exact ⟨n :: l, rfl⟩
theorem fits_vecs {D : DatX} (h : FitsX Γ 27 D) : ∃ l : List P6,l.length ≤ 9223372036854775807 ∧ D = .slice 6 (l.map p6D) := by
 cases D <;> simp [FitsX, Γ_27, Γ_34] at h
 rename_i z Ds
 obtain ⟨rfl, hl, h⟩ := h
 obtain ⟨l, rfl⟩ := fits_vecs_aux h
 exact ⟨l, by simpa [maxLen] using hl, rfl⟩
theorem fits_key {D : DatX} (h : FitsX Γ 96 D) : ∃ k : Ky, D = kyD k := by
 cases D <;> simp [FitsX, Γ_96] at h
 rename_i fs
 match fs, h with
 | [a, b, c, d], h =>
  simp only [FitsLX] at h
  obtain ⟨h1, h2, h3, h4, _⟩ := h
  obtain ⟨a, rfl⟩ := fits_int h1
  obtain ⟨b, rfl⟩ := fits_int h2
  obtain ⟨c, rfl⟩ := fits_int h3
  obtain ⟨d, rfl⟩ := fits_pitch h4
  exact ⟨⟨a, b, c, d⟩, rfl⟩
 | [], h => simp [FitsLX] at h
 | [_], h => simp [FitsLX] at h
 | [_, _], h => simp [FitsLX] at h
 | [_, _, _], h => simp [FitsLX] at h
 | _ :: _ :: _ :: _ :: _ :: _, h => simp [FitsLX] at h
theorem fits_keys_aux : ∀ {Ds : List DatX}, FitsAX Γ 96 Ds → ∃ l : List Ky, Ds = l.map kyD
 | [], _ => ⟨[], rfl⟩
 | E :: Ds, h => by
  simp only [FitsAX] at h
  obtain ⟨k, rfl⟩ := fits_key h.1
  obtain ⟨l, rfl⟩ := fits_keys_aux h.2
  exact ⟨k :: l, rfl⟩
theorem fits_keys {D : DatX} (h : FitsX Γ 44 D) : ∃ l : List Ky,l.length ≤ 9223372036854775807 ∧ D = .slice 9 (l.map kyD) := by
 cases D <;> simp [FitsX, Γ_44, Γ_96] at h
 rename_i z Ds
 obtain ⟨rfl, hl, h⟩ := h
 obtain ⟨l, rfl⟩ := fits_keys_aux h
 exact ⟨l, by simpa [maxLen] using hl, rfl⟩
theorem fits_board {D : DatX} (h : FitsX Γ 46 D) : ∃ b : Bd, b.ks.length ≤ 9223372036854775807 ∧ D = bdD b := by
 cases D <;> simp [FitsX, Γ_46] at h
 rename_i fs
 match fs, h with
 | [a, b, c], h =>
  simp only [FitsLX] at h
  obtain ⟨h1, h2, h3, _⟩ := h
  obtain ⟨a, hl, rfl⟩ := fits_keys h1
  obtain ⟨b, rfl⟩ := fits_int h2
  obtain ⟨c, rfl⟩ := fits_int h3
  exact ⟨⟨a, b, c⟩, hl, rfl⟩
 | [], h => simp [FitsLX] at h
 | [_], h => simp [FitsLX] at h
 | [_, _], h => simp [FitsLX] at h
 | _ :: _ :: _ :: _ :: _, h => simp [FitsLX] at h
theorem fits_pipe {D : DatX} (h : FitsX Γ 73 D) : ∃ x : Pp, D = ppD x := by
 cases D <;> simp [FitsX, Γ_73] at h
 rename_i fs
 match fs, h with
 | [a, b, c, d, e], h =>
  simp only [FitsLX] at h
  obtain ⟨h1, h2, h3, h4, h5, _⟩ := h
  obtain ⟨a, rfl⟩ := fits_int h1
  obtain ⟨b, rfl⟩ := fits_pitch h2
  obtain ⟨c, rfl⟩ := fits_int h3
  obtain ⟨d, rfl⟩ := fits_int h4
  obtain ⟨e, rfl⟩ := fits_int h5
  exact ⟨⟨a, b, c, d, e⟩, rfl⟩
 | [], h => simp [FitsLX] at h
 | [_], h => simp [FitsLX] at h
 | [_, _], h => simp [FitsLX] at h
 | [_, _, _], h => simp [FitsLX] at h
 | [_, _, _, _], h => simp [FitsLX] at h
 | _ :: _ :: _ :: _ :: _ :: _ :: _, h => simp [FitsLX] at h
theorem fits_pipes_aux : ∀ {Ds : List DatX}, FitsAX Γ 73 Ds → ∃ l : List Pp, Ds = l.map ppD
 | [], _ => ⟨[], rfl⟩
 | E :: Ds, h => by
  simp only [FitsAX] at h
  obtain ⟨k, rfl⟩ := fits_pipe h.1
  obtain ⟨l, rfl⟩ := fits_pipes_aux h.2
  exact ⟨k :: l, rfl⟩
theorem fits_pipes {D : DatX} (h : FitsX Γ 47 D) : ∃ l : List Pp,l.length ≤ 9223372036854775807 ∧ D = .slice 10 (l.map ppD) := by
 cases D <;> simp [FitsX, Γ_47, Γ_73] at h
 rename_i z Ds
 obtain ⟨rfl, hl, h⟩ := h
 obtain ⟨l, rfl⟩ := fits_pipes_aux h
 exact ⟨l, by simpa [maxLen] using hl, rfl⟩
theorem fits_organ {D : DatX} (h : FitsX Γ 49 D) : ∃ o : Og, o.ps.length ≤ 9223372036854775807 ∧ D = ogD o := by
 cases D <;> simp [FitsX, Γ_49] at h
 rename_i fs
 match fs, h with
 | [a, b, c], h =>
  simp only [FitsLX] at h
  obtain ⟨h1, h2, h3, _⟩ := h
  obtain ⟨a, hl, rfl⟩ := fits_pipes h1
  obtain ⟨b, rfl⟩ := fits_int h2
  obtain ⟨c, rfl⟩ := fits_int h3
  exact ⟨⟨a, b, c⟩, hl, rfl⟩
 | [], h => simp [FitsLX] at h
 | [_], h => simp [FitsLX] at h
 | [_, _], h => simp [FitsLX] at h
 | _ :: _ :: _ :: _ :: _, h => simp [FitsLX] at h
theorem fits_pits_aux : ∀ {Ds : List DatX}, FitsAX Γ 23 Ds → ∃ l : List P6, Ds = l.map p6D
 | [], _ => ⟨[], rfl⟩
 | E :: Ds, h => by
  simp only [FitsAX] at h
  obtain ⟨k, rfl⟩ := fits_pitch h.1
  obtain ⟨l, rfl⟩ := fits_pits_aux h.2
  exact ⟨k :: l, rfl⟩
theorem fits_pits {D : DatX} (h : FitsX Γ 50 D) : ∃ l : List P6,l.length ≤ 9223372036854775807 ∧ D = .slice 6 (l.map p6D) := by
 cases D <;> simp [FitsX, Γ_50, Γ_23] at h
 rename_i z Ds
 obtain ⟨rfl, hl, h⟩ := h
 obtain ⟨l, rfl⟩ := fits_pits_aux h
 exact ⟨l, by simpa [maxLen] using hl, rfl⟩
theorem fits_neck {D : DatX} (h : FitsX Γ 52 D) : ∃ n : Nk,n.op.length ≤ 9223372036854775807 ∧ n.fr.length ≤ 9223372036854775807 ∧ D = nkD n := by
 cases D <;> simp [FitsX, Γ_52] at h
 rename_i fs
 match fs, h with
 | [a, b, c, d], h =>
  simp only [FitsLX] at h
  obtain ⟨h1, h2, h3, h4, _⟩ := h
  obtain ⟨a, ha, rfl⟩ := fits_pits h1
  obtain ⟨b, hb9, rfl⟩ := fits_pits h2
  obtain ⟨c, rfl⟩ := fits_int h3
  obtain ⟨d, rfl⟩ := fits_int h4
  exact ⟨⟨a, b, c, d⟩, ha, hb9, rfl⟩
 | [], h => simp [FitsLX] at h
 | [_], h => simp [FitsLX] at h
 | [_, _], h => simp [FitsLX] at h
 | [_, _, _], h => simp [FitsLX] at h
 | _ :: _ :: _ :: _ :: _ :: _, h => simp [FitsLX] at h
theorem fits_horn {D : DatX} (h : FitsX Γ 54 D) : ∃ n : Hn, n.vl.length ≤ 9223372036854775807 ∧ D = hnD n := by
 cases D <;> simp [FitsX, Γ_54] at h
 rename_i fs
 match fs, h with
 | [a, b, c, d], h =>
  simp only [FitsLX] at h
  obtain ⟨h1, h2, h3, h4, _⟩ := h
  obtain ⟨a, rfl⟩ := fits_pitch h1
  obtain ⟨b, hl, rfl⟩ := fits_pits h2
  obtain ⟨c, rfl⟩ := fits_int h3
  obtain ⟨d, rfl⟩ := fits_int h4
  exact ⟨⟨a, b, c, d⟩, hl, rfl⟩
 | [], h => simp [FitsLX] at h
 | [_], h => simp [FitsLX] at h
 | [_, _], h => simp [FitsLX] at h
 | [_, _, _], h => simp [FitsLX] at h
 | _ :: _ :: _ :: _ :: _ :: _, h => simp [FitsLX] at h
theorem fits_player {D : DatX} (h : FitsX Γ 56 D) : ∃ (q : Int × Ply), PlW q.2 ∧ D = plyD q.1 q.2 := by
 cases D <;> simp [FitsX, Γ_56] at h
 rename_i fs
 match fs, h with
 | [a, b, c, d, e, f], h =>
  simp only [FitsLX] at h
  obtain ⟨h1, h2, h3, h4, h5, h6, _⟩ := h
  obtain ⟨k, rfl⟩ := fits_int h1
  obtain ⟨b, x1, rfl⟩ := fits_board h2
  obtain ⟨o, x2, rfl⟩ := fits_organ h3
  obtain ⟨n, x3, x4, rfl⟩ := fits_neck h4
  obtain ⟨q, x5, rfl⟩ := fits_horn h5
  obtain ⟨v, rfl⟩ := fits_voice h6
  exact ⟨(k, ⟨b, o, n, q, v⟩), ⟨x1, x2, x3, x4, x5⟩, rfl⟩
 | [], h => simp [FitsLX] at h
 | [_], h => simp [FitsLX] at h
 | [_, _], h => simp [FitsLX] at h
 | [_, _, _], h => simp [FitsLX] at h
 | [_, _, _, _], h => simp [FitsLX] at h
 | [_, _, _, _, _], h => simp [FitsLX] at h
 | _ :: _ :: _ :: _ :: _ :: _ :: _ :: _, h => simp [FitsLX] at h
theorem sl_imp {α : Type} {l : List α} {D : α → DatX} {z : Nat} {E : Nat → Nat → AV} {w : World} {x : Value} (hE : ∀ i j (hi : i < l.length),E i j = nth (D l[i]).cells j) (h : Rv [] w (.view (l.map D).length z (fun i j=>nth (nthL (cellsLLX (l.map D)) i) j)) x) : Rv [] w (.view l.length z E) x := by
 rw [List.length_map] at h
 refine Rv_view_ext (fun i j hi hj => ?_) h
 rw [cellsLLX_get _ _ (by simpa using hi), List.getElem_map, hE i j hi]
def ImpL (w : World) : List AV → List AV → Prop
 | [], [] => True
 | u :: us, v :: vs => (∀ x, Rv [] w u x → Rv [] w v x) ∧ ImpL w us vs
 | _, _ => False
theorem RvL_imp {w : World} : ∀ {us vs : List AV} {xs : List Value}, ImpL w us vs → RvL [] w us xs → RvL [] w vs xs
 | [], [], _, _, h => h
 | u :: us, v :: vs, [], _, h => by simp [RvL] at h
 | u :: us, v :: vs, x :: xs, hi, h => by
  simp only [RvL] at h ⊢
  exact ⟨hi.1 x h.1, RvL_imp hi.2 h.2⟩
 | [], _ :: _, _, hi, _ => hi.elim
 | _ :: _, [], _, hi, _ => hi.elim
theorem player_val {q : Int × Ply} {w : World} {x : Value} (h : Rv [] w (DatX.val true (plyD q.1 q.2)) x) : Rv [] w (plyA q.1 q.2) x := by
 obtain ⟨k, p⟩ := q
 simp only [DatX.val,plyD,bdD,ogD,nkD,hnD,vcD,p6D,DatX.cells,cellsLX,if_true,List.cons_append,List.nil_append,inD,Rv] at h ⊢
 obtain ⟨cs, rfl, h⟩ := h
 refine ⟨cs, rfl, RvL_imp ?_ h⟩
 repeat' (first
  | exact trivial
  | refine And.intro ?_ ?_
  | (exact fun _ h => h)
  | (exact fun _ h => sl_imp (E := B.kyE p.bd.ks) (fun i j hi => by simp [B.kyE,B.gk,hi,kyD,inD,p6D,DatX.cells,cellsLX]) h)
  | (exact fun _ h => sl_imp (E := ppE p.og.ps) (fun i j hi => by simp [ppE,gP,hi,ppD,inD,p6D,DatX.cells,cellsLX]) h)
  | (exact fun _ h => sl_imp (E := vtE p.nk.op) (fun i j hi => by simp [vtE,gV,hi,inD,p6D,DatX.cells,cellsLX]) h)
  | (exact fun _ h => sl_imp (E := vtE p.nk.fr) (fun i j hi => by simp [vtE,gV,hi,inD,p6D,DatX.cells,cellsLX]) h)
  | (exact fun _ h => sl_imp (E := vtE p.hn.vl) (fun i j hi => by simp [vtE,gV,hi,inD,p6D,DatX.cells,cellsLX]) h))
theorem vecs_val {l : List P6} {w : World} {x : Value} (h : Rv [] w (DatX.val false (.slice 6 (l.map p6D))) x) : Rv [] w (vts l) x := by
 simp only [DatX.val, DatX.cells, nth, Bool.false_eq_true, if_false] at h
 rw [List.length_map] at h
 refine Rv_view_ext (fun i j hi hj => ?_) h
 rw [cellsLLX_get _ _ (by simpa using hi), List.getElem_map, p6D_cells]
 simp [vtE, gV, hi]
theorem own : ownKnob Tryz.prog.godebug = none := by kernel_rfl
theorem laidOut : laidOutB Tryz.prog = true := by kernel_rfl
theorem gTab1 : Tryz.prog.globalNamed "schisma/size.logs" = some 1 := by kernel_rfl
theorem gTab2 : Tryz.prog.globalNamed "schisma/pitch.primes" = some 2 := by kernel_rfl
section
variable {H : Type} {enc : TypeId × Value → H} {w : World} {base : Nat} {spare : Nat → Bool} {held : Bool} {fuel : Nat} {cs : List Value} {x : DataW H × List MemPlace}
theorem int1 : Tryz.prog.cellsOf 3 = 1 := by kernel_rfl
theorem size2 : Tryz.prog.cellsOf 108 = 2 := by kernel_rfl
theorem two_list {α : Type} {l : List α} (h : l.length = 2) : ∃ a b, l = [a, b] := by
 match l, h with
 | [a, b], _ => exact ⟨a, b, rfl⟩
set_option maxRecDepth 100000 in
theorem size_cells (h : DataW.trod enc Tryz.prog w base spare held fuel 108 cs = some x) : ∃ a b,cs = [.int .i64 a,.int .i64 b] ∧ x.1 = .agg [.lit (.int .i64 a),.lit (.int .i64 b)] := by
 obtain ⟨xs, n, _, rfl, hl, hxl, hx⟩ := DataW.trod_struct Tryz.underlying108 h
 have hxl : xs.length = 2 := hxl
 have hl : cs.length = 2 := hl.trans size2
 obtain ⟨x0, x1, rfl⟩ := two_list hxl
 obtain ⟨c0, c1, rfl⟩ := two_list hl
 have h0 := hx 0 _ rfl
 have h1 := hx 1 _ rfl
 obtain ⟨a, ha, hxa, _⟩ := DataW.trod_int (x := x0) Tryz.underlying3 h0
 obtain ⟨b, hb, hxb, _⟩ := DataW.trod_int (x := x1) Tryz.underlying3 h1
 have ha : List.take (Tryz.prog.cellsOf 3) [c0, c1] = [.int .i64 a] := ha
 have hb : List.take (Tryz.prog.cellsOf 3) [c1] = [.int .i64 b] := hb
 rw [int1] at ha hb
 cases ha
 cases hb
 cases hxa
 cases hxb
 exact ⟨_, _, rfl, rfl⟩
theorem six_list {α : Type} {l : List α} (h : l.length = 6) : ∃ a b c d e f, l = [a, b, c, d, e, f] := by
 match l, h with
 | [a, b, c, d, e, f], _ => exact ⟨a, b, c, d, e, f, rfl⟩
theorem drop_two (cs : List Value) (i : Nat) : cs.drop i = (cs.drop i).take 2 ++ cs.drop (i + 2) := by
 rw [← List.drop_drop, List.take_append_drop]
set_option maxRecDepth 100000 in
theorem logs_cells {p : List MemPlace} (h : DataW.trod enc Tryz.prog w base spare held fuel 192 cs = some (Rows.laid_schisma_size_logs,p)) : cs = logL.map fun z => Value.int .i64 z := by
 obtain ⟨xs, n, _, he, hl, hxl, hx⟩ := DataW.trod_array Tryz.underlying192 h
 have hl : cs.length = 12 := hl.trans (by kernel_rfl)
 rw [size2] at hx
 obtain ⟨x0, x1, x2, x3, x4, x5, rfl⟩ := six_list hxl
 have he := congrArg Prod.fst he
 simp only [Rows.laid_schisma_size_logs, List.map_cons, List.map_nil, DataW.agg.injEq, List.cons.injEq, and_true] at he
 obtain ⟨e0, e1, e2, e3, e4, e5⟩ := he
 obtain ⟨a0, b0, h0, k0⟩ := size_cells (x := x0) (hx 0 (by decide))
 obtain ⟨a1, b1, h1, k1⟩ := size_cells (x := x1) (hx 1 (by decide))
 obtain ⟨a2, b2, h2, k2⟩ := size_cells (x := x2) (hx 2 (by decide))
 obtain ⟨a3, b3, h3, k3⟩ := size_cells (x := x3) (hx 3 (by decide))
 obtain ⟨a4, b4, h4, k4⟩ := size_cells (x := x4) (hx 4 (by decide))
 obtain ⟨a5, b5, h5, k5⟩ := size_cells (x := x5) (hx 5 (by decide))
 rw [← e0] at k0
 rw [← e1] at k1
 rw [← e2] at k2
 rw [← e3] at k3
 rw [← e4] at k4
 rw [← e5] at k5
 simp only [DataW.agg.injEq, List.cons.injEq, DataW.lit.injEq, Lit.int.injEq, true_and, and_true] at k0 k1 k2 k3 k4 k5
 obtain ⟨rfl, rfl⟩ := k0
 obtain ⟨rfl, rfl⟩ := k1
 obtain ⟨rfl, rfl⟩ := k2
 obtain ⟨rfl, rfl⟩ := k3
 obtain ⟨rfl, rfl⟩ := k4
 obtain ⟨rfl, rfl⟩ := k5
 have t0 : cs.drop 0 = [_, _] ++ cs.drop 2 := (drop_two cs 0).trans (congrArg (· ++ cs.drop 2) h0)
 have t1 : cs.drop 2 = [_, _] ++ cs.drop 4 := (drop_two cs 2).trans (congrArg (· ++ cs.drop 4) h1)
 have t2 : cs.drop 4 = [_, _] ++ cs.drop 6 := (drop_two cs 4).trans (congrArg (· ++ cs.drop 6) h2)
 have t3 : cs.drop 6 = [_, _] ++ cs.drop 8 := (drop_two cs 6).trans (congrArg (· ++ cs.drop 8) h3)
 have t4 : cs.drop 8 = [_, _] ++ cs.drop 10 := (drop_two cs 8).trans (congrArg (· ++ cs.drop 10) h4)
 have t5 : cs.drop 10 = [_, _] ++ cs.drop 12 := (drop_two cs 10).trans (congrArg (· ++ cs.drop 12) h5)
 have t6 : cs.drop 12 = [] := List.drop_eq_nil_of_le (by omega)
 have : cs.drop 0 = logL.map fun z => Value.int .i64 z := by
  rw [t0, t1, t2, t3, t4, t5, t6]
  rfl
 exact this
end
theorem gTab0 : Tryz.prog.globalNamed "schisma/brass.primes" = some 0 := by kernel_rfl
set_option maxRecDepth 100000 in
theorem globs {W : World} (h : laidMetH Tryz.prog Rows.topPlayableRow.laid W) : Glob [] W := by
 have h2 : laidMet Tryz.prog [("schisma/pitch.primes", Rows.laid_schisma_pitch_primes), ("schisma/size.logs", Rows.laid_schisma_size_logs), ("schisma/brass.primes", Rows.laid_schisma_brass_primes)] W := h
 have h3 := laidMet.tail h2
 have h4 := laidMet.tail h3
 intro g k vs hm
 simp only [gtab, List.mem_cons, List.not_mem_nil, or_false, Prod.mk.injEq] at hm
 rcases hm with ⟨rfl, rfl, rfl⟩ | ⟨rfl, rfl, rfl⟩ | ⟨rfl, rfl, rfl⟩
 ·have ht : Lib.TabIs Tryz.prog W "schisma/brass.primes" .i64 primL :=
   Lib.tabIs_of_head gTab0 (by kernel_rfl) (n := 6) (t := 22) (e := 3) (by kernel_rfl) (by kernel_rfl) (by kernel_rfl) (by kernel_rfl) h4
  exact glob_tab (by decide) fun i hi => ht.cell gTab0 i hi
 ·have ht : Lib.TabIs Tryz.prog W "schisma/size.logs" .i64 logL := by
   obtain ⟨ps, ⟨g', t', cs, fuel, p, q, hg', ht', hvar, hd, _, _⟩, _⟩ := h3
   obtain rfl := Option.some.inj (gTab1.symm.trans hg')
   obtain rfl := Option.some.inj ((show (Tryz.prog.globals[1]?).map (·.type) = some 192 by kernel_rfl).symm.trans ht')
   unfold Lib.TabIs
   rw [hvar, ← logs_cells hd]
  exact glob_tab (by decide) fun i hi => ht.cell gTab1 i hi
 ·have ht : Lib.TabIs Tryz.prog W "schisma/pitch.primes" .i64 primL :=
   Lib.tabIs_of_head gTab2 (by kernel_rfl) (n := 6) (t := 22) (e := 3) (by kernel_rfl) (by kernel_rfl) (by kernel_rfl) (by kernel_rfl) h2
  exact glob_tab (by decide) fun i hi => ht.cell gTab2 i hi
def plyW : Value := .agg (List.toArray ([.int .i64 0,.slice none 0 0,.int .i64 0,.int .i64 0,.slice none 0 0,.int .i64 0,.int .i64 0,.slice none 0 0,.slice none 0 0,.int .i64 0,.int .i64 0] ++ (List.replicate 6 (.int .i64 0) ++ (.slice none 0 0 :: List.replicate 16 (.int .i64 0)))))
def fill (cs : List Value) : Obj → Obj
 | .cells _ t frozen => .cells cs.toArray t frozen
 | o => o
noncomputable def laidWorld (os : Os) : World :=
 { World.holding Tryz.prog os ⟨#[], #[], []⟩ with
  heap := (((World.holding Tryz.prog os ⟨#[],#[],[]⟩).heap.modify 0 (fill (primL.map (Value.int .i64)))).modify 1 (fill (logL.map (Value.int .i64)))).modify 2 (fill (primL.map (Value.int .i64))) }
end Go.Proofs.YtonmienclploaaaGreatDoor
