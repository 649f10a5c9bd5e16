/-
  Parts joined: S23 S24 S25 S26 S27 S28.
-/
import Derived.Test.YtnomenmakhielaaDoorQS20
set_option linter.unusedSimpArgs false
set_option linter.unusedVariables false
namespace Go.Proofs.YtnomenmakhielaaDoor
open Go.Ab

theorem frameN_cons (r : Rcd) : ∃ u, frameN r = (bodyN r).length :: (bodyN r ++ u) ∧ u.length = 4 := ⟨_, rfl, rfl⟩
theorem frameN_length (r : Rcd) : (frameN r).length = (bodyN r).length + 5 := by unfold frameN; rw [sealN_length]
theorem recN_frame {r : Rcd} (h : r.ok = true) (b : List Nat) : recN (frameN r ++ b) = some (r, (frameN r).length) := by
  obtain ⟨u, hu, hul⟩ := frameN_cons r
  have hl := frameN_length r
  have e : frameN r ++ b = (bodyN r).length :: (bodyN r ++ (u ++ b)) := by rw [hu]; simp
  have ht : (bodyN r ++ (u ++ b)).take (bodyN r).length = bodyN r := by rw [List.take_append_of_le_length (Nat.le_refl _), List.take_length]
  have hc : (bodyN r).length + 5 ≤ (bodyN r ++ (u ++ b)).length + 1 ∧ sealN ((bodyN r ++ (u ++ b)).take (bodyN r).length) = ((bodyN r).length :: (bodyN r ++ (u ++ b))).take ((bodyN r).length + 5) ∧ (parseR ((bodyN r ++ (u ++ b)).take (bodyN r).length)).2 = true := by
    rw [ht, parse_body h]
    refine ⟨by simp; omega, ?_, rfl⟩
    rw [← e, ← hl, List.take_append_of_le_length (Nat.le_refl _), List.take_length]
    rfl
  rw [e, recN, if_pos hc, ht, parse_body h, hl]
theorem wholeN_frames {l : List Rcd} (h : allOk l = true) (b : List Nat) : wholeN (framesN l ++ b) = (l ++ (wholeN b).1, (framesN l).length + (wholeN b).2) := by
  induction l with
  | nil => simp [framesN]
  | cons r l ih =>
    have hok : r.ok = true ∧ allOk l = true := by simpa [allOk] using h
    have e : framesN (r :: l) ++ b = frameN r ++ (framesN l ++ b) := by simp [framesN]
    have e2 : (framesN (r :: l)).length = (frameN r).length + (framesN l).length := by simp [framesN]
    rw [e, wholeN_some (recN_frame hok.1 _), List.drop_left, ih hok.2, e2, List.cons_append, Nat.add_assoc]
theorem wholeN_nil : wholeN [] = ([], 0) := rfl
theorem wholeN_all {l : List Rcd} (h : allOk l = true) : wholeN (framesN l) = (l, (framesN l).length) := by
  have := wholeN_frames h []
  rw [wholeN_nil] at this
  simpa using this

/-- A cut frame is none. -/
theorem recN_cut {r : Rcd} {b : List Nat} {n : Nat} (hn : n < (frameN r).length) : recN ((frameN r ++ b).take n) = none := by
  obtain ⟨u, hu, hul⟩ := frameN_cons r
  rw [frameN_length] at hn
  rw [hu]
  cases n with
  | zero => rfl
  | succ n =>
    rw [List.cons_append, List.take_succ_cons, recN, if_neg]
    rintro ⟨h1, _⟩
    simp at h1
    omega
theorem wholeN_cut {l : List Rcd} (h : allOk l = true) (n : Nat) : ∃ k, k ≤ l.length ∧ wholeN ((framesN l).take n) = (l.take k, (framesN (l.take k)).length) ∧ (framesN (l.take k)).length ≤ n ∧ (k < l.length → n < (framesN (l.take (k + 1))).length) := by
  induction l generalizing n with
  | nil => exact ⟨0, by simp, by simp [framesN, wholeN_nil], by simp [framesN], by simp⟩
  | cons r l ih =>
    have hok : r.ok = true ∧ allOk l = true := by simpa [allOk] using h
    have e : framesN (r :: l) = frameN r ++ framesN l := by simp [framesN]
    by_cases hn : n < (frameN r).length
    · refine ⟨0, by simp, ?_, by simp [framesN], fun _ => by simpa [framesN] using hn⟩
      rw [e, wholeN_none (recN_cut hn)]
      simp [framesN]
    · obtain ⟨k, h1, h2, h3, h4⟩ := ih hok.2 (n - (frameN r).length)
      have e2 : ∀ m : List Rcd, (framesN (r :: m)).length = (frameN r).length + (framesN m).length := fun m => by simp [framesN]
      refine ⟨k + 1, by simp; omega, ?_, by rw [List.take_succ_cons, e2]; omega, fun hk => ?_⟩
      · have e3 : (framesN (r :: l)).take n = frameN r ++ (framesN l).take (n - (frameN r).length) := by
          rw [e, List.take_append, List.take_of_length_le (by omega)]
        rw [e3, wholeN_some (recN_frame hok.1 _), List.drop_left, h2, List.take_succ_cons, e2]
      · rw [List.take_succ_cons, e2]
        have := h4 (by simpa using hk)
        omega
end Go.Proofs.YtnomenmakhielaaDoor
namespace Go.Proofs.YtnomenmakhielaaDoor
open Go.Ab

theorem nib_top : ∀ i, i < 16 → ∀ j, j < 16 → nib i >>> 28 = nib j >>> 28 → i = j := by decide
theorem xor_can {a b x : Nat} (h : a ^^^ x = b ^^^ x) : a = b := by
  have := congrArg (· ^^^ x) h
  simpa [Nat.xor_assoc] using this
theorem half_inj {c d : Nat} (hc : c < 4294967296) (hd : d < 4294967296) (h : half c = half d) : c = d := by
  unfold half at h
  have h1 := congrArg (· >>> 28) h
  simp only [Nat.shiftRight_xor_distrib] at h1
  have z : ∀ q : Nat, q < 4294967296 → (q / 16) >>> 28 = 0 := fun q hq => by rw [Nat.shiftRight_eq_div_pow]; omega
  rw [z c hc, z d hd, Nat.zero_xor, Nat.zero_xor] at h1
  have h2 := nib_top _ (Nat.mod_lt _ (by decide)) _ (Nat.mod_lt _ (by decide)) h1
  rw [h2] at h
  have h3 := xor_can h
  omega
theorem crcB_inj {c d x y : Nat} (hc : c < 4294967296) (hd : d < 4294967296) (hx : x < 256) (hy : y < 256) (h : crcB c x = crcB d y) : c ^^^ x = d ^^^ y := by
  unfold crcB at h
  exact half_inj (xor_lt32 hc (by omega)) (xor_lt32 hd (by omega)) (half_inj (half_lt (xor_lt32 hc (by omega))) (half_lt (xor_lt32 hd (by omega))) h)
theorem crcB_lt8 {c x : Nat} (h : c < 4294967296) (hx : x < 256) : crcB c x < 4294967296 := crcB_lt h (by omega)
theorem crc_inj : ∀ {l : List Nat} {c d : Nat}, ByOk l → c < 4294967296 → d < 4294967296 → crc l c = crc l d → c = d
  | [], _, _, _, _, _, h => h
  | x :: l, c, d, hb, hc, hd, h => by
    have hx := hb x (by simp)
    have := crc_inj (l := l) (fun y hy => hb y (List.mem_cons_of_mem _ hy)) (crcB_lt8 hc hx) (crcB_lt8 hd hx) h
    exact xor_can (crcB_inj hc hd hx hx this)
theorem crc_byte {p q : List Nat} {x y c : Nat} (hp : ByOk p) (hq : ByOk q) (hx : x < 256) (hy : y < 256) (hc : c < 4294967296) (h : crc (p ++ x :: q) c = crc (p ++ y :: q) c) : x = y := by
  induction p generalizing c with
  | nil =>
    have := crc_inj hq (crcB_lt8 hc hx) (crcB_lt8 hc hy) h
    have h2 := crcB_inj hc hc hx hy this
    rw [Nat.xor_comm c x, Nat.xor_comm c y] at h2
    exact xor_can h2
  | cons z p ih => exact ih (fun y hy => hp y (List.mem_cons_of_mem _ hy)) (crcB_lt8 hc (hp z (by simp))) h
theorem sumN_byte {p q : List Nat} {x y : Nat} (hp : ByOk p) (hq : ByOk q) (hx : x < 256) (hy : y < 256) (h : sumN (p ++ x :: q) = sumN (p ++ y :: q)) : x = y := by
  unfold sumN at h
  rw [Nat.xor_comm 4294967295, Nat.xor_comm 4294967295] at h
  exact crc_byte hp hq hx hy (by decide) (xor_can h)
theorem four_eq {a b : Nat} (ha : a < 4294967296) (hb : b < 4294967296) (h : [a / 16777216 % 256, a / 65536 % 256, a / 256 % 256, a % 256] = [b / 16777216 % 256, b / 65536 % 256, b / 256 % 256, b % 256]) : a = b := by
  simp only [List.cons.injEq, and_true] at h
  omega
theorem set_split {l : List Nat} {i v : Nat} (h : i < l.length) : l.set i v = l.take i ++ v :: l.drop (i + 1) ∧ l = l.take i ++ gb8 l i :: l.drop (i + 1) := by
  refine ⟨by rw [List.set_eq_take_append_cons_drop, if_pos h], ?_⟩
  have e : gb8 l i = l[i] := by simp [gb8, h]
  rw [e, List.getElem_cons_drop, List.take_append_drop]
theorem recN_hurt {r : Rcd} (ok : r.ok = true) {b : List Nat} {j v : Nat} (hj : j + 1 < (frameN r).length) (hv : v < 256) (hne : v ≠ gb8 (frameN r) (j + 1)) : recN ((frameN r).set (j + 1) v ++ b) = none := by
  have hbo := bodyN_ok ok
  have hfl := frameN_length r
  have hL : (bodyN r).length < 256 := by omega
  unfold frameN at hj hfl hne ⊢
  generalize bodyN r = body at *
  have hw : ByOk (body.length :: body) := fun x hx => by rcases List.mem_cons.1 hx with rfl | hx; exact hL; exact hbo.1 x hx
  have hs0 : sealN body = body.length :: (body ++ [sumN (body.length :: body) / 16777216 % 256, sumN (body.length :: body) / 65536 % 256, sumN (body.length :: body) / 256 % 256, sumN (body.length :: body) % 256]) := rfl
  rw [hs0] at hne ⊢
  rw [hs0] at hj
  generalize hs : [sumN (body.length :: body) / 16777216 % 256, sumN (body.length :: body) / 65536 % 256, sumN (body.length :: body) / 256 % 256, sumN (body.length :: body) % 256] = s at *
  have hsl : s.length = 4 := by rw [← hs]; rfl
  have hne' : v ≠ gb8 (body ++ s) j := hne
  simp only [List.length_cons, List.length_append] at hj
  rw [List.set_cons_succ, List.cons_append, recN, if_neg]
  rintro ⟨_, h2, _⟩
  by_cases hjl : j < body.length
  · have e1 : (body ++ s).set j v = body.set j v ++ s := by rw [List.set_append, if_pos hjl]
    have hbl : (body.set j v).length = body.length := by simp
    have e2 : (body.set j v ++ s ++ b).take body.length = body.set j v := by
      rw [List.append_assoc, List.take_append_of_le_length (by omega), ← hbl, List.take_length]
    have e3 : (body.length :: (body.set j v ++ s ++ b)).take (body.length + 5) = body.length :: (body.set j v ++ s) := by
      rw [List.take_succ_cons, List.take_append_of_le_length (by simp; omega), List.take_of_length_le (by simp; omega)]
    rw [e1, e2, e3] at h2
    have e4 : sealN (body.set j v) = body.length :: (body.set j v ++ [sumN (body.length :: body.set j v) / 16777216 % 256, sumN (body.length :: body.set j v) / 65536 % 256, sumN (body.length :: body.set j v) / 256 % 256, sumN (body.length :: body.set j v) % 256]) := by
      unfold sealN; rw [hbl]; rfl
    rw [e4] at h2
    have h3 := List.append_cancel_left (List.cons.inj h2).2
    rw [← hs] at h3
    obtain ⟨g1, g2⟩ := set_split (v := v) hjl
    have hw' : ByOk (body.length :: body.set j v) := fun x hx => by
      rcases List.mem_cons.1 hx with rfl | hx
      · exact hL
      · rcases List.mem_or_eq_of_mem_set hx with hx | rfl
        · exact hbo.1 x hx
        · exact hv
    have h4 := four_eq (sumN_lt hw') (sumN_lt hw) h3
    rw [g1] at h4
    conv at h4 => rhs; rw [g2]
    have h5 := sumN_byte (p := body.length :: body.take j) (q := body.drop (j + 1)) (x := v) (y := gb8 body j) (fun x hx => by
      rcases List.mem_cons.1 hx with rfl | hx
      · exact hL
      · exact hbo.1 x (List.mem_of_mem_take hx)) (hbo.1.drop _) hv (gb8_lt hbo.1 j) (by
        have hlen : (body.take j ++ gb8 body j :: body.drop (j + 1)).length = body.length := by rw [← g2]
        rw [hlen] at h4
        exact h4)
    refine hne' ?_
    rw [h5]
    simp [gb8, List.getElem?_append_left hjl]
  · have e1 : (body ++ s).set j v = body ++ s.set (j - body.length) v := by rw [List.set_append, if_neg hjl]
    have e2 : (body ++ s.set (j - body.length) v ++ b).take body.length = body := by
      rw [List.append_assoc, List.take_append_of_le_length (Nat.le_refl _), List.take_length]
    have e3 : (body.length :: (body ++ s.set (j - body.length) v ++ b)).take (body.length + 5) = body.length :: (body ++ s.set (j - body.length) v) := by
      rw [List.take_succ_cons, List.take_append_of_le_length (by simp; omega), List.take_of_length_le (by simp; omega)]
    rw [e1, e2, e3, hs0] at h2
    have h3 := List.append_cancel_left (List.cons.inj h2).2
    refine hne' ?_
    have h4 : gb8 (body ++ s) j = gb8 s (j - body.length) := by
      unfold gb8
      simp [List.getElem?_append_right (Nat.le_of_not_lt hjl)]
    rw [h4, h3]
    simp only [gb8, List.getD_eq_getElem?_getD]
    rw [List.getElem?_set_self (by omega)]
    rfl
theorem wholeN_hurt {l m : List Rcd} {r : Rcd} (hl : allOk l = true) (ok : r.ok = true) {b : List Nat} {j v : Nat} (hj : j + 1 < (frameN r).length) (hv : v < 256) (hne : v ≠ gb8 (frameN r) (j + 1)) :
    (wholeN (framesN l ++ ((frameN r).set (j + 1) v ++ b))).1 = l := by
  rw [wholeN_frames hl, wholeN_none (recN_hurt ok hj hv hne)]
  simp
end Go.Proofs.YtnomenmakhielaaDoor
namespace Go.Proofs.YtnomenmakhielaaDoor
open Go.Ab

theorem mem_ext {m n : Mem} (hm : MemOk m) (hn : MemOk n) (h1 : ∀ i, gA' m.A i = gA' n.A i) (h2 : ∀ x, x ∈ m.L ↔ x ∈ n.L) : m = n := by
  obtain ⟨A, L⟩ := m
  obtain ⟨B, M⟩ := n
  simp only [] at h1 h2
  have hl : A.length = B.length := by
    have key : ∀ {A B : List Acc}, (A ≠ [] → 0 < (gA' A (A.length - 1)).p) → (∀ i, gA' A i = gA' B i) → A.length ≤ B.length := by
      intro A B h g
      cases A with
      | nil => simp
      | cons a A =>
        have h0 := h (by simp)
        rcases Nat.lt_or_ge ((a :: A).length - 1) B.length with hb | hb
        · simp at hb ⊢; omega
        · rw [g, gA'_out hb] at h0
          exact absurd h0 (by decide)
    exact Nat.le_antisymm (key hm.last h1) (key hn.last fun i => (h1 i).symm)
  have hL : L = M := Up.ext (Ris.up hm.log.2) (Ris.up hn.log.2) h2
  rw [acs_ext hl h1, hL]

/-- Can a record be done? -/
def Can (m : Mem) (r : Rcd) : Prop :=
  (r.k = 1 → (gA' m.A (r.s.toNat - 1)).p < r.b) ∧ (r.k = 2 → (gA' m.A (r.s.toNat - 1)).p ≤ r.b) ∧ (r.k = 3 → ∀ y ∈ m.L, y.s = r.s → y = r.x)
def newA (r : Rcd) (a : Acc) : Acc := if r.k = 1 then { a with p := r.b } else ⟨r.b, r.b, r.x⟩
theorem Rcd.kinds {r : Rcd} (h : r.ok = true) : r.k = 1 ∨ r.k = 2 ∨ r.k = 3 := by
  rcases (Rcd.ok_spec h).2 with ⟨h, _⟩ | ⟨h, _⟩ | ⟨h, _⟩
  · exact .inl h
  · exact .inr (.inl h)
  · exact .inr (.inr h)
theorem doR_can {m : Mem} (h : MemOk m) {r : Rcd} (hr : r.ok = true) : ((doR m r).2 = 0 ↔ Can m r) ∧ ((doR m r).2 = 0 →
    (∀ j, gA' (doR m r).1.A j = if r.k ≠ 3 ∧ j = r.s.toNat - 1 then newA r (gA' m.A j) else gA' m.A j) ∧ ∀ x, x ∈ (doR m r).1.L ↔ x ∈ m.L ∨ (r.k = 3 ∧ x = r.x)) := by
  rcases Rcd.kinds hr with hk | hk | hk
  · rcases doR_1 h hr hk with ⟨g, e⟩ | ⟨g, e⟩
    · rw [e]
      exact ⟨⟨fun h => (by cases h), fun h => (by have := h.1 hk; omega)⟩, fun h => (by cases h)⟩
    · rw [e]
      refine ⟨⟨fun _ => ⟨fun _ => g, fun h => by omega, fun h => by omega⟩, fun _ => rfl⟩, fun _ => ⟨fun j => ?_, fun x => by simp [hk]⟩⟩
      simp only [gA'_put]
      by_cases c : j = r.s.toNat - 1
      · rw [if_pos c, if_pos ⟨by omega, c⟩, newA, if_pos hk, c]
      · rw [if_neg c, if_neg (fun h => c h.2)]
  · rcases doR_2 h hr hk with ⟨g, e⟩ | ⟨g, e⟩
    · rw [e]
      exact ⟨⟨fun h => (by cases h), fun h => (by have := h.2.1 hk; omega)⟩, fun h => (by cases h)⟩
    · rw [e]
      refine ⟨⟨fun _ => ⟨fun h => by omega, fun _ => g, fun h => by omega⟩, fun _ => rfl⟩, fun _ => ⟨fun j => ?_, fun x => by simp [hk]⟩⟩
      simp only [gA'_put]
      by_cases c : j = r.s.toNat - 1
      · rw [if_pos c, if_pos ⟨by omega, c⟩, newA, if_neg (by omega)]
      · rw [if_neg c, if_neg (fun h => c h.2)]
  · obtain ⟨g1, g2, g3⟩ := doR_3 h hr hk
    have hris := h.log.2
    rcases g3 with ⟨k1, k2, e⟩ | ⟨k1, k2, e⟩ | ⟨k1, e⟩
    · refine ⟨⟨fun h => (by rw [e] at h; cases h), fun h => ?_⟩, fun h => (by rw [e] at h; cases h)⟩
      have hm := knows_mem k1
      exact absurd (h.2.2 hk _ hm.1 (by rw [hm.2, g2])) k2
    · rw [e]
      have hm := knows_mem k1
      have hel : el m.L r.x.s = r.x := k2
      refine ⟨⟨fun _ => ⟨fun h => by omega, fun h => by omega, fun _ y hy hs => ?_⟩, fun _ => rfl⟩, fun _ => ⟨fun j => by rw [if_neg (fun h => h.1 hk)], fun x => ?_⟩⟩
      · exact Up.inj hris.up hy (by rw [hel] at hm; exact hm.1) (by rw [hs, g2])
      · refine ⟨fun h => .inl h, fun h => ?_⟩
        rcases h with h | ⟨_, rfl⟩
        · exact h
        · rw [hel] at hm; exact hm.1
    · rw [e]
      refine ⟨⟨fun _ => ⟨fun h => by omega, fun h => by omega, fun _ y hy hs => ?_⟩, fun _ => rfl⟩, fun _ => ⟨fun j => by rw [if_neg (fun h => h.1 hk)], fun x => ?_⟩⟩
      · exact absurd ((knows_iff hris).2 ⟨y, hy, by rw [hs, g2]⟩) k1
      · simp only [mem_lrn]
        exact ⟨fun h => h.imp id fun h => ⟨hk, h⟩, fun h => h.imp id fun h => h.2⟩

theorem runM_app (a b : List Rcd) (m : Mem) : runM (a ++ b) m = if (runM a m).2 = 0 then runM b (runM a m).1 else (⟨[], []⟩, (runM a m).2) := by
  induction a generalizing m with
  | nil => simp [runM]
  | cons r a ih =>
    rw [List.cons_append, runM, runM]
    by_cases c : (doR m r).2 = 0
    · rw [if_pos c, if_pos c, ih]
    · rw [if_neg c, if_neg c, if_neg c]

/-- Two records of different sections may change their places. -/
theorem two_swap {m : Mem} (h : MemOk m) {r s : Rcd} (hr : r.ok = true) (hs : s.ok = true) (hne : r.s ≠ s.s) (e1 : (doR m r).2 = 0) (e2 : (doR (doR m r).1 s).2 = 0) :
    (doR m s).2 = 0 ∧ (doR (doR m s).1 r).2 = 0 ∧ (doR (doR m s).1 r).1 = (doR (doR m r).1 s).1 := by
  have hr' := Rcd.ok_spec hr
  have hs' := Rcd.ok_spec hs
  have hne' : r.s.toNat - 1 ≠ s.s.toNat - 1 := by omega
  have ok1 := doR_ok h hr e1
  have ok12 := doR_ok ok1 hs e2
  obtain ⟨c1, f1⟩ := doR_can h hr
  obtain ⟨c12, f12⟩ := doR_can ok1 hs
  obtain ⟨a1, l1⟩ := f1 e1
  obtain ⟨a12, l12⟩ := f12 e2
  obtain ⟨c2, f2⟩ := doR_can h hs
  have k1 := c1.1 e1
  have k12 := c12.1 e2
  have e3 : (doR m s).2 = 0 := by
    refine c2.2 ⟨fun hk => ?_, fun hk => ?_, fun hk y hy hys => ?_⟩
    · have := k12.1 hk; rw [a1, if_neg (fun h => hne' h.2.symm)] at this; exact this
    · have := k12.2.1 hk; rw [a1, if_neg (fun h => hne' h.2.symm)] at this; exact this
    · exact k12.2.2 hk y ((l1 y).2 (.inl hy)) hys
  have ok2 := doR_ok h hs e3
  obtain ⟨a2, l2⟩ := f2 e3
  obtain ⟨c21, f21⟩ := doR_can ok2 hr
  have e4 : (doR (doR m s).1 r).2 = 0 := by
    refine c21.2 ⟨fun hk => ?_, fun hk => ?_, fun hk y hy hys => ?_⟩
    · rw [a2, if_neg (fun h => hne' h.2)]; exact k1.1 hk
    · rw [a2, if_neg (fun h => hne' h.2)]; exact k1.2.1 hk
    · rcases (l2 y).1 hy with hy | ⟨hk3, rfl⟩
      · exact k1.2.2 hk y hy hys
      · have hx := (doR_3 h hs hk3).2.1
        rw [hx] at hys
        exact absurd hys.symm hne
  have ok21 := doR_ok ok2 hr e4
  obtain ⟨a21, l21⟩ := f21 e4
  refine ⟨e3, e4, mem_ext ok21 ok12 (fun i => ?_) fun x => ?_⟩
  · rw [a21, a12, a1, a2]
    by_cases i1 : i = r.s.toNat - 1
    · have i2 : ¬ i = s.s.toNat - 1 := fun h => hne' (i1.symm.trans h)
      simp [i2]
    · simp [i1]
  · rw [l21, l2, l12, l1]
    constructor
    · rintro ((h | h) | h)
      · exact .inl (.inl h)
      · exact .inr h
      · exact .inl (.inr h)
    · rintro ((h | h) | h)
      · exact .inl (.inl h)
      · exact .inr h
      · exact .inl (.inr h)
end Go.Proofs.YtnomenmakhielaaDoor
namespace Go.Proofs.YtnomenmakhielaaDoor
open Go.Ab

/-- One memory goes on from another one. -/
structure Le (m n : Mem) : Prop where
  acc : ∀ j, (gA' m.A j).p ≤ (gA' n.A j).p ∧ (gA' m.A j).v ≤ (gA' n.A j).v
  log : ∀ x, x ∈ m.L → x ∈ n.L
  la : m.A.length ≤ n.A.length
  ll : m.L.length ≤ n.L.length
theorem Le.refl (m : Mem) : Le m m := ⟨fun _ => ⟨Int.le_refl _, Int.le_refl _⟩, fun _ h => h, Nat.le_refl _, Nat.le_refl _⟩
theorem Le.trans {a b c : Mem} (h : Le a b) (g : Le b c) : Le a c :=
  ⟨fun j => ⟨Int.le_trans (h.acc j).1 (g.acc j).1, Int.le_trans (h.acc j).2 (g.acc j).2⟩, fun x hx => g.log x (h.log x hx), Nat.le_trans h.la g.la, Nat.le_trans h.ll g.ll⟩
theorem doR_lens {m : Mem} (h : MemOk m) {r : Rcd} (hr : r.ok = true) (e : (doR m r).2 = 0) : m.A.length ≤ (doR m r).1.A.length ∧ m.L.length ≤ (doR m r).1.L.length ∧ (doR m r).1.L.length ≤ m.L.length + (if r.k = 3 then 1 else 0) := by
  rcases Rcd.kinds hr with hk | hk | hk
  · rcases doR_1 h hr hk with ⟨g, e'⟩ | ⟨g, e'⟩
    · rw [e'] at e; cases e
    · rw [e']; simp only [put_len]; exact ⟨Nat.le_max_left _ _, Nat.le_refl _, Nat.le_add_right _ _⟩
  · rcases doR_2 h hr hk with ⟨g, e'⟩ | ⟨g, e'⟩
    · rw [e'] at e; cases e
    · rw [e']; simp only [put_len]; exact ⟨Nat.le_max_left _ _, Nat.le_refl _, Nat.le_add_right _ _⟩
  · obtain ⟨g1, g2, g3⟩ := doR_3 h hr hk
    rcases g3 with ⟨k1, k2, e'⟩ | ⟨k1, k2, e'⟩ | ⟨k1, e'⟩
    · rw [e'] at e; cases e
    · rw [e']; exact ⟨Nat.le_refl _, Nat.le_refl _, Nat.le_add_right _ _⟩
    · rw [e']
      have hl : (lrn m.L r.x).length = m.L.length + 1 := ins_length m.L _ r.x (low_spec r.x.s h.log.2).1
      simp only [hl, if_pos hk]
      exact ⟨Nat.le_refl _, by omega, by omega⟩
theorem doR_le {m : Mem} (h : MemOk m) {r : Rcd} (hr : r.ok = true) (e : (doR m r).2 = 0) : Le m (doR m r).1 := by
  obtain ⟨c, f⟩ := doR_can h hr
  obtain ⟨a, l⟩ := f e
  have hc := c.1 e
  obtain ⟨g1, g2, _⟩ := doR_lens h hr e
  refine ⟨fun j => ?_, fun x hx => (l x).2 (.inl hx), g1, g2⟩
  rw [a]
  split
  · rename_i hj
    obtain ⟨hk, rfl⟩ := hj
    have ha := ((Acc.ok_iff _).1 (h.acc (r.s.toNat - 1)).1).1
    rcases Rcd.kinds hr with k1 | k2 | k3
    · have := hc.1 k1
      unfold newA
      rw [if_pos k1]
      exact ⟨by simp only []; omega, Int.le_refl _⟩
    · have := hc.2.1 k2
      unfold newA
      rw [if_neg (by omega)]
      exact ⟨by simp only []; omega, by simp only []; omega⟩
    · exact absurd k3 hk
  · exact ⟨Int.le_refl _, Int.le_refl _⟩
theorem runM_le : ∀ {l : List Rcd} {m : Mem}, MemOk m → allOk l = true → (runM l m).2 = 0 → Le m (runM l m).1
  | [], m, _, _, _ => Le.refl m
  | r :: l, m, h, ho, e => by
    have ho' : r.ok = true ∧ allOk l = true := by simpa [allOk] using ho
    rw [runM] at e ⊢
    by_cases c : (doR m r).2 = 0
    · rw [if_pos c] at e ⊢
      exact (doR_le h ho'.1 c).trans (runM_le (doR_ok h ho'.1 c) ho'.2 e)
    · rw [if_neg c] at e; exact absurd e c
theorem allOk_take {l : List Rcd} (h : allOk l = true) (k : Nat) : allOk (l.take k) = true := by
  unfold allOk at h ⊢
  rw [List.all_eq_true] at h ⊢
  exact fun x hx => h x (List.mem_of_mem_take hx)
theorem allOk_app {a b : List Rcd} : allOk (a ++ b) = (allOk a && allOk b) := by simp [allOk]
/-- Nothing is taken back. -/
theorem foldR_forward {l : List Rcd} (h : (foldR l).2 = 0) (k : Nat) : (foldR (l.take k)).2 = 0 ∧ Le (foldR (l.take k)).1 (foldR l).1 := by
  unfold foldR at h ⊢
  split at h
  · rename_i hc
    have hc2 : (l.take k).length ≤ 500 ∧ allOk (l.take k) = true := ⟨by simp; omega, allOk_take hc.2 k⟩
    have hd : allOk (l.drop k) = true := by
      have h2 := hc.2
      rw [← List.take_append_drop k l, allOk_app, Bool.and_eq_true] at h2
      exact h2.2
    rw [if_pos hc2, if_pos hc]
    have e := runM_app (l.take k) (l.drop k) ⟨[], []⟩
    rw [List.take_append_drop] at e
    rw [e] at h ⊢
    by_cases c : (runM (l.take k) ⟨[], []⟩).2 = 0
    · rw [if_pos c] at h ⊢
      exact ⟨c, runM_le (runM_ok mem0_ok hc2.2 c) hd h⟩
    · rw [if_neg c] at h; exact absurd h c
  · cases h

/-- How many records an acceptor takes. -/
def cnt (a : Acc) : Nat := (if 0 < a.v then 1 else 0) + (if a.v < a.p then 1 else 0)
theorem fewA_len (i : Nat) (a : Acc) : (fewA i a).length = cnt a := by
  unfold fewA cnt
  split <;> split <;> rfl
def sumC (f : Nat → Nat) : Nat → Nat
  | 0 => 0
  | n + 1 => sumC f n + f n
theorem sumC_step {f g : Nat → Nat} {i : Nat} (h : ∀ j, j ≠ i → f j = g j) (hi : f i ≤ g i + 1) : ∀ n, sumC f n ≤ sumC g n + (if i < n then 1 else 0)
  | 0 => by simp [sumC]
  | n + 1 => by
    have ih := sumC_step h hi n
    unfold sumC
    by_cases e : n = i
    · subst e
      rw [if_neg (by omega)] at ih
      rw [if_pos (by omega)]
      omega
    · rw [h n e]
      by_cases c : i < n
      · rw [if_pos c] at ih; rw [if_pos (by omega)]; omega
      · rw [if_neg c] at ih; rw [if_neg (by omega)]; omega
theorem fewN_len {A : List Acc} : ∀ n, (fewN 0 (A.take n)).length = sumC (fun j => cnt (gA' A j)) n
  | 0 => by simp [fewN, sumC]
  | n + 1 => by
    unfold sumC
    rw [← fewN_len n]
    by_cases h : n < A.length
    · have e1 : A.take (n + 1) = A.take n ++ [gA' A n] := by
        rw [List.take_add_one, List.getElem?_eq_getElem h]; simp [gA', h]
      rw [e1, fewN_app, List.length_append]
      simp [fewN, fewA_len]
    · rw [List.take_of_length_le (by omega), List.take_of_length_le (by omega), gA'_out (by omega)]
      simp [cnt, ac0]
theorem fewest_len {m : Mem} (h : m.A.length ≤ 15) : (fewest m).length = sumC (fun j => cnt (gA' m.A j)) 15 + m.L.length := by
  rw [← fewN_len, List.take_of_length_le h]
  simp [fewest, fewT]
theorem doR_few {m : Mem} (h : MemOk m) {r : Rcd} (hr : r.ok = true) (e : (doR m r).2 = 0) : (fewest (doR m r).1).length ≤ (fewest m).length + 1 := by
  have h' := doR_ok h hr e
  rw [fewest_len h.len, fewest_len h'.len]
  obtain ⟨c, f⟩ := doR_can h hr
  obtain ⟨a, l⟩ := f e
  have hc := c.1 e
  obtain ⟨_, _, g3⟩ := doR_lens h hr e
  by_cases hk : r.k = 3
  · rw [if_pos hk] at g3
    have hs : (fun j => cnt (gA' (doR m r).1.A j)) = fun j => cnt (gA' m.A j) := by
      funext j
      rw [a, if_neg (fun h => h.1 hk)]
    rw [hs]
    omega
  · rw [if_neg hk] at g3
    have := sumC_step (f := fun j => cnt (gA' (doR m r).1.A j)) (g := fun j => cnt (gA' m.A j)) (i := r.s.toNat - 1) (fun j hj => by rw [a, if_neg (fun h => hj h.2)]) (by
      rw [a, if_pos ⟨hk, rfl⟩]
      unfold newA cnt
      split
      · rename_i k1
        simp only []
        have := hc.1 k1
        split <;> split <;> omega
      · simp only []
        split <;> split <;> omega) 15
    have h15 : (if r.s.toNat - 1 < 15 then 1 else 0) ≤ 1 := by split <;> omega
    omega
theorem runM_few : ∀ {l : List Rcd} {m : Mem}, MemOk m → allOk l = true → (runM l m).2 = 0 → (fewest (runM l m).1).length ≤ (fewest m).length + l.length
  | [], m, _, _, _ => Nat.le_refl _
  | r :: l, m, h, ho, e => by
    have ho' : r.ok = true ∧ allOk l = true := by simpa [allOk] using ho
    rw [runM] at e ⊢
    by_cases c : (doR m r).2 = 0
    · rw [if_pos c] at e ⊢
      have h1 := doR_few h ho'.1 c
      have h2 := runM_few (doR_ok h ho'.1 c) ho'.2 e
      simp only [List.length_cons]
      omega
    · rw [if_neg c] at e; exact absurd e c
/-- No shorter list of records leads to a memory. -/
theorem foldR_few {l : List Rcd} (h : (foldR l).2 = 0) : (fewest (foldR l).1).length ≤ l.length := by
  unfold foldR at h ⊢
  split at h
  · rename_i hc
    rw [if_pos hc]
    have := runM_few mem0_ok hc.2 h
    simpa [fewest, fewN, fewT] using this
  · cases h
end Go.Proofs.YtnomenmakhielaaDoor
namespace Go.Proofs.YtnomenmakhielaaDoor
open Go.Ab

theorem few_step {m : Mem} (h : MemOk m) {i : Nat} {a : Acc} (hi : i < 15) (h0 : gA' m.A i = ac0) (h1 : a.ok = true) (h2 : a.v ≠ 0 → a.x.s = i + 1) :
    (runM (fewA i a) m).2 = 0 ∧ (∀ j, gA' (runM (fewA i a) m).1.A j = if j = i then a else gA' m.A j) ∧ (runM (fewA i a) m).1.L = m.L := by
  have hok := fewA_ok hi h1 h2
  obtain ⟨g1, g2, g3⟩ := (Acc.ok_iff a).1 h1
  have ti : ((i : Int) + 1).toNat - 1 = i := by omega
  have pa : ∀ (A : List Acc) (b c : Acc) (j : Nat), gA' (put (put A i b) i c) j = if j = i then c else gA' A j := fun A b c j => by
    rw [gA'_put, gA'_put]; split <;> rfl
  obtain ⟨p, v, x⟩ := a
  simp only [] at g1 g2 g3 h2
  by_cases c1 : 0 < v
  · have o1 := hok ⟨2, i + 1, v, x⟩ (by simp [fewA, c1])
    have d1 : doR m ⟨2, i + 1, v, x⟩ = (⟨put m.A i ⟨v, v, x⟩, m.L⟩, 0) := by
      rcases doR_2 h o1 rfl with ⟨g, _⟩ | ⟨g, e⟩
      · simp only [ti, h0, ac0] at g; omega
      · simp only [ti] at e; exact e
    by_cases c2 : v < p
    · have e : fewA i ⟨p, v, x⟩ = [⟨2, i + 1, v, x⟩, ⟨1, i + 1, p, tk0⟩] := by simp [fewA, c1, c2]
      have o2 := hok ⟨1, i + 1, p, tk0⟩ (by simp [fewA, c2])
      have k1 : MemOk ⟨put m.A i ⟨v, v, x⟩, m.L⟩ := by have := doR_ok h o1 (by rw [d1]); rw [d1] at this; exact this
      have d2 : doR ⟨put m.A i ⟨v, v, x⟩, m.L⟩ ⟨1, i + 1, p, tk0⟩ = (⟨put (put m.A i ⟨v, v, x⟩) i ⟨p, v, x⟩, m.L⟩, 0) := by
        rcases doR_1 k1 o2 rfl with ⟨g, _⟩ | ⟨g, e⟩
        · simp only [ti, gA'_put, if_true] at g; omega
        · simp only [ti, gA'_put, if_true] at e; exact e
      rw [e, runM, d1, if_pos rfl, runM, d2, if_pos rfl, runM]
      exact ⟨rfl, fun j => pa _ _ _ j, rfl⟩
    · have e : fewA i ⟨p, v, x⟩ = [⟨2, i + 1, v, x⟩] := by simp [fewA, c1, c2]
      have hp : p = v := by omega
      subst hp
      rw [e, runM, d1, if_pos rfl, runM]
      exact ⟨rfl, fun j => gA'_put _ _ _ j, rfl⟩
  · have hv : v = 0 := by omega
    subst hv
    have hx := g2 rfl
    subst hx
    by_cases c2 : 0 < p
    · have e : fewA i ⟨p, 0, tk0⟩ = [⟨1, i + 1, p, tk0⟩] := by simp [fewA, c2]
      have o2 := hok ⟨1, i + 1, p, tk0⟩ (by simp [fewA, c2])
      have d2 : doR m ⟨1, i + 1, p, tk0⟩ = (⟨put m.A i ⟨p, 0, tk0⟩, m.L⟩, 0) := by
        rcases doR_1 h o2 rfl with ⟨g, _⟩ | ⟨g, e⟩
        · simp only [ti, h0, ac0] at g; omega
        · simp only [ti, h0, ac0] at e; exact e
      rw [e, runM, d2, if_pos rfl, runM]
      exact ⟨rfl, fun j => gA'_put _ _ _ j, rfl⟩
    · have e : fewA i ⟨p, 0, tk0⟩ = [] := by simp [fewA, c2]
      have hp : p = 0 := by omega
      subst hp
      rw [e, runM]
      refine ⟨rfl, fun j => ?_, rfl⟩
      split
      · rename_i hj; rw [hj, h0]; rfl
      · rfl

theorem fewA_allOk {i : Nat} {a : Acc} (hi : i < 15) (h1 : a.ok = true) (h2 : a.v ≠ 0 → a.x.s = i + 1) : allOk (fewA i a) = true := by
  unfold allOk; rw [List.all_eq_true]; exact fewA_ok hi h1 h2
theorem few_run {m : Mem} (h : MemOk m) : ∀ n, n ≤ m.A.length → allOk (fewN 0 (m.A.take n)) = true ∧ (runM (fewN 0 (m.A.take n)) ⟨[], []⟩).2 = 0 ∧
    (∀ j, gA' (runM (fewN 0 (m.A.take n)) ⟨[], []⟩).1.A j = if j < n then gA' m.A j else ac0) ∧ (runM (fewN 0 (m.A.take n)) ⟨[], []⟩).1.L = []
  | 0, _ => ⟨by simp [fewN, allOk], by simp [fewN, runM], fun j => by simp [fewN, runM]; exact gA'_out (Nat.zero_le _), by simp [fewN, runM]⟩
  | n + 1, hn => by
    obtain ⟨i0, i1, i2, i3⟩ := few_run h n (by omega)
    have e1 : m.A.take (n + 1) = m.A.take n ++ [gA' m.A n] := by
      rw [List.take_add_one, List.getElem?_eq_getElem (by omega : n < m.A.length)]; simp [gA', (by omega : n < m.A.length)]
    have e2 : (m.A.take n).length = n := by simp; omega
    have e3 : fewN 0 (m.A.take (n + 1)) = fewN 0 (m.A.take n) ++ fewA n (gA' m.A n) := by rw [e1, fewN_app, e2]; simp [fewN]
    have hmk := runM_ok mem0_ok i0 i1
    have hac := h.acc n
    have hn15 : n < 15 := by have := h.len; omega
    obtain ⟨s1, s2, s3⟩ := few_step hmk hn15 (by rw [i2, if_neg (Nat.lt_irrefl _)]) hac.1 hac.2
    rw [e3, runM_app, if_pos i1]
    refine ⟨by rw [allOk_app, i0, fewA_allOk hn15 hac.1 hac.2]; rfl, s1, fun j => ?_, by rw [s3, i3]⟩
    rw [s2, i2]
    by_cases c : j = n
    · subst c; rw [if_pos rfl, if_pos (by omega)]
    · rw [if_neg c]
      by_cases c2 : j < n
      · rw [if_pos c2, if_pos (by omega)]
      · rw [if_neg c2, if_neg (by omega)]

theorem tk_ok {t : Tk} (h : OkT t) : Rcd.ok ⟨3, t.s, 0, t⟩ = true := by
  have hs := h.sec
  unfold OkT at h
  unfold Rcd.ok
  simp only []
  rw [if_neg (by omega), if_neg (by decide), if_neg (by decide), if_pos trivial, h]
  simp
theorem fewT_allOk {T : List Tk} (h : ∀ t ∈ T, OkT t) : allOk (fewT T) = true := by
  unfold allOk fewT
  rw [List.all_eq_true]
  intro r hr
  obtain ⟨t, ht, rfl⟩ := List.mem_map.1 hr
  exact tk_ok (h t ht)
theorem tk_run {L0 : List Tk} (hL0 : Up L0) : ∀ {T : List Tk} {m : Mem}, MemOk m → (∀ t ∈ T, OkT t) → (∀ t ∈ T, t ∈ L0) → (∀ t ∈ m.L, t ∈ L0) →
    (runM (fewT T) m).2 = 0 ∧ (∀ j, gA' (runM (fewT T) m).1.A j = gA' m.A j) ∧ ∀ x, x ∈ (runM (fewT T) m).1.L ↔ x ∈ m.L ∨ x ∈ T
  | [], m, _, _, _, _ => by simp [fewT, runM]
  | t :: T, m, h, h1, h2, h3 => by
    have hr := tk_ok (h1 t (by simp))
    obtain ⟨c, f⟩ := doR_can h hr
    have e : (doR m ⟨3, t.s, 0, t⟩).2 = 0 := c.2 ⟨fun h => by simp at h, fun h => by simp at h, fun _ y hy hs => Up.inj hL0 (h3 y hy) (h2 t (by simp)) hs⟩
    obtain ⟨a, l⟩ := f e
    have ih := tk_run hL0 (T := T) (doR_ok h hr e) (fun u hu => h1 u (by simp [hu])) (fun u hu => h2 u (by simp [hu])) (fun u hu => by
      rcases (l u).1 hu with hu | ⟨_, rfl⟩
      · exact h3 u hu
      · exact h2 _ (by simp))
    have e2 : fewT (t :: T) = ⟨3, t.s, 0, t⟩ :: fewT T := rfl
    rw [e2, runM, if_pos e]
    refine ⟨ih.1, fun j => by rw [ih.2.1, a, if_neg (fun h => h.1 rfl)], fun x => ?_⟩
    rw [ih.2.2, l]
    simp only [true_and, List.mem_cons, or_assoc]

theorem sumC_le {f : Nat → Nat} {c : Nat} (h : ∀ j, f j ≤ c) : ∀ n, sumC f n ≤ n * c
  | 0 => by simp [sumC]
  | n + 1 => by
    have := sumC_le h n
    have := h n
    unfold sumC
    rw [Nat.succ_mul]
    omega
theorem fewest_le {m : Mem} (h : MemOk m) : (fewest m).length ≤ 45 := by
  rw [fewest_len h.len]
  have h1 := sumC_le (f := fun j => cnt (gA' m.A j)) (c := 2) (fun j => by unfold cnt; split <;> split <;> omega) 15
  have h2 := h.log.len
  omega
theorem fewest_ok {m : Mem} (h : MemOk m) : allOk (fewest m) = true := by
  have h1 := (few_run h m.A.length (Nat.le_refl _)).1
  rw [List.take_of_length_le (Nat.le_refl _)] at h1
  unfold fewest
  rw [allOk_app, h1, fewT_allOk fun t ht => h.log.ok ht]
  rfl
/-- The fewest records of a memory lead to it. -/
theorem foldR_fewest {m : Mem} (h : MemOk m) : foldR (fewest m) = (m, 0) := by
  have hc : (fewest m).length ≤ 500 ∧ allOk (fewest m) = true := ⟨by have := fewest_le h; omega, fewest_ok h⟩
  unfold foldR
  rw [if_pos hc]
  obtain ⟨i0, i1, i2, i3⟩ := few_run h m.A.length (Nat.le_refl _)
  rw [List.take_of_length_le (Nat.le_refl _)] at i0 i1 i2 i3
  have hmk := runM_ok mem0_ok i0 i1
  obtain ⟨t1, t2, t3⟩ := tk_run h.log.2.up (T := m.L) hmk (fun t ht => h.log.ok ht) (fun t ht => ht) (fun t ht => by rw [i3] at ht; cases ht)
  have e : runM (fewest m) ⟨[], []⟩ = runM (fewT m.L) (runM (fewN 0 m.A) ⟨[], []⟩).1 := by
    unfold fewest; rw [runM_app, if_pos i1]
  have hok := runM_ok mem0_ok hc.2 (by rw [e]; exact t1)
  refine Prod.ext ?_ (by rw [e]; exact t1)
  refine mem_ext hok h (fun i => ?_) fun x => ?_
  · rw [e, t2, i2]
    split
    · rfl
    · rename_i hi; exact (gA'_out (A := m.A) (Nat.le_of_not_lt hi)).symm
  · rw [e, t3, i3]
    simp
end Go.Proofs.YtnomenmakhielaaDoor
namespace Go.Proofs.YtnomenmakhielaaDoor
open Go.Ab

theorem foldR_cond {l : List Rcd} (h : (foldR l).2 = 0) : l.length ≤ 500 ∧ allOk l = true ∧ foldR l = runM l ⟨[], []⟩ := by
  unfold foldR at h ⊢
  split at h
  · rename_i hc; rw [if_pos hc]; exact ⟨hc.1, hc.2, rfl⟩
  · cases h
theorem foldR_swap {a b : List Rcd} {r s : Rcd} (h : (foldR (a ++ r :: s :: b)).2 = 0) (hne : r.s ≠ s.s) : foldR (a ++ s :: r :: b) = foldR (a ++ r :: s :: b) := by
  obtain ⟨h1, h2, h3⟩ := foldR_cond h
  have h2' := h2
  rw [allOk_app, Bool.and_eq_true] at h2'
  have ha := h2'.1
  have hrs : r.ok = true ∧ s.ok = true ∧ allOk b = true := by simpa [allOk] using h2'.2
  have h4 : allOk (a ++ s :: r :: b) = true := by
    rw [allOk_app, ha]; simpa [allOk] using ⟨hrs.2.1, hrs.1, by simpa [allOk] using hrs.2.2⟩
  have h5 : (a ++ s :: r :: b).length ≤ 500 := by simpa using h1
  have e : foldR (a ++ s :: r :: b) = runM (a ++ s :: r :: b) ⟨[], []⟩ := by
    unfold foldR; rw [if_pos ⟨h5, h4⟩]
  rw [h3] at h ⊢
  rw [e]
  rw [runM_app] at h
  rw [runM_app a (s :: r :: b), runM_app a (r :: s :: b)]
  by_cases c : (runM a ⟨[], []⟩).2 = 0
  · rw [if_pos c] at h
    rw [if_pos c, if_pos c]
    have hm := runM_ok mem0_ok ha c
    generalize (runM a ⟨[], []⟩).1 = m at h hm ⊢
    have e1 : (doR m r).2 = 0 := by
      rw [runM] at h
      by_cases c1 : (doR m r).2 = 0
      · exact c1
      · rw [if_neg c1] at h; exact h
    have e2 : (doR (doR m r).1 s).2 = 0 := by
      rw [runM, if_pos e1, runM] at h
      by_cases c1 : (doR (doR m r).1 s).2 = 0
      · exact c1
      · rw [if_neg c1] at h; exact h
    obtain ⟨g1, g2, g3⟩ := two_swap hm hrs.1 hrs.2.1 hne e1 e2
    rw [runM, if_pos g1, runM, if_pos g2, g3, runM, if_pos e1, runM, if_pos e2]
  · rw [if_neg c] at h; exact absurd h c

/-- Records behind others that lead to the same. -/
theorem foldR_behind {l k more : List Rcd} (hl : (foldR l).2 = 0) (hk : foldR k = foldR l) (hlen : k.length ≤ l.length) (h5 : (l ++ more).length ≤ 500) : foldR (k ++ more) = foldR (l ++ more) := by
  obtain ⟨a1, a2, a3⟩ := foldR_cond hl
  obtain ⟨b1, b2, b3⟩ := foldR_cond (l := k) (by rw [hk]; exact hl)
  have h6 : (k ++ more).length ≤ 500 := by simp at h5 ⊢; omega
  unfold foldR
  rw [allOk_app, allOk_app, a2, b2]
  by_cases c : allOk more = true
  · rw [if_pos ⟨h6, by simpa using c⟩, if_pos ⟨h5, by simpa using c⟩, runM_app, runM_app]
    rw [← a3, ← b3, hk]
  · rw [if_neg (fun h => c (by simpa using h.2)), if_neg (fun h => c (by simpa using h.2))]

theorem framesN_len {l : List Rcd} (h : allOk l = true) : (framesN l).length ≤ 13 * l.length := by
  induction l with
  | nil => simp [framesN]
  | cons r l ih =>
    have ho : r.ok = true ∧ allOk l = true := by simpa [allOk] using h
    have h1 := frameN_len ho.1
    have h2 := ih ho.2
    have e : (framesN (r :: l)).length = (frameN r).length + (framesN l).length := by simp [framesN]
    rw [e, List.length_cons]
    omega
/-- What Recover answers of a disk of frames. -/
theorem recover_frames {l : List Rcd} (h : allOk l = true) (hl : l.length ≤ 500) {s : Int} (hs : 0 ≤ s ∧ s ≤ (framesN l).length) : recoverR ⟨framesN l, s⟩ = (l, ⟨framesN l, (framesN l).length⟩, 0) := by
  have hf := framesN_len h
  have hso : soundB ⟨framesN l, s⟩ = true := by unfold soundB; simp; omega
  unfold recoverR
  rw [if_pos hso, wholeN_all h, if_neg (by simp only []; omega)]
  simp only [List.take_length]
/-- What compacting answers: the fewest records of the memory; done twice, it is as done once. -/
theorem compact_ok {d : Dsk} (h : (compactR d).2 = 0) : (recoverR d).2.2 = 0 ∧ (foldR (recoverR d).1).2 = 0 ∧ (compactR d).1 = ⟨framesN (fewest (foldR (recoverR d).1).1), ((framesN (fewest (foldR (recoverR d).1).1)).length : Nat)⟩ ∧
    recoverR (compactR d).1 = (fewest (foldR (recoverR d).1).1, (compactR d).1, 0) ∧ foldR (fewest (foldR (recoverR d).1).1) = foldR (recoverR d).1 ∧ compactR (compactR d).1 = compactR d ∧ (fewest (foldR (recoverR d).1).1).length ≤ (recoverR d).1.length := by
  have h1 : (recoverR d).2.2 = 0 := by
    unfold compactR at h
    by_cases c : (recoverR d).2.2 = 0
    · exact c
    · rw [if_pos c] at h; exact h
  have h2 : (foldR (recoverR d).1).2 = 0 := by
    unfold compactR at h
    rw [if_neg (by simp [h1])] at h
    by_cases c : (foldR (recoverR d).1).2 = 0
    · exact c
    · rw [if_pos c] at h; exact h
  have e : compactR d = (⟨framesN (fewest (foldR (recoverR d).1).1), ((framesN (fewest (foldR (recoverR d).1).1)).length : Nat)⟩, 0) := by
    unfold compactR; rw [if_neg (by simp [h1]), if_neg (by simp [h2])]
  have hm := foldR_ok h2
  have hfew := foldR_few h2
  generalize hl : (recoverR d).1 = l at *
  have hfo : foldR (fewest (foldR l).1) = foldR l := by
    rw [foldR_fewest hm]
    exact Prod.ext rfl h2.symm
  have hrec : recoverR ⟨framesN (fewest (foldR l).1), ((framesN (fewest (foldR l).1)).length : Nat)⟩ = (fewest (foldR l).1, ⟨framesN (fewest (foldR l).1), ((framesN (fewest (foldR l).1)).length : Nat)⟩, 0) :=
    recover_frames (fewest_ok hm) (by have := fewest_le hm; omega) (by omega)
  rw [e]
  refine ⟨h1, h2, rfl, hrec, hfo, ?_, hfew⟩
  simp only []
  generalize hD : (⟨framesN (fewest (foldR l).1), ((framesN (fewest (foldR l).1)).length : Nat)⟩ : Dsk) = D at hrec
  unfold compactR
  rw [hrec]
  simp only [ne_eq, not_true_eq_false, if_false, hfo, h2]
  rw [← hD]
end Go.Proofs.YtnomenmakhielaaDoor
