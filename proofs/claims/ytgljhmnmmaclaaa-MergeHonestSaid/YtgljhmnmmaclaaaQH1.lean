/-
  Honest journals (plain).
-/
import Derived.Test.YtgljhmnmmaclaaaQM17
import Derived.Test.YtgljhmnmmaclaaaQV11
set_option linter.unusedSimpArgs false
set_option linter.unusedVariables false
namespace Go.Proofs.Ytgljhmnmmaclaaa
open Go.Ab
def vtM (vs : List Q.Vot) (b : Int) (k : Nat) : Bool := vs.any fun v => decide (v.d = (k : Int)) && decide (v.b = b)
def vtrs (n : Nat) (vs : List Q.Vot) (b : Int) : List Int := mkR (vtM vs b) n
theorem vtM_iff {vs : List Q.Vot} {b : Int} {k : Nat} : vtM vs b k = true ↔ ∃ v ∈ vs, v.d = (k : Int) ∧ v.b = b := by
  unfold vtM
  simp only [List.any_eq_true, Bool.and_eq_true, decide_eq_true_eq]
theorem vtrs_mem {n : Nat} {vs : List Q.Vot} {b d : Int} : d ∈ vtrs n vs b ↔ ∃ k : Nat,k < n ∧ (k : Int) = d ∧ ∃ v ∈ vs,v.d = d ∧ v.b = b := by
  unfold vtrs mkR
  simp only [List.mem_map, List.mem_filter, List.mem_range, vtM_iff]
  constructor
  · rintro ⟨k, ⟨h1, v, h2, h3, h4⟩, h5⟩
    exact ⟨k, h1, h5, v, h2, h3.trans h5, h4⟩
  · rintro ⟨k, h1, h5, v, h2, h3, h4⟩
    exact ⟨k, ⟨h1, v, h2, h3.trans h5.symm, h4⟩, h5⟩
theorem risB_of {n : Int} : ∀ {L : List Int} {l : Int},L.Pairwise (· < ·) → (∀ x ∈ L,l < x ∧ x < n) → risB n l L = true
  | [], l, _, _ => rfl
  | d :: r, l, h1, h2 => by
    have h3 := List.pairwise_cons.1 h1
    have h4 := h2 d (by simp)
    rw [risB, if_neg (by omega)]
    exact risB_of h3.2 fun x hx => ⟨h3.1 x hx, (h2 x (List.mem_cons_of_mem _ hx)).2⟩
theorem vtrs_len (n : Nat) (vs : List Q.Vot) (b : Int) : (vtrs n vs b).length ≤ n := by
  unfold vtrs mkR
  rw [List.length_map]
  exact Nat.le_trans (List.length_filter_le _ _) (by rw [List.length_range]; exact Nat.le_refl _)
def honE (n : Nat) (vs : List Q.Vot) (c : Q.Sta) : En := ⟨c.x.s, c.x.c, c.x.n, c.x.d, c.b, vtrs n vs c.b⟩
def honJ (n : Nat) (vs : List Q.Vot) (d : Nat) (c : Q.Sta) : Jn := ⟨d, [honE n vs c]⟩
theorem take_ok {x : Q.Tk} (h : x.ok = true) : takeB x.s x.c x.n x.d = true := by
  have h2 : Q.takeB x.s x.c x.n x.d = true := h
  unfold Q.takeB at h2
  unfold takeB
  grind
theorem hon_ok {n : Nat} {R : Q.Rnd} (hi : Q.Inv n R) (hn : 1 ≤ n ∧ n ≤ 8) {c : Q.Sta} (hc : Q.majB n R.vot c = true) : enB n (honE n R.vot c) = true := by
  obtain ⟨h1, h2, h3⟩ := hi.maj hc
  have h4 : (Q.cntV c R.vot []).length ≤ (vtrs n R.vot c.b).length := Q.sub_len h1 fun d hd => by
    obtain ⟨p, p1, ⟨p2, p3⟩, p4⟩ := Q.cntV_mem.1 hd
    have h5 := h2 d hd
    exact vtrs_mem.2 ⟨d.toNat, by omega, by omega, p, p1, p4, p2⟩
  have hs := hi.cpos (by omega) hc
  obtain ⟨s1, s2, _⟩ := hi.stas c hs
  have hb := Q.balB_iff.1 s1
  have hl := vtrs_len n R.vot c.b
  have h6 : IntKind.i64.wrap (2 * ((vtrs n R.vot c.b).length : Int)) = 2 * ((vtrs n R.vot c.b).length : Int) := wrapI (by omega) (by omega)
  unfold enB honE
  simp only [Bool.and_eq_true, decide_eq_true_eq]
  refine ⟨⟨⟨⟨take_ok s2, hb.1⟩, hb.2⟩, ?_⟩, ?_⟩
  · rw [h6]; omega
  · refine risB_of ?_ fun x hx => ?_
    · unfold vtrs mkR
      rw [List.pairwise_map]
      refine (List.pairwise_lt_range.filter _).imp fun {a b} h => ?_
      simpa using h
    · obtain ⟨k, k1, k2, _⟩ := vtrs_mem.1 hx
      omega
theorem honJ_ok {n : Nat} {R : Q.Rnd} (hi : Q.Inv n R) (hn : 1 ≤ n ∧ n ≤ 8) {c : Q.Sta} (hc : Q.majB n R.vot c = true) {d : Nat} (hd : d < n) : jnB n (honJ n R.vot d c) = true := by
  have h1 := hon_ok hi hn hc
  have hs := hi.cpos (by omega) hc
  have h2 := take_ok (hi.stas c hs).2.1
  unfold takeB at h2
  have h3 : 0 < c.x.s := by
    split at h2
    · cases h2
    · omega
  unfold jnB honJ cntB
  simp only [Bool.and_eq_true, decide_eq_true_eq]
  refine ⟨⟨⟨by omega, by omega⟩, by omega⟩, ?_⟩
  rw [secB, if_neg ?_]
  · rfl
  · rw [h1]
    show ¬ (true = false ∨ c.x.s ≤ 0)
    simp
    omega
structure OneT (js : List Jn) (t : Tk) : Prop where
  all : ∀ j ∈ js, ∃ x, j.e = [x] ∧ x.t = t
theorem OneT.look {js : List Jn} {t : Tk} (h : OneT js t) {s : Int} {k : Nat} {y : En} (hy : lookE js s k = some y) : y.t = t := by
  obtain ⟨h1, _⟩ := lookE_mem hy
  by_cases hk : k < js.length
  · have : gj js k ∈ js := by unfold gj;rw [List.getD_eq_getElem?_getD,List.getElem?_eq_getElem hk];exact List.getElem_mem hk
    obtain ⟨x, x1, x2⟩ := h.all _ this
    rw [x1] at h1
    simp only [List.mem_singleton] at h1
    rw [h1, x2]
  · exact absurd (lookE_lt hy) hk
theorem OneT.clN {js : List Jn} {t : Tk} (h : OneT js t) {x : En} (hx : x.t = t) (i : Nat) : ∀ k,Ytgljhmnmmaclaaa.clN js x i k = []
  | 0 => rfl
  | k + 1 => by
    have : hitE js x k = false := by
      unfold hitE
      cases hl : lookE js x.s k with
      | none => rfl
      | some y =>
        have hy := h.look hl
        rw [← hx] at hy
        simp only [En.t, Tk.mk.injEq] at hy
        simp [tkEq, hy]
    rw [Ytgljhmnmmaclaaa.clN, this, if_neg (by simp)]
    exact h.clN hx i k
theorem OneT.clA {js : List Jn} {t : Tk} (h : OneT js t) : ∀ (l : List Jn) (i : Nat),(∀ j ∈ l,j ∈ js) → Ytgljhmnmmaclaaa.clA js i l = []
  | [], _, _ => rfl
  | j :: l, i, hs => by
    obtain ⟨x, x1, x2⟩ := h.all j (hs j (by simp))
    rw [Ytgljhmnmmaclaaa.clA, h.clA l (i + 1) fun q hq => hs q (List.mem_cons_of_mem _ hq), x1]
    show Ytgljhmnmmaclaaa.clJ js i [x] ++ [] = []
    unfold clJ
    simp [h.clN x2 i i]
theorem OneT.cls {js : List Jn} {t : Tk} (h : OneT js t) : clsL js = [] := by
  have := clsL_len js
  rw [h.clA js 0 fun _ hj => hj] at this
  exact List.length_eq_zero_iff.1 this
theorem OneT.lastT {js : List Jn} {t : Tk} (h : OneT js t) (hne : js ≠ []) (s : Int) : Ytgljhmnmmaclaaa.lastT js s = if s = t.s then some t else none := by
  have hall : ∀ x ∈ flatE js, x.t = t := fun x hx => by
    unfold flatE at hx
    obtain ⟨j, j1, j2⟩ := List.mem_flatMap.1 hx
    obtain ⟨y, y1, y2⟩ := h.all j j1
    rw [y1] at j2
    simp only [List.mem_singleton] at j2
    rw [j2, y2]
  have hne2 : ∃ x, x ∈ flatE js := by
    match js, hne with
    | j :: l, _ =>
      obtain ⟨y, y1, y2⟩ := h.all j (by simp)
      exact ⟨y, by unfold flatE; rw [List.flatMap_cons, y1]; simp⟩
  unfold Ytgljhmnmmaclaaa.lastT
  have hs : ∀ x ∈ flatE js, x.s = t.s := fun x hx => by rw [← hall x hx]; rfl
  by_cases e : s = t.s
  · rw [if_pos e]
    obtain ⟨x, hx⟩ := hne2
    cases hf : (flatE js).reverse.find? fun x => decide (x.s = s) with
    | none =>
      have := List.find?_eq_none.1 hf x (List.mem_reverse.2 hx)
      rw [decide_eq_true_eq] at this
      exact absurd ((hs x hx).trans e.symm) this
    | some y =>
      have := List.mem_of_find?_eq_some hf
      simp only [Option.map_some]
      rw [hall y (List.mem_reverse.1 this)]
  · rw [if_neg e]
    have : ((flatE js).reverse.find? fun x => decide (x.s = s)) = none := by
      rw [List.find?_eq_none]
      intro x hx
      rw [decide_eq_true_eq, hs x (List.mem_reverse.1 hx)]
      exact fun q => e q.symm
    rw [this]
    rfl
theorem OneT.tkN {js : List Jn} {t : Tk} (h : OneT js t) (hne : js ≠ []) (ht : 1 ≤ t.s) : ∀ k : Nat,Ytgljhmnmmaclaaa.tkN js k = if t.s ≤ k then [t] else []
  | 0 => by rw [Ytgljhmnmmaclaaa.tkN, if_neg (by omega)]
  | k + 1 => by
    rw [Ytgljhmnmmaclaaa.tkN, h.lastT hne, h.tkN hne ht k]
    by_cases e : (k : Int) + 1 = t.s
    · rw [if_pos e, if_neg (by omega), if_pos (by omega)]
      rfl
    · rw [if_neg e]
      by_cases e2 : t.s ≤ k
      · rw [if_pos e2, if_pos (by omega)]
      · rw [if_neg e2, if_neg (by omega)]
theorem OneT.mrg {n : Int} {js : List Jn} {t : Tk} (h : OneT js t) (hv : jsB n js = true) (ht : 1 ≤ t.s ∧ t.s ≤ 15) : mrgR n js = (if js = [] then [] else [t],0) := by
  unfold mrgR
  rw [if_pos hv, if_pos h.cls]
  by_cases e : js = []
  · subst e
    rfl
  · rw [if_neg e, h.tkN e ht.1, if_pos (by omega)]
theorem OneT.lia {n : Int} {js : List Jn} {t : Tk} (h : OneT js t) (hv : jsB n js = true) : liaR n js = ([], 0) := by
  unfold liaR
  rw [if_pos hv, h.cls]
  rfl
end Go.Proofs.Ytgljhmnmmaclaaa
