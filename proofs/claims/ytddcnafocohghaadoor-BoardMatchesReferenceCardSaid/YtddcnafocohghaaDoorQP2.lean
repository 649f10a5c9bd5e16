/-
  Plain: intervals, pitches that are near, keyboards, what Find and Hands answer.
-/
import Derived.Test.YtddcnafocohghaaDoorQP1
set_option linter.unusedSimpArgs false
set_option linter.unusedVariables false
namespace Go.Proofs.YtddcnafocohghaaDoor
def P6.all (p : P6) (q : Int → Bool) : Bool := q p.a && q p.b && q p.c && q p.d && q p.e && q p.f
def inB (n x : Int) : Bool := decide (-n ≤ x) && decide (x ≤ n)
def pOk (p : P6) : Bool := p.all (inB 576)
def vOk (p : P6) : Bool := p.all (inB 48)
def P6.map2 (g : Int → Int → Int) (p q : P6) : P6 := ⟨g p.a q.a, g p.b q.b, g p.c q.c, g p.d q.d, g p.e q.e, g p.f q.f⟩
def P6.sub (p q : P6) : P6 := p.map2 (fun x y => x - y) q
def P6.add (p q : P6) : P6 := p.map2 (fun x y => x + y) q
def P6.x12 (p : P6) : P6 := ⟨p.a * 12, p.b * 12, p.c * 12, p.d * 12, p.e * 12, p.f * 12⟩
def exL (e l h : Int) : Int := if e < 0 then e * h else e * l
def sizeLo (e : P6) : Int := exL e.a 1000000000 1000000000 + exL e.b 1584962500 1584962501 + exL e.c 2321928094 2321928095 + exL e.d 2807354922 2807354923 + exL e.e 3459431618 3459431619 + exL e.f 3700439718 3700439719
def sizeHi (e : P6) : Int := exL e.a 1000000000 1000000000 + exL e.b 1584962501 1584962500 + exL e.c 2321928095 2321928094 + exL e.d 2807354923 2807354922 + exL e.e 3459431619 3459431618 + exL e.f 3700439719 3700439718
def surelyI (lo hi low high : Int) : Int := if low ≤ lo ∧ hi ≤ high then 1 else if hi < low ∨ high < lo then -1 else 0
def nearI (p q : P6) (t : Int) : Int × Int :=
  if pOk p = true ∧ pOk q = true ∧ 0 ≤ t ∧ t ≤ 2400000 then (surelyI (sizeLo (p.sub q)) (sizeHi (p.sub q)) (-10000 * t) (10000 * t), 0) else (0, 1)
def near1 (p q : P6) (t : Int) : Bool := decide (-10000 * t ≤ sizeLo (p.sub q) ∧ sizeHi (p.sub q) ≤ 10000 * t)
theorem near_near1 {p q : P6} {t : Int} (hp : pOk p = true) (hq : pOk q = true) (h0 : 0 ≤ t) (h1 : t ≤ 50000) : (nearI p q t).2 = 0 ∧ decide ((nearI p q t).1 = 1) = near1 p q t := by
  unfold nearI
  rw [if_pos ⟨hp, hq, h0, by omega⟩]
  refine ⟨rfl, ?_⟩
  unfold near1 surelyI
  simp only []
  split
  · rename_i h; rw [decide_eq_true rfl, decide_eq_true h]
  · rename_i h
    rw [decide_eq_false h]
    split <;> simp
theorem x12_ok {v : P6} (h : vOk v = true) : pOk v.x12 = true := by
  unfold vOk pOk P6.all inB P6.x12 at *
  simp only [Bool.and_eq_true, decide_eq_true_eq] at *
  omega
def keyB (last : Int) (k : Ky) : Bool := decide (last < k.id) && decide (k.id ≤ 1000) && decide (0 ≤ k.x) && decide (k.x ≤ 1000) && decide (0 ≤ k.row) && decide (k.row ≤ 10) && pOk k.p
def keysB : List Ky → Int → List Ky → Bool
  | _, _, [] => true
  | seen, last, k :: r => keyB last k && seen.all (fun y => !(decide (y.x = k.x) && decide (y.row = k.row))) && keysB (seen ++ [k]) k.id r
def bdB (b : Bd) : Bool := decide (b.ks.length ≤ 120) && decide (0 ≤ b.span) && decide (b.span ≤ 1000) && decide (0 ≤ b.tol) && decide (b.tol ≤ 50000) && keysB [] 0 b.ks
structure Good (b : Bd) : Prop where
  len : b.ks.length ≤ 120
  s0 : 0 ≤ b.span
  s1 : b.span ≤ 1000
  t0 : 0 ≤ b.tol
  t1 : b.tol ≤ 50000
  rise : b.ks.Pairwise fun a c => a.id < c.id
  one : ∀ k ∈ b.ks, 0 < k.id ∧ k.id ≤ 1000 ∧ 0 ≤ k.x ∧ k.x ≤ 1000 ∧ 0 ≤ k.row ∧ k.row ≤ 10 ∧ pOk k.p = true
  apart : Apart b.ks
theorem keyB_iff {last : Int} {k : Ky} : keyB last k = true ↔ last < k.id ∧ k.id ≤ 1000 ∧ 0 ≤ k.x ∧ k.x ≤ 1000 ∧ 0 ≤ k.row ∧ k.row ≤ 10 ∧ pOk k.p = true := by
  unfold keyB; simp only [Bool.and_eq_true, decide_eq_true_eq, and_assoc]
theorem keysB_iff : ∀ (l seen : List Ky) (last : Int), keysB seen last l = true ↔ (l.Pairwise fun a c => a.id < c.id) ∧ (∀ k ∈ l, keyB last k = true) ∧ Apart l ∧ ∀ k ∈ l, ∀ y ∈ seen, ¬ (y.x = k.x ∧ y.row = k.row)
  | [], _, _ => by simp [keysB, Apart]
  | k :: r, seen, last => by
    unfold keysB
    rw [Bool.and_eq_true, Bool.and_eq_true, keysB_iff r (seen ++ [k]) k.id]
    simp only [List.pairwise_cons, Apart, List.all_eq_true, Bool.not_eq_true', Bool.and_eq_false_iff, decide_eq_false_iff_not, List.mem_append, List.mem_cons]
    constructor
    · rintro ⟨⟨h1, h2⟩, h3, h4, h5, h6⟩
      have hk : ∀ c ∈ r, k.id < c.id := fun c hc => (keyB_iff.1 (h4 c hc)).1
      refine ⟨⟨hk, h3⟩, ?_, ⟨fun c hc => fun e => h6 c hc k (.inr (.inl rfl)) e, h5⟩, ?_⟩
      · rintro c (rfl | hc)
        · exact h1
        · have h7 := keyB_iff.1 (h4 c hc)
          have h8 := keyB_iff.1 h1
          exact keyB_iff.2 ⟨by omega, h7.2⟩
      · rintro c (rfl | hc) y hy
        · have := h2 y hy; rintro ⟨e1, e2⟩; rcases this with h | h <;> contradiction
        · exact h6 c hc y (.inl hy)
    · rintro ⟨⟨h1, h2⟩, h3, ⟨h4, h5⟩, h6⟩
      refine ⟨⟨h3 k (.inl rfl), fun y hy => ?_⟩, h2, fun c hc => ?_, h5, ?_⟩
      · have := h6 k (.inl rfl) y hy
        by_cases e : y.x = k.x
        · exact .inr fun e2 => this ⟨e, e2⟩
        · exact .inl e
      · exact keyB_iff.2 ⟨h1 c hc, (keyB_iff.1 (h3 c (.inr hc))).2⟩
      · rintro c hc y (hy | rfl | hy)
        · exact h6 c (.inr hc) y hy
        · exact h4 c hc
        · cases hy
theorem bdB_iff {b : Bd} : bdB b = true ↔ Good b := by
  unfold bdB
  simp only [Bool.and_eq_true, decide_eq_true_eq, keysB_iff]
  constructor
  · rintro ⟨⟨⟨⟨⟨h1, h2⟩, h3⟩, h4⟩, h5⟩, h6, h7, h8, _⟩
    exact ⟨h1, h2, h3, h4, h5, h6, fun k hk => keyB_iff.1 (h7 k hk), h8⟩
  · rintro h
    exact ⟨⟨⟨⟨⟨h.len, h.s0⟩, h.s1⟩, h.t0⟩, h.t1⟩, h.rise, fun k hk => keyB_iff.2 (h.one k hk), h.apart, by simp⟩
def findL (b : Bd) (v : P6) : List Int := (b.ks.filter fun k => near1 v.x12 k.p b.tol).map (·.id)
def findR (b : Bd) (v : P6) : List Int × Int := if bdB b = true ∧ vOk v = true then (findL b v, 0) else ([], 1)
def keyOf (ks : List Ky) (id : Int) : Option Ky := ks.find? fun k => decide (k.id = id)
theorem keyOf_some {ks : List Ky} {id : Int} {k : Ky} (h : keyOf ks id = some k) : k ∈ ks ∧ k.id = id := by
  unfold keyOf at h
  exact ⟨List.mem_of_find?_eq_some h, by simpa using List.find?_some h⟩
theorem keyOf_mem {ks : List Ky} (h : ks.Pairwise fun a c => a.id < c.id) {k : Ky} (hk : k ∈ ks) : keyOf ks k.id = some k := by
  induction ks with
  | nil => cases hk
  | cons a l ih =>
    have h1 := List.pairwise_cons.1 h
    rcases List.mem_cons.1 hk with rfl | hk
    · simp [keyOf]
    · have := h1.1 k hk
      unfold keyOf
      rw [List.find?_cons_of_neg (by simp; omega)]
      exact ih h1.2 hk
def diffP (b : Bd) (ids : List Int) : Prop := ids.Nodup ∧ ∀ id ∈ ids, (keyOf b.ks id).isSome = true
instance (b : Bd) (ids : List Int) : Decidable (diffP b ids) := by unfold diffP; exact inferInstance
def ky0 : Ky := ⟨0, 0, 0, ⟨0, 0, 0, 0, 0, 0⟩⟩
def keyD (b : Bd) (id : Int) : Ky := (keyOf b.ks id).getD ky0
def ordK (b : Bd) (ids : List Int) : List Ky := (srtK b.ks).filter fun k => decide (k.id ∈ ids)
theorem ordK_lr {b : Bd} (h : Good b) (ids : List Int) : Lr (ordK b ids) := (srtK_lr h.apart).sublist List.filter_sublist
theorem ordK_mem {b : Bd} {ids : List Int} {k : Ky} : k ∈ ordK b ids ↔ k ∈ b.ks ∧ k.id ∈ ids := by
  unfold ordK; rw [List.mem_filter, srtK_mem]; simp
theorem keyD_mem {b : Bd} {ids : List Int} (h : diffP b ids) {id : Int} (hi : id ∈ ids) : keyD b id ∈ b.ks ∧ (keyD b id).id = id := by
  obtain ⟨k, hk⟩ := Option.isSome_iff_exists.1 (h.2 id hi)
  unfold keyD; rw [hk]; exact keyOf_some hk
theorem keyD_of {b : Bd} (h : Good b) {k : Ky} (hk : k ∈ b.ks) : keyD b k.id = k := by
  unfold keyD; rw [keyOf_mem h.rise hk]; rfl
theorem ordK_uniq {b : Bd} (h : Good b) {ids : List Int} (hd : diffP b ids) {l : List Ky} (hl : Lr l) (hm : ∀ k, k ∈ l ↔ k ∈ ids.map (keyD b)) : l = ordK b ids := by
  refine hl.uniq (ordK_lr h ids) fun k => ?_
  rw [hm, ordK_mem, List.mem_map]
  constructor
  · rintro ⟨id, hi, rfl⟩
    have := keyD_mem hd hi
    exact ⟨this.1, by rw [this.2]; exact hi⟩
  · rintro ⟨h1, h2⟩
    exact ⟨k.id, h2, keyD_of h h1⟩
theorem ordK_len {b : Bd} (h : Good b) {ids : List Int} (hd : diffP b ids) : (ordK b ids).length = ids.length := by
  have hap : Apart (ids.map (keyD b)) := by
    unfold Apart
    rw [List.pairwise_map]
    refine List.Pairwise.imp_of_mem (R := fun a b => a ≠ b) (fun {x y} hx hy hne e => ?_) hd.1
    have h1 := keyD_mem hd hx
    have h2 := keyD_mem hd hy
    have key : ∀ {l : List Ky}, Apart l → ∀ {k m : Ky}, k ∈ l → m ∈ l → k.x = m.x ∧ k.row = m.row → k = m := by
      intro l
      induction l with
      | nil => intro _ k m hk; cases hk
      | cons a l ih =>
        intro hl k m hk hm e
        have hl := List.pairwise_cons.1 hl
        rcases List.mem_cons.1 hk with e1 | k1 <;> rcases List.mem_cons.1 hm with e2 | m1
        · rw [e1, e2]
        · subst e1; exact absurd e (hl.1 m m1)
        · subst e2; exact absurd ⟨e.1.symm, e.2.symm⟩ (hl.1 k k1)
        · exact ih hl.2 k1 m1 e
    have := key h.apart h1.1 h2.1 e
    rw [← h1.2, ← h2.2, this] at hne
    exact hne rfl
  rw [← ordK_uniq h hd (srtK_lr hap) fun k => srtK_mem, srtK_len, List.length_map]
def handsR (b : Bd) (ids : List Int) : List Int × List Int × Int :=
  if bdB b = true ∧ diffP b ids then
    (if divR b.span (ordK b ids) < 0 then ([], [], 20)
     else (((ordK b ids).take (divR b.span (ordK b ids)).toNat).map (·.id), ((ordK b ids).drop (divR b.span (ordK b ids)).toNat).map (·.id), 0))
  else ([], [], 1)
def playP (b : Bd) (ids : List Int) : Prop := diffP b ids ∧ 0 ≤ divR b.span (ordK b ids)
instance (b : Bd) (ids : List Int) : Decidable (playP b ids) := by unfold playP; exact inferInstance
theorem playP_can {b : Bd} (h : Good b) {ids : List Int} : playP b ids ↔ diffP b ids ∧ can b.span (ordK b ids) := by
  unfold playP; rw [divR_nonneg h.s0 (ordK_lr h ids)]
theorem filter_sub {α : Type} {p q : α → Bool} (h : ∀ a, p a = true → q a = true) : ∀ l : List α, List.Sublist (l.filter p) (l.filter q)
  | [] => List.Sublist.slnil
  | a :: l => by
    by_cases hp : p a = true
    · rw [List.filter_cons_of_pos hp, List.filter_cons_of_pos (h a hp)]; exact (filter_sub h l).cons_cons a
    · rw [List.filter_cons_of_neg hp]
      by_cases hq : q a = true
      · rw [List.filter_cons_of_pos hq]; exact (filter_sub h l).cons a
      · rw [List.filter_cons_of_neg hq]; exact filter_sub h l
theorem ordK_sub {b : Bd} {ids js : List Int} (h : ∀ i ∈ ids, i ∈ js) : List.Sublist (ordK b ids) (ordK b js) := by
  unfold ordK
  refine filter_sub (fun k hk => ?_) _
  simp only [decide_eq_true_eq] at hk ⊢
  exact h k.id hk
theorem playP.sub {b : Bd} (hb : Good b) {ids js : List Int} (h : playP b js) (hs : List.Sublist ids js) : playP b ids := by
  rw [playP_can hb] at h ⊢
  exact ⟨⟨h.1.1.sublist hs, fun i hi => h.1.2 i (hs.subset hi)⟩, h.2.sub (ordK_sub fun i hi => hs.subset hi)⟩
end Go.Proofs.YtddcnafocohghaaDoor
