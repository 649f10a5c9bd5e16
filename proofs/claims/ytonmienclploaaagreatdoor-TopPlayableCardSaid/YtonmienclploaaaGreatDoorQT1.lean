/-
  Parts joined: P1 P2 B1.
-/
import Derived.Test.YtonmienclploaaaGreatDoorQGo3
import Derived.Test.YtonmienclploaaaGreatDoorQA6
import Derived.Test.YtonmienclploaaaGreatDoorQA5
set_option linter.unusedSimpArgs false
set_option linter.unusedVariables false
namespace Go.Proofs.YtonmienclploaaaGreatDoor
structure P6 where
  a : Int
  b : Int
  c : Int
  d : Int
  e : Int
  f : Int
deriving DecidableEq
structure Ky where
  id : Int
  x : Int
  row : Int
  p : P6
deriving DecidableEq
structure Bd where
  ks : List Ky
  span : Int
  tol : Int
def ltK (a b : Ky) : Prop := a.x < b.x ∨ a.x = b.x ∧ a.row < b.row
instance (a b : Ky) : Decidable (ltK a b) := by unfold ltK; exact inferInstance
theorem ltK_irr (a : Ky) : ¬ ltK a a := by unfold ltK; omega
theorem ltK_trans {a b c : Ky} (h : ltK a b) (k : ltK b c) : ltK a c := by unfold ltK at *; omega
theorem ltK_x {a b : Ky} (h : ltK a b) : a.x ≤ b.x := by unfold ltK at h; omega
def Lr (l : List Ky) : Prop := l.Pairwise ltK
theorem Lr.uniq : ∀ {l m : List Ky}, Lr l → Lr m → (∀ k, k ∈ l ↔ k ∈ m) → l = m
  | [], [], _, _, _ => rfl
  | [], k :: m, _, _, h => by have := (h k).2 (by simp); cases this
  | k :: l, [], _, _, h => by have := (h k).1 (by simp); cases this
  | a :: l, b :: m, hl, hm, h => by
    have h1 := List.pairwise_cons.1 hl
    have h2 := List.pairwise_cons.1 hm
    have e : a = b := by
      rcases List.mem_cons.1 ((h a).1 (by simp)) with e | e
      · exact e
      · rcases List.mem_cons.1 ((h b).2 (by simp)) with e' | e'
        · exact e'.symm
        · exact absurd (ltK_trans (h2.1 a e) (h1.1 b e')) (ltK_irr b)
    subst e
    rw [Lr.uniq h1.2 h2.2 fun k => ⟨fun hk => ?_, fun hk => ?_⟩]
    · rcases List.mem_cons.1 ((h k).1 (List.mem_cons_of_mem _ hk)) with e | e
      · subst e; exact absurd (h1.1 k hk) (ltK_irr k)
      · exact e
    · rcases List.mem_cons.1 ((h k).2 (List.mem_cons_of_mem _ hk)) with e | e
      · subst e; exact absurd (h2.1 k hk) (ltK_irr k)
      · exact e
def insK (k : Ky) : List Ky → List Ky
  | [] => [k]
  | a :: l => if ltK k a then k :: a :: l else a :: insK k l
def srtK (l : List Ky) : List Ky := l.foldr insK []
theorem insK_mem {k x : Ky} : ∀ {l : List Ky}, x ∈ insK k l ↔ x = k ∨ x ∈ l
  | [] => by simp [insK]
  | a :: l => by
    unfold insK
    split
    · simp
    · simp only [List.mem_cons, insK_mem (l := l)]
      constructor
      · rintro (h | h | h) <;> simp [h]
      · rintro (h | h | h) <;> simp [h]
theorem srtK_mem {x : Ky} : ∀ {l : List Ky}, x ∈ srtK l ↔ x ∈ l
  | [] => by simp [srtK]
  | a :: l => by
    show x ∈ insK a (srtK l) ↔ _
    rw [insK_mem, srtK_mem]; simp
theorem insK_len {k : Ky} : ∀ {l : List Ky}, (insK k l).length = l.length + 1
  | [] => rfl
  | a :: l => by
    unfold insK
    split
    · rfl
    · simp [insK_len (l := l)]
theorem srtK_len : ∀ {l : List Ky}, (srtK l).length = l.length
  | [] => rfl
  | a :: l => by show (insK a (srtK l)).length = _; rw [insK_len, srtK_len]; rfl
def Apart (l : List Ky) : Prop := l.Pairwise fun a b => ¬ (a.x = b.x ∧ a.row = b.row)
theorem ltK_tri {a b : Ky} (h : ¬ (a.x = b.x ∧ a.row = b.row)) (h1 : ¬ ltK a b) : ltK b a := by unfold ltK at *; omega
theorem insK_lr {k : Ky} : ∀ {l : List Ky}, Lr l → (∀ y ∈ l, ¬ (k.x = y.x ∧ k.row = y.row)) → Lr (insK k l)
  | [], _, _ => by simp [insK, Lr]
  | a :: l, hl, h => by
    have h1 := List.pairwise_cons.1 hl
    unfold insK
    split
    · rename_i hk
      refine List.pairwise_cons.2 ⟨fun y hy => ?_, hl⟩
      rcases List.mem_cons.1 hy with rfl | hy
      · exact hk
      · exact ltK_trans hk (h1.1 y hy)
    · rename_i hk
      refine List.pairwise_cons.2 ⟨fun y hy => ?_, insK_lr h1.2 fun y hy => h y (List.mem_cons_of_mem _ hy)⟩
      rcases insK_mem.1 hy with rfl | hy
      · exact ltK_tri (h a (by simp)) hk
      · exact h1.1 y hy
theorem srtK_lr : ∀ {l : List Ky}, Apart l → Lr (srtK l)
  | [], _ => by simp [srtK, Lr]
  | a :: l, h => by
    have h1 := List.pairwise_cons.1 h
    exact insK_lr (srtK_lr h1.2) fun y hy => h1.1 y (srtK_mem.1 hy)
def okH (s : Int) (l : List Ky) : Prop := l.length ≤ 5 ∧ ∀ a ∈ l, ∀ b ∈ l, b.x - a.x ≤ s
theorem okH.sub {s : Int} {l m : List Ky} (h : okH s m) (hs : List.Sublist l m) : okH s l :=
  ⟨Nat.le_trans hs.length_le h.1, fun a ha b hb => h.2 a (hs.subset ha) b (hs.subset hb)⟩
def can (s : Int) (l : List Ky) : Prop := ∃ k, k ≤ l.length ∧ okH s (l.take k) ∧ okH s (l.drop k)
theorem can.sub {s : Int} {l m : List Ky} (h : can s m) (hs : List.Sublist l m) : can s l := by
  obtain ⟨k, hk, h1, h2⟩ := h
  rw [← List.take_append_drop k m] at hs
  obtain ⟨l1, l2, rfl, s1, s2⟩ := List.sublist_append_iff.1 hs
  exact ⟨l1.length, by simp, by rw [List.take_left]; exact h1.sub s1, by rw [List.drop_left]; exact h2.sub s2⟩
def spanB (s : Int) (l : List Ky) : Bool := match l.head?, l.getLast? with
  | some a, some b => decide (b.x - a.x ≤ s)
  | _, _ => true
theorem Lr.le_last {l : List Ky} (h : Lr l) {a z : Ky} (hz : l.getLast? = some z) (ha : a ∈ l) : a.x ≤ z.x := by
  obtain ⟨ys, rfl⟩ := List.getLast?_eq_some_iff.1 hz
  rcases List.mem_append.1 ha with h1 | h1
  · have := List.pairwise_append.1 h
    exact ltK_x (this.2.2 a h1 z (by simp))
  · simp at h1; subst h1; omega
theorem Lr.ge_head {l : List Ky} (h : Lr l) {a z : Ky} (hz : l.head? = some z) (ha : a ∈ l) : z.x ≤ a.x := by
  cases l with
  | nil => cases hz
  | cons y l =>
    simp at hz; subst hz
    rcases List.mem_cons.1 ha with rfl | ha
    · omega
    · exact ltK_x ((List.pairwise_cons.1 h).1 a ha)
theorem spanB_iff {s : Int} (hs : 0 ≤ s) {l : List Ky} (h : Lr l) : spanB s l = true ↔ ∀ a ∈ l,∀ b ∈ l,b.x - a.x ≤ s := by
  unfold spanB
  cases l with
  | nil => simp
  | cons y l =>
    obtain ⟨z, hz⟩ : ∃ z, (y :: l).getLast? = some z := ⟨_, List.getLast?_eq_some_getLast (by simp)⟩
    simp only [List.head?_cons, hz, decide_eq_true_eq]
    constructor
    · intro hsp a ha b hb
      have h1 := h.le_last hz hb
      have h2 := h.ge_head (List.head?_cons) ha
      omega
    · intro hall
      exact hall y (by simp) z (List.mem_of_getLast? hz)
def divB (s : Int) (l : List Ky) (k : Nat) : Bool := decide (k ≤ 5) && decide (l.length - k ≤ 5) && spanB s (l.take k) && spanB s (l.drop k)
theorem divB_iff {s : Int} (hs : 0 ≤ s) {l : List Ky} (h : Lr l) {k : Nat} (hk : k ≤ l.length) : divB s l k = true ↔ okH s (l.take k) ∧ okH s (l.drop k) := by
  unfold divB okH
  simp only [Bool.and_eq_true, decide_eq_true_eq]
  rw [spanB_iff hs (h.sublist (List.take_sublist k l)),spanB_iff hs (h.sublist (List.drop_sublist k l)),List.length_take,List.length_drop,Nat.min_eq_left hk]
  grind
def divN (s : Int) (l : List Ky) : Nat → Int
  | 0 => if divB s l 0 then 0 else -1
  | k + 1 => if divB s l (k + 1) then (k + 1 : Nat) else divN s l k
theorem divN_cases (s : Int) (l : List Ky) : ∀ k,(divN s l k = -1 ∧ ∀ j,j ≤ k → divB s l j = false) ∨ ∃ j,j ≤ k ∧ divN s l k = (j : Int) ∧ divB s l j = true ∧ ∀ i,j < i → i ≤ k → divB s l i = false
  | 0 => by
    unfold divN
    split
    · rename_i h; exact .inr ⟨0, Nat.le_refl _, rfl, h, fun i h1 h2 => by omega⟩
    · rename_i h; exact .inl ⟨rfl, fun j hj => by obtain rfl : j = 0 := by omega
                                                  simpa using h⟩
  | k + 1 => by
    unfold divN
    split
    · rename_i h; exact .inr ⟨k + 1, Nat.le_refl _, rfl, h, fun i h1 h2 => by omega⟩
    · rename_i h
      rcases divN_cases s l k with ⟨h1, h2⟩ | ⟨j, h1, h2, h3, h4⟩
      · exact .inl ⟨h1, fun j hj => by
          by_cases e : j = k + 1
          · subst e; simpa using h
          · exact h2 j (by omega)⟩
      · exact .inr ⟨j, by omega, h2, h3, fun i hi hk => by
          by_cases e : i = k + 1
          · subst e; simpa using h
          · exact h4 i hi (by omega)⟩
def divR (s : Int) (l : List Ky) : Int := divN s l l.length
theorem divR_nonneg {s : Int} (hs : 0 ≤ s) {l : List Ky} (h : Lr l) : 0 ≤ divR s l ↔ can s l := by
  unfold divR can
  rcases divN_cases s l l.length with ⟨h1, h2⟩ | ⟨j, h1, h2, h3, h4⟩
  · rw [h1]
    constructor
    · intro h0; omega
    · rintro ⟨k, hk, h3⟩
      have := (divB_iff hs h hk).2 h3
      rw [h2 k hk] at this; cases this
  · rw [h2]
    exact ⟨fun _ => ⟨j, h1, (divB_iff hs h h1).1 h3⟩, fun _ => by omega⟩
end Go.Proofs.YtonmienclploaaaGreatDoor
namespace Go.Proofs.YtonmienclploaaaGreatDoor
def P6.all (p : P6) (q : Int → Bool) : Bool := q p.a && q p.b && q p.c && q p.d && q p.e && q p.f
def inB (n x : Int) : Bool := decide (-n ≤ x) && decide (x ≤ n)
def pOk (p : P6) : Bool := p.all (inB 576)
def vOk (p : P6) : Bool := p.all (inB 48)
def P6.map2 (g : Int → Int → Int) (p q : P6) : P6 := ⟨g p.a q.a, g p.b q.b, g p.c q.c, g p.d q.d, g p.e q.e, g p.f q.f⟩
def P6.sub (p q : P6) : P6 := p.map2 (fun x y => x - y) q
def P6.add (p q : P6) : P6 := p.map2 (fun x y => x + y) q
def P6.x12 (p : P6) : P6 := ⟨p.a * 12, p.b * 12, p.c * 12, p.d * 12, p.e * 12, p.f * 12⟩
def exL (e l h : Int) : Int := if e < 0 then e * h else e * l
def sizeLo (e : P6) : Int := exL e.a 1000000000 1000000000 + exL e.b 1584962500 1584962501 + exL e.c 2321928094 2321928095 + exL e.d 2807354922 2807354923 + exL e.e 3459431618 3459431619 + exL e.f 3700439718 3700439719
def sizeHi (e : P6) : Int := exL e.a 1000000000 1000000000 + exL e.b 1584962501 1584962500 + exL e.c 2321928095 2321928094 + exL e.d 2807354923 2807354922 + exL e.e 3459431619 3459431618 + exL e.f 3700439719 3700439718
def surelyI (lo hi low high : Int) : Int := if low ≤ lo ∧ hi ≤ high then 1 else if hi < low ∨ high < lo then -1 else 0
def nearI (p q : P6) (t : Int) : Int × Int :=
  if pOk p = true ∧ pOk q = true ∧ 0 ≤ t ∧ t ≤ 2400000 then (surelyI (sizeLo (p.sub q)) (sizeHi (p.sub q)) (-10000 * t) (10000 * t),0) else (0,1)
def near1 (p q : P6) (t : Int) : Bool := decide (-10000 * t ≤ sizeLo (p.sub q) ∧ sizeHi (p.sub q) ≤ 10000 * t)
theorem near_near1 {p q : P6} {t : Int} (hp : pOk p = true) (hq : pOk q = true) (h0 : 0 ≤ t) (h1 : t ≤ 50000) : (nearI p q t).2 = 0 ∧ decide ((nearI p q t).1 = 1) = near1 p q t := by
  unfold nearI
  rw [if_pos ⟨hp, hq, h0, by omega⟩]
  refine ⟨rfl, ?_⟩
  unfold near1 surelyI
  simp only []
  split
  · rename_i h; rw [decide_eq_true rfl, decide_eq_true h]
  · rename_i h
    rw [decide_eq_false h]
    split <;> simp
theorem x12_ok {v : P6} (h : vOk v = true) : pOk v.x12 = true := by
  unfold vOk pOk P6.all inB P6.x12 at *
  simp only [Bool.and_eq_true, decide_eq_true_eq] at *
  omega
def keyB (last : Int) (k : Ky) : Bool := decide (last < k.id) && decide (k.id ≤ 1000) && decide (0 ≤ k.x) && decide (k.x ≤ 1000) && decide (0 ≤ k.row) && decide (k.row ≤ 10) && pOk k.p
def keysB : List Ky → Int → List Ky → Bool
  | _, _, [] => true
  | seen,last,k :: r => keyB last k && seen.all (fun y => !(decide (y.x = k.x) && decide (y.row = k.row))) && keysB (seen ++ [k]) k.id r
def bdB (b : Bd) : Bool := decide (b.ks.length ≤ 120) && decide (0 ≤ b.span) && decide (b.span ≤ 1000) && decide (0 ≤ b.tol) && decide (b.tol ≤ 50000) && keysB [] 0 b.ks
structure Good (b : Bd) : Prop where
  len : b.ks.length ≤ 120
  s0 : 0 ≤ b.span
  s1 : b.span ≤ 1000
  t0 : 0 ≤ b.tol
  t1 : b.tol ≤ 50000
  rise : b.ks.Pairwise fun a c => a.id < c.id
  one : ∀ k ∈ b.ks, 0 < k.id ∧ k.id ≤ 1000 ∧ 0 ≤ k.x ∧ k.x ≤ 1000 ∧ 0 ≤ k.row ∧ k.row ≤ 10 ∧ pOk k.p = true
  apart : Apart b.ks
theorem keyB_iff {last : Int} {k : Ky} : keyB last k = true ↔ last < k.id ∧ k.id ≤ 1000 ∧ 0 ≤ k.x ∧ k.x ≤ 1000 ∧ 0 ≤ k.row ∧ k.row ≤ 10 ∧ pOk k.p = true := by
  unfold keyB; simp only [Bool.and_eq_true, decide_eq_true_eq, and_assoc]
theorem keysB_iff : ∀ (l seen : List Ky) (last : Int),keysB seen last l = true ↔ (l.Pairwise fun a c=>a.id < c.id) ∧ (∀ k ∈ l,keyB last k = true) ∧ Apart l ∧ ∀ k ∈ l,∀ y ∈ seen,¬ (y.x = k.x ∧ y.row = k.row)
  | [], _, _ => by simp [keysB, Apart]
  | k :: r, seen, last => by
    unfold keysB
    rw [Bool.and_eq_true, Bool.and_eq_true, keysB_iff r (seen ++ [k]) k.id]
    simp only [List.pairwise_cons,Apart,List.all_eq_true,Bool.not_eq_true',Bool.and_eq_false_iff,decide_eq_false_iff_not,List.mem_append,List.mem_cons]
    constructor
    · rintro ⟨⟨h1, h2⟩, h3, h4, h5, h6⟩
      have hk : ∀ c ∈ r, k.id < c.id := fun c hc => (keyB_iff.1 (h4 c hc)).1
      refine ⟨⟨hk, h3⟩, ?_, ⟨fun c hc => fun e => h6 c hc k (.inr (.inl rfl)) e, h5⟩, ?_⟩
      · rintro c (rfl | hc)
        · exact h1
        · have h7 := keyB_iff.1 (h4 c hc)
          have h8 := keyB_iff.1 h1
          exact keyB_iff.2 ⟨by omega, h7.2⟩
      · rintro c (rfl | hc) y hy
        · have := h2 y hy; rintro ⟨e1, e2⟩; rcases this with h | h <;> contradiction
        · exact h6 c hc y (.inl hy)
    · rintro ⟨⟨h1, h2⟩, h3, ⟨h4, h5⟩, h6⟩
      refine ⟨⟨h3 k (.inl rfl), fun y hy => ?_⟩, h2, fun c hc => ?_, h5, ?_⟩
      · have := h6 k (.inl rfl) y hy
        by_cases e : y.x = k.x
        · exact .inr fun e2 => this ⟨e, e2⟩
        · exact .inl e
      · exact keyB_iff.2 ⟨h1 c hc, (keyB_iff.1 (h3 c (.inr hc))).2⟩
      · rintro c hc y (hy | rfl | hy)
        · exact h6 c (.inr hc) y hy
        · exact h4 c hc
        · cases hy
theorem bdB_iff {b : Bd} : bdB b = true ↔ Good b := by
  unfold bdB
  simp only [Bool.and_eq_true, decide_eq_true_eq, keysB_iff]
  constructor
  · rintro ⟨⟨⟨⟨⟨h1, h2⟩, h3⟩, h4⟩, h5⟩, h6, h7, h8, _⟩
    exact ⟨h1, h2, h3, h4, h5, h6, fun k hk => keyB_iff.1 (h7 k hk), h8⟩
  · rintro h
    exact ⟨⟨⟨⟨⟨h.len, h.s0⟩, h.s1⟩, h.t0⟩, h.t1⟩, h.rise, fun k hk => keyB_iff.2 (h.one k hk), h.apart, by simp⟩
def findL (b : Bd) (v : P6) : List Int := (b.ks.filter fun k => near1 v.x12 k.p b.tol).map (·.id)
def findR (b : Bd) (v : P6) : List Int × Int := if bdB b = true ∧ vOk v = true then (findL b v, 0) else ([], 1)
def keyOf (ks : List Ky) (id : Int) : Option Ky := ks.find? fun k => decide (k.id = id)
theorem keyOf_some {ks : List Ky} {id : Int} {k : Ky} (h : keyOf ks id = some k) : k ∈ ks ∧ k.id = id := by
  unfold keyOf at h
  exact ⟨List.mem_of_find?_eq_some h, by simpa using List.find?_some h⟩
theorem keyOf_mem {ks : List Ky} (h : ks.Pairwise fun a c => a.id < c.id) {k : Ky} (hk : k ∈ ks) : keyOf ks k.id = some k := by
  induction ks with
  | nil => cases hk
  | cons a l ih =>
    have h1 := List.pairwise_cons.1 h
    rcases List.mem_cons.1 hk with rfl | hk
    · simp [keyOf]
    · have := h1.1 k hk
      unfold keyOf
      rw [List.find?_cons_of_neg (by simp; omega)]
      exact ih h1.2 hk
def diffP (b : Bd) (ids : List Int) : Prop := ids.Nodup ∧ ∀ id ∈ ids, (keyOf b.ks id).isSome = true
instance (b : Bd) (ids : List Int) : Decidable (diffP b ids) := by unfold diffP; exact inferInstance
def ky0 : Ky := ⟨0, 0, 0, ⟨0, 0, 0, 0, 0, 0⟩⟩
def keyD (b : Bd) (id : Int) : Ky := (keyOf b.ks id).getD ky0
def ordK (b : Bd) (ids : List Int) : List Ky := (srtK b.ks).filter fun k => decide (k.id ∈ ids)
theorem ordK_lr {b : Bd} (h : Good b) (ids : List Int) : Lr (ordK b ids) := (srtK_lr h.apart).sublist List.filter_sublist
theorem ordK_mem {b : Bd} {ids : List Int} {k : Ky} : k ∈ ordK b ids ↔ k ∈ b.ks ∧ k.id ∈ ids := by
  unfold ordK; rw [List.mem_filter, srtK_mem]; simp
theorem keyD_mem {b : Bd} {ids : List Int} (h : diffP b ids) {id : Int} (hi : id ∈ ids) : keyD b id ∈ b.ks ∧ (keyD b id).id = id := by
  obtain ⟨k, hk⟩ := Option.isSome_iff_exists.1 (h.2 id hi)
  unfold keyD; rw [hk]; exact keyOf_some hk
theorem keyD_of {b : Bd} (h : Good b) {k : Ky} (hk : k ∈ b.ks) : keyD b k.id = k := by
  unfold keyD; rw [keyOf_mem h.rise hk]; rfl
theorem ordK_uniq {b : Bd} (h : Good b) {ids : List Int} (hd : diffP b ids) {l : List Ky} (hl : Lr l) (hm : ∀ k,k ∈ l ↔ k ∈ ids.map (keyD b)) : l = ordK b ids := by
  refine hl.uniq (ordK_lr h ids) fun k => ?_
  rw [hm, ordK_mem, List.mem_map]
  constructor
  · rintro ⟨id, hi, rfl⟩
    have := keyD_mem hd hi
    exact ⟨this.1, by rw [this.2]; exact hi⟩
  · rintro ⟨h1, h2⟩
    exact ⟨k.id, h2, keyD_of h h1⟩
theorem ordK_len {b : Bd} (h : Good b) {ids : List Int} (hd : diffP b ids) : (ordK b ids).length = ids.length := by
  have hap : Apart (ids.map (keyD b)) := by
    unfold Apart
    rw [List.pairwise_map]
    refine List.Pairwise.imp_of_mem (R := fun a b => a ≠ b) (fun {x y} hx hy hne e => ?_) hd.1
    have h1 := keyD_mem hd hx
    have h2 := keyD_mem hd hy
    have key : ∀ {l : List Ky}, Apart l → ∀ {k m : Ky}, k ∈ l → m ∈ l → k.x = m.x ∧ k.row = m.row → k = m := by
      intro l
      induction l with
      | nil => intro _ k m hk; cases hk
      | cons a l ih =>
        intro hl k m hk hm e
        have hl := List.pairwise_cons.1 hl
        rcases List.mem_cons.1 hk with e1 | k1 <;> rcases List.mem_cons.1 hm with e2 | m1
        · rw [e1, e2]
        · subst e1; exact absurd e (hl.1 m m1)
        · subst e2; exact absurd ⟨e.1.symm, e.2.symm⟩ (hl.1 k k1)
        · exact ih hl.2 k1 m1 e
    have := key h.apart h1.1 h2.1 e
    rw [← h1.2, ← h2.2, this] at hne
    exact hne rfl
  rw [← ordK_uniq h hd (srtK_lr hap) fun k => srtK_mem, srtK_len, List.length_map]
def handsR (b : Bd) (ids : List Int) : List Int × List Int × Int :=
  if bdB b = true ∧ diffP b ids then
    (if divR b.span (ordK b ids) < 0 then ([], [], 20)
     else (((ordK b ids).take (divR b.span (ordK b ids)).toNat).map (·.id),((ordK b ids).drop (divR b.span (ordK b ids)).toNat).map (·.id),0))
  else ([], [], 1)
def playP (b : Bd) (ids : List Int) : Prop := diffP b ids ∧ 0 ≤ divR b.span (ordK b ids)
instance (b : Bd) (ids : List Int) : Decidable (playP b ids) := by unfold playP; exact inferInstance
theorem playP_can {b : Bd} (h : Good b) {ids : List Int} : playP b ids ↔ diffP b ids ∧ can b.span (ordK b ids) := by
  unfold playP; rw [divR_nonneg h.s0 (ordK_lr h ids)]
theorem filter_sub {α : Type} {p q : α → Bool} (h : ∀ a,p a = true → q a = true) : ∀ l : List α,List.Sublist (l.filter p) (l.filter q)
  | [] => List.Sublist.slnil
  | a :: l => by
    by_cases hp : p a = true
    · rw [List.filter_cons_of_pos hp, List.filter_cons_of_pos (h a hp)]; exact (filter_sub h l).cons_cons a
    · rw [List.filter_cons_of_neg hp]
      by_cases hq : q a = true
      · rw [List.filter_cons_of_pos hq]; exact (filter_sub h l).cons a
      · rw [List.filter_cons_of_neg hq]; exact filter_sub h l
theorem ordK_sub {b : Bd} {ids js : List Int} (h : ∀ i ∈ ids, i ∈ js) : List.Sublist (ordK b ids) (ordK b js) := by
  unfold ordK
  refine filter_sub (fun k hk => ?_) _
  simp only [decide_eq_true_eq] at hk ⊢
  exact h k.id hk
theorem playP.sub {b : Bd} (hb : Good b) {ids js : List Int} (h : playP b js) (hs : List.Sublist ids js) : playP b ids := by
  rw [playP_can hb] at h ⊢
  exact ⟨⟨h.1.1.sublist hs, fun i hi => h.1.2 i (hs.subset hi)⟩, h.2.sub (ordK_sub fun i hi => hs.subset hi)⟩
end Go.Proofs.YtonmienclploaaaGreatDoor
namespace Go.Proofs.YtonmienclploaaaGreatDoor
open Go.Ab
@[go_sem,reducible] def p6L (p : P6) : List AV := [.imm (.int .i64 p.a),.imm (.int .i64 p.b),.imm (.int .i64 p.c),.imm (.int .i64 p.d),.imm (.int .i64 p.e),.imm (.int .i64 p.f)]
@[go_sem, reducible] def p6A (p : P6) : AV := .agg (p6L p)
@[go_sem] theorem P6.eta (p : P6) : (⟨p.a, p.b, p.c, p.d, p.e, p.f⟩ : P6) = p := rfl
set_option maxRecDepth 100000 in
set_option maxHeartbeats 4000000 in
theorem within_tc (p : P6) (n : Int) (h0 : 0 ≤ n) (h1 : n ≤ 1000) : Look Tryz.prog 54 [p6A p,.imm (.int .i64 n)] (.imm (.bool (p.all (inB n)))) := by
  refine Look.mk trivial ?_
  (refine TC_of_T Γ_ok Tryz.func54 rfl (by kernel_rfl) ?_;simp only [Tryz.ntmps54,Tryz.results54,List.length_cons,List.length_nil,Nat.reduceSub,Nat.reduceAdd,List.replicate,List.cons_append,List.nil_append])
  (have sx1:=sx0;((refine goU1 _ _ _ _ _ _ _ _ _ _ _ _ ?_ ?_ ?_ ?_ ?_ ?_ ?_ ?_ ?_ ?_ ?_ ?_)<;>(repeat intro hb)<;>first|exact True.intro|refine Lf.mk ?_))
  refine T_rounds 7 ?_
  (have sx1:=sx0;((refine goU1 _ _ _ _ _ _ _ _ _ _ _ _ ?_ ?_ ?_ ?_ ?_ ?_ ?_ ?_ ?_ ?_ ?_ ?_)<;>(repeat intro hb)<;>first|exact True.intro|refine Lf.mk ?_))
  all_goals (refine congrArg (fun b => AV.imm (.bool b)) ?_; simp only [P6.all, inB]; grind)
set_option maxRecDepth 100000 in
set_option maxHeartbeats 4000000 in
theorem valid_p (p : P6) : Look Tryz.prog 50 [p6A p] (.imm (.bool (pOk p))) := by
  have h := within_tc p 576 (by omega) (by omega)
  refine Look.mk trivial ?_
  (refine TC_of_T Γ_ok Tryz.func50 rfl (by kernel_rfl) ?_;simp only [Tryz.ntmps50,Tryz.results50,List.length_cons,List.length_nil,Nat.reduceSub,Nat.reduceAdd,List.replicate,List.cons_append,List.nil_append])
  (have cl1 := h;have sx1:=sx0;((refine goU1 _ _ _ _ _ _ _ _ _ _ _ _ ?_ ?_ ?_ ?_ ?_ ?_ ?_ ?_ ?_ ?_ ?_ ?_)<;>(repeat intro hb)<;>first|exact True.intro|refine Lf.mk ?_))
  rfl
set_option maxRecDepth 100000 in
set_option maxHeartbeats 4000000 in
theorem valid_v (p : P6) : Look Tryz.prog 26 [p6A p] (.imm (.bool (vOk p))) := by
  have h := within_tc p 48 (by omega) (by omega)
  refine Look.mk trivial ?_
  (refine TC_of_T Γ_ok Tryz.func26 rfl (by kernel_rfl) ?_;simp only [Tryz.ntmps26,Tryz.results26,List.length_cons,List.length_nil,Nat.reduceSub,Nat.reduceAdd,List.replicate,List.cons_append,List.nil_append])
  (have cl1 := h;have sx1:=sx0;((refine goU1 _ _ _ _ _ _ _ _ _ _ _ _ ?_ ?_ ?_ ?_ ?_ ?_ ?_ ?_ ?_ ?_ ?_ ?_)<;>(repeat intro hb)<;>first|exact True.intro|refine Lf.mk ?_))
  rfl
def ofR (v : P6) : P6 × Int := if vOk v = true then (v.x12, 0) else (⟨0, 0, 0, 0, 0, 0⟩, 1)
set_option maxRecDepth 100000 in
set_option maxHeartbeats 4000000 in
theorem of_tc (v : P6) : Look Tryz.prog 38 [p6A v] (.tup [p6A (ofR v).1, .imm (.int .i64 (ofR v).2)]) := by
  have h := valid_v v
  unfold ofR
  cases hv : vOk v with
  | false =>
    rw [hv] at h
    refine Look.mk (by simp [Pl, PlL]) ?_
    (refine TC_of_T Γ_ok Tryz.func38 rfl (by kernel_rfl) ?_;simp only [Tryz.ntmps38,Tryz.results38,List.length_cons,List.length_nil,Nat.reduceSub,Nat.reduceAdd,List.replicate,List.cons_append,List.nil_append])
    (have cl1 := h;have sx1:=sx0;((refine goU1 _ _ _ _ _ _ _ _ _ _ _ _ ?_ ?_ ?_ ?_ ?_ ?_ ?_ ?_ ?_ ?_ ?_ ?_)<;>(repeat intro hb)<;>first|exact True.intro|refine Lf.mk ?_))
  | true =>
    rw [hv] at h
    have hb := hv
    unfold vOk P6.all inB at hb
    simp only [Bool.and_eq_true, decide_eq_true_eq] at hb
    refine Look.mk (by simp [Pl, PlL]) ?_
    (refine TC_of_T Γ_ok Tryz.func38 rfl (by kernel_rfl) ?_;simp only [Tryz.ntmps38,Tryz.results38,List.length_cons,List.length_nil,Nat.reduceSub,Nat.reduceAdd,List.replicate,List.cons_append,List.nil_append])
    (have cl1 := h;have sx1:=sx0;((refine goU1 _ _ _ _ _ _ _ _ _ _ _ _ ?_ ?_ ?_ ?_ ?_ ?_ ?_ ?_ ?_ ?_ ?_ ?_)<;>(repeat intro hb)<;>first|exact True.intro|refine Lf.mk ?_))
    refine T_rounds 7 ?_
    (have sx1:=sx0;((refine goU1 _ _ _ _ _ _ _ _ _ _ _ _ ?_ ?_ ?_ ?_ ?_ ?_ ?_ ?_ ?_ ?_ ?_ ?_)<;>(repeat intro hb)<;>first|exact True.intro|refine Lf.mk ?_))
    rfl
end Go.Proofs.YtonmienclploaaaGreatDoor
