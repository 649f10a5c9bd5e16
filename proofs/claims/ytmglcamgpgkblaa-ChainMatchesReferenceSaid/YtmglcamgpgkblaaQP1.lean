/-
  Plain: products, graphs, walks.
-/
import Derived.Test.YtmglcamgpgkblaaQA1
set_option linter.unusedSimpArgs false
set_option linter.unusedVariables false
namespace Go.Proofs.Ytmglcamgpgkblaa
structure P6 where
  a : Int
  b : Int
  c : Int
  d : Int
  e : Int
  f : Int
  deriving DecidableEq
def z6 : P6 := ⟨0, 0, 0, 0, 0, 0⟩
instance : Inhabited P6 := ⟨z6⟩
def P6.all (p : P6) (q : Int → Bool) : Bool := q p.a && q p.b && q p.c && q p.d && q p.e && q p.f
def inB (n x : Int) : Bool := decide (-n ≤ x) && decide (x ≤ n)
def P6.add (p q : P6) : P6 := ⟨p.a + q.a, p.b + q.b, p.c + q.c, p.d + q.d, p.e + q.e, p.f + q.f⟩
def P6.neg (p : P6) : P6 := ⟨-p.a, -p.b, -p.c, -p.d, -p.e, -p.f⟩
theorem P6.ext' {p q : P6} (h1 : p.a = q.a) (h2 : p.b = q.b) (h3 : p.c = q.c) (h4 : p.d = q.d) (h5 : p.e = q.e) (h6 : p.f = q.f) : p = q := by
  cases p; cases q; simp only [] at *; subst h1 h2 h3 h4 h5 h6; rfl
theorem add_c (p q : P6) : p.add q = q.add p := by unfold P6.add; simp only [Int.add_comm]
theorem add_as (p q r : P6) : (p.add q).add r = p.add (q.add r) := by unfold P6.add; simp only [Int.add_assoc]
theorem add_z (p : P6) : p.add z6 = p := by cases p; simp [P6.add, z6]
theorem z_add (p : P6) : z6.add p = p := by cases p; simp [P6.add, z6]
theorem add_neg (p : P6) : p.add p.neg = z6 := by apply P6.ext' <;> simp [P6.add, P6.neg, z6] <;> omega
theorem neg_neg' (p : P6) : p.neg.neg = p := by cases p; simp [P6.neg]
theorem add_cancel {p q r : P6} (h : p.add q = p.add r) : q = r := by
  have := congrArg (fun x => p.neg.add x) h
  simp only [← add_as] at this
  rwa [add_c p.neg p, add_neg, z_add, z_add] at this
def Bd6 (k : Int) (p : P6) : Prop := (-k ≤ p.a ∧ p.a ≤ k) ∧ (-k ≤ p.b ∧ p.b ≤ k) ∧ (-k ≤ p.c ∧ p.c ≤ k) ∧ (-k ≤ p.d ∧ p.d ≤ k) ∧ (-k ≤ p.e ∧ p.e ≤ k) ∧ (-k ≤ p.f ∧ p.f ≤ k)
theorem Bd6.add {k m : Int} {p q : P6} (h1 : Bd6 k p) (h2 : Bd6 m q) : Bd6 (k + m) (p.add q) := by
  unfold Bd6 P6.add at *; simp only []; omega
theorem Bd6.neg {k : Int} {p : P6} (h1 : Bd6 k p) : Bd6 k p.neg := by
  unfold Bd6 P6.neg at *; simp only []; omega
theorem Bd6.mono {k m : Int} {p : P6} (h1 : Bd6 k p) (h : k ≤ m) : Bd6 m p := by
  unfold Bd6 at *; omega
theorem Bd6.z (k : Int) (h : 0 ≤ k) : Bd6 k z6 := by unfold Bd6 z6; simp only []; omega
abbrev Gf := Nat → Nat → Option (Int × P6)
structure GOk (N : Nat) (E : Gf) : Prop where
  rg : ∀ a b e, E a b = some e → a < N ∧ b < N
  sym : ∀ a b k v, E a b = some (k, v) → E b a = some (k, v.neg)
  bd : ∀ a b k v, E a b = some (k, v) → Bd6 16 v
def wv (E : Gf) : Nat → List Nat → Option P6
  | _, [] => some z6
  | a, b :: l => match E a b with
    | none => none
    | some (_, v) => (wv E b l).map (v.add ·)
def endV (a : Nat) (l : List Nat) : Nat := l.getLast?.getD a
theorem endV_nil (a : Nat) : endV a [] = a := rfl
theorem endV_cons (a b : Nat) (l : List Nat) : endV a (b :: l) = endV b l := by
  unfold endV; cases l with
  | nil => rfl
  | cons c l => simp [List.getLast?_cons]
theorem endV_app (a : Nat) (l m : List Nat) : endV a (l ++ m) = endV (endV a l) m := by
  induction l generalizing a with
  | nil => rfl
  | cons b l ih => rw [List.cons_append, endV_cons, endV_cons, ih]
theorem wv_cons {E : Gf} {a b : Nat} {l : List Nat} {p : P6} : wv E a (b :: l) = some p ↔ ∃ k v q,E a b = some (k,v) ∧ wv E b l = some q ∧ p = v.add q := by
  rw [wv]
  cases h : E a b with
  | none => simp
  | some e =>
    obtain ⟨k, v⟩ := e
    simp only [Option.map_eq_some_iff, Option.some.injEq, Prod.mk.injEq]
    constructor
    · rintro ⟨q, h1, rfl⟩; exact ⟨k, v, q, ⟨rfl, rfl⟩, h1, rfl⟩
    · rintro ⟨_, _, q, ⟨rfl, rfl⟩, h1, rfl⟩; exact ⟨q, h1, rfl⟩
theorem wv_app {E : Gf} : ∀ {l : List Nat} {a : Nat} {m : List Nat} {p : P6},wv E a (l ++ m) = some p ↔ ∃ q r,wv E a l = some q ∧ wv E (endV a l) m = some r ∧ p = q.add r
  | [], a, m, p => by
    simp only [List.nil_append, wv, endV_nil, Option.some.injEq]
    constructor
    · intro h; exact ⟨z6, p, rfl, h, (z_add p).symm⟩
    · rintro ⟨q, r, rfl, h, rfl⟩; rw [z_add]; exact h
  | b :: l, a, m, p => by
    rw [List.cons_append, wv_cons, endV_cons]
    constructor
    · rintro ⟨k, v, q, h1, h2, rfl⟩
      obtain ⟨q1, r, h3, h4, rfl⟩ := wv_app.1 h2
      exact ⟨v.add q1, r, wv_cons.2 ⟨k, v, q1, h1, h3, rfl⟩, h4, (add_as _ _ _).symm⟩
    · rintro ⟨q, r, h1, h2, rfl⟩
      obtain ⟨k, v, q1, h3, h4, rfl⟩ := wv_cons.1 h1
      exact ⟨k, v, q1.add r, h3, wv_app.2 ⟨q1, r, h4, h2, rfl⟩, add_as _ _ _⟩
theorem wv_bd {N : Nat} {E : Gf} (hE : GOk N E) : ∀ {l : List Nat} {a : Nat} {p : P6},wv E a l = some p → Bd6 (16 * l.length) p
  | [], a, p, h => by
    simp only [wv, Option.some.injEq] at h; subst h; exact Bd6.z _ (by simp)
  | b :: l, a, p, h => by
    obtain ⟨k, v, q, h1, h2, rfl⟩ := wv_cons.1 h
    exact ((hE.bd _ _ _ _ h1).add (wv_bd hE h2)).mono (by simp only [List.length_cons]; omega)
theorem wv_rg {N : Nat} {E : Gf} (hE : GOk N E) : ∀ {l : List Nat} {a : Nat} {p : P6},wv E a l = some p → ∀ x ∈ l,x < N
  | [], a, p, h => fun x hx => nomatch hx
  | b :: l, a, p, h => fun x hx => by
    obtain ⟨k, v, q, h1, h2, rfl⟩ := wv_cons.1 h
    rcases List.mem_cons.1 hx with rfl | hx
    · exact (hE.rg _ _ _ h1).2
    · exact wv_rg hE h2 x hx
def Opn (E : Gf) (n : Nat) (l : List Nat) : Prop := endV n l = n ∧ ∃ p, wv E n l = some p ∧ p ≠ z6
theorem Opn.ne {E : Gf} {n : Nat} {l : List Nat} (h : Opn E n l) : l ≠ [] := by
  rintro rfl
  obtain ⟨_, p, h1, h2⟩ := h
  simp only [wv, Option.some.injEq] at h1
  exact h2 h1.symm
theorem Opn.turn {E : Gf} {n : Nat} {l m : List Nat} (h : Opn E n (l ++ m)) : Opn E (endV n l) (m ++ l) := by
  obtain ⟨h0, p, h1, h2⟩ := h
  obtain ⟨q, r, h3, h4, rfl⟩ := wv_app.1 h1
  rw [endV_app] at h0
  refine ⟨by rw [endV_app, h0], r.add q, wv_app.2 ⟨r, q, h4, by rw [h0]; exact h3, rfl⟩, by rw [add_c]; exact h2⟩
theorem Opn.cut {E : Gf} {n : Nat} {a b c : List Nat} (h : Opn E n (a ++ (b ++ c))) (hb : endV (endV n a) b = endV n a) : Opn E (endV n a) b ∨ Opn E n (a ++ c) := by
  obtain ⟨h0, p, h1, h2⟩ := h
  obtain ⟨q, r, h3, h4, rfl⟩ := wv_app.1 h1
  obtain ⟨r1, r2, h5, h6, rfl⟩ := wv_app.1 h4
  rw [endV_app, endV_app, hb] at h0
  rw [hb] at h6
  by_cases hz : r1 = z6
  · subst hz
    rw [z_add] at h2
    exact .inr ⟨by rw [endV_app]; exact h0, _, wv_app.2 ⟨q, r2, h3, h6, rfl⟩, h2⟩
  · exact .inl ⟨hb, r1, h5, hz⟩
end Go.Proofs.Ytmglcamgpgkblaa
