/-
  Plain: scores.
-/
import Derived.Test.YtmglcamgpgkblaaQP1
set_option linter.unusedSimpArgs false
set_option linter.unusedVariables false
namespace Go.Proofs.Ytmglcamgpgkblaa
noncomputable def tf (P : Prop) : Bool := @decide P (Classical.propDecidable P)
theorem tf_t {P : Prop} (h : P) : tf P = true := @decide_eq_true P (Classical.propDecidable P) h
theorem tf_f {P : Prop} (h : ¬ P) : tf P = false := @decide_eq_false P (Classical.propDecidable P) h
theorem tf_iff {P : Prop} : tf P = true ↔ P := @decide_eq_true_iff P (Classical.propDecidable P)
theorem tf_congr {P Q : Prop} (h : P ↔ Q) : tf P = tf Q := by rw [propext h]
structure Nt where
  v : Int
  f : Int
  u : Int
  pl : P6
  tied : Bool
  deriving DecidableEq
structure Pr where
  a : Int
  b : Int
  want : P6
  bound : Int
  deriving DecidableEq
structure Sc where
  voices : Int
  notes : List Nt
  pairs : List Pr
  cads : List Int
def nt0 : Nt := ⟨0, 0, 0, z6, false⟩
def pr0 : Pr := ⟨0, 0, z6, 0⟩
instance : Inhabited Nt := ⟨nt0⟩
instance : Inhabited Pr := ⟨pr0⟩
def gn (l : List Nt) (i : Nat) : Nt := l.getD i nt0
def gp (l : List Pr) (i : Nat) : Pr := l.getD i pr0
def gi (l : List Int) (i : Nat) : Int := l.getD i 0
def NtOk (vs : Int) (n : Nt) : Prop := 0 ≤ n.v ∧ n.v < vs ∧ 0 ≤ n.f ∧ n.f < n.u ∧ n.u ≤ 100000 ∧ n.pl.all (inB 24) = true
def ltN (a b : Nt) : Prop := a.f < b.f ∨ a.f = b.f ∧ a.v < b.v
def ltP (a b : Pr) : Prop := a.a < b.a ∨ a.a = b.a ∧ a.b < b.b
def PrB (n : Int) (p : Pr) : Prop := 0 ≤ p.a ∧ p.a < p.b ∧ p.b < n ∧ p.want.all (inB 16) = true ∧ 0 ≤ p.bound ∧ p.bound ≤ 100000
def PrV (s : Sc) (p : Pr) : Prop := (gn s.notes p.a.toNat).v ≠ (gn s.notes p.b.toNat).v ∧ (gn s.notes p.b.toNat).f < (gn s.notes p.a.toNat).u
def SzOk (s : Sc) : Prop := 1 ≤ s.voices ∧ s.voices ≤ 8 ∧ s.notes.length ≤ 200 ∧ s.pairs.length ≤ 400 ∧ s.cads.length ≤ 15
structure NsOk (s : Sc) : Prop where
  one : ∀ i, i < s.notes.length → NtOk s.voices (gn s.notes i)
  rise : ∀ i, 1 ≤ i → i < s.notes.length → ltN (gn s.notes (i - 1)) (gn s.notes i)
structure VsOk (s : Sc) : Prop where
  over : ∀ i k, k < i → i < s.notes.length → (gn s.notes k).v = (gn s.notes i).v → (gn s.notes k).u ≤ (gn s.notes i).f
  tied : ∀ i,i < s.notes.length → (gn s.notes i).tied = true → ∃ k,k < s.notes.length ∧ (gn s.notes k).v = (gn s.notes i).v ∧ (gn s.notes k).u = (gn s.notes i).f ∧ (gn s.notes k).pl = (gn s.notes i).pl
structure PsOk (s : Sc) : Prop where
  one : ∀ i, i < s.pairs.length → PrB s.notes.length (gp s.pairs i) ∧ PrV s (gp s.pairs i)
  rise : ∀ i, 1 ≤ i → i < s.pairs.length → ltP (gp s.pairs (i - 1)) (gp s.pairs i)
structure CsOk (s : Sc) : Prop where
  one : ∀ i, i < s.cads.length → 1 ≤ gi s.cads i ∧ gi s.cads i < 100000
  rise : ∀ i, 1 ≤ i → i < s.cads.length → gi s.cads (i - 1) < gi s.cads i
structure ScOk (s : Sc) : Prop where
  sz : SzOk s
  ns : NsOk s
  vs : VsOk s
  ps : PsOk s
  cs : CsOk s
def lastN (l : List Nt) : Nat → Int → Nt
  | 0, _ => nt0
  | i + 1, w => if (gn l i).v = w then gn l i else lastN l i w
def VcAt (l : List Nt) (i : Nat) : Prop := (lastN l i (gn l i).v).u ≤ (gn l i).f ∧ ((gn l i).tied = true → (lastN l i (gn l i).v).u = (gn l i).f ∧ (lastN l i (gn l i).v).u ≠ 0 ∧ (lastN l i (gn l i).v).pl = (gn l i).pl)
theorem lastN_spec (l : List Nt) (w : Int) : ∀ i,(lastN l i w = nt0 ∧ ∀ k,k < i → (gn l k).v ≠ w) ∨ ∃ m,m < i ∧ (gn l m).v = w ∧ lastN l i w = gn l m ∧ ∀ k,m < k → k < i → (gn l k).v ≠ w
  | 0 => .inl ⟨rfl, fun k h => absurd h (Nat.not_lt_zero k)⟩
  | i + 1 => by
    rw [lastN]
    by_cases h : (gn l i).v = w
    · rw [if_pos h]
      exact .inr ⟨i, by omega, h, rfl, fun k h1 h2 => by omega⟩
    · rw [if_neg h]
      rcases lastN_spec l w i with ⟨h1, h2⟩ | ⟨m, h1, h2, h3, h4⟩
      · refine .inl ⟨h1, fun k hk => ?_⟩
        by_cases e : k = i
        · subst e; exact h
        · exact h2 k (by omega)
      · refine .inr ⟨m, by omega, h2, h3, fun k k1 k2 => ?_⟩
        by_cases e : k = i
        · subst e; exact h
        · exact h4 k k1 (by omega)
theorem f_mono {s : Sc} (h : NsOk s) : ∀ {j k : Nat},j ≤ k → k < s.notes.length → (gn s.notes j).f ≤ (gn s.notes k).f := by
  intro j k
  induction k with
  | zero => intro h1 _; have : j = 0 := by omega
            subst this; exact Int.le_refl _
  | succ k ih =>
    intro h1 h2
    by_cases e : j = k + 1
    · subst e; exact Int.le_refl _
    · have h3 := ih (by omega) (by omega)
      have h4 := h.rise (k + 1) (by omega) h2
      rw [Nat.add_sub_cancel] at h4
      unfold ltN at h4
      omega
theorem vs_iff {s : Sc} (h : NsOk s) : VsOk s ↔ ∀ i, i < s.notes.length → VcAt s.notes i := by
  constructor
  · intro hv i hi
    have hn := h.one i hi
    unfold NtOk at hn
    refine ⟨?_, fun ht => ?_⟩
    · rcases lastN_spec s.notes (gn s.notes i).v i with ⟨h1, _⟩ | ⟨m, h1, h2, h3, _⟩
      · rw [h1]; show (0 : Int) ≤ _; omega
      · rw [h3]; exact hv.over i m h1 hi h2
    · obtain ⟨k, k1, k2, k3, k4⟩ := hv.tied i hi ht
      have hk := h.one k k1
      unfold NtOk at hk
      have hki : k < i := by
        refine Nat.lt_of_not_le fun hle => ?_
        have := f_mono h hle k1
        omega
      rcases lastN_spec s.notes (gn s.notes i).v i with ⟨_, h1⟩ | ⟨m, h1, h2, h3, h4⟩
      · exact absurd k2 (h1 k hki)
      · have hmk : m = k := by
          rcases Nat.lt_trichotomy m k with e | e | e
          · exact absurd k2 (h4 k e hki)
          · exact e
          · have e1 := hv.over m k e (by omega) (by rw [k2, h2])
            have e2 := hv.over i m h1 hi h2
            have e3 := h.one m (by omega)
            unfold NtOk at e3
            omega
        subst hmk
        rw [h3]
        exact ⟨k3, by omega, k4⟩
  · intro hc
    have hov : ∀ i k,k < i → i < s.notes.length → (gn s.notes k).v = (gn s.notes i).v → (gn s.notes k).u ≤ (gn s.notes i).f := by
      intro i
      induction i using Nat.strongRecOn with
      | _ i ih =>
        intro k hki hi hv
        have hci := (hc i hi).1
        rcases lastN_spec s.notes (gn s.notes i).v i with ⟨_, h1⟩ | ⟨m, h1, h2, h3, h4⟩
        · exact absurd hv (h1 k hki)
        · rw [h3] at hci
          rcases Nat.lt_trichotomy m k with e | e | e
          · exact absurd hv (h4 k e hki)
          · subst e; exact hci
          · have e1 := ih m h1 k e (by omega) (by rw [hv, h2])
            have e3 := h.one m (by omega)
            unfold NtOk at e3
            omega
    refine ⟨hov, fun i hi ht => ?_⟩
    obtain ⟨c1, c2⟩ := hc i hi
    obtain ⟨c3, c4, c5⟩ := c2 ht
    rcases lastN_spec s.notes (gn s.notes i).v i with ⟨h1, _⟩ | ⟨m, h1, h2, h3, h4⟩
    · rw [h1] at c4; exact absurd rfl c4
    · rw [h3] at c3 c5
      exact ⟨m, by omega, h2, c3, c5⟩
def ahead (l : List Nt) (v t : Int) : Option Nat := (List.range l.length).find? fun k => decide ((gn l k).v = v) && decide ((gn l k).u = t)
def befN (s : Sc) (n : Nat) : Option Nat := if (gn s.notes n).tied = true then ahead s.notes (gn s.notes n).v (gn s.notes n).f else none
theorem ahead_some {l : List Nt} {v t : Int} {k : Nat} (h : ahead l v t = some k) : k < l.length ∧ (gn l k).v = v ∧ (gn l k).u = t := by
  unfold ahead at h
  have h1 := List.mem_range.1 (List.mem_of_find?_eq_some h)
  have h2 := List.find?_some h
  simp only [Bool.and_eq_true, decide_eq_true_eq] at h2
  exact ⟨h1, h2⟩
theorem befN_some {s : Sc} (h : ScOk s) {n b : Nat} (hn : n < s.notes.length) (hb : befN s n = some b) : b < n ∧ (gn s.notes b).v = (gn s.notes n).v ∧ (gn s.notes b).u = (gn s.notes n).f ∧ (gn s.notes n).tied = true ∧ (gn s.notes b).pl = (gn s.notes n).pl := by
  unfold befN at hb
  split at hb
  · rename_i ht
    obtain ⟨h1, h2, h3⟩ := ahead_some hb
    have e1 := h.ns.one b h1
    unfold NtOk at e1
    have hbn : b < n := by
      refine Nat.lt_of_not_le fun hle => ?_
      have := f_mono h.ns hle h1
      omega
    obtain ⟨k, k1, k2, k3, k4⟩ := h.vs.tied n hn ht
    have e2 := h.ns.one k k1
    unfold NtOk at e2
    have hkb : k = b := by
      rcases Nat.lt_trichotomy k b with e | e | e
      · have := h.vs.over b k e h1 (by rw [k2, h2]); omega
      · exact e
      · have := h.vs.over k b e k1 (by rw [k2, h2]); omega
    subst hkb
    exact ⟨hbn, h2, h3, ht, k4⟩
  · cases hb
end Go.Proofs.Ytmglcamgpgkblaa
