/-
  The octave of a pitch (plain): which one it is; moved by octaves.
-/
import Derived.Test.YtdglbjjenihdlaaDoorQN22
set_option linter.unusedSimpArgs false
set_option linter.unusedVariables false
namespace Go.Proofs.YtdglbjjenihdlaaDoor
theorem lastI_eq (q : Int → Bool) (o : Int) : ∀ (n : Nat) (lo hi : Int),(hi - lo).toNat ≤ n → lo ≤ o → o ≤ hi → (∀ i,lo < i → i ≤ o → q i = true) → (∀ i,o < i → i ≤ hi → q i = false) → lastI q lo hi = o
  | n, lo, hi, h, h1, h2, h3, h4 => by
    by_cases hl : lo < hi
    · rw [lastI_s q hl]
      obtain ⟨m, rfl⟩ : ∃ m, n = m + 1 := ⟨n - 1, by omega⟩
      by_cases hm : hi - (hi - lo) / 2 ≤ o
      · rw [if_pos (h3 _ (by omega) hm)]
        exact lastI_eq q o m _ _ (by omega) hm h2 (fun i k1 k2 => h3 i (by omega) k2) h4
      · rw [if_neg (by rw [h4 _ (by omega) (by omega)]; simp)]
        exact lastI_eq q o m _ _ (by omega) h1 (by omega) h3 (fun i k1 k2 => h4 i k1 (by omega))
    · rw [lastI_e q hl]; omega
theorem up_pow {k : Nat} (h : 0 < k) : Up ⟨k, 0, 0, 0, 0, 0⟩ := by
  unfold Up den num P6.neg
  simp only [Int.toNat_natCast, Int.neg_zero, Int.toNat_zero, Nat.pow_zero, Nat.mul_one]
  rw [show (-(k : Int)).toNat = 0 by omega, Nat.pow_zero]
  exact Nat.one_lt_two_pow (by omega)
theorem lo_up {p : P6} {i j : Int} (h : i < j) : Lo (up12 p i) (up12 p j) := by
  unfold Lo
  rw [show (up12 p j).sub (up12 p i) = ⟨((12 * (j - i)).toNat : Nat),0,0,0,0,0⟩ by apply P6.ext' <;> simp only [up12,P6.sub] <;> omega]
  exact up_pow (by omega)
theorem up_bd {p : P6} (h : Bd6 576 p) {o : Int} : Bd6 576 (up12 p o) ↔ -576 ≤ p.a + 12 * o ∧ p.a + 12 * o ≤ 576 := by
  unfold Bd6 up12 at *
  simp only []
  omega
theorem bd_z : Bd6 576 z6 := by decide
theorem bd_oct : Bd6 576 oct := by decide
theorem cmT_bd {p q : P6} (h : Bd6 576 p) (k : Bd6 576 q) : cmT p q = cmpP p q := by unfold cmT cmpR; rw [if_pos ⟨h, k⟩]
theorem cmpP_ge {p q : P6} : 0 ≤ cmpP p q ↔ ¬ Lo p q := by rw [← cmpP_lo]; omega
theorem cmpP_le {p q : P6} : cmpP p q ≤ 0 ↔ ¬ Lo q p := by
  unfold cmpP
  by_cases h : Lo p q
  · simp [h, h.asymm]
  · rw [if_neg h]
    by_cases e : p = q
    · subst e; simp [Lo.irrefl]
    · rw [if_neg e]
      rcases Lo.tri p q with k | k | k
      · exact absurd k h
      · exact absurd k e
      · simp [k]
theorem inB_iff {p : P6} : inB p = true ↔ Bd6 576 p ∧ ¬ Lo p z6 ∧ Lo p oct := by
  constructor
  · intro h
    have hb := inB_lo h
    unfold inB at h
    rw [cmT_bd hb bd_z, cmT_bd hb bd_oct] at h
    simp only [Bool.and_eq_true, decide_eq_true_eq] at h
    exact ⟨hb, cmpP_ge.1 h.1, cmpP_lo.1 h.2⟩
  · rintro ⟨hb, h1, h2⟩
    unfold inB
    rw [cmT_bd hb bd_z, cmT_bd hb bd_oct, decide_eq_true (cmpP_ge.2 h1), decide_eq_true (cmpP_lo.2 h2)]
    rfl
theorem lo_shift {p q : P6} {o : Int} (h : Lo p q) : Lo (up12 p o) (up12 q o) := by
  have := h.add ⟨12 * o, 0, 0, 0, 0, 0⟩
  rw [show p.add ⟨12 * o,0,0,0,0,0⟩ = up12 p o by apply P6.ext' <;> simp only [P6.add,up12] <;> omega,show q.add ⟨12 * o,0,0,0,0,0⟩ = up12 q o by apply P6.ext' <;> simp only [P6.add,up12] <;> omega] at this
  exact this
theorem up_up (p : P6) (i j : Int) : up12 (up12 p i) j = up12 p (i + j) := by apply P6.ext' <;> simp only [up12] <;> omega
theorem up_0 (p : P6) : up12 p 0 = p := by apply P6.ext' <;> simp only [up12] <;> omega
theorem oct_of {p : P6} (h : Bd6 576 p) {o : Int} (hi : inB (up12 p (-o)) = true) : octR p = (up12 p (-o), o, 0) := by
  obtain ⟨hb, h1, h2⟩ := inB_iff.1 hi
  have hb2 := (up_bd h).1 hb
  obtain ⟨g1, g2, g3, g4, g5⟩ := oct_rg h
  have ha := h
  unfold Bd6 at ha
  have hO : octO p = o := by
    unfold octO
    refine lastI_eq _ o _ _ _ (Nat.le_refl _) ?_ ?_ (fun i k1 k2 => ?_) (fun i k1 k2 => ?_)
    · unfold octLo; rw [Int.tdiv_eq_ediv_of_nonneg (by omega)]; omega
    · unfold octHi; rw [Int.tdiv_eq_ediv_of_nonneg (by omega)]; omega
    · unfold octQ
      rw [cmT_bd ((up_bd h).2 (by omega)) bd_z]
      refine decide_eq_true (cmpP_ge.2 fun k => h1 ?_)
      rcases Int.lt_or_eq_of_le k2 with e | e
      · exact (lo_up (by omega)).trans k
      · subst e; exact k
    · unfold octQ
      rw [cmT_bd ((up_bd h).2 (by omega)) bd_z]
      refine decide_eq_false fun k => cmpP_ge.1 k ?_
      have h3 := lo_shift (o := -1) h2
      rw [up_up, show up12 oct (-1) = z6 from rfl] at h3
      rcases Int.lt_or_eq_of_le (show o + 1 ≤ i by omega) with e | e
      · exact (lo_up (by omega)).trans h3
      · rw [show -i = -o + -1 by omega]; exact h3
  unfold octR
  rw [if_pos h, hO, if_pos hi]
theorem oct_ok {p : P6} (h : (octR p).2.2 = 0) : Bd6 576 p ∧ inB (octR p).1 = true ∧ (octR p).1 = up12 p (-(octR p).2.1) ∧ -96 ≤ (octR p).2.1 ∧ (octR p).2.1 ≤ 96 := by
  unfold octR at *
  by_cases hb : Bd6 576 p
  · rw [if_pos hb] at h ⊢
    by_cases hi : inB (up12 p (-octO p)) = true
    · rw [if_pos hi]
      refine ⟨hb, hi, rfl, ?_, ?_⟩
      all_goals
        have h1 := (up_bd hb).1 (inB_lo hi)
        have ha := hb
        unfold Bd6 at ha
        show _ ≤ _
        simp only []
        omega
    · rw [if_neg hi] at h; simp at h
  · rw [if_neg hb] at h; simp at h
theorem oct_err {p : P6} (h : (octR p).2.2 ≠ 0) : octR p = (z6,0,3) ∧ Bd6 576 p ∨ octR p = (z6,0,1) ∧ ¬ Bd6 576 p := by
  unfold octR at *
  by_cases hb : Bd6 576 p
  · rw [if_pos hb] at h ⊢
    by_cases hi : inB (up12 p (-octO p)) = true
    · rw [if_pos hi] at h; simp at h
    · rw [if_neg hi]; exact .inl ⟨rfl, hb⟩
  · rw [if_neg hb]; exact .inr ⟨rfl, hb⟩
theorem oct_by {p q : P6} {o by' : Int} (h : octR p = (q,o,0)) : octR (up12 p by') = if Bd6 576 (up12 p by') then (q,o + by',0) else (z6,0,1) := by
  have h0 : (octR p).2.2 = 0 := by rw [h]
  obtain ⟨h1, h2, h3, h4, h5⟩ := oct_ok h0
  rw [h] at h2 h3
  simp only [] at h2 h3
  by_cases hb : Bd6 576 (up12 p by')
  · rw [if_pos hb]
    have e : up12 (up12 p by') (-(o + by')) = q := by rw [up_up, h3]; congr 1; omega
    have := oct_of hb (o := o + by') (by rw [e]; exact h2)
    rw [this, e]
  · rw [if_neg hb]
    unfold octR
    rw [if_neg hb]
end Go.Proofs.YtdglbjjenihdlaaDoor
