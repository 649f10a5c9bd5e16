/-
 Parts joined: N1 N2 N3 N4.
-/
import Derived.Test.YtonmienclploaaaGreatDoorQA1
set_option linter.unusedSimpArgs false
set_option linter.unusedVariables false
namespace Go.Proofs.YtonmienclploaaaGreatDoor.Q
def Bs : Nat := 4294967296
theorem Bs_pos : 0 < Bs := by decide
theorem Bs_pow (k : Nat) : 0 < Bs ^ k := Nat.pow_pos Bs_pos
def lmN (n : Nat) : Nat := if h : n = 0 then 0 else lmN (n / Bs) + 1
termination_by n
decreasing_by exact Nat.div_lt_self (Nat.pos_of_ne_zero h) (by decide)
theorem lmN_0 : lmN 0 = 0 := by rw [lmN]; rfl
theorem lmN_s {n : Nat} (h : n ≠ 0) : lmN n = lmN (n / Bs) + 1 := by rw [lmN, dif_neg h]
theorem lt_pow {n k : Nat} : n < Bs ^ k ↔ lmN n ≤ k := by
 induction k generalizing n with
 | zero =>
  rw [Nat.pow_zero]
  by_cases h : n = 0
  ·subst h; rw [lmN_0]; omega
  ·rw [lmN_s h]; omega
 | succ k ih =>
  by_cases h : n = 0
  ·subst h; rw [lmN_0]; have := Bs_pow (k + 1); omega
  ·rw [lmN_s h, Nat.pow_succ, ← Nat.div_lt_iff_lt_mul Bs_pos, ih]; omega
theorem lmN_mono {a b : Nat} (h : a ≤ b) : lmN a ≤ lmN b := lt_pow.1 (Nat.lt_of_le_of_lt h (lt_pow.2 (Nat.le_refl _)))
def lm (n i : Nat) : Nat := n / Bs ^ i % Bs
theorem lm_lt (n i : Nat) : lm n i < Bs := Nat.mod_lt _ Bs_pos
theorem lm_hi {n i : Nat} (h : lmN n ≤ i) : lm n i = 0 := by
 unfold lm
 rw [Nat.div_eq_of_lt (lt_pow.2 h)]; rfl
theorem lm_top {n : Nat} (h : n ≠ 0) : lm n (lmN n - 1) ≠ 0 := by
 obtain ⟨k, hk⟩ : ∃ k, lmN n = k + 1 := ⟨lmN n - 1, by have := lmN_s h; omega⟩
 rw [hk, Nat.add_sub_cancel]
 unfold lm
 have h1 : n < Bs ^ (k + 1) := lt_pow.2 (by omega)
 have h2 : Bs ^ k ≤ n := by
  rcases Nat.lt_or_ge n (Bs ^ k) with h3 | h3
  ·have := lt_pow.1 h3; omega
  ·exact h3
 rw [Nat.pow_succ] at h1
 rw [Nat.mod_eq_of_lt ((Nat.div_lt_iff_lt_mul (Bs_pow k)).2 (by rw [Nat.mul_comm]; exact h1))]
 have := (Nat.le_div_iff_mul_le (Bs_pow k)).2 (show 1 * Bs ^ k ≤ n by omega)
 omega
theorem lm_low {a b i k : Nat} (h : i < k) : lm (a + b * Bs ^ k) i = lm a i := by
 unfold lm
 obtain ⟨d, rfl⟩ : ∃ d, k = i + 1 + d := ⟨k - (i + 1), by omega⟩
 have : b * Bs ^ (i + 1 + d) = Bs ^ i * (Bs * (b * Bs ^ d)) := by
  rw [Nat.pow_add, Nat.pow_succ]; simp only [Nat.mul_comm, Nat.mul_left_comm, Nat.mul_assoc]
 rw [this, Nat.add_mul_div_left _ _ (Bs_pow i), Nat.add_mul_mod_self_left]
theorem mod_step (b j : Nat) : b % Bs ^ (j + 1) = b % Bs ^ j + lm b j * Bs ^ j := by
 unfold lm
 rw [Nat.pow_succ, Nat.mod_mul, Nat.mul_comm (Bs ^ j)]
def pT (S x b i j : Nat) : Nat := S + x * (b % Bs ^ j) * Bs ^ i
def mC (S x b i j : Nat) : Nat := pT S x b i j / Bs ^ (i + j) - S / Bs ^ (i + j)
theorem pT_0 (S x b i : Nat) : pT S x b i 0 = S := by unfold pT; rw [Nat.pow_zero, Nat.mod_one]; simp
theorem pC_0 (S x b i : Nat) : mC S x b i 0 = 0 := by unfold mC; rw [pT_0]; exact Nat.sub_self _
theorem pT_s (S x b i j : Nat) : pT S x b i (j + 1) = pT S x b i j + x * lm b j * Bs ^ (i + j) := by
 unfold pT
 rw [mod_step, Nat.mul_add, Nat.add_mul, Nat.add_assoc, Nat.pow_add]
 congr 2
 simp only [Nat.mul_comm, Nat.mul_left_comm, Nat.mul_assoc]
theorem pT_div (S x b i j : Nat) : pT S x b i j / Bs ^ (i + j) = mC S x b i j + S / Bs ^ (i + j) := by
 unfold mC
 have : S / Bs ^ (i + j) ≤ pT S x b i j / Bs ^ (i + j) := Nat.div_le_div_right (by unfold pT; omega)
 omega
theorem pC_le (S x b i j : Nat) : mC S x b i j ≤ x := by
 have hp := Bs_pow (i + j)
 have h1 : pT S x b i j ≤ S + x * Bs ^ (i + j) := by
  unfold pT
  have : x * (b % Bs ^ j) * Bs ^ i ≤ x * Bs ^ (i + j) := by
   rw [Nat.pow_add, Nat.mul_assoc, Nat.mul_comm (Bs ^ i)]
   exact Nat.mul_le_mul_left _ (Nat.mul_le_mul_right _ (Nat.le_of_lt (Nat.mod_lt _ (Bs_pow j))))
  omega
 have h2 := Nat.div_le_div_right (c := Bs ^ (i + j)) h1
 rw [Nat.add_mul_div_right _ _ hp] at h2
 unfold mC
 omega
theorem pC_s (S x b i j : Nat) : mC S x b i (j + 1) = (x * lm b j + lm S (i + j) + mC S x b i j) / Bs := by
 have h1 := pT_div S x b i (j + 1)
 have h0 := pT_div S x b i j
 rw [pT_s,← Nat.add_assoc i j 1,Nat.pow_succ,← Nat.div_div_eq_div_mul,Nat.add_mul_div_right _ _ (Bs_pow (i + j)),h0,← Nat.div_div_eq_div_mul] at h1
 unfold lm at h1 ⊢
 generalize S / Bs ^ (i + j) = q at h1 ⊢
 generalize mC S x b i j = c at h1 ⊢
 generalize mC S x b i (j + 1) = d at h1 ⊢
 generalize x * (b / Bs ^ j % Bs) = m at h1 ⊢
 unfold Bs at *
 omega
theorem pT_lm (S x b i j : Nat) : lm (pT S x b i (j + 1)) (i + j) = (x * lm b j + lm S (i + j) + mC S x b i j) % Bs := by
 have h0 := pT_div S x b i j
 rw [pT_s]
 unfold lm
 rw [Nat.add_mul_div_right _ _ (Bs_pow (i + j)), h0]
 generalize S / Bs ^ (i + j) = q
 generalize mC S x b i j = c
 generalize x * (b / Bs ^ j % Bs) = m
 unfold Bs
 omega
theorem pT_low (S x b i j : Nat) {k : Nat} (h : k < i + j) : lm (pT S x b i (j + 1)) k = lm (pT S x b i j) k := by
 rw [pT_s]; exact lm_low h
theorem pT_end {a b i : Nat} : pT (a % Bs ^ i * b) (lm a i) b i (lmN b) = a % Bs ^ (i + 1) * b := by
 unfold pT
 rw [Nat.mod_eq_of_lt (lt_pow.2 (Nat.le_refl (lmN b))), mod_step, Nat.add_mul]
 congr 1
 simp only [Nat.mul_comm, Nat.mul_left_comm]
theorem rd_lt (a b i : Nat) : a % Bs ^ i * b < Bs ^ (i + lmN b) := by
 rw [Nat.pow_add]
 by_cases hb : b = 0
 ·subst hb; rw [Nat.mul_zero]; exact Nat.mul_pos (Bs_pow _) (Bs_pow _)
 ·exact Nat.mul_lt_mul_of_lt_of_lt (Nat.mod_lt _ (Bs_pow i)) (lt_pow.2 (Nat.le_refl _))
theorem pC_end {a b i : Nat} : mC (a % Bs ^ i * b) (lm a i) b i (lmN b) = lm (a % Bs ^ (i + 1) * b) (i + lmN b) := by
 have h := pT_div (a % Bs ^ i * b) (lm a i) b i (lmN b)
 have h1 := pC_le (a % Bs ^ i * b) (lm a i) b i (lmN b)
 rw [Nat.div_eq_of_lt (rd_lt a b i), pT_end] at h
 rw [show lm (a % Bs ^ (i + 1) * b) (i + lmN b) = a % Bs ^ (i + 1) * b / Bs ^ (i + lmN b) % Bs from rfl,h,Nat.add_zero,Nat.mod_eq_of_lt (Nat.lt_of_le_of_lt h1 (lm_lt a i))]
def pE (a b i j k : Nat) : Nat := if k < i + j then lm (pT (a % Bs ^ i * b) (lm a i) b i j) k else lm (a % Bs ^ i * b) k
theorem pE_0 (a b i k : Nat) : pE a b i 0 k = lm (a % Bs ^ i * b) k := by
 unfold pE; rw [pT_0]; split <;> rfl
theorem pE_s (a b i j k : Nat) : pE a b i (j + 1) k = if k = i + j then (lm a i * lm b j + lm (a % Bs ^ i * b) (i + j) + mC (a % Bs ^ i * b) (lm a i) b i j) % Bs else pE a b i j k := by
 unfold pE
 by_cases h : k = i + j
 ·subst h; rw [if_pos (by omega), if_pos rfl, pT_lm]
 ·rw [if_neg h]
  by_cases h2 : k < i + j
  ·rw [if_pos (by omega), if_pos h2, pT_low _ _ _ _ _ h2]
  ·rw [if_neg (by omega), if_neg h2]
theorem pE_at (a b i j : Nat) : pE a b i j (i + j) = lm (a % Bs ^ i * b) (i + j) := by unfold pE; rw [if_neg (by omega)]
theorem pE_end (a b i k : Nat) : (if k = i + lmN b then mC (a % Bs ^ i * b) (lm a i) b i (lmN b) else pE a b i (lmN b) k) = lm (a % Bs ^ (i + 1) * b) k := by
 split
 ·rename_i h; subst h; exact pC_end
 ·rename_i h
  unfold pE
  split
  ·rw [pT_end]
  ·rw [lm_hi (lt_pow.1 (Nat.lt_of_lt_of_le (rd_lt a b i) (Nat.pow_le_pow_right Bs_pos (show i + lmN b ≤ k by omega)))),
    lm_hi (lt_pow.1 (Nat.lt_of_lt_of_le (rd_lt a b (i + 1)) (Nat.pow_le_pow_right Bs_pos (show i + 1 + lmN b ≤ k by omega))))]
theorem mul_small {x y s c : Nat} (hx : x < Bs) (hy : y < Bs) (hs : s < Bs) (hc : c ≤ x) : x * y + s + c < 18446744073709551616 := by
 have h := Nat.mul_le_mul (show x ≤ 4294967295 by unfold Bs at hx;omega) (show y ≤ 4294967295 by unfold Bs at hy;omega)
 unfold Bs at *
 omega
theorem mul_lmN (a b : Nat) : lmN (a * b) ≤ lmN a + lmN b := by
 refine lt_pow.1 ?_
 rw [Nat.pow_add]
 by_cases hb : b = 0
 ·subst hb; rw [Nat.mul_zero]; exact Nat.mul_pos (Bs_pow _) (Bs_pow _)
 ·exact Nat.mul_lt_mul_of_lt_of_lt (lt_pow.2 (Nat.le_refl _)) (lt_pow.2 (Nat.le_refl _))
theorem lm_ext {a b k : Nat} (ha : a < Bs ^ k) (hb : b < Bs ^ k) (h : ∀ i, i < k → lm a i = lm b i) : a = b := by
 have key : ∀ j, j ≤ k → a % Bs ^ j = b % Bs ^ j := by
  intro j
  induction j with
  | zero => intro _; rw [Nat.pow_zero, Nat.mod_one, Nat.mod_one]
  | succ j ih => intro hj; rw [mod_step, mod_step, ih (by omega), h j (by omega)]
 have := key k (Nat.le_refl _)
 rwa [Nat.mod_eq_of_lt ha, Nat.mod_eq_of_lt hb] at this
theorem lm_cmp {a b k i : Nat} (ha : a < Bs ^ k) (hb : b < Bs ^ k) (hi : i < k) (h : ∀ j,i < j → j < k → lm a j = lm b j) (hl : lm a i < lm b i) : a < b := by
 have key : ∀ d, i + 1 + d ≤ k → a % Bs ^ (i + 1 + d) < b % Bs ^ (i + 1 + d) := by
  intro d
  induction d with
  | zero =>
   intro _
   rw [Nat.add_zero, mod_step, mod_step]
   have h1 : a % Bs ^ i < Bs ^ i := Nat.mod_lt a (Bs_pow i)
   have h2 := Nat.mul_le_mul_right (Bs ^ i) (show lm a i + 1 ≤ lm b i by omega)
   rw [Nat.add_mul, Nat.one_mul] at h2
   exact Nat.lt_of_lt_of_le (Nat.add_lt_add_right h1 _) (by rw [Nat.add_comm];exact Nat.le_trans h2 (Nat.le_add_left _ _))
  | succ d ih =>
   intro hd
   rw [← Nat.add_assoc, mod_step, mod_step, h (i + 1 + d) (by omega) (by omega)]
   have := ih (by omega)
   omega
 have := key (k - (i + 1)) (by omega)
 rw [show i + 1 + (k - (i + 1)) = k by omega, Nat.mod_eq_of_lt ha, Nat.mod_eq_of_lt hb] at this
 exact this
end Go.Proofs.YtonmienclploaaaGreatDoor.Q
namespace Go.Proofs.YtonmienclploaaaGreatDoor.Q
structure P6 where
 a : Int
 b : Int
 c : Int
 d : Int
 e : Int
 f : Int
def z6 : P6 := ⟨0, 0, 0, 0, 0, 0⟩
instance : Inhabited P6 := ⟨z6⟩
def P6.neg (p : P6) : P6 := ⟨-p.a, -p.b, -p.c, -p.d, -p.e, -p.f⟩
def P6.sub (p q : P6) : P6 := ⟨p.a - q.a, p.b - q.b, p.c - q.c, p.d - q.d, p.e - q.e, p.f - q.f⟩
theorem P6.ext' {p q : P6} (h1 : p.a = q.a) (h2 : p.b = q.b) (h3 : p.c = q.c) (h4 : p.d = q.d) (h5 : p.e = q.e) (h6 : p.f = q.f) : p = q := by
 cases p; cases q; simp only [] at *; subst h1 h2 h3 h4 h5 h6; rfl
instance : DecidableEq P6 := fun p q =>
 if h : p.a = q.a ∧ p.b = q.b ∧ p.c = q.c ∧ p.d = q.d ∧ p.e = q.e ∧ p.f = q.f then isTrue (P6.ext' h.1 h.2.1 h.2.2.1 h.2.2.2.1 h.2.2.2.2.1 h.2.2.2.2.2)
 else isFalse fun e => h (by subst e; exact ⟨rfl, rfl, rfl, rfl, rfl, rfl⟩)
def num (p : P6) : Nat := 2 ^ p.a.toNat * (3 ^ p.b.toNat * (5 ^ p.c.toNat * (7 ^ p.d.toNat * (11 ^ p.e.toNat * 13 ^ p.f.toNat))))
def den (p : P6) : Nat := num p.neg
def Up (p : P6) : Prop := den p < num p
instance (p : P6) : Decidable (Up p) := inferInstanceAs (Decidable (_ < _))
theorem neg_neg (p : P6) : p.neg.neg = p := P6.ext' (Int.neg_neg _) (Int.neg_neg _) (Int.neg_neg _) (Int.neg_neg _) (Int.neg_neg _) (Int.neg_neg _)
theorem den_neg (p : P6) : den p.neg = num p := by unfold den; rw [neg_neg]
theorem cop (x : Nat) {y : Nat} (k : Nat) (h : Nat.Coprime x y) : Nat.Coprime x (y ^ k) := Nat.Coprime.pow_right k h
theorem no_p {x n1 n2 n3 n4 n5 n6 : Nat} (hx : 1 < x) (c1 : Nat.Coprime x n1) (c2 : Nat.Coprime x n2) (c3 : Nat.Coprime x n3) (c4 : Nat.Coprime x n4) (c5 : Nat.Coprime x n5) (c6 : Nat.Coprime x n6) : ¬ x ∣ n1 * (n2 * (n3 * (n4 * (n5 * n6)))) := fun h=>by
 have := Nat.Coprime.eq_one_of_dvd (Nat.Coprime.mul_right c1 (Nat.Coprime.mul_right c2 (Nat.Coprime.mul_right c3 (Nat.Coprime.mul_right c4 (Nat.Coprime.mul_right c5 c6))))) h
 omega
theorem cop0 (x : Nat) {y k : Nat} (h : k = 0) : Nat.Coprime x (y ^ k) := by subst h;rw [Nat.pow_zero];exact Nat.coprime_one_right x
theorem dvd_pw {x k : Nat} (h : 0 < k) : x ∣ x ^ k := by
 obtain ⟨j, rfl⟩ : ∃ j, k = j + 1 := ⟨k - 1, by omega⟩
 exact ⟨x ^ j, by rw [Nat.pow_succ, Nat.mul_comm]⟩
theorem eq_le {p q : P6} (h : num p = num q) (ha : 0 < p.a.toNat → q.a.toNat = 0) (hb : 0 < p.b.toNat → q.b.toNat = 0) (hc : 0 < p.c.toNat → q.c.toNat = 0) (hd : 0 < p.d.toNat → q.d.toNat = 0) (he : 0 < p.e.toNat → q.e.toNat = 0) (hf : 0 < p.f.toNat → q.f.toNat = 0) :
  p.a.toNat = 0 ∧ p.b.toNat = 0 ∧ p.c.toNat = 0 ∧ p.d.toNat = 0 ∧ p.e.toNat = 0 ∧ p.f.toNat = 0 := by
 have L : ∀ {x m : Nat} (n : Nat), x ∣ m → x ∣ n * m := fun n h => Nat.dvd_mul_left_of_dvd h n
 have R : ∀ {x m : Nat} (n : Nat), x ∣ m → x ∣ m * n := fun n h => Nat.dvd_mul_right_of_dvd h n
 refine ⟨?_, ?_, ?_, ?_, ?_, ?_⟩ <;> refine Nat.eq_zero_of_not_pos fun hp => ?_
 ·exact no_p (x := 2) (by omega) (cop0 2 (ha hp)) (cop 2 q.b.toNat (by decide)) (cop 2 q.c.toNat (by decide)) (cop 2 q.d.toNat (by decide)) (cop 2 q.e.toNat (by decide)) (cop 2 q.f.toNat (by decide))
   (show 2 ∣ num q by rw [← h]; exact R _ (dvd_pw hp))
 ·exact no_p (x := 3) (by omega) (cop 3 q.a.toNat (by decide)) (cop0 3 (hb hp)) (cop 3 q.c.toNat (by decide)) (cop 3 q.d.toNat (by decide)) (cop 3 q.e.toNat (by decide)) (cop 3 q.f.toNat (by decide))
   (show 3 ∣ num q by rw [← h]; exact L _ (R _ (dvd_pw hp)))
 ·exact no_p (x := 5) (by omega) (cop 5 q.a.toNat (by decide)) (cop 5 q.b.toNat (by decide)) (cop0 5 (hc hp)) (cop 5 q.d.toNat (by decide)) (cop 5 q.e.toNat (by decide)) (cop 5 q.f.toNat (by decide))
   (show 5 ∣ num q by rw [← h]; exact L _ (L _ (R _ (dvd_pw hp))))
 ·exact no_p (x := 7) (by omega) (cop 7 q.a.toNat (by decide)) (cop 7 q.b.toNat (by decide)) (cop 7 q.c.toNat (by decide)) (cop0 7 (hd hp)) (cop 7 q.e.toNat (by decide)) (cop 7 q.f.toNat (by decide))
   (show 7 ∣ num q by rw [← h]; exact L _ (L _ (L _ (R _ (dvd_pw hp)))))
 ·exact no_p (x := 11) (by omega) (cop 11 q.a.toNat (by decide)) (cop 11 q.b.toNat (by decide)) (cop 11 q.c.toNat (by decide)) (cop 11 q.d.toNat (by decide)) (cop0 11 (he hp)) (cop 11 q.f.toNat (by decide))
   (show 11 ∣ num q by rw [← h]; exact L _ (L _ (L _ (L _ (R _ (dvd_pw hp))))))
 ·exact no_p (x := 13) (by omega) (cop 13 q.a.toNat (by decide)) (cop 13 q.b.toNat (by decide)) (cop 13 q.c.toNat (by decide)) (cop 13 q.d.toNat (by decide)) (cop 13 q.e.toNat (by decide)) (cop0 13 (hf hp))
   (show 13 ∣ num q by rw [← h]; exact L _ (L _ (L _ (L _ (L _ (dvd_pw hp))))))
theorem num_den {p : P6} (h : num p = den p) : p = z6 := by
 have n1 : p.neg.a = -p.a := rfl
 have n2 : p.neg.b = -p.b := rfl
 have n3 : p.neg.c = -p.c := rfl
 have n4 : p.neg.d = -p.d := rfl
 have n5 : p.neg.e = -p.e := rfl
 have n6 : p.neg.f = -p.f := rfl
 have h1 := eq_le (p := p) (q := p.neg) h (by omega) (by omega) (by omega) (by omega) (by omega) (by omega)
 have h2 := eq_le (p := p.neg) (q := p) h.symm (by omega) (by omega) (by omega) (by omega) (by omega) (by omega)
 exact P6.ext' (show p.a = 0 by omega) (show p.b = 0 by omega) (show p.c = 0 by omega) (show p.d = 0 by omega) (show p.e = 0 by omega) (show p.f = 0 by omega)
def Lo (p q : P6) : Prop := Up (q.sub p)
instance (p q : P6) : Decidable (Lo p q) := inferInstanceAs (Decidable (Up _))
theorem sub_neg (p q : P6) : (q.sub p).neg = p.sub q := by
 apply P6.ext' <;> simp only [P6.sub, P6.neg] <;> omega
theorem sub_self (p : P6) : p.sub p = z6 := by
 apply P6.ext' <;> simp only [P6.sub, z6] <;> omega
theorem sub_z {p q : P6} (h : q.sub p = z6) : p = q := by
 have h1 := congrArg P6.a h;have h2 := congrArg P6.b h;have h3 := congrArg P6.c h;have h4 := congrArg P6.d h;have h5 := congrArg P6.e h;have h6 := congrArg P6.f h
 simp only [P6.sub, z6] at h1 h2 h3 h4 h5 h6
 apply P6.ext' <;> omega
def cmpP (p q : P6) : Int := if Lo p q then -1 else if p = q then 0 else 1
theorem lo_num (p q : P6) : Lo p q ↔ num (p.sub q) < den (p.sub q) := by
 have h : q.sub p = (p.sub q).neg := (sub_neg q p).symm
 unfold Lo Up
 rw [h, den_neg]
 exact Iff.rfl
theorem cmp_num (p q : P6) : cmpP p q = if num (p.sub q) < den (p.sub q) then -1 else if num (p.sub q) = den (p.sub q) then 0 else 1 := by
 unfold cmpP
 by_cases h : Lo p q
 ·rw [if_pos h, if_pos ((lo_num p q).1 h)]
 ·rw [if_neg h, if_neg fun k => h ((lo_num p q).2 k)]
  by_cases e : p = q
  ·subst e; rw [if_pos rfl, sub_self]; rfl
  ·rw [if_neg e, if_neg fun k => e (sub_z (num_den k)).symm]
end Go.Proofs.YtonmienclploaaaGreatDoor.Q
namespace Go.Proofs.YtonmienclploaaaGreatDoor.Q
theorem Bs_2 (k : Nat) : Bs ^ k = 2 ^ (32 * k) := by
 rw [show Bs = 2 ^ 32 by decide, ← Nat.pow_mul]
theorem pw_le {x c e : Nat} (hx : x ≤ 2 ^ c) (he : e ≤ 1152) : x ^ e ≤ 2 ^ (c * 1152) := by
 refine Nat.le_trans (Nat.pow_le_pow_left hx e) ?_
 rw [← Nat.pow_mul]
 exact Nat.pow_le_pow_right (by omega) (Nat.mul_le_mul_left c he)
def prodN (l : List Nat) : Nat := l.foldl (· * ·) 1
def Bd6 (n : Int) (p : P6) : Prop := (-n ≤ p.a ∧ p.a ≤ n) ∧ (-n ≤ p.b ∧ p.b ≤ n) ∧ (-n ≤ p.c ∧ p.c ≤ n) ∧ (-n ≤ p.d ∧ p.d ≤ n) ∧ (-n ≤ p.e ∧ p.e ≤ n) ∧ (-n ≤ p.f ∧ p.f ≤ n)
instance (n : Int) (p : P6) : Decidable (Bd6 n p) := by unfold Bd6; infer_instance
theorem Bd6.mono {n m : Int} {p : P6} (h : Bd6 n p) (k : n ≤ m) : Bd6 m p := by unfold Bd6 at *; omega
theorem Bd6.neg {n : Int} {p : P6} (h : Bd6 n p) : Bd6 n p.neg := by unfold Bd6 P6.neg at *; simp only [] at *; omega
theorem Bd6.sub {n m : Int} {p q : P6} (h : Bd6 n p) (k : Bd6 m q) : Bd6 (n + m) (p.sub q) := by unfold Bd6 P6.sub at *;simp only [] at *;omega
def Sm (k n : Nat) : Prop := n ≤ 2 ^ k
theorem Sm.mul {j k m n : Nat} (h : Sm j m) (g : Sm k n) : Sm (j + k) (m * n) := by
 unfold Sm at *
 rw [Nat.pow_add]; exact Nat.mul_le_mul h g
theorem Sm.mono {j k m : Nat} (h : Sm j m) (g : j ≤ k) : Sm k m := Nat.le_trans h (Nat.pow_le_pow_right (by omega) g)
theorem Sm.limG {k n m : Nat} (h : Sm k n) (hk : k < 32 * m) : lmN n ≤ m := by
 refine lt_pow.1 ?_
 rw [Bs_2]
 exact Nat.lt_of_le_of_lt h (Nat.pow_lt_pow_right (by omega) hk)
theorem Sm.lim {k n : Nat} (h : Sm k n) (hk : k ≤ 19584) : lmN n ≤ 613 := h.limG (by omega)
theorem Sm.pw {x c e : Nat} (hx : x ≤ 2 ^ c) (he : e ≤ 1152) : Sm (c * 1152) (x ^ e) := pw_le hx he
theorem num_sm {p : P6} (h : Bd6 1152 p) : Sm 19584 (num p) := by
 unfold Bd6 at h
 have := Sm.mul (Sm.pw (x := 2) (c := 1) (by decide) (e := p.a.toNat) (by omega)) (Sm.mul (Sm.pw (x := 3) (c := 2) (by decide) (e := p.b.toNat) (by omega)) (Sm.mul (Sm.pw (x := 5) (c := 3) (by decide) (e := p.c.toNat) (by omega))
  (Sm.mul (Sm.pw (x := 7) (c := 3) (by decide) (e := p.d.toNat) (by omega)) (Sm.mul (Sm.pw (x := 11) (c := 4) (by decide) (e := p.e.toNat) (by omega)) (Sm.pw (x := 13) (c := 4) (by decide) (e := p.f.toNat) (by omega))))))
 exact this.mono (by omega)
theorem num_lim {p : P6} (h : Bd6 1152 p) : lmN (num p) ≤ 640 := Nat.le_trans ((num_sm h).lim (by omega)) (by omega)
def prm (i : Nat) : Nat := [2, 3, 5, 7, 11, 13].getD i 0
def P6.at (p : P6) (i : Nat) : Int := [p.a, p.b, p.c, p.d, p.e, p.f].getD i 0
def numK (p : P6) : Nat → Nat
 | 0 => 1
 | i + 1 => numK p i * prm i ^ (p.at i).toNat
theorem numK_6 (p : P6) : numK p 6 = num p := by
 unfold num
 simp only [numK, prm, P6.at, List.getD_cons_zero, List.getD_cons_succ, Nat.one_mul, Nat.mul_assoc]
theorem prm_le (i : Nat) : prm i ≤ 2 ^ 4 := by
 rcases i with _ | _ | _ | _ | _ | _ | i <;> simp [prm]
theorem at_bd {n : Int} {p : P6} (h : Bd6 n p) (h0 : 0 ≤ n) (i : Nat) : -n ≤ p.at i ∧ p.at i ≤ n := by
 unfold Bd6 at h
 rcases i with _ | _ | _ | _ | _ | _ | i <;> simp [P6.at] <;> omega
theorem pow_lim (i : Nat) {e : Nat} (he : e ≤ 1152) : lmN (prm i ^ e) ≤ 640 := Nat.le_trans ((Sm.pw (prm_le i) he).lim (by omega)) (by omega)
end Go.Proofs.YtonmienclploaaaGreatDoor.Q
namespace Go.Proofs.YtonmienclploaaaGreatDoor.Q
end Go.Proofs.YtonmienclploaaaGreatDoor.Q
