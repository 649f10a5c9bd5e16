/-
  Parts joined: P1 P2.
-/
import Derived.Test.YtdglbjjenihdlaaDoorWN22
import Derived.Test.YtdglbjjenihdlaaDoorWN18
import Derived.Test.YtdglbjjenihdlaaDoorWN21
set_option linter.unusedSimpArgs false
set_option linter.unusedVariables false
namespace Go.Proofs.YtdglbjjenihdlaaDoor
theorem lastI_eq (q : Int → Bool) (o : Int) : ∀ (n : Nat) (lo hi : Int),(hi - lo).toNat ≤ n → lo ≤ o → o ≤ hi → (∀ i,lo < i → i ≤ o → q i = true) → (∀ i,o < i → i ≤ hi → q i = false) → lastI q lo hi = o
  | n, lo, hi, h, h1, h2, h3, h4 => by
    by_cases hl : lo < hi
    · rw [lastI_s q hl]
      obtain ⟨m, rfl⟩ : ∃ m, n = m + 1 := ⟨n - 1, by omega⟩
      by_cases hm : hi - (hi - lo) / 2 ≤ o
      · rw [if_pos (h3 _ (by omega) hm)]
        exact lastI_eq q o m _ _ (by omega) hm h2 (fun i k1 k2 => h3 i (by omega) k2) h4
      · rw [if_neg (by rw [h4 _ (by omega) (by omega)]; simp)]
        exact lastI_eq q o m _ _ (by omega) h1 (by omega) h3 (fun i k1 k2 => h4 i k1 (by omega))
    · rw [lastI_e q hl]; omega
theorem bd_z : Bd6 576 z6 := by decide
theorem bd_oct : Bd6 576 oct := by decide
theorem cmT_bd {p q : P6} (h : Bd6 576 p) (k : Bd6 576 q) : cmT p q = cmpP p q := by unfold cmT cmpR; rw [if_pos ⟨h, k⟩]
theorem cmpP_ge {p q : P6} : 0 ≤ cmpP p q ↔ ¬ Lo p q := by rw [← cmpP_lo]; omega
theorem cmpP_le {p q : P6} : cmpP p q ≤ 0 ↔ ¬ Lo q p := by
  unfold cmpP
  by_cases h : Lo p q
  · simp [h, h.asymm]
  · rw [if_neg h]
    by_cases e : p = q
    · subst e; simp [Lo.irrefl]
    · rw [if_neg e]
      rcases Lo.tri p q with k | k | k
      · exact absurd k h
      · exact absurd k e
      · simp [k]
theorem inB_iff {p : P6} : inB p = true ↔ Bd6 576 p ∧ ¬ Lo p z6 ∧ Lo p oct := by
  constructor
  · intro h
    have hb := inB_lo h
    unfold inB at h
    rw [cmT_bd hb bd_z, cmT_bd hb bd_oct] at h
    simp only [Bool.and_eq_true, decide_eq_true_eq] at h
    exact ⟨hb, cmpP_ge.1 h.1, cmpP_lo.1 h.2⟩
  · rintro ⟨hb, h1, h2⟩
    unfold inB
    rw [cmT_bd hb bd_z, cmT_bd hb bd_oct, decide_eq_true (cmpP_ge.2 h1), decide_eq_true (cmpP_lo.2 h2)]
    rfl
end Go.Proofs.YtdglbjjenihdlaaDoor
namespace Go.Proofs.YtdglbjjenihdlaaDoor
theorem cmT_lo {p q : P6} (h : Bd6 576 p) (k : Bd6 576 q) : cmT p q < 0 ↔ Lo p q := by rw [cmT_bd h k, cmpP_lo]
theorem scl_lo {s : List P6} (h : SclOk s) {i : Nat} : ∀ {j}, i < j → j < s.length → Lo (gP s i) (gP s j)
  | 0, h1, _ => by omega
  | j + 1, h1, h2 => by
    have h3 := (cmT_lo (h.bd j) (h.bd (j + 1))).1 (h.step j h2).2
    by_cases e : i = j
    · subst e; exact h3
    · exact (scl_lo h (show i < j by omega) (by omega)).trans h3
theorem nearI_eq {s : List P6} (h : SclOk s) {q : P6} (hq : Bd6 576 q) {i : Nat} (hi : i < s.length) (h1 : ¬ Lo q (gP s i)) (h2 : ∀ j,i < j → j < s.length → Lo q (gP s j)) : nearI s q = i := by
  unfold nearI
  rw [lastI_eq (nearQ s q) (i : Int) _ 0 ((s.length : Int) - 1) (Nat.le_refl _) (by omega) (by omega) (fun j k1 k2 => ?_) (fun j k1 k2 => ?_)]
  · exact Int.toNat_natCast i
  · obtain ⟨j, rfl⟩ := Int.eq_ofNat_of_zero_le (show 0 ≤ j by omega)
    unfold nearQ
    rw [Int.toNat_natCast, cmT_bd (h.bd j) hq]
    refine decide_eq_true (cmpP_le.2 fun k => h1 ?_)
    by_cases e : j = i
    · subst e; exact k
    · exact k.trans (scl_lo h (by omega) hi)
  · obtain ⟨j, rfl⟩ := Int.eq_ofNat_of_zero_le (show 0 ≤ j by omega)
    unfold nearQ
    rw [Int.toNat_natCast, cmT_bd (h.bd j) hq]
    exact decide_eq_false fun k => cmpP_le.1 k (h2 j (by omega) (by omega))
end Go.Proofs.YtdglbjjenihdlaaDoor
