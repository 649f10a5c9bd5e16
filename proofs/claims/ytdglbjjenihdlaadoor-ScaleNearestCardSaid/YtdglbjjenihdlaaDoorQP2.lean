/-
  Along a scale (plain): its degrees rise; a degree found again; the nearest one.
-/
import Derived.Test.YtdglbjjenihdlaaDoorQP1
import Derived.Test.YtdglbjjenihdlaaDoorQN18
import Derived.Test.YtdglbjjenihdlaaDoorQN21
set_option linter.unusedSimpArgs false
set_option linter.unusedVariables false
namespace Go.Proofs.YtdglbjjenihdlaaDoor
theorem cmT_lo {p q : P6} (h : Bd6 576 p) (k : Bd6 576 q) : cmT p q < 0 ↔ Lo p q := by rw [cmT_bd h k, cmpP_lo]
theorem scl_lo {s : List P6} (h : SclOk s) {i : Nat} : ∀ {j}, i < j → j < s.length → Lo (gP s i) (gP s j)
  | 0, h1, _ => by omega
  | j + 1, h1, h2 => by
    have h3 := (cmT_lo (h.bd j) (h.bd (j + 1))).1 (h.step j h2).2
    by_cases e : i = j
    · subst e; exact h3
    · exact (scl_lo h (show i < j by omega) (by omega)).trans h3
theorem scl_le {s : List P6} (h : SclOk s) {i j : Nat} (h1 : i ≤ j) (h2 : j < s.length) : ¬ Lo (gP s j) (gP s i) := by
  by_cases e : i = j
  · subst e; exact Lo.irrefl _
  · exact (scl_lo h (show i < j by omega) h2).asymm
theorem scl_in {s : List P6} (h : SclOk s) {i : Nat} (hi : i < s.length) : inB (gP s i) = true := by
  refine inB_iff.2 ⟨h.bd i, ?_, ?_⟩
  · rw [← h.zero]; exact scl_le h (Nat.zero_le _) hi
  · have h1 := (inB_iff.1 h.last).2.2
    by_cases e : i = s.length - 1
    · subst e; exact h1
    · exact (scl_lo h (show i < s.length - 1 by omega) (by omega)).trans h1
theorem scl_pos {s : List P6} (h : SclOk s) : 0 < s.length := List.length_pos_iff.2 h.ne
theorem scl_find {s : List P6} (h : SclOk s) {q : P6} (hq : ¬ Lo q z6) : ∀ k,0 < k → k ≤ s.length → ∃ i,i < k ∧ ¬ Lo q (gP s i) ∧ ∀ j,i < j → j < k → Lo q (gP s j)
  | 0, h1, _ => by omega
  | k + 1, _, h2 => by
    by_cases hk : Lo q (gP s k)
    · have h0 : 0 < k := by
        rcases Nat.eq_zero_or_pos k with e | e
        · subst e; rw [h.zero] at hk; exact absurd hk hq
        · exact e
      obtain ⟨i, h3, h4, h5⟩ := scl_find h hq k h0 (by omega)
      refine ⟨i, by omega, h4, fun j h6 h7 => ?_⟩
      by_cases e : j = k
      · subst e; exact hk
      · exact h5 j h6 (by omega)
    · exact ⟨k, by omega, hk, fun j h6 h7 => by omega⟩
theorem nearI_eq {s : List P6} (h : SclOk s) {q : P6} (hq : Bd6 576 q) {i : Nat} (hi : i < s.length) (h1 : ¬ Lo q (gP s i)) (h2 : ∀ j,i < j → j < s.length → Lo q (gP s j)) : nearI s q = i := by
  unfold nearI
  rw [lastI_eq (nearQ s q) (i : Int) _ 0 ((s.length : Int) - 1) (Nat.le_refl _) (by omega) (by omega) (fun j k1 k2 => ?_) (fun j k1 k2 => ?_)]
  · exact Int.toNat_natCast i
  · obtain ⟨j, rfl⟩ := Int.eq_ofNat_of_zero_le (show 0 ≤ j by omega)
    unfold nearQ
    rw [Int.toNat_natCast, cmT_bd (h.bd j) hq]
    refine decide_eq_true (cmpP_le.2 fun k => h1 ?_)
    by_cases e : j = i
    · subst e; exact k
    · exact k.trans (scl_lo h (by omega) hi)
  · obtain ⟨j, rfl⟩ := Int.eq_ofNat_of_zero_le (show 0 ≤ j by omega)
    unfold nearQ
    rw [Int.toNat_natCast, cmT_bd (h.bd j) hq]
    exact decide_eq_false fun k => cmpP_le.1 k (h2 j (by omega) (by omega))
theorem atP_lt {s : List P6} {i : Nat} (hi : i < s.length) : atP s i = gP s i := by
  unfold atP
  rw [Nat.mod_eq_of_lt hi, Nat.div_eq_of_lt hi]
  exact up_0 _
theorem atP_per {s : List P6} (h : 0 < s.length) (d : Nat) : atP s (d + s.length) = up12 (atP s d) 1 := by
  unfold atP
  rw [Nat.add_mod_right, Nat.add_div_right d h, up_up]
  rfl
theorem atP_step {s : List P6} (h : SclOk s) (d : Nat) : Lo (atP s d) (atP s (d + 1)) := by
  have hn := scl_pos h
  have hm := Nat.mod_lt d hn
  have hd := Nat.div_add_mod d s.length
  unfold atP
  by_cases e : d % s.length + 1 < s.length
  · have h1 : (d + 1) % s.length = d % s.length + 1 := by rw [Nat.add_mod,Nat.mod_eq_of_lt (show 1 < s.length by omega),Nat.mod_eq_of_lt e]
    have h2 : (d + 1) / s.length = d / s.length := by
      refine Nat.div_eq_of_lt_le ?_ ?_
      · rw [Nat.mul_comm]; omega
      · rw [Nat.succ_mul, Nat.mul_comm]; omega
    rw [h1, h2]
    exact lo_shift (scl_lo h (by omega) e)
  · have h2 : (d + 1) / s.length = d / s.length + 1 := by
      refine Nat.div_eq_of_lt_le ?_ ?_
      · rw [Nat.succ_mul, Nat.mul_comm]; omega
      · rw [Nat.succ_mul, Nat.succ_mul, Nat.mul_comm]; omega
    have h1 : (d + 1) % s.length = 0 := by
      have h3 := Nat.div_add_mod (d + 1) s.length
      rw [h2, Nat.mul_succ] at h3
      omega
    rw [h1,h2,h.zero,show d % s.length = s.length - 1 by omega,show up12 z6 ((d / s.length + 1 : Nat) : Int) = up12 oct ((d / s.length : Nat) : Int) by apply P6.ext' <;> simp only [up12,z6,oct] <;> omega]
    exact lo_shift (inB_iff.1 h.last).2.2
theorem atP_lo {s : List P6} (h : SclOk s) {d : Nat} : ∀ {e}, d < e → Lo (atP s d) (atP s e)
  | 0, h1 => by omega
  | e + 1, h1 => by
    by_cases k : d = e
    · subst k; exact atP_step h d
    · exact (atP_lo h (show d < e by omega)).trans (atP_step h e)
theorem oct_at {s : List P6} (h : SclOk s) {i : Nat} (hi : i < s.length) {o : Int} (hv : Bd6 576 (up12 (gP s i) o)) : octR (up12 (gP s i) o) = (gP s i,o,0) := by
  have e : up12 (up12 (gP s i) o) (-o) = gP s i := by rw [up_up, show o + -o = 0 by omega, up_0]
  rw [oct_of hv (by rw [e]; exact scl_in h hi), e]
theorem deg_at {s : List P6} (h : SclOk s) {i : Nat} (hi : i < s.length) {o : Int} (hv : Bd6 576 (up12 (gP s i) o)) : degR s (up12 (gP s i) o) = ((i : Int),o,0) := by
  have hx : idxI s (gP s i) = i := idxI_at hi rfl fun j hj e => Lo.irrefl _ (by have := scl_lo h hj hi; rwa [e] at this)
  unfold degR
  rw [tf_t h, if_pos rfl, oct_at h hi hv]
  simp only [hx]
  rw [if_pos trivial, if_neg (by omega)]
theorem near_at {s : List P6} (h : SclOk s) {i : Nat} (hi : i < s.length) {o : Int} (hv : Bd6 576 (up12 (gP s i) o)) : nearR s (up12 (gP s i) o) = ((i : Int),o,0) ∨ nearR s (up12 (gP s i) o) = (0,0,3) := by
  have hx : nearI s (gP s i) = i := nearI_eq h (h.bd i) hi (Lo.irrefl _) fun j h1 h2 => scl_lo h h1 h2
  unfold nearR
  rw [tf_t h, if_pos rfl, oct_at h hi hv]
  simp only []
  rw [if_pos trivial]
  unfold nearO
  rw [hx]
  split
  · rename_i hk
    rw [if_pos ?_]
    · exact .inl rfl
    · rw [sub_self, cmT_bd (by decide) hk.2]
      refine cmpP_le.2 fun k => ?_
      have h1 := atP_step h i
      rw [atP_lt hi] at h1
      have h2 : Lo z6 ((atP s (i + 1)).sub (gP s i)) := by
        unfold Lo at h1 ⊢
        rwa [show ((atP s (i + 1)).sub (gP s i)).sub z6 = (atP s (i + 1)).sub (gP s i) by apply P6.ext' <;> simp only [P6.sub,z6] <;> omega]
      exact k.asymm h2
  · exact .inr rfl
end Go.Proofs.YtdglbjjenihdlaaDoor
