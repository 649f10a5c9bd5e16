/-
  Plain: the times of notes with a breath wherever Breaths says: one breath always suffices.
-/
import Derived.Test.YtonmienclploaaaGreatDoorQV5
set_option linter.unusedSimpArgs false
set_option linter.unusedVariables false
namespace Go.Proofs.YtonmienclploaaaGreatDoor
theorem fit_each {l : List Int} (hp : ∀ x ∈ l,1 ≤ x) : ∀ {k i : Nat} {b : Int},k < fitN (l.drop i) b → gL l (i + k) ≤ b
  | 0, i, b, h => by
    by_cases hi : i < l.length
    · by_cases hx : gL l i ≤ b
      · exact hx
      · rw [fitN_no hi hx] at h; omega
    · rw [fitN_end b (by omega)] at h; omega
  | k + 1, i, b, h => by
    by_cases hi : i < l.length
    · by_cases hx : gL l i ≤ b
      · rw [fitN_yes hi hx] at h
        have h1 := fit_each hp (k := k) (i := i + 1) (b := b - gL l i) (by omega)
        have h2 := hp _ (gL_mem hi)
        rw [show i + 1 + k = i + (k + 1) by omega] at h1
        omega
      · rw [fitN_no hi hx] at h; omega
    · rw [fitN_end b (by omega)] at h; omega
theorem brk_22 {l : List Int} {b : Int} : ∀ {f i : Nat},l.length - i ≤ f → i ≤ l.length → (brk l b i).2 ≠ 0 → ∃ j,j < l.length ∧ b < gL l j
  | f, i, h, hi, he => by
    by_cases h1 : l.length ≤ i + fitN (l.drop i) b
    · rw [brk_end h1] at he; exact absurd rfl he
    · by_cases h2 : fitN (l.drop i) b = 0
      · refine ⟨i, by omega, ?_⟩
        by_cases hx : gL l i ≤ b
        · rw [fitN_yes (by omega) hx] at h2; omega
        · omega
      · rw [brk_step (by omega) h2] at he
        match f, h with
        | 0, h => omega
        | f + 1, h => exact brk_22 (f := f) (by omega) (by omega) he
theorem brk_run {l : List Int} {b : Int} (hp : ∀ x ∈ l,1 ≤ x) : ∀ {f i : Nat},l.length - i ≤ f → i ≤ l.length → (brk l b i).2 = 0 →
    (∀ x ∈ (brk l b i).1, ∃ m : Nat, i ≤ m ∧ x = (m : Int)) ∧
    ∀ k,i ≤ k → k < l.length → ∃ j,i ≤ j ∧ j ≤ k ∧ k + 1 - j ≤ fitN (l.drop j) b ∧ (j = i ∨ i < j ∧ ((j - 1 : Nat) : Int) ∈ (brk l b i).1) ∧ ∀ m,j ≤ m → m < k → (m : Int) ∉ (brk l b i).1
  | f, i, h, hi, he => by
    by_cases h1 : l.length ≤ i + fitN (l.drop i) b
    · rw [brk_end h1]
      exact ⟨fun x hx => (nomatch hx),fun k g1 g2 => ⟨i,by omega,g1,by omega,.inl rfl,fun m _ _ hm => (nomatch hm)⟩⟩
    · by_cases h2 : fitN (l.drop i) b = 0
      · rw [brk_long (by omega) h2] at he; cases he
      · rw [brk_step (by omega) h2] at he ⊢
        match f, h with
        | 0, h => omega
        | f + 1, h =>
          obtain ⟨r1, r2⟩ := brk_run hp (f := f) (i := i + fitN (l.drop i) b) (by omega) (by omega) he
          generalize he2 : i + fitN (l.drop i) b = e at *
          refine ⟨fun x hx => ?_, fun k g1 g2 => ?_⟩
          · rcases List.mem_cons.1 hx with rfl | hx
            · exact ⟨e - 1, by omega, rfl⟩
            · obtain ⟨m, q1, q2⟩ := r1 x hx
              exact ⟨m, by omega, q2⟩
          · by_cases hk : k < e
            · refine ⟨i, by omega, g1, by omega, .inl rfl, fun m q1 q2 hm => ?_⟩
              rcases List.mem_cons.1 hm with hm | hm
              · omega
              · obtain ⟨m', q3, q4⟩ := r1 _ hm
                omega
            · obtain ⟨j, q1, q2, q3, q4, q5⟩ := r2 k (by omega) g2
              refine ⟨j, by omega, q2, q3, .inr ⟨by omega, ?_⟩, fun m p1 p2 hm => ?_⟩
              · rcases q4 with rfl | ⟨_, q4⟩
                · exact List.mem_cons_self
                · exact List.mem_cons_of_mem _ q4
              · rcases List.mem_cons.1 hm with hm | hm
                · omega
                · exact q5 m p1 p2 hm
def atT (ls bs : List Int) : Nat → Int
  | 0 => 0
  | k + 1 => atT ls bs k + gL ls k + (if isB bs k = true then 1 else 0)
def lnL (ls bs : List Int) (ats : List P6) (n : Nat) : List Sg := (List.range n).map fun i => ⟨atT ls bs i,atT ls bs i + gL ls i,gV ats i⟩
theorem lnL_len (ls bs : List Int) (ats : List P6) (n : Nat) : (lnL ls bs ats n).length = n := by simp [lnL]
theorem gS_ln {ls bs : List Int} {ats : List P6} {n i : Nat} (h : i < n) : gS (lnL ls bs ats n) i = ⟨atT ls bs i,atT ls bs i + gL ls i,gV ats i⟩ := by
  unfold gS lnL
  rw [List.getD_eq_getElem?_getD, List.getElem?_map, List.getElem?_range h]
  rfl
theorem isB_iff {bs : List Int} {k : Nat} : isB bs k = true ↔ (k : Int) ∈ bs := by
  unfold isB
  rw [List.contains_iff_mem]
theorem bt_run {ls bs : List Int} {ats : List P6} {n j : Nat} (hj : j = 0 ∨ 0 < j ∧ ((j - 1 : Nat) : Int) ∈ bs) : ∀ d,j + d < n → (∀ m,j ≤ m → m < j + d → (m : Int) ∉ bs) →
    btS (lnL ls bs ats n) (j + d) = atT ls bs j ∧ atT ls bs (j + d) = atT ls bs j + smL ls j d
  | 0, h, _ => by
    refine ⟨?_, by simp [smL]⟩
    rw [Nat.add_zero] at h ⊢
    rcases hj with rfl | ⟨h0, hm⟩
    · rw [btS, gS_ln h]
    · obtain ⟨q, rfl⟩ : ∃ q, j = q + 1 := ⟨j - 1, by omega⟩
      rw [btS, gS_ln h, gS_ln (by omega)]
      have hb : isB bs q = true := isB_iff.2 hm
      rw [if_pos]
      show atT ls bs q + gL ls q < atT ls bs (q + 1)
      rw [atT, if_pos hb]
      omega
  | d + 1, h, hn => by
    obtain ⟨h1,h2⟩ := bt_run (ls := ls) (bs := bs) (ats := ats) (n := n) (j := j) hj d (by omega) fun m p q => hn m p (by omega)
    have hb : ¬ isB bs (j + d) = true := fun hh => hn (j + d) (by omega) (by omega) (isB_iff.1 hh)
    have e : atT ls bs (j + (d + 1)) = atT ls bs (j + d) + gL ls (j + d) := by
      rw [← Nat.add_assoc, atT, if_neg hb]; omega
    refine ⟨?_, by rw [e, h2, smL]; omega⟩
    rw [← Nat.add_assoc, btS, gS_ln (by omega), gS_ln (by omega), if_neg, h1]
    show ¬ atT ls bs (j + d) + gL ls (j + d) < atT ls bs (j + d + 1)
    rw [show j + d + 1 = j + (d + 1) by omega, e]
    omega
theorem one_breath {ls : List Int} {b : Int} {ats : List P6} (hb : 0 ≤ b) (hp : ∀ x ∈ ls,1 ≤ x) (he : (breR b ls).2 = 0) {k : Nat} (hk : k < ls.length) :
    (gS (lnL ls (breR b ls).1 ats ls.length) k).u - btS (lnL ls (breR b ls).1 ats ls.length) k ≤ b ∧ gL ls k ≤ b := by
  have h0 : (brk ls b 0).2 = 0 := by
    unfold breR at he
    split at he
    · assumption
    · cases he
  have hr : (breR b ls).1 = (brk ls b 0).1 := by unfold breR; rw [if_pos h0]
  rw [hr]
  obtain ⟨_, h2⟩ := brk_run hp (f := ls.length) (i := 0) (by omega) (by omega) h0
  obtain ⟨j, q1, q2, q3, q4, q5⟩ := h2 k (by omega) hk
  obtain ⟨r1,r2⟩ := bt_run (ls := ls) (bs := (brk ls b 0).1) (ats := ats) (n := ls.length) (j := j) (by rcases q4 with h|h;exact .inl h;exact .inr h) (k - j) (by omega) fun m p1 p2=>q5 m p1 (by omega)
  rw [show j + (k - j) = k by omega] at r1 r2
  have h3 := fit_sum hp (k := k + 1 - j) (i := j) hb q3
  rw [show k + 1 - j = (k - j) + 1 by omega, smL, show j + (k - j) = k by omega] at h3
  have h4 := fit_each hp (k := k - j) (i := j) (b := b) (by omega)
  rw [show j + (k - j) = k by omega] at h4
  refine ⟨?_, h4⟩
  rw [gS_ln hk, r1]
  show atT ls (brk ls b 0).1 k + gL ls k - atT ls (brk ls b 0).1 j ≤ b
  rw [r2]
  omega
theorem too_long {ls : List Int} {b : Int} (he : (breR b ls).2 ≠ 0) : (breR b ls).2 = 22 ∧ ∃ k,k < ls.length ∧ b < gL ls k := by
  have h0 : (brk ls b 0).2 ≠ 0 := fun h => he (by unfold breR; rw [if_pos h])
  exact ⟨by unfold breR; rw [if_neg h0], brk_22 (f := ls.length) (by omega) (by omega) h0⟩
end Go.Proofs.YtonmienclploaaaGreatDoor
