/-
  A longer chain (plain).
-/
import Derived.Test.YtdglbjjenihdlaaDoorQN22
set_option linter.unusedSimpArgs false
set_option linter.unusedVariables false
namespace Go.Proofs.YtdglbjjenihdlaaDoor
theorem insP_at : ∀ {l : List P6} {x : P6} {m : List P6},Ris l → insP l x = some m → ∃ j,j ≤ l.length ∧ m = l.take j ++ x :: l.drop j
  | [], x, m, _, h => by
    simp only [insP, Option.some.injEq] at h
    subst h
    exact ⟨0, Nat.le_refl _, rfl⟩
  | y :: r, x, m, hl, h => by
    rw [insP] at h
    split at h
    · cases hi : insP r x with
      | none => rw [hi] at h; cases h
      | some q =>
        rw [hi] at h
        simp only [Option.map_some, Option.some.injEq] at h
        subst h
        obtain ⟨j, h1, h2⟩ := insP_at (List.pairwise_cons.1 hl).2 hi
        refine ⟨j + 1, by simp only [List.length_cons]; omega, ?_⟩
        rw [h2]
        rfl
    · split at h
      · cases h
      · simp only [Option.some.injEq] at h
        subst h
        exact ⟨0, Nat.zero_le _, rfl⟩
theorem srtF_app (o : Option (List P6)) (a b : List P6) : srtF o (a ++ b) = srtF (srtF o a) b := by
  unfold srtF
  rw [List.foldl_append]
theorem srtP_snoc {l : List P6} {x : P6} {m : List P6} (h : srtP (l ++ [x]) = some m) : ∃ q,srtP l = some q ∧ insP q x = some m := by
  unfold srtP at h
  rw [srtF_app] at h
  change (srtF (some []) l).bind (insP · x) = some m at h
  cases hq : srtF (some []) l with
  | none => rw [hq] at h; cases h
  | some q => rw [hq] at h; exact ⟨q, hq, h⟩
theorem ch_more {g : P6} {n : Nat} (hn : 1 ≤ n) (h64 : n < 64) (h : (chR g (n + 1 : Nat)).2 = 0) : ∃ j,j ≤ n ∧ (chR g n).2 = 0 ∧ (chR g n).1.length = n ∧ (chR g (n + 1 : Nat)).1.length = n + 1 ∧ (∃ x,(chR g (n + 1 : Nat)).1 = (chR g n).1.take j ++ x :: (chR g n).1.drop j) ∧ (chR g (n + 1 : Nat)).1.Nodup := by
  unfold chR at h ⊢
  have hb : Bd6 576 g := by
    by_cases hb : Bd6 576 g
    · exact hb
    · rw [if_neg (fun k => hb k.1)] at h; simp at h
  rw [if_pos ⟨hb, by omega, by omega⟩] at h ⊢
  rw [if_pos ⟨hb, by omega, by omega⟩]
  rw [Int.toNat_natCast] at h ⊢
  rw [Int.toNat_natCast]
  cases hl : chL g (n + 1) with
  | none => rw [hl] at h; simp at h
  | some l =>
    rw [hl] at h
    simp only [] at h ⊢
    cases hs : srtP l with
    | none => rw [hs] at h; simp at h
    | some m =>
      simp only []
      rw [chL] at hl
      cases hk : chL g n with
      | none => rw [hk] at hl; cases hl
      | some k =>
        rw [hk] at hl
        simp only [Option.bind_some] at hl
        cases he : chE g n with
        | none => rw [he] at hl; cases hl
        | some x =>
          rw [he] at hl
          simp only [Option.map_some, Option.some.injEq] at hl
          subst hl
          obtain ⟨q, hq, hi⟩ := srtP_snoc hs
          simp only [hq]
          obtain ⟨g1, g2⟩ := srtP_some hq
          obtain ⟨g3, g4⟩ := srtP_some hs
          obtain ⟨j, j1, j2⟩ := insP_at g1 hi
          have hkl := (chL_len hk).1
          have hql : q.length = n := by rw [g2.length_eq, hkl]
          refine ⟨j, by omega, trivial, hql, ?_, ⟨x, j2⟩, g3.nodup⟩
          rw [g4.length_eq, List.length_append, hkl]
          rfl
theorem put_at {q : List P6} {x : P6} {j : Nat} (hj : j ≤ q.length) (i : Nat) (hi : i < q.length + 1) : gP (q.take j ++ x :: q.drop j) i = if i < j then gP q i else if i = j then x else gP q (i - 1) := by
  unfold gP
  rw [List.getD_eq_getElem?_getD, List.getElem?_append, List.length_take, Nat.min_eq_left hj]
  by_cases h1 : i < j
  · rw [if_pos h1, if_pos h1, List.getElem?_take, if_pos h1, ← List.getD_eq_getElem?_getD]
  · rw [if_neg h1, if_neg h1]
    by_cases h2 : i = j
    · rw [if_pos h2, h2, Nat.sub_self]; rfl
    · rw [if_neg h2]
      obtain ⟨k, rfl⟩ : ∃ k, i = j + (k + 1) := ⟨i - j - 1, by omega⟩
      rw [show j + (k + 1) - j = k + 1 by omega,List.getElem?_cons_succ,List.getElem?_drop,List.getD_eq_getElem?_getD]
      rfl
theorem walk_more {q m : List P6} {n j : Nat} (hj : j ≤ n) (hq : q.length = n) (hm : ∃ x,m = q.take j ++ x :: q.drop j) (hd : m.Nodup) {i : Nat} (hi : i < n + 1) :
    (i < j → gP q i = gP m i) ∧ (i = j → i < n → gP q i ≠ gP m i) ∧ (j < i → gP q (i - 1) = gP m i) := by
  obtain ⟨x, e⟩ := hm
  have hl : m.length = n + 1 := by rw [e];simp only [List.length_append,List.length_take,List.length_cons,List.length_drop];omega
  have key := fun i hi => put_at (q := q) (x := x) (j := j) (by omega) i hi
  rw [← e, hq] at key
  refine ⟨fun h => ?_, fun h h2 => ?_, fun h => ?_⟩
  · rw [key i hi, if_pos h]
  · intro k
    have h3 := key (i + 1) (by omega)
    rw [if_neg (by omega), if_neg (by omega), Nat.add_sub_cancel, k] at h3
    unfold gP at h3
    rw [List.getD_eq_getElem?_getD,List.getD_eq_getElem?_getD,List.getElem?_eq_getElem (by omega),List.getElem?_eq_getElem (by omega)] at h3
    have h4 := (List.getElem_inj hd).1 (show m[i + 1] = m[i] from h3)
    omega
  · rw [key i hi, if_neg (by omega), if_neg (by omega)]
end Go.Proofs.YtdglbjjenihdlaaDoor
