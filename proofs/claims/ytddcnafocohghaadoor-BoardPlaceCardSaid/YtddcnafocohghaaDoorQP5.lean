/-
  Plain: when a chord has a result, and which.
-/
import Derived.Test.YtddcnafocohghaaDoorQP4
set_option linter.unusedSimpArgs false
set_option linter.unusedVariables false
namespace Go.Proofs.YtddcnafocohghaaDoor
theorem lexB_irr : ∀ a : List Int, lexB a a = false
  | [] => rfl
  | x :: a => by simp [lexB, lexB_irr a]
theorem lexB_asym : ∀ {a b : List Int}, lexB a b = true → lexB b a = false
  | [], _, h => by simp [lexB] at h
  | _ :: _, [], h => by simp [lexB] at h
  | x :: a, y :: b, h => by
    unfold lexB at h ⊢
    by_cases e : x = y
    · subst e
      simp only [ne_eq, not_true_eq_false, if_false] at h ⊢
      exact lexB_asym h
    · rw [if_pos e] at h
      rw [if_pos (Ne.symm e)]
      simp only [decide_eq_true_eq] at h
      simp only [decide_eq_false_iff_not]
      omega
theorem prodL_sorted : ∀ {L : List (List Int)}, (∀ l ∈ L, l.Pairwise (· < ·)) → (prodL L).Pairwise fun a b => lexB a b = true
  | [], _ => by simp [prodL]
  | l :: r, h => by
    have ih := prodL_sorted fun m hm => h m (List.mem_cons_of_mem _ hm)
    have hl := h l (by simp)
    unfold prodL
    clear h
    induction l with
    | nil => simp
    | cons x l ih2 =>
      have h1 := List.pairwise_cons.1 hl
      rw [List.flatMap_cons, List.pairwise_append]
      refine ⟨?_, ih2 h1.2, fun a ha b hb => ?_⟩
      · rw [List.pairwise_map]
        exact ih.imp fun {a b} hab => by simp [lexB, hab]
      · obtain ⟨s, _, rfl⟩ := List.mem_map.1 ha
        obtain ⟨y, hy, hb⟩ := List.mem_flatMap.1 hb
        obtain ⟨t, _, rfl⟩ := List.mem_map.1 hb
        have := h1.1 y hy
        unfold lexB
        rw [if_pos (by omega)]
        simpa using this
theorem find_first {α : Type} {R : α → α → Prop} {p : α → Bool} : ∀ {l : List α} {x y : α}, l.Pairwise R → l.find? p = some x → y ∈ l → p y = true → x = y ∨ R x y
  | [], _, _, _, h, _, _ => by cases h
  | a :: l, x, y, hl, h, hy, hp => by
    have h1 := List.pairwise_cons.1 hl
    rw [List.find?_cons] at h
    split at h
    · simp only [Option.some.injEq] at h
      subst h
      rcases List.mem_cons.1 hy with e | e
      · exact .inl e.symm
      · exact .inr (h1.1 y e)
    · rename_i hn
      rcases List.mem_cons.1 hy with e | e
      · subst e; rw [hp] at hn; cases hn
      · exact find_first h1.2 h e hp
def prodN (L : List (List Int)) : Nat := (L.map List.length).foldr (· * ·) 1
theorem prodN_pos : ∀ {L : List (List Int)}, (∀ l ∈ L, l ≠ []) → 1 ≤ prodN L
  | [], _ => Nat.le_refl _
  | l :: r, h => by
    have h1 := prodN_pos fun m hm => h m (List.mem_cons_of_mem _ hm)
    have h2 : 1 ≤ l.length := List.length_pos_iff.2 (h l (by simp))
    exact Nat.mul_le_mul h2 h1
theorem cap_foldl : ∀ {L : List (List Int)}, (∀ l ∈ L, l ≠ []) → ∀ n : Nat, n ≤ 10001 → L.foldl capI (n : Int) = ((min (n * prodN L) 10001 : Nat) : Int)
  | [], _, n, hn => by simp [prodN]; omega
  | l :: r, h, n, hn => by
    have hr := fun m hm => h m (List.mem_cons_of_mem _ hm)
    have h1 := prodN_pos hr
    rw [List.foldl_cons]
    have e : capI (n : Int) l = ((min (n * l.length) 10001 : Nat) : Int) := by
      unfold capI
      rw [← Int.natCast_mul]
      split <;> omega
    rw [e, cap_foldl hr _ (Nat.min_le_right _ _)]
    have e2 : prodN (l :: r) = l.length * prodN r := rfl
    rw [e2, ← Nat.mul_assoc]
    generalize n * l.length = a
    generalize prodN r = q at h1
    congr 1
    by_cases ha : a ≤ 10001
    · rw [Nat.min_eq_left ha]
    · rw [Nat.min_eq_right (show 10001 ≤ a by omega)]
      have q1 : 10001 * 1 ≤ 10001 * q := Nat.mul_le_mul_left _ h1
      have q2 : 10001 * q ≤ a * q := Nat.mul_le_mul_right _ (by omega)
      omega
theorem limC_iff {L : List (List Int)} (h : ∀ l ∈ L, l ≠ []) : limC L ≤ 10000 ↔ prodN L ≤ 10000 := by
  have := cap_foldl h 1 (by omega)
  unfold limC
  rw [show (1 : Int) = ((1 : Nat) : Int) from rfl, this, Nat.one_mul]
  omega
theorem prodN_append : ∀ (A B : List (List Int)), prodN (A ++ B) = prodN A * prodN B
  | [], B => by simp [prodN]
  | l :: A, B => by
    have := prodN_append A B
    unfold prodN at this ⊢
    simp only [List.cons_append, List.map_cons, List.foldr_cons, this, Nat.mul_assoc]
structure Opt (b : Bd) (vs : List P6) : Prop where
  ok : ∀ v ∈ vs, vOk v = true
  some : ∀ v ∈ vs, findL b v ≠ []
  few : vs.length ≤ 12
  lim : prodN (optL b vs) ≤ 10000
theorem all_iff {vs : List P6} : vs.all vOk = true ↔ ∀ v ∈ vs, vOk v = true := List.all_eq_true
theorem empty_iff {b : Bd} {vs : List P6} : (optL b vs).any (fun l => l.isEmpty) = false ↔ ∀ v ∈ vs, findL b v ≠ [] := by
  rw [List.any_eq_false]
  unfold optL
  constructor
  · intro h v hv e
    have := h _ (List.mem_map_of_mem hv)
    rw [e] at this; exact this rfl
  · intro h l hl
    obtain ⟨v, hv, rfl⟩ := List.mem_map.1 hl
    have := h v hv
    cases hh : findL b v with
    | nil => exact absurd hh this
    | cons x l => simp
theorem optR_cases (b : Bd) (vs : List P6) : (Opt b vs ∧ optR b vs = (optL b vs, 0)) ∨
    ((optR b vs).2 = 1 ∧ ¬ ∀ v ∈ vs, vOk v = true) ∨ ((optR b vs).2 = 4 ∧ (∀ v ∈ vs, vOk v = true) ∧ ¬ ∀ v ∈ vs, findL b v ≠ []) ∨
    ((optR b vs).2 = 2 ∧ (∀ v ∈ vs, vOk v = true) ∧ (∀ v ∈ vs, findL b v ≠ []) ∧ ¬ (vs.length ≤ 12 ∧ prodN (optL b vs) ≤ 10000)) := by
  unfold optR
  by_cases h1 : vs.all vOk = false
  · rw [if_pos h1]
    refine .inr (.inl ⟨rfl, fun h => ?_⟩)
    rw [all_iff.2 h] at h1; cases h1
  · have h1' := all_iff.1 (Bool.not_eq_false _ ▸ h1)
    rw [if_neg h1]
    by_cases h2 : (optL b vs).any (fun l => l.isEmpty) = true
    · rw [if_pos h2]
      refine .inr (.inr (.inl ⟨rfl, h1', fun h => ?_⟩))
      rw [empty_iff.2 h] at h2; cases h2
    · have h2' := empty_iff.1 (Bool.not_eq_true _ ▸ h2)
      rw [if_neg h2]
      have hlim : limC (optL b vs) ≤ 10000 ↔ prodN (optL b vs) ≤ 10000 := limC_iff fun l hl => by
        obtain ⟨v, hv, rfl⟩ := List.mem_map.1 hl
        exact h2' v hv
      by_cases h3 : vs.length > 12 ∨ 10000 < limC (optL b vs)
      · rw [if_pos h3]
        exact .inr (.inr (.inr ⟨rfl, h1', h2', fun h => by rw [← hlim] at h; omega⟩))
      · rw [if_neg h3]
        exact .inl ⟨⟨h1', h2', by omega, hlim.1 (by omega)⟩, rfl⟩
theorem fits_prod {b : Bd} (hg : Good b) {vs : List P6} (hv : ∀ v ∈ vs, vOk v = true) {t : List Int} : fitsP b vs t ↔ t ∈ prodL (optL b vs) ∧ goodC b t = true := by
  unfold fitsP goodC
  rw [prodL_mem, decide_eq_true_eq]
  unfold optL
  constructor
  · rintro ⟨h1, h2, h3⟩
    refine ⟨⟨by rw [List.length_map]; exact h2, fun i h h4 => ?_⟩, h1⟩
    rw [List.length_map] at h
    rw [List.getElem_map, findL_iff hg (hv _ (List.getElem_mem _))]
    have := h3 i h
    simpa [h, h4] using this
  · rintro ⟨⟨h2, h3⟩, h1⟩
    rw [List.length_map] at h2
    refine ⟨h1, h2, fun i h => ?_⟩
    have h4 : i < t.length := by omega
    have := h3 i (by rw [List.length_map]; exact h) h4
    rw [List.getElem_map, findL_iff hg (hv _ (List.getElem_mem _))] at this
    simpa [h, h4] using this
theorem optL_sorted {b : Bd} (hg : Good b) (vs : List P6) : ∀ l ∈ optL b vs, l.Pairwise (· < ·) := fun l hl => by
  obtain ⟨v, _, rfl⟩ := List.mem_map.1 hl
  exact findL_rise hg v
theorem chordR_cases {b : Bd} (hb : bdB b = true) (vs : List P6) :
    (∃ l, chordR b vs = (l, 0) ∧ Opt b vs ∧ fitsP b vs l ∧ ∀ t, fitsP b vs t → l = t ∨ lexB l t = true) ∨
    (chordR b vs = ([], 20) ∧ Opt b vs ∧ ∀ t, ¬ fitsP b vs t) ∨ (chordR b vs = ([], 1) ∧ ¬ ∀ v ∈ vs, vOk v = true) ∨
    (chordR b vs = ([], 4) ∧ (∀ v ∈ vs, vOk v = true) ∧ ¬ ∀ v ∈ vs, findL b v ≠ []) ∨
    (chordR b vs = ([], 2) ∧ (∀ v ∈ vs, vOk v = true) ∧ (∀ v ∈ vs, findL b v ≠ []) ∧ ¬ (vs.length ≤ 12 ∧ prodN (optL b vs) ≤ 10000)) := by
  have hg := bdB_iff.1 hb
  unfold chordR
  rw [if_pos hb]
  rcases optR_cases b vs with ⟨ho, h⟩ | ⟨h, h1⟩ | ⟨h, h1⟩ | ⟨h, h1⟩
  · rw [h]
    simp only [if_true]
    cases hf : (prodL (optL b vs)).find? (goodC b) with
    | none =>
      refine .inr (.inl ⟨rfl, ho, fun t ht => ?_⟩)
      have h2 := (fits_prod hg ho.ok).1 ht
      have := List.find?_eq_none.1 hf t h2.1
      exact this h2.2
    | some l =>
      refine .inl ⟨l, rfl, ho, (fits_prod hg ho.ok).2 ⟨List.mem_of_find?_eq_some hf, List.find?_some hf⟩, fun t ht => ?_⟩
      have h2 := (fits_prod hg ho.ok).1 ht
      exact find_first (prodL_sorted (optL_sorted hg vs)) hf h2.1 h2.2
  · rw [if_neg (by rw [h]; decide), h]; exact .inr (.inr (.inl ⟨rfl, h1⟩))
  · rw [if_neg (by rw [h]; decide), h]; exact .inr (.inr (.inr (.inl ⟨rfl, h1⟩)))
  · rw [if_neg (by rw [h]; decide), h]; exact .inr (.inr (.inr (.inr ⟨rfl, h1⟩)))
theorem chordR_ok {b : Bd} (hb : bdB b = true) {vs : List P6} (ho : Opt b vs) {t : List Int} (ht : fitsP b vs t) : (chordR b vs).2 = 0 := by
  rcases chordR_cases hb vs with ⟨l, h, _⟩ | ⟨_, _, h⟩ | ⟨_, h⟩ | ⟨_, _, h⟩ | ⟨_, _, _, h⟩
  · rw [h]
  · exact absurd ht (h t)
  · exact absurd ho.ok h
  · exact absurd ho.some h
  · exact absurd ⟨ho.few, ho.lim⟩ h
theorem chordR_val {b : Bd} {vs : List P6} (h : (chordR b vs).2 = 0) : bdB b = true := by
  unfold chordR at h
  split at h
  · assumption
  · cases h
theorem chordR_get {b : Bd} {vs : List P6} (h : (chordR b vs).2 = 0) : ∃ l, chordR b vs = (l, 0) ∧ Opt b vs ∧ fitsP b vs l ∧ ∀ t, fitsP b vs t → l = t ∨ lexB l t = true := by
  rcases chordR_cases (chordR_val h) vs with h1 | ⟨h1, _⟩ | ⟨h1, _⟩ | ⟨h1, _⟩ | ⟨h1, _⟩
  · exact h1
  all_goals (rw [h1] at h; cases h)
theorem chord_fewer {b : Bd} {vs : List P6} (h : (chordR b vs).2 = 0) {d : Nat} (hd : d < vs.length) : (chordR b (vs.take d ++ vs.drop (d + 1))).2 = 0 := by
  obtain ⟨l, _, ho, hf, _⟩ := chordR_get h
  have hb := chordR_val h
  have hg := bdB_iff.1 hb
  have e1 : vs.take d ++ vs.drop (d + 1) = vs.eraseIdx d := (List.eraseIdx_eq_take_drop_succ vs d).symm
  rw [e1]
  have hsub : ∀ v ∈ vs.eraseIdx d, v ∈ vs := fun v hv => (List.eraseIdx_sublist vs d).subset hv
  have hP := hf.2.1
  have hsp : l.eraseIdx d = l.take d ++ l.drop (d + 1) := List.eraseIdx_eq_take_drop_succ l d
  refine chordR_ok hb (t := l.eraseIdx d) ⟨fun v hv => ho.ok v (hsub v hv), fun v hv => ho.some v (hsub v hv), by rw [List.length_eraseIdx]; split <;> have := ho.few <;> omega, ?_⟩ ⟨hf.1.sub hg (List.eraseIdx_sublist l d), by rw [List.length_eraseIdx, List.length_eraseIdx, hP], fun i hi => ?_⟩
  · have h1 := ho.lim
    have e2 : vs = vs.take d ++ vs[d] :: vs.drop (d + 1) := by
      rw [List.getElem_cons_drop]; simp
    have h2 : optL b vs = optL b (vs.take d) ++ findL b vs[d] :: optL b (vs.drop (d + 1)) := by
      unfold optL
      rw [← List.map_cons, ← List.map_append, ← e2]
    rw [← e1]
    have h3 : optL b (vs.take d ++ vs.drop (d + 1)) = optL b (vs.take d) ++ optL b (vs.drop (d + 1)) := by simp [optL]
    rw [h2, prodN_append] at h1
    rw [h3, prodN_append]
    have h4 : prodN (findL b vs[d] :: optL b (vs.drop (d + 1))) = (findL b vs[d]).length * prodN (optL b (vs.drop (d + 1))) := rfl
    rw [h4] at h1
    have h5 : 1 ≤ (findL b vs[d]).length := List.length_pos_iff.2 (ho.some _ (List.getElem_mem hd))
    have h6 : 1 * prodN (optL b (vs.drop (d + 1))) ≤ (findL b vs[d]).length * prodN (optL b (vs.drop (d + 1))) := Nat.mul_le_mul_right _ h5
    rw [Nat.one_mul] at h6
    exact Nat.le_trans (Nat.mul_le_mul_left _ h6) h1
  · rw [List.length_eraseIdx, if_pos hd] at hi
    have key : ∀ {α : Type} (m : List α) (x : α), (m.eraseIdx d).getD i x = m.getD (if i < d then i else i + 1) x := fun m x => by
      simp only [List.getD_eq_getElem?_getD, List.getElem?_eraseIdx]
      split <;> rfl
    rw [key, key]
    split
    · exact hf.2.2 i (by omega)
    · exact hf.2.2 (i + 1) (by omega)
end Go.Proofs.YtddcnafocohghaaDoor
