/-
  Sorted keys.
-/
import Derived.Test.YtddcnafocohghaaDoorQK10
import Derived.Test.YtddcnafocohghaaDoorQB5
set_option linter.unusedSimpArgs false
set_option linter.unusedVariables false
namespace Go.Proofs.YtddcnafocohghaaDoor
open Go.Ab
theorem ltE_iff (x y : Ky) : ltE x y = true ↔ ltK x y := by
  have c1 : ∀ {a b : Int}, a < b → cmpI a b = -1 := fun h => if_pos h
  have c2 : ∀ {a b : Int}, b < a → cmpI a b = 1 := fun h => by unfold cmpI; rw [if_neg (by omega), if_pos h]
  have c3 : ∀ {a b : Int}, a = b → cmpI a b = 0 := fun h => by unfold cmpI; rw [if_neg (by omega), if_neg (by omega)]
  rw [show ltE x y = true ↔ cmpE x y < 0 by simp [ltE]]
  unfold cmpE or2 ltK
  rcases Int.lt_trichotomy x.x y.x with h | h | h
  · rw [c1 h]; simp; omega
  · rw [c3 h]
    rcases Int.lt_trichotomy x.row y.row with h3 | h3 | h3
    · rw [c1 h3]; simp; omega
    · rw [c3 h3]; simp; omega
    · rw [c2 h3]; simp; omega
  · rw [c2 h]; simp; omega
theorem swoE : Go.Sort.SWO ltE := by
  refine ⟨fun x => ?_, fun x y z h1 h2 => ?_, fun x y z h1 h2 => ?_⟩
  · cases h : ltE x x with
    | false => rfl
    | true => rw [ltE_iff] at h; exact absurd h (ltK_irr x)
  · rw [ltE_iff] at h1 h2 ⊢; exact ltK_trans h1 h2
  · cases h : ltE x z with
    | false => rfl
    | true =>
      have h1' : ¬ ltE x y = true := by simp [h1]
      have h2' : ¬ ltE y z = true := by simp [h2]
      rw [ltE_iff] at h h1' h2'
      unfold ltK at *
      omega
def sortK (l : List Ky) : List Ky := (Go.Sort.sort ltE l.toArray).toList
theorem sortK_perm (l : List Ky) : (sortK l).Perm l := by
  have h := (Go.Sort.sort_sorts ltE swoE l.toArray).1
  have h1 := h.1
  have h2 := h.2.2
  rw [show (Go.Sort.sort ltE l.toArray).extract 0 l.toArray.size = Go.Sort.sort ltE l.toArray by rw [← h1]; simp, show l.toArray.extract 0 l.toArray.size = l.toArray by simp] at h2
  exact h2
theorem sortK_sorted (l : List Ky) : (sortK l).Pairwise fun x y => ltE y x = false := by
  have h := Go.Sort.sort_sorts ltE swoE l.toArray
  have h1 := h.1.1
  have h2 := h.2
  unfold sortK
  rw [List.pairwise_iff_getElem]
  intro i j hi hj hij
  have := h2 i j (by omega) hij (by rw [← h1]; simpa using hj)
  simp only [Array.length_toList] at hi hj
  simpa [getElem!_pos, hi, hj] using this
theorem sortK_len (l : List Ky) : (sortK l).length = l.length := (sortK_perm l).length_eq
theorem sortK_lr {l : List Ky} (h : Apart l) : Lr (sortK l) := by
  have hap : Apart (sortK l) := by
    have hs : ∀ {a b : Ky}, ¬ (a.x = b.x ∧ a.row = b.row) → ¬ (b.x = a.x ∧ b.row = a.row) := fun h e => h ⟨e.1.symm, e.2.symm⟩
    exact ((sortK_perm l).pairwise_iff hs).2 h
  refine ((sortK_sorted l).and hap).imp fun {x y} h => ?_
  have h1 : ¬ ltK y x := by rw [← ltE_iff]; simp [h.1]
  by_cases h2 : ltK x y
  · exact h2
  · exact absurd (ltK_tri h.2 h2) h1
theorem keyD_apart {b : Bd} (h : Good b) {ids : List Int} (hd : diffP b ids) : Apart (ids.map (keyD b)) := by
  unfold Apart
  rw [List.pairwise_map]
  refine List.Pairwise.imp_of_mem (R := fun a b => a ≠ b) (fun {x y} hx hy hne e => ?_) hd.1
  have h1 := keyD_mem hd hx
  have h2 := keyD_mem hd hy
  have key : ∀ {l : List Ky}, Apart l → ∀ {k m : Ky}, k ∈ l → m ∈ l → k.x = m.x ∧ k.row = m.row → k = m := by
    intro l
    induction l with
    | nil => intro _ k m hk; cases hk
    | cons a l ih =>
      intro hl k m hk hm e
      have hl := List.pairwise_cons.1 hl
      rcases List.mem_cons.1 hk with e1 | k1 <;> rcases List.mem_cons.1 hm with e2 | m1
      · rw [e1, e2]
      · subst e1; exact absurd e (hl.1 m m1)
      · subst e2; exact absurd ⟨e.1.symm, e.2.symm⟩ (hl.1 k k1)
      · exact ih hl.2 k1 m1 e
  have := key h.apart h1.1 h2.1 e
  rw [← h1.2, ← h2.2, this] at hne
  exact hne rfl
theorem sortK_ord {b : Bd} (h : Good b) {ids : List Int} (hd : diffP b ids) : sortK (ids.map (keyD b)) = ordK b ids :=
  ordK_uniq h hd (sortK_lr (keyD_apart h hd)) fun k => (sortK_perm _).mem_iff
theorem elE_sort (l : List Ky) (i j : Nat) : elE (Go.Sort.sort ltE l.toArray) i j = kyE (sortK l) i j := by
  unfold elE kyE gk sortK
  congr 2
  simp [getElem!_def, Array.getElem?_toList, List.getD_eq_getElem?_getD]
  rfl
theorem elE_list (l : List Ky) (i j : Nat) : elE l.toArray i j = kyE l i j := by
  unfold elE kyE gk
  congr 2
  simp [getElem!_def, List.getD_eq_getElem?_getD]
  rfl
theorem ky_snoc (l : List Ky) (x : Ky) {i j : Nat} (h : i < l.length + 1) (hj : j < 9) : catE l.length (kyE l) (fun i j => nth (kyL x) (i * 9 + j)) i j = kyE (l ++ [x]) i j := by
  unfold catE kyE gk
  split
  · rename_i h1; simp [List.getElem?_append_left h1]
  · obtain rfl : i = l.length := by omega
    simp
theorem el_snoc (l : List Ky) (x : Ky) {i j : Nat} (h : i < l.length + 1) (hj : j < 9) : catE l.length (elE l.toArray) (fun i j => nth (elL x) (i * 9 + j)) i j = elE (l ++ [x]).toArray i j := by
  rw [elE_list]
  have e := ky_snoc l x h hj
  unfold catE at e ⊢
  simp only [elE_list]
  exact e
theorem ordK_x {b : Bd} (h : Good b) (ids : List Int) : ∀ i, i < (ordK b ids).length → 0 ≤ (gk (ordK b ids) i).x ∧ (gk (ordK b ids) i).x ≤ 1000 := fun i hi => by
  have := h.one _ (ordK_mem.1 (gk_mem hi)).1
  exact ⟨this.2.2.1, this.2.2.2.1⟩
theorem diff_len {b : Bd} (h : Good b) {c : List Int} (hd : diffP b c) : c.length ≤ 120 := by
  rw [← ordK_len h hd]
  unfold ordK
  refine Nat.le_trans (List.length_filter_le _ _) ?_
  rw [srtK_len]; exact h.len
def remK (b : Bd) (js : List Int) : List Ky := b.ks.filter fun k => decide (k.id ∉ js)
theorem keyOf_rem (b : Bd) (js : List Int) (id : Int) : keyOf (remK b js) id = if id ∈ js then none else keyOf b.ks id := by
  unfold remK keyOf
  rw [List.find?_filter]
  split
  · rename_i h
    rw [List.find?_eq_none]
    intro k _
    simp only [decide_eq_true_eq, Bool.and_eq_true, not_and]
    intro h1 h2
    exact h1 (h2 ▸ h)
  · rename_i h
    congr 1
    funext k
    by_cases e : k.id = id
    · simp [e, h]
    · simp [e]
theorem remK_snoc (b : Bd) (js : List Int) (id : Int) : (remK b js).filter (fun k => decide (k.id ≠ id)) = remK b (js ++ [id]) := by
  unfold remK
  rw [List.filter_filter]
  congr 1
  funext k
  simp only [List.mem_append, List.mem_singleton, not_or]
  by_cases e : k.id = id <;> by_cases e2 : k.id ∈ js <;> simp [e, e2]
theorem remK_rise {b : Bd} (h : Good b) (js : List Int) : (remK b js).Pairwise fun a c => a.id < c.id := h.rise.sublist List.filter_sublist
theorem take_gi {l : List Int} {i : Nat} (h : i < l.length) : l.take (i + 1) = l.take i ++ [gi l i] := by
  rw [List.take_add_one, List.getElem?_eq_getElem h]
  simp only [gi, List.getD_eq_getElem?_getD, List.getElem?_eq_getElem h, Option.getD_some, Option.toList_some]
theorem gi_mem {l : List Int} {i : Nat} (h : i < l.length) : gi l i ∈ l := by simp [gi, h]
theorem diff_snoc {b : Bd} {ids : List Int} {i : Nat} (h : i < ids.length) (hd : diffP b (ids.take i)) (h1 : gi ids i ∉ ids.take i) (h2 : (keyOf b.ks (gi ids i)).isSome = true) : diffP b (ids.take (i + 1)) := by
  rw [take_gi h]
  refine ⟨?_, fun id hi => ?_⟩
  · rw [List.nodup_append]
    exact ⟨hd.1, by simp, fun a ha c hc e => by simp at hc; subst hc; subst e; exact h1 ha⟩
  · rcases List.mem_append.1 hi with hi | hi
    · exact hd.2 id hi
    · simp at hi; subst hi; exact h2
theorem diff_not {b : Bd} {ids : List Int} {i : Nat} (h : i < ids.length) (hn : gi ids i ∈ ids.take i ∨ keyOf b.ks (gi ids i) = none) : ¬ diffP b ids := by
  rintro ⟨h1, h2⟩
  rcases hn with hn | hn
  · rw [← List.take_append_drop (i + 1) ids] at h1
    have h3 := (List.nodup_append.1 h1).1
    rw [take_gi h, List.nodup_append] at h3
    exact h3.2.2 _ hn _ (List.mem_singleton.2 rfl) rfl
  · have := h2 _ (gi_mem h)
    rw [hn] at this; cases this
end Go.Proofs.YtddcnafocohghaaDoor
