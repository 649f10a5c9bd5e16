/-
  Plain: what the program answers is what the reference answers.
-/
import Derived.Test.YthikkiacgmgdhaaQM23
set_option linter.unusedSimpArgs false
set_option linter.unusedVariables false
namespace Go.Proofs.Ythikkiacgmgdhaa
open Go.Ab

theorem hasB_iff {l : List Int} {x : Int} : hasB l x = true ↔ x ∈ l := by
  unfold hasB
  simp [List.any_eq_true]
theorem gi_mem {l : List Int} {i : Nat} (h : i < l.length) : gi l i ∈ l := by
  simp [gi, h]
theorem mem_gi {l : List Int} {x : Int} (h : x ∈ l) : ∃ i, i < l.length ∧ gi l i = x := by
  obtain ⟨i, hi, rfl⟩ := List.getElem_of_mem h
  exact ⟨i, hi, by simp [gi, hi]⟩
theorem mkN_iff (M : Nat → Bool) (a b : List Int) (k : Nat) : ∀ i, i ≤ a.length → (mkN M a b i k = true ↔ M k = true ∨ ∃ j, j < i ∧ gi a j = (k : Int) ∧ hasB b (gi a j) = true)
  | 0, _ => by simp [mkN]
  | i + 1, h => by
    rw [mkN]
    have ih := mkN_iff M a b k i (by omega)
    by_cases hc : hasB b (gi a i) = true ∧ (k : Int) = gi a i
    · rw [if_pos hc]
      simp only [true_iff]
      exact .inr ⟨i, by omega, hc.2.symm, hc.1⟩
    · rw [if_neg hc, ih]
      constructor
      · rintro (h1 | ⟨j, h1, h2⟩)
        · exact .inl h1
        · exact .inr ⟨j, by omega, h2⟩
      · rintro (h1 | ⟨j, h1, h2, h3⟩)
        · exact .inl h1
        · by_cases e : j = i
          · subst e; exact absurd ⟨h3, h2.symm⟩ hc
          · exact .inr ⟨j, by omega, h2, h3⟩
theorem mkN_all (M : Nat → Bool) (a b : List Int) (k : Nat) : mkN M a b a.length k = true ↔ M k = true ∨ (hasB a k = true ∧ hasB b k = true) := by
  rw [mkN_iff M a b k _ (Nat.le_refl _)]
  constructor
  · rintro (h | ⟨j, h1, h2, h3⟩)
    · exact .inl h
    · rw [h2] at h3
      exact .inr ⟨hasB_iff.2 (h2 ▸ gi_mem h1), h3⟩
  · rintro (h | ⟨h1, h2⟩)
    · exact .inl h
    · obtain ⟨i, hi, e⟩ := mem_gi (hasB_iff.1 h1)
      exact .inr ⟨i, hi, e, by rw [e]; exact h2⟩
theorem mkR_mem {M : Nat → Bool} {n : Nat} {x : Int} : x ∈ mkR M n ↔ ∃ k : Nat, k < n ∧ M k = true ∧ x = k := by
  unfold mkR
  rw [List.mem_map]
  constructor
  · rintro ⟨k, h1, rfl⟩
    obtain ⟨h2, h3⟩ := List.mem_filter.1 h1
    exact ⟨k, List.mem_range.1 h2, h3, rfl⟩
  · rintro ⟨k, h1, h2, rfl⟩
    exact ⟨k, List.mem_filter.2 ⟨List.mem_range.2 h1, h2⟩, rfl⟩
theorem mkR_sorted (M : Nat → Bool) (n : Nat) : (mkR M n).Pairwise (· < ·) := by
  unfold mkR
  rw [List.pairwise_map]
  refine (List.Pairwise.sublist List.filter_sublist (List.pairwise_lt_range (n := n))).imp fun {a b} h => ?_
  show (a : Int) < (b : Int)
  omega
theorem int_sorted_eq : ∀ {l1 l2 : List Int}, l1.Pairwise (· < ·) → l2.Pairwise (· < ·) → (∀ c, c ∈ l1 ↔ c ∈ l2) → l1 = l2
  | [], [], _, _, _ => rfl
  | [], y :: l2, _, _, h => by have := (h y).2 (by simp); simp at this
  | x :: l1, [], _, _, h => by have := (h x).1 (by simp); simp at this
  | x :: l1, y :: l2, h1, h2, h => by
    obtain ⟨a1, b1⟩ := List.pairwise_cons.1 h1
    obtain ⟨a2, b2⟩ := List.pairwise_cons.1 h2
    have exy : x = y := by
      rcases List.mem_cons.1 ((h x).1 (by simp)) with e | e
      · exact e
      rcases List.mem_cons.1 ((h y).2 (by simp)) with e' | e'
      · exact e'.symm
      have h3 := a2 x e
      have h4 := a1 y e'
      omega
    subst exy
    congr 1
    refine int_sorted_eq b1 b2 fun c => ⟨fun hc => ?_, fun hc => ?_⟩
    · rcases List.mem_cons.1 ((h c).1 (by simp [hc])) with e | e
      · subst e; have := a1 c hc; omega
      · exact e
    · rcases List.mem_cons.1 ((h c).2 (by simp [hc])) with e | e
      · subst e; have := a2 c hc; omega
      · exact e
theorem risB_sorted {n : Int} : ∀ {l : Int} {v : List Int}, risB n l v = true → v.Pairwise (· < ·) ∧ ∀ x ∈ v, l < x ∧ x < n
  | _, [], _ => ⟨List.Pairwise.nil, fun x h => by simp at h⟩
  | l, d :: r, h => by
    unfold risB at h
    split at h
    · cases h
    · obtain ⟨h1, h2⟩ := risB_sorted h
      refine ⟨List.Pairwise.cons (fun x hx => (h2 x hx).1) h1, fun x hx => ?_⟩
      rcases List.mem_cons.1 hx with rfl | hx
      · omega
      · have := h2 x hx; omega
theorem enB_ris {n : Int} {x : En} (h : enB n x = true) : x.v.Pairwise (· < ·) ∧ ∀ d ∈ x.v, 0 ≤ d ∧ d < n := by
  unfold enB at h
  simp only [Bool.and_eq_true] at h
  obtain ⟨h1, h2⟩ := risB_sorted h.2
  exact ⟨h1, fun d hd => by have := h2 d hd; omega⟩
theorem com_eq (n : Int) (a b : En) : comR n a b = rcomR n a b := by
  unfold comR rcomR
  by_cases h : cntB n = true ∧ enB n a = true ∧ enB n b = true
  · rw [if_pos h, if_pos h]
    congr 1
    have hn8 : n ≤ 8 := by have := h.1; unfold cntB at this; simp at this; omega
    have ha := enB_ris h.2.1
    refine int_sorted_eq (mkR_sorted _ _) ?_ fun c => ?_
    · unfold botL
      rw [List.take_length]
      exact List.Pairwise.sublist List.filter_sublist ha.1
    · rw [mkR_mem]
      unfold botL
      rw [List.take_length, List.mem_filter]
      constructor
      · rintro ⟨k, h1, h2, rfl⟩
        rw [mkN_all] at h2
        rcases h2 with h2 | ⟨h2, h3⟩
        · cases h2
        · exact ⟨hasB_iff.1 h2, h3⟩
      · rintro ⟨h1, h2⟩
        have := ha.2 c h1
        refine ⟨c.toNat, by omega, ?_, by omega⟩
        rw [mkN_all, Int.toNat_of_nonneg (by omega)]
        exact .inr ⟨hasB_iff.2 h1, h2⟩
  · rw [if_neg h, if_neg h]

theorem lieM_iff (js : List Jn) (cs : List Cl) (k : Nat) : ∀ i, i ≤ cs.length → (lieM js cs i k = true ↔ ∃ c ∈ cs.take i, lie1 js c k = true)
  | 0, _ => by simp [lieM]
  | i + 1, h => by
    have ih := lieM_iff js cs k i (by omega)
    have hce : cs.toArray[i]! = cs[i] := by simp [show i < cs.length by omega]
    rw [lieM, hce, List.take_succ_eq_append_getElem (by omega)]
    by_cases hb : (entOf js cs[i].s cs[i].a).b = (entOf js cs[i].s cs[i].b).b
    · rw [if_pos hb, mkN_all, ih]
      constructor
      · rintro (⟨c, h1, h2⟩ | ⟨h1, h2⟩)
        · exact ⟨c, List.mem_append.2 (.inl h1), h2⟩
        · exact ⟨cs[i], List.mem_append.2 (.inr (by simp)), by unfold lie1; simp [hb, h1, h2]⟩
      · rintro ⟨c, h1, h2⟩
        rcases List.mem_append.1 h1 with h3 | h3
        · exact .inl ⟨c, h3, h2⟩
        · simp only [List.mem_singleton] at h3
          subst h3
          unfold lie1 at h2
          simp only [Bool.and_eq_true] at h2
          exact .inr ⟨h2.1.2, h2.2⟩
    · rw [if_neg hb, ih]
      constructor
      · rintro ⟨c, h1, h2⟩
        exact ⟨c, List.mem_append.2 (.inl h1), h2⟩
      · rintro ⟨c, h1, h2⟩
        rcases List.mem_append.1 h1 with h3 | h3
        · exact ⟨c, h3, h2⟩
        · simp only [List.mem_singleton] at h3
          subst h3
          unfold lie1 at h2
          simp only [Bool.and_eq_true, decide_eq_true_eq] at h2
          exact absurd h2.1.1 hb
theorem liesB_iff {js : List Jn} {cs : List Cl} {d : Int} : liesB js cs d = true ↔ ∃ c ∈ cs, lie1 js c d = true := by
  unfold liesB; rw [List.any_eq_true]
theorem entOf_en {n : Int} {js : List Jn} (hv : jsB n js = true) {c : Cl} (hc : ClOk js c) : enB n (entOf js c.s c.a) = true ∧ enB n (entOf js c.s c.b) = true := by
  have hall : allJ n js = true := by unfold jsB at hv; simp at hv; exact hv.2
  obtain ⟨i, k, x, y, rfl, h1, h2, hx, hy, _⟩ := hc
  simp only [entOf, Int.toNat_natCast, hx, hy, Option.getD_some]
  exact ⟨((jnB_facts (allJ_gj hall (by omega))).1 y (lookE_mem hy).1).2, ((jnB_facts (allJ_gj hall h2)).1 x (lookE_mem hx).1).2⟩
theorem lia_eq (n : Int) (js : List Jn) : liaR n js = rliR n js := by
  unfold liaR rliR
  by_cases hv : jsB n js = true
  · rw [if_pos hv, if_pos hv]
    congr 1
    have hok := clsL_ok hv
    rw [clsL_rcA hv] at hok ⊢
    have hn8 : n ≤ 8 := by unfold jsB cntB at hv; simp at hv; omega
    refine int_sorted_eq (mkR_sorted _ _) (mkR_sorted _ _) fun c => ?_
    rw [mkR_mem, mkR_mem]
    constructor
    · rintro ⟨k, h1, h2, rfl⟩
      rw [lieM_iff js _ k _ (Nat.le_refl _), List.take_length] at h2
      obtain ⟨c, hc, h3⟩ := h2
      have hen := (entOf_en hv (hok c hc)).1
      have h4 := h3
      unfold lie1 at h4
      simp only [Bool.and_eq_true] at h4
      have := (enB_ris hen).2 k (hasB_iff.1 h4.1.2)
      exact ⟨k, by omega, liesB_iff.2 ⟨c, hc, h3⟩, rfl⟩
    · rintro ⟨k, h1, h2, rfl⟩
      refine ⟨k, by omega, ?_, rfl⟩
      rw [lieM_iff js _ k _ (Nat.le_refl _), List.take_length]
      exact liesB_iff.1 h2
  · rw [if_neg hv, if_neg hv]

theorem fstN_some {js : List Jn} {s : Int} {t : Tk} : ∀ {a : Nat}, fstN js s a = some t → ∃ b x, b < a ∧ lookE js s b = some x ∧ x.t = t
  | 0, h => by cases h
  | a + 1, h => by
    rw [fstN] at h
    cases hf : fstN js s a with
    | some u =>
      rw [hf] at h
      obtain ⟨b, x, h1, h2⟩ := fstN_some hf
      simp only [Option.some.injEq] at h
      subst h
      exact ⟨b, x, by omega, h2⟩
    | none =>
      rw [hf] at h
      simp only [Option.map_eq_some_iff] at h
      obtain ⟨x, h1, h2⟩ := h
      exact ⟨a, x, by omega, h1, h2⟩
theorem fstN_none {js : List Jn} {s : Int} : ∀ {a : Nat}, fstN js s a = none → ∀ b, b < a → lookE js s b = none
  | 0, _, b, hb => by omega
  | a + 1, h, b, hb => by
    rw [fstN] at h
    cases hf : fstN js s a with
    | some u => rw [hf] at h; cases h
    | none =>
      rw [hf] at h
      simp only [Option.map_eq_none_iff] at h
      by_cases e : b = a
      · subst e; exact h
      · exact fstN_none hf b (by omega)
theorem flatE_mem {js : List Jn} {x : En} : x ∈ flatE js ↔ ∃ i, i < js.length ∧ x ∈ (gj js i).e := by
  unfold flatE
  rw [List.mem_flatMap]
  constructor
  · rintro ⟨j, h1, h2⟩
    obtain ⟨i, hi, rfl⟩ := List.getElem_of_mem h1
    exact ⟨i, hi, by simpa [gj, hi] using h2⟩
  · rintro ⟨i, hi, h⟩
    exact ⟨js[i], by simp, by simpa [gj, hi] using h⟩
theorem tkEq_t {x y : En} (h : tkEq x y = true) : x.t = y.t := by
  unfold tkEq at h
  simp only [Bool.and_eq_true, decide_eq_true_eq] at h
  unfold En.t
  rw [h.1.1.1, h.1.1.2, h.1.2, h.2]
/-- No clash: entries of one section have one take. -/
theorem no_clash {n : Int} {js : List Jn} (hv : jsB n js = true) (hc : rcA js 15 = []) {s : Int} {a b : Nat} {x y : En} (hx : lookE js s a = some x) (hy : lookE js s b = some y) : x.t = y.t := by
  have hall : allJ n js = true := by unfold jsB at hv; simp at hv; exact hv.2
  have key : ∀ {a b : Nat} {x y : En}, a < b → lookE js s a = some x → lookE js s b = some y → x.t = y.t := fun {a b x y} hab hx hy => by
    refine tkEq_t ?_
    cases ht : tkEq x y with
    | true => rfl
    | false =>
      have hs := tk_secs ((jnB_facts (allJ_gj hall (lookE_lt hy))).1 y (lookE_mem hy).1).2
      rw [(lookE_mem hy).2] at hs
      have : (⟨s, a, b⟩ : Cl) ∈ rcA js 15 := rcA_mem.2 ⟨s.toNat, a, b, by omega, by omega, hab, lookE_lt hy, by
        rw [Int.toNat_of_nonneg (by omega)]; unfold hitAB; rw [hx, hy]; simp [ht], by rw [Int.toNat_of_nonneg (by omega)]⟩
      rw [hc] at this
      simp at this
  rcases Nat.lt_trichotomy a b with h | h | h
  · exact key h hx hy
  · subst h; rw [hx] at hy; cases hy; rfl
  · exact (key h hy hx).symm
theorem last_fst {n : Int} {js : List Jn} (hv : jsB n js = true) (hc : rcA js 15 = []) (s : Int) : lastT js s = fstN js s js.length := by
  have hall : allJ n js = true := by unfold jsB at hv; simp at hv; exact hv.2
  have hr := allJ_rise hall
  unfold lastT
  cases hf : (flatE js).reverse.find? fun x => decide (x.s = s) with
  | none =>
    rw [List.find?_eq_none] at hf
    cases hg : fstN js s js.length with
    | none => rfl
    | some t =>
      obtain ⟨b, x, h1, h2, _⟩ := fstN_some hg
      obtain ⟨m1, m2⟩ := lookE_mem h2
      exact absurd (hf x (by rw [List.mem_reverse]; exact flatE_mem.2 ⟨b, h1, m1⟩)) (by simp [m2])
  | some x =>
    have hm := List.mem_of_find?_eq_some hf
    have hs := List.find?_some hf
    simp only [decide_eq_true_eq] at hs
    rw [List.mem_reverse] at hm
    obtain ⟨i, hi, hxi⟩ := flatE_mem.1 hm
    have hx : lookE js s i = some x := by rw [← hs]; exact atE_some (hr i) hxi
    cases hg : fstN js s js.length with
    | none => rw [fstN_none hg i hi] at hx; cases hx
    | some t =>
      obtain ⟨b, y, h1, h2, h3⟩ := fstN_some hg
      rw [← h3, ← no_clash hv hc hx h2]
      rfl
theorem mrg_eq (n : Int) (js : List Jn) : mrgR n js = rmrgR n js := by
  unfold mrgR rmrgR
  by_cases hv : jsB n js = true
  · rw [if_pos hv, if_pos hv, clsL_rcA hv]
    by_cases hc : rcA js 15 = []
    · rw [if_pos hc, if_pos hc]
      congr 1
      have key : ∀ k, tkN js k = rmN js k := by
        intro k
        induction k with
        | zero => rfl
        | succ k ih =>
          rw [tkN, rmN, ih, show ((k : Int) + 1) = ((k + 1 : Nat) : Int) by omega, last_fst hv hc]
          cases fstN js (k + 1 : Nat) js.length <;> simp [optL]
      exact key 15
    · rw [if_neg hc, if_neg hc]
  · rw [if_neg hv, if_neg hv]
end Go.Proofs.Ythikkiacgmgdhaa
