/-
  Plain: the clashes found and sorted are the reference's.
-/
import Derived.Test.YthikkiacgmgdhaaQM19
set_option linter.unusedSimpArgs false
set_option linter.unusedVariables false
namespace Go.Proofs.Ythikkiacgmgdhaa
open Go.Ab

def LtC (x y : Cl) : Prop := x.s < y.s ∨ (x.s = y.s ∧ (x.a < y.a ∨ (x.a = y.a ∧ x.b < y.b)))
theorem sorted_eq : ∀ {l1 l2 : List Cl}, l1.Pairwise LtC → l2.Pairwise LtC → (∀ c, c ∈ l1 ↔ c ∈ l2) → l1 = l2
  | [], [], _, _, _ => rfl
  | [], y :: l2, _, _, h => by have := (h y).2 (by simp); simp at this
  | x :: l1, [], _, _, h => by have := (h x).1 (by simp); simp at this
  | x :: l1, y :: l2, h1, h2, h => by
    obtain ⟨a1, b1⟩ := List.pairwise_cons.1 h1
    obtain ⟨a2, b2⟩ := List.pairwise_cons.1 h2
    have exy : x = y := by
      rcases List.mem_cons.1 ((h x).1 (by simp)) with e | e
      · exact e
      rcases List.mem_cons.1 ((h y).2 (by simp)) with e' | e'
      · exact e'.symm
      have h3 := a2 x e
      have h4 := a1 y e'
      unfold LtC at h3 h4
      omega
    subst exy
    congr 1
    refine sorted_eq b1 b2 fun c => ⟨fun hc => ?_, fun hc => ?_⟩
    · rcases List.mem_cons.1 ((h c).1 (by simp [hc])) with e | e
      · subst e
        have := a1 c hc
        unfold LtC at this; omega
      · exact e
    · rcases List.mem_cons.1 ((h c).2 (by simp [hc])) with e | e
      · subst e
        have := a2 c hc
        unfold LtC at this; omega
      · exact e

theorem rcI_mem {js : List Jn} {s : Int} {a : Nat} {c : Cl} : ∀ {k : Nat}, c ∈ rcI js s a k ↔ ∃ b, a < b ∧ b < a + 1 + k ∧ hitAB js s a b = true ∧ c = ⟨s, a, b⟩
  | 0 => by
    simp only [rcI, List.not_mem_nil, false_iff]
    rintro ⟨b, h1, h2, _⟩
    omega
  | k + 1 => by
    rw [rcI]
    by_cases hh : hitAB js s a (a + 1 + k) = true
    · rw [if_pos hh, List.mem_append, rcI_mem, List.mem_singleton]
      constructor
      · rintro (⟨b, h1, h2, h3, h4⟩ | h)
        · exact ⟨b, h1, by omega, h3, h4⟩
        · exact ⟨a + 1 + k, by omega, by omega, hh, h⟩
      · rintro ⟨b, h1, h2, h3, h4⟩
        by_cases e : b = a + 1 + k
        · subst e; exact .inr h4
        · exact .inl ⟨b, h1, by omega, h3, h4⟩
    · rw [if_neg hh, rcI_mem]
      constructor
      · rintro ⟨b, h1, h2, h3, h4⟩
        exact ⟨b, h1, by omega, h3, h4⟩
      · rintro ⟨b, h1, h2, h3, h4⟩
        by_cases e : b = a + 1 + k
        · subst e; exact absurd h3 hh
        · exact ⟨b, h1, by omega, h3, h4⟩
theorem rcJ_mem {js : List Jn} {s : Int} {c : Cl} : ∀ {n : Nat}, n ≤ js.length → (c ∈ rcJ js s n ↔ ∃ a b, a < n ∧ a < b ∧ b < js.length ∧ hitAB js s a b = true ∧ c = ⟨s, a, b⟩)
  | 0, _ => by simp [rcJ]
  | n + 1, h => by
    rw [rcJ, List.mem_append, rcJ_mem (by omega), rcI_mem]
    constructor
    · rintro (⟨a, b, h1, h2⟩ | ⟨b, h1, h2, h3⟩)
      · exact ⟨a, b, by omega, h2⟩
      · exact ⟨n, b, by omega, h1, by omega, h3⟩
    · rintro ⟨a, b, h1, h2, h3, h4⟩
      by_cases e : a = n
      · subst e; exact .inr ⟨b, h2, by omega, h4⟩
      · exact .inl ⟨a, b, by omega, h2, h3, h4⟩
theorem rcA_mem {js : List Jn} {c : Cl} : ∀ {n : Nat}, c ∈ rcA js n ↔ ∃ s a b : Nat, 1 ≤ s ∧ s ≤ n ∧ a < b ∧ b < js.length ∧ hitAB js s a b = true ∧ c = ⟨s, a, b⟩
  | 0 => by
    simp only [rcA, List.not_mem_nil, false_iff]
    rintro ⟨s, a, b, h1, h2, _⟩
    omega
  | n + 1 => by
    rw [rcA, List.mem_append, rcA_mem, rcJ_mem (Nat.le_refl _)]
    constructor
    · rintro (⟨s, a, b, h1, h2, h3⟩ | ⟨a, b, h1, h2, h3, h4⟩)
      · exact ⟨s, a, b, h1, by omega, h3⟩
      · exact ⟨n + 1, a, b, by omega, by omega, h2, h3, h4⟩
    · rintro ⟨s, a, b, h1, h2, h3, h4, h5⟩
      by_cases e : s = n + 1
      · subst e; exact .inr ⟨a, b, by omega, h3, h4, h5⟩
      · exact .inl ⟨s, a, b, h1, by omega, h3, h4, h5⟩
theorem rcI_sorted (js : List Jn) (s : Int) (a : Nat) : ∀ k, (rcI js s a k).Pairwise LtC
  | 0 => List.Pairwise.nil
  | k + 1 => by
    rw [rcI]
    split
    · rw [List.pairwise_append]
      refine ⟨rcI_sorted js s a k, List.pairwise_singleton _ _, fun x hx y hy => ?_⟩
      obtain ⟨b, h1, h2, _, rfl⟩ := rcI_mem.1 hx
      simp only [List.mem_singleton] at hy
      subst hy
      refine .inr ⟨rfl, .inr ⟨rfl, ?_⟩⟩
      show (b : Int) < ((a + 1 + k : Nat) : Int)
      omega
    · exact rcI_sorted js s a k
theorem rcJ_sorted (js : List Jn) (s : Int) : ∀ n, n ≤ js.length → (rcJ js s n).Pairwise LtC
  | 0, _ => List.Pairwise.nil
  | n + 1, h => by
    rw [rcJ, List.pairwise_append]
    refine ⟨rcJ_sorted js s n (by omega), rcI_sorted js s n _, fun x hx y hy => ?_⟩
    obtain ⟨a, b, h1, h2, _, _, rfl⟩ := (rcJ_mem (by omega)).1 hx
    obtain ⟨b', h3, h4, _, rfl⟩ := rcI_mem.1 hy
    refine .inr ⟨rfl, .inl ?_⟩
    show (a : Int) < (n : Int)
    omega
theorem rcA_sorted (js : List Jn) : ∀ n, (rcA js n).Pairwise LtC
  | 0 => List.Pairwise.nil
  | n + 1 => by
    rw [rcA, List.pairwise_append]
    refine ⟨rcA_sorted js n, rcJ_sorted js _ _ (Nat.le_refl _), fun x hx y hy => ?_⟩
    obtain ⟨s, a, b, h1, h2, _, _, _, rfl⟩ := rcA_mem.1 hx
    obtain ⟨a', b', h3, h4, _, _, rfl⟩ := (rcJ_mem (Nat.le_refl _)).1 hy
    unfold LtC; simp only; omega

theorem clN_mem {js : List Jn} {x : En} {i : Nat} {c : Cl} : ∀ {k : Nat}, c ∈ clN js x i k ↔ ∃ q, q < k ∧ hitE js x q = true ∧ c = ⟨x.s, q, i⟩
  | 0 => by simp [clN]
  | k + 1 => by
    rw [clN]
    by_cases hh : hitE js x k = true
    · rw [if_pos hh, List.mem_append, clN_mem, List.mem_singleton]
      constructor
      · rintro (⟨q, h1, h2⟩ | h)
        · exact ⟨q, by omega, h2⟩
        · exact ⟨k, by omega, hh, h⟩
      · rintro ⟨q, h1, h2, h3⟩
        by_cases e : q = k
        · subst e; exact .inr h3
        · exact .inl ⟨q, by omega, h2, h3⟩
    · rw [if_neg hh, clN_mem]
      constructor
      · rintro ⟨q, h1, h2⟩; exact ⟨q, by omega, h2⟩
      · rintro ⟨q, h1, h2, h3⟩
        by_cases e : q = k
        · subst e; exact absurd h2 hh
        · exact ⟨q, by omega, h2, h3⟩
theorem clN_nodup (js : List Jn) (x : En) (i : Nat) : ∀ k, (clN js x i k).Nodup
  | 0 => List.nodup_nil
  | k + 1 => by
    rw [clN]
    split
    · rw [List.nodup_append]
      refine ⟨clN_nodup js x i k, by simp, fun a ha b hb e => ?_⟩
      obtain ⟨q, h1, _, rfl⟩ := clN_mem.1 ha
      simp only [List.mem_singleton] at hb
      subst e
      simp only [Cl.mk.injEq] at hb
      omega
    · exact clN_nodup js x i k
theorem clJ_nodup (js : List Jn) (i : Nat) : ∀ {es : List En}, Rising es → (clJ js i es).Nodup
  | [], _ => List.nodup_nil
  | x :: es, h => by
    obtain ⟨h1, h2⟩ := List.pairwise_cons.1 h
    unfold clJ
    rw [List.flatMap_cons, List.nodup_append]
    refine ⟨clN_nodup js x i i, clJ_nodup js i h2, fun a ha b hb e => ?_⟩
    subst e
    obtain ⟨q, _, _, e1⟩ := clN_mem.1 ha
    obtain ⟨y, hy, hb⟩ := List.mem_flatMap.1 hb
    obtain ⟨q', _, _, e2⟩ := clN_mem.1 hb
    have := h1 y hy
    rw [e1] at e2
    simp only [Cl.mk.injEq] at e2
    omega
theorem clA_mem {js : List Jn} {c : Cl} : ∀ {l : List Jn} {i : Nat}, (∀ q, q < l.length → gj l q = gj js (i + q)) → (c ∈ clA js i l ↔ ∃ q x, q < l.length ∧ x ∈ (gj js (i + q)).e ∧ c ∈ clN js x (i + q) (i + q))
  | [], i, _ => by simp [clA]
  | j :: l, i, hg => by
    have ej : j = gj js i := hg 0 (by simp)
    rw [clA, List.mem_append, clA_mem (l := l) (i := i + 1) (fun q hq => by
      have := hg (q + 1) (by simpa using hq)
      rw [show i + 1 + q = i + (q + 1) by omega, ← this]
      rfl)]
    unfold clJ
    rw [List.mem_flatMap]
    constructor
    · rintro (⟨x, h1, h2⟩ | ⟨q, x, h1, h2, h3⟩)
      · exact ⟨0, x, by simp, by rw [Nat.add_zero, ← ej]; exact h1, h2⟩
      · exact ⟨q + 1, x, by simpa using h1, by rw [show i + (q + 1) = i + 1 + q by omega]; exact h2, by rw [show i + (q + 1) = i + 1 + q by omega]; exact h3⟩
    · rintro ⟨q, x, h1, h2, h3⟩
      cases q with
      | zero => exact .inl ⟨x, by rw [ej]; exact h2, h3⟩
      | succ q =>
        rw [show i + (q + 1) = i + 1 + q by omega] at h2 h3
        exact .inr ⟨q, x, by simpa using h1, h2, h3⟩
theorem clA_nodup {js : List Jn} (hr : ∀ k, Rising (gj js k).e) : ∀ (l : List Jn) (i : Nat), (∀ q, q < l.length → gj l q = gj js (i + q)) → (clA js i l).Nodup
  | [], _, _ => List.nodup_nil
  | j :: l, i, hg => by
    have ej : j = gj js i := hg 0 (by simp)
    have hg' : ∀ q, q < l.length → gj l q = gj js (i + 1 + q) := fun q hq => by
      have := hg (q + 1) (by simpa using hq)
      rw [show i + 1 + q = i + (q + 1) by omega, ← this]
      rfl
    rw [clA, List.nodup_append]
    refine ⟨clJ_nodup js i (ej ▸ hr i), clA_nodup hr l (i + 1) hg', fun a ha b hb e => ?_⟩
    subst e
    obtain ⟨x, hx, h1⟩ := List.mem_flatMap.1 ha
    obtain ⟨q, _, _, e1⟩ := clN_mem.1 h1
    obtain ⟨q', y, _, _, h2⟩ := (clA_mem hg').1 hb
    obtain ⟨q'', _, _, e2⟩ := clN_mem.1 h2
    rw [e1] at e2
    simp only [Cl.mk.injEq] at e2
    omega

theorem tk_secs {n : Int} {x : En} (h : enB n x = true) : 1 ≤ x.s ∧ x.s ≤ 15 := by
  unfold enB at h
  simp only [Bool.and_eq_true] at h
  have := h.1.1.1.1
  unfold takeB at this
  split at this
  · cases this
  · omega
/-- The clashes of valid journals are the reference's. -/
theorem clsL_rcA {n : Int} {js : List Jn} (hv : jsB n js = true) : clsL js = rcA js 15 := by
  have hall : allJ n js = true := by unfold jsB at hv; simp at hv; exact hv.2
  have hr := allJ_rise hall
  refine sorted_eq ?_ (rcA_sorted js 15) fun c => ?_
  · have hnd : (clsL js).Nodup := (clsL_perm js).nodup_iff.2 (clA_nodup hr js 0 (fun q _ => by simp))
    refine ((clsL_sorted js).and hnd).imp fun {x y} h => ?_
    have h1 : ¬ ltE y x = true := by simp [h.1]
    rw [ltE_iff] at h1
    have h2 : ¬ (x.s = y.s ∧ x.a = y.a ∧ x.b = y.b) := fun e => h.2 (by cases x; cases y; simp_all)
    unfold LtC
    omega
  · rw [(clsL_perm js).mem_iff, clA_mem (l := js) (i := 0) (fun q _ => by simp), rcA_mem]
    constructor
    · rintro ⟨i, x, h1, h2, h3⟩
      rw [Nat.zero_add] at h2 h3
      obtain ⟨k, h4, h5, rfl⟩ := clN_mem.1 h3
      have hx := (jnB_facts (allJ_gj hall h1)).1 x h2
      have hsec := tk_secs hx.2
      refine ⟨x.s.toNat, k, i, by omega, by omega, h4, h1, ?_, ?_⟩
      · rw [Int.toNat_of_nonneg (by omega)]
        unfold hitAB
        unfold hitE at h5
        rw [show lookE js x.s i = some x from atE_some (hr i) h2]
        cases hy : lookE js x.s k with
        | none => rw [hy] at h5; cases h5
        | some y => rw [hy] at h5; exact h5
      · rw [Int.toNat_of_nonneg (by omega)]
    · rintro ⟨s, a, b, h1, h2, h3, h4, h5, rfl⟩
      unfold hitAB at h5
      cases hx : lookE js s a with
      | none => rw [hx] at h5; cases h5
      | some y =>
        cases hy : lookE js s b with
        | none => rw [hx, hy] at h5; cases h5
        | some x =>
          rw [hx, hy] at h5
          obtain ⟨m1, m2⟩ := lookE_mem hy
          refine ⟨b, x, h4, by rw [Nat.zero_add]; exact m1, ?_⟩
          rw [Nat.zero_add]
          refine clN_mem.2 ⟨a, h3, ?_, by rw [m2]⟩
          unfold hitE
          rw [m2, hx]
          exact h5
theorem cls_eq (n : Int) (js : List Jn) : clsR n js = rclsR n js := by
  unfold clsR rclsR
  by_cases hv : jsB n js = true
  · rw [if_pos hv, if_pos hv, clsL_rcA hv]
  · rw [if_neg hv, if_neg hv]
end Go.Proofs.Ythikkiacgmgdhaa
