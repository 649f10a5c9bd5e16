/-
  Plain: the n-th of all lists, digit by digit.
-/
import Derived.Test.YtddcnafocohghaaDoorQS1
set_option linter.unusedSimpArgs false
set_option linter.unusedVariables false
namespace Go.Proofs.YtddcnafocohghaaDoor
def lenP : List (List Int) → Nat
  | [] => 1
  | l :: r => l.length * lenP r
theorem prodL_lenP : ∀ L : List (List Int), (prodL L).length = lenP L
  | [] => rfl
  | l :: r => by
    have ih := prodL_lenP r
    show (l.flatMap fun x => (prodL r).map fun t => x :: t).length = l.length * lenP r
    rw [← ih]
    generalize prodL r = q
    induction l with
    | nil => simp
    | cons a l ih2 => rw [List.flatMap_cons, List.length_append, ih2, List.length_map, List.length_cons, Nat.succ_mul, Nat.add_comm]
def decN : List (List Int) → Nat → List Int
  | [], _ => []
  | l :: r, n => l.getD (n / lenP r % l.length) 0 :: decN r n
theorem flat_get {α : Type} {f : Int → List α} {m : Nat} (hf : ∀ x, (f x).length = m) : ∀ (l : List Int) (n : Nat), n < l.length * m → (l.flatMap f)[n]? = (f (l.getD (n / m) 0))[n % m]?
  | [], n, h => by simp at h
  | x :: l, n, h => by
    have hm : 0 < m := by
      rcases Nat.eq_zero_or_pos m with h0 | h0
      · rw [h0] at h; simp at h
      · exact h0
    rw [List.flatMap_cons]
    by_cases h1 : n < m
    · rw [List.getElem?_append_left (by rw [hf]; exact h1), Nat.div_eq_of_lt h1, Nat.mod_eq_of_lt h1]
      rfl
    · rw [List.getElem?_append_right (by rw [hf]; omega), hf]
      have h2 : n - m < l.length * m := by
        rw [List.length_cons, Nat.succ_mul] at h
        omega
      rw [flat_get hf l (n - m) h2]
      have h3 : n / m = (n - m) / m + 1 := by
        have := Nat.sub_add_cancel (Nat.le_of_not_lt h1)
        rw [← this, Nat.add_div_right _ hm, this]
      have h4 : n % m = (n - m) % m := Nat.mod_eq_sub_mod (Nat.le_of_not_lt h1)
      rw [h3, h4]
      rfl
theorem prodL_dec : ∀ (L : List (List Int)), 0 < lenP L → ∀ n, (prodL L)[n % lenP L]? = some (decN L n)
  | [], _, n => by simp [prodL, lenP, decN, Nat.mod_one]
  | l :: r, h, n => by
    unfold lenP at h
    have hr : 0 < lenP r := by
      rcases Nat.eq_zero_or_pos (lenP r) with h0 | h0
      · rw [h0] at h; simp at h
      · exact h0
    unfold prodL lenP decN
    rw [flat_get (m := lenP r) (fun x => by rw [List.length_map, prodL_lenP]) l _ (Nat.mod_lt _ h), List.getElem?_map]
    rw [Nat.mul_comm l.length, Nat.mod_mul_right_div_self, Nat.mod_mul_right_mod, prodL_dec r hr n]
    rfl
theorem capI_len (L : List (List Int)) : ∀ n : Nat, 0 < n → (∀ l ∈ L, 0 < l.length) → L.foldl capI (n : Int) ≤ 10000 → L.foldl capI (n : Int) = (n * lenP L : Nat) := by
  induction L with
  | nil => intro n _ _ _; simp [lenP]
  | cons l r ih =>
    intro n hn hl h
    have h1 : 0 < l.length := hl l (by simp)
    simp only [List.foldl_cons] at h ⊢
    have big : ∀ (r : List (List Int)), (∀ l ∈ r, 0 < l.length) → r.foldl capI 10001 = 10001 := by
      intro r
      induction r with
      | nil => intro _; rfl
      | cons a r ih => 
        intro hr
        simp only [List.foldl_cons]
        have ha : 0 < a.length := hr a (by simp)
        have : capI 10001 a = 10001 := by
          unfold capI
          split
          · rfl
          · rename_i hh
            omega
        rw [this]
        exact ih fun l hl => hr l (by simp [hl])
    by_cases hc : 10001 < (n : Int) * (l.length : Int)
    · have e : capI (n : Int) l = 10001 := by unfold capI; rw [if_pos hc]
      rw [e, big r (fun x hx => hl x (by simp [hx]))] at h
      omega
    · have e : capI (n : Int) l = ((n * l.length : Nat) : Int) := by unfold capI; rw [if_neg hc]; simp
      rw [e] at h ⊢
      rw [ih (n * l.length) (Nat.mul_pos hn h1) (fun x hx => hl x (by simp [hx])) h]
      rw [Nat.mul_assoc]
      rfl
theorem limC_len {L : List (List Int)} (hl : ∀ l ∈ L, 0 < l.length) (h : limC L ≤ 10000) : limC L = (lenP L : Int) := by
  have := capI_len L 1 (by omega) hl h
  unfold limC
  rw [show (1 : Int) = ((1 : Nat) : Int) from rfl, this, Nat.one_mul]
theorem lenP_pos {L : List (List Int)} (hl : ∀ l ∈ L, 0 < l.length) : 0 < lenP L := by
  induction L with
  | nil => exact Nat.one_pos
  | cons l r ih => exact Nat.mul_pos (hl l (by simp)) (ih fun x hx => hl x (by simp [hx]))
end Go.Proofs.YtddcnafocohghaaDoor
