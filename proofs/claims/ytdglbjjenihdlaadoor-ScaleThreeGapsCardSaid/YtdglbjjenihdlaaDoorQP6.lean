/-
  Sizes, each once (plain).
-/
import Derived.Test.YtdglbjjenihdlaaDoorQP5
set_option linter.unusedSimpArgs false
set_option linter.unusedVariables false
namespace Go.Proofs.YtdglbjjenihdlaaDoor
def addD (l : List P6) (x : P6) : List P6 := if x ∈ l then l else l ++ [x]
def dstP (l : List P6) : List P6 := l.foldl addD []
theorem dst_snoc (l : List P6) (x : P6) : dstP (l ++ [x]) = addD (dstP l) x := by unfold dstP;rw [List.foldl_append];rfl
theorem addD_nd {l : List P6} {x : P6} (h : l.Nodup) : (addD l x).Nodup := by
  unfold addD
  split
  · exact h
  · rename_i hx
    rw [List.nodup_append]
    exact ⟨h, by simp, fun a ha b hb e => by simp only [List.mem_singleton] at hb; subst hb; subst e; exact hx ha⟩
theorem addD_mem {l : List P6} {x y : P6} (h : y ∈ addD l x) : y ∈ l ∨ y = x := by
  unfold addD at h
  split at h
  · exact .inl h
  · simpa using h
theorem fold_nd {l a : List P6} (ha : a.Nodup) : (l.foldl addD a).Nodup := by
  induction l generalizing a with
  | nil => exact ha
  | cons x l ih => exact ih (addD_nd ha)
theorem fold_mem {l a : List P6} {y : P6} (h : y ∈ l.foldl addD a) : y ∈ a ∨ y ∈ l := by
  induction l generalizing a with
  | nil => exact .inl h
  | cons x l ih =>
    rcases ih h with k | k
    · rcases addD_mem k with q | q
      · exact .inl q
      · exact .inr (by simp [q])
    · exact .inr (List.mem_cons_of_mem _ k)
theorem dst_nd (l : List P6) : (dstP l).Nodup := fold_nd List.Pairwise.nil
theorem dst_mem {l : List P6} {y : P6} (h : y ∈ dstP l) : y ∈ l := by
  rcases fold_mem h with k | k
  · cases k
  · exact k
theorem nd_sub : ∀ {l m : List P6}, l.Nodup → (∀ x ∈ l, x ∈ m) → l.length ≤ m.length
  | [], m, _, _ => Nat.zero_le _
  | x :: l, m, h, hs => by
    have h1 := List.nodup_cons.1 h
    have h2 := nd_sub (m := m.erase x) h1.2 fun y hy => by
      refine (List.mem_erase_of_ne fun e => ?_).2 (hs y (List.mem_cons_of_mem _ hy))
      subst e; exact h1.1 hy
    have h3 := List.length_erase_of_mem (hs x (by simp))
    have h4 : 0 < m.length := List.length_pos_of_mem (hs x (by simp))
    simp only [List.length_cons]
    omega
theorem add_comm' (p q : P6) : p.add q = q.add p := by apply P6.ext' <;> simp only [P6.add] <;> omega
theorem three {u v : P6} {l : List P6} (hn : l.Nodup) (hs : ∀ x ∈ l,x = u ∨ x = v ∨ x = u.add v) : l.length ≤ 3 ∧ (l.length = 3 → ∃ i,i < 3 ∧ (gP l ((i + 1) % 3)).add (gP l ((i + 2) % 3)) = gP l i) := by
  refine ⟨nd_sub (m := [u, v, u.add v]) hn fun x hx => by simpa using hs x hx, fun h3 => ?_⟩
  match l, h3 with
  | [x, y, z], _ =>
    have hx := hs x (by simp)
    have hy := hs y (by simp)
    have hz := hs z (by simp)
    simp only [List.nodup_cons,List.mem_cons,List.not_mem_nil,or_false,not_or,List.nodup_nil,and_true,not_false_eq_true] at hn
    obtain ⟨⟨n1, n2⟩, n3⟩ := hn
    have g0 : gP [x, y, z] 0 = x := rfl
    have g1 : gP [x, y, z] 1 = y := rfl
    have g2 : gP [x, y, z] 2 = z := rfl
    rcases hx with hx | hx | hx
    · rcases hy with hy | hy | hy
      · exact absurd (hx.trans hy.symm) n1
      · refine ⟨2, by omega, ?_⟩
        rcases hz with hz | hz | hz
        · exact absurd (hx.trans hz.symm) n2
        · exact absurd (hy.trans hz.symm) n3
        · show x.add y = z
          rw [hx, hy, hz]
      · refine ⟨1, by omega, ?_⟩
        rcases hz with hz | hz | hz
        · exact absurd (hx.trans hz.symm) n2
        · show z.add x = y
          rw [hx, hy, hz, add_comm']
        · exact absurd (hy.trans hz.symm) n3
    · rcases hy with hy | hy | hy
      · refine ⟨2, by omega, ?_⟩
        rcases hz with hz | hz | hz
        · exact absurd (hy.trans hz.symm) n3
        · exact absurd (hx.trans hz.symm) n2
        · show x.add y = z
          rw [hx, hy, hz, add_comm']
      · exact absurd (hx.trans hy.symm) n1
      · refine ⟨1, by omega, ?_⟩
        rcases hz with hz | hz | hz
        · show z.add x = y
          rw [hx, hy, hz]
        · exact absurd (hx.trans hz.symm) n2
        · exact absurd (hy.trans hz.symm) n3
    · refine ⟨0, by omega, ?_⟩
      rcases hy with hy | hy | hy
      · rcases hz with hz | hz | hz
        · exact absurd (hy.trans hz.symm) n3
        · show y.add z = x
          rw [hx, hy, hz]
        · exact absurd (hx.trans hz.symm) n2
      · rcases hz with hz | hz | hz
        · show y.add z = x
          rw [hx, hy, hz, add_comm']
        · exact absurd (hy.trans hz.symm) n3
        · exact absurd (hx.trans hz.symm) n2
      · exact absurd (hx.trans hy.symm) n1
end Go.Proofs.YtdglbjjenihdlaaDoor
