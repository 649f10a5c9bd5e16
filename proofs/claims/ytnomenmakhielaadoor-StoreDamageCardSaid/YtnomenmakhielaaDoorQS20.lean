/-
  Records and their frames: parsing a valid record's body gives the record; the reference reads what the program reads.
-/
import Derived.Test.YtnomenmakhielaaDoorQS19
set_option linter.unusedSimpArgs false
set_option linter.unusedVariables false
namespace Go.Proofs.YtnomenmakhielaaDoor
open Go.Ab

theorem parse_body {r : Rcd} (h : r.ok = true) : parseR (bodyN r) = (r, true) := by
  rcases Rcd.ok_cases h with ⟨s, b, h1, h2, rfl⟩ | ⟨s, b, c, n, d, h1, h2, h3, rfl⟩ | ⟨s, c, n, d, h1, h3, rfl⟩
  · rw [bodyN_1]
    have e : b / 65536 % 256 * 65536 + b / 256 % 256 * 256 + b % 256 = b := by omega
    have e1 : parseR [1, s, b / 65536 % 256, b / 256 % 256, b % 256] = mk8 1 s (b / 65536 % 256) (b / 256 % 256) (b % 256) 0 0 0 := rfl
    have e2 : mk8 1 s (b / 65536 % 256) (b / 256 % 256) (b % 256) 0 0 0 = (⟨1, s, b, ⟨0, 0, 0, 0⟩⟩, Rcd.ok ⟨1, s, b, ⟨0, 0, 0, 0⟩⟩) := by
      simp only [mk8, e]; rfl
    rw [e1, e2, h]
  · rw [bodyN_2]
    have e : b / 65536 % 256 * 65536 + b / 256 % 256 * 256 + b % 256 = b := by omega
    have e1 : parseR [2, s, b / 65536 % 256, b / 256 % 256, b % 256, c, n, d] = mk8 2 s (b / 65536 % 256) (b / 256 % 256) (b % 256) c n d := rfl
    have e2 : mk8 2 s (b / 65536 % 256) (b / 256 % 256) (b % 256) c n d = (⟨2, s, b, ⟨s, c, (n : Int) - 1, d⟩⟩, Rcd.ok ⟨2, s, b, ⟨s, c, (n : Int) - 1, d⟩⟩) := by
      simp only [mk8, e]; rfl
    rw [e1, e2, h]
  · rw [bodyN_3]
    have e1 : parseR [3, s, c, n, d] = mk8 3 s 0 0 0 c n d := rfl
    have e2 : mk8 3 s 0 0 0 c n d = (⟨3, s, 0, ⟨s, c, (n : Int) - 1, d⟩⟩, Rcd.ok ⟨3, s, 0, ⟨s, c, (n : Int) - 1, d⟩⟩) := rfl
    rw [e1, e2, h]
theorem body_parse {t : List Nat} {r : Rcd} (hb : ByOk t) (h : parseR t = (r, true)) : bodyN r = t ∧ r.ok = true := by
  unfold parseR at h
  split at h
  · rename_i k s x y z
    have hx := hb x (by simp)
    have hy := hb y (by simp)
    have hz := hb z (by simp)
    split at h
    · subst_vars
      unfold mk8 at h
      simp only [Prod.mk.injEq] at h
      obtain ⟨rfl, h⟩ := h
      refine ⟨?_, h⟩
      unfold bodyN
      simp
    · split at h
      · subst_vars
        unfold mk8 at h
        simp only [Prod.mk.injEq] at h
        obtain ⟨rfl, h⟩ := h
        refine ⟨?_, h⟩
        unfold bodyN
        simp
        omega
      · cases h
  · rename_i k s x y z c n d
    have hx := hb x (by simp)
    have hy := hb y (by simp)
    have hz := hb z (by simp)
    split at h
    · subst_vars
      unfold mk8 at h
      simp only [Prod.mk.injEq] at h
      obtain ⟨rfl, h⟩ := h
      refine ⟨?_, h⟩
      unfold bodyN
      simp
      omega
    · cases h
  · cases h

theorem rd_parse {t u : List Nat} {r : Rcd} (h : parseR t = (r, true)) : rdR (t.length :: t ++ u) = r := by
  unfold parseR at h
  split at h
  · split at h
    · subst_vars
      unfold mk8 at h
      simp only [Prod.mk.injEq] at h
      obtain ⟨rfl, h⟩ := h
      simp [rdR, gb8]
    · split at h
      · subst_vars
        unfold mk8 at h
        simp only [Prod.mk.injEq] at h
        obtain ⟨rfl, h⟩ := h
        simp [rdR, gb8, rdb]
      · cases h
  · split at h
    · subst_vars
      unfold mk8 at h
      simp only [Prod.mk.injEq] at h
      obtain ⟨rfl, h⟩ := h
      simp [rdR, gb8, rdb]
    · cases h
  · cases h
theorem parse_len {t : List Nat} {r : Rcd} (h : parseR t = (r, true)) : 5 ≤ t.length := by
  unfold parseR at h
  split at h
  · simp
  · simp
  · cases h

theorem rec_read {b : List Nat} (hb : ByOk b) : (recN b = none ∧ readR b = (rc0, 0)) ∨ ∃ r n, recN b = some (r, n) ∧ readR b = (r, n) := by
  cases hr : recN b with
  | some q =>
    obtain ⟨r, n⟩ := q
    refine .inr ⟨r, n, rfl, ?_⟩
    obtain ⟨h1, h2, h3, h4, h5⟩ := recN_ok hr
    cases b with
    | nil => simp [recN] at hr
    | cons x t =>
      rw [gb8_0] at h1 h2 h3 h4 h5
      simp only [List.drop_succ_cons, List.drop_zero, List.length_cons] at h1 h2 h4 h5
      have hl : (t.take x).length = x := by simp; omega
      have hp : parseR (t.take x) = (r, true) := Prod.ext h2.symm h1
      have hbt : ByOk (t.take x) := fun y hy => hb y (List.mem_cons_of_mem _ (List.mem_of_mem_take hy))
      have hbo := body_parse hbt hp
      have h5' := parse_len hp
      have hrd : rdR (x :: t) = r := by
        have := rd_parse (u := t.drop x) hp
        rw [hl] at this
        rw [← this]
        congr 1
        rw [List.cons_append, List.take_append_drop]
      have hf : frameN r = (x :: t).take (x + 5) := by unfold frameN; rw [hbo.1]; exact h4
      have hfl : (frameN r).length = x + 5 := by rw [hf]; simp; omega
      unfold readR
      rw [if_neg (by rw [gb8_0]; simp only [List.length_cons]; omega), hrd, hfl, if_pos ⟨hbo.2, hf⟩, h3]
  | none =>
    refine .inl ⟨rfl, ?_⟩
    unfold readR
    split
    · rfl
    · rename_i c0
      split
      · rename_i c1
        exfalso
        obtain ⟨ok, hf⟩ := c1
        generalize rdR b = r at ok hf
        cases b with
        | nil => simp at c0
        | cons x t =>
          have e1 : frameN r = (bodyN r).length :: bodyN r ++ (sealN (bodyN r)).drop (1 + (bodyN r).length) := by
            unfold frameN sealN
            simp [Nat.add_comm 1]
          have el : (frameN r).length = (bodyN r).length + 5 := by unfold frameN; rw [sealN_length]
          rw [el] at hf
          have hlen : (bodyN r).length + 5 ≤ t.length + 1 := by
            have := congrArg List.length hf
            rw [el] at this
            simp at this
            omega
          have hx : x = (bodyN r).length := by
            have := hf
            rw [e1] at this
            simp at this
            exact this.1.symm
          have ht : t.take x = bodyN r := by
            have := hf
            rw [e1] at this
            simp only [List.take_succ_cons, List.cons_append, List.cons.injEq] at this
            have h2 := congrArg (List.take x) this.2
            rw [List.take_take, hx, List.take_append_of_le_length (Nat.le_refl _), List.take_length, Nat.min_eq_left (by omega)] at h2
            rw [hx]; exact h2.symm
          have hc : x + 5 ≤ t.length + 1 ∧ sealN (t.take x) = (x :: t).take (x + 5) ∧ (parseR (t.take x)).2 = true := by
            refine ⟨by omega, ?_, ?_⟩
            · rw [ht]; rw [← hx] at hf; exact hf
            · rw [ht, parse_body ok]
          rw [recN, if_pos hc] at hr
          cases hr
      · rfl
end Go.Proofs.YtnomenmakhielaaDoor
