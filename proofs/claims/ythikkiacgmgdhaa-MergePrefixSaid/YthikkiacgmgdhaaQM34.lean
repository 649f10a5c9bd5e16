/-
  Plain: journals without the entries from a section on.
-/
import Derived.Test.YthikkiacgmgdhaaQM32
set_option linter.unusedSimpArgs false
set_option linter.unusedVariables false
namespace Go.Proofs.Ythikkiacgmgdhaa
open Go.Ab

def cutJ (s : Int) (j : Jn) : Jn := ⟨j.d, j.e.filter fun x => decide (x.s < s)⟩
theorem secB_mono {n l l' : Int} {v : List En} (h : l' ≤ l) (hs : secB n l v = true) : secB n l' v = true := by
  cases v with
  | nil => rfl
  | cons x r =>
    rw [secB] at hs ⊢
    by_cases hc : enB n x = false ∨ x.s ≤ l
    · rw [if_pos hc] at hs; cases hs
    · rw [if_neg hc] at hs
      rw [if_neg (fun h2 => hc (h2.imp id fun h3 => by omega))]
      exact hs
theorem secB_filter {n : Int} (p : En → Bool) : ∀ {v : List En} {l : Int}, secB n l v = true → secB n l (v.filter p) = true
  | [], _, _ => rfl
  | x :: r, l, hs => by
    rw [secB] at hs
    by_cases hc : enB n x = false ∨ x.s ≤ l
    · rw [if_pos hc] at hs; cases hs
    · rw [if_neg hc] at hs
      have ih := secB_filter p hs
      by_cases hp : p x = true
      · rw [List.filter_cons_of_pos hp, secB, if_neg hc]
        exact ih
      · rw [List.filter_cons_of_neg hp]
        exact secB_mono (by have : ¬ x.s ≤ l := fun h => hc (.inr h); omega) ih
theorem jnB_cut {n : Int} (s : Int) {j : Jn} (h : jnB n j = true) : jnB n (cutJ s j) = true := by
  unfold jnB at h ⊢
  simp only [Bool.and_eq_true] at h ⊢
  exact ⟨h.1, secB_filter _ h.2⟩
theorem jsB_cut {n : Int} (s : Int) {js : List Jn} (h : jsB n js = true) : jsB n (js.map (cutJ s)) = true := by
  unfold jsB allJ at h ⊢
  simp only [Bool.and_eq_true, List.length_map, List.all_map, List.all_eq_true] at h ⊢
  exact ⟨h.1, fun j hj => jnB_cut s (h.2 j hj)⟩
theorem jnOk_mem {j : Jn} (h : JnOk j) {x : En} (hx : x ∈ j.e) : x.v.length ≤ 9223372036854775807 := by
  obtain ⟨i, hi, rfl⟩ := List.getElem_of_mem hx
  have := h.2 i
  simpa [ge, hi] using this
theorem jnOk_cut (s : Int) {j : Jn} (h : JnOk j) : JnOk (cutJ s j) := by
  refine ⟨?_, fun i => ?_⟩
  · have := List.length_filter_le (fun x : En => decide (x.s < s)) j.e
    unfold cutJ
    have := h.1
    simp only []
    omega
  · by_cases hi : i < (cutJ s j).e.length
    · have : ge (cutJ s j).e i ∈ (cutJ s j).e := by simp [ge, hi]
      exact jnOk_mem h (List.mem_filter.1 this).1
    · simp [ge, List.getElem?_eq_none (show (cutJ s j).e.length ≤ i by omega), en0]
theorem jsOk_cut (s : Int) {js : List Jn} (h : JsOk js) : JsOk (js.map (cutJ s)) := by
  refine jsOk_of (by rw [List.length_map]; exact h.1) fun j hj => ?_
  obtain ⟨j0, hj0, rfl⟩ := List.mem_map.1 hj
  obtain ⟨i, hi, rfl⟩ := List.getElem_of_mem hj0
  have := h.2 i
  exact jnOk_cut s (by simpa [gj, hi] using this)
theorem ent_cut {s : Int} {js : List Jn} {x : En} : Ent (js.map (cutJ s)) x ↔ Ent js x ∧ x.s < s := by
  unfold Ent
  constructor
  · rintro ⟨j, hj, hx⟩
    obtain ⟨j0, hj0, rfl⟩ := List.mem_map.1 hj
    have := List.mem_filter.1 hx
    exact ⟨⟨j0, hj0, this.1⟩, by simpa using this.2⟩
  · rintro ⟨⟨j, hj, hx⟩, h2⟩
    exact ⟨cutJ s j, List.mem_map_of_mem hj, List.mem_filter.2 ⟨hx, by simpa using h2⟩⟩
theorem rcA_cut {n s : Int} {js : List Jn} (hv : jsB n js = true) (hc : rcA js 15 = []) : rcA (js.map (cutJ s)) 15 = [] := by
  rw [rcA_nil (jsB_cut s hv)]
  intro x y hx hy e
  exact (rcA_nil hv).1 hc x y (ent_cut.1 hx).1 (ent_cut.1 hy).1 e
theorem rmN_cut {n s : Int} {js : List Jn} (hv : jsB n js = true) (hc : rcA js 15 = []) : ∀ k, rmN (js.map (cutJ s)) k = (rmN js k).filter fun t => decide (t.s < s)
  | 0 => rfl
  | k + 1 => by
    rw [rmN, rmN, List.filter_append, rmN_cut hv hc k]
    refine congrArg (fun o => ((rmN js k).filter fun t => decide (t.s < s)) ++ o) ?_
    have h1 := fun t => fstN_ent (t := t) (s := (k + 1 : Nat)) hv hc
    have h2 := fun t => fstN_ent (t := t) (s := (k + 1 : Nat)) (jsB_cut s hv) (rcA_cut hv hc)
    cases hf : fstN js (k + 1 : Nat) js.length with
    | none =>
      cases hg : fstN (js.map (cutJ s)) (k + 1 : Nat) (js.map (cutJ s)).length with
      | none => rfl
      | some t =>
        obtain ⟨x, g1, g2, g3⟩ := (h2 t).1 hg
        rw [(h1 t).2 ⟨x, (ent_cut.1 g1).1, g2, g3⟩] at hf
        cases hf
    | some t =>
      obtain ⟨x, g1, g2, g3⟩ := (h1 t).1 hf
      have hts := fstN_sec hf
      by_cases hs : ((k + 1 : Nat) : Int) < s
      · rw [(h2 t).2 ⟨x, ent_cut.2 ⟨g1, by omega⟩, g2, g3⟩]
        have hd : decide (t.s < s) = true := decide_eq_true (by omega)
        simp only [optL, List.filter_cons, hd, if_true, List.filter_nil]
      · cases hg : fstN (js.map (cutJ s)) (k + 1 : Nat) (js.map (cutJ s)).length with
        | none =>
          have hd : decide (t.s < s) = false := decide_eq_false (by omega)
          simp only [optL, List.filter_cons, hd, Bool.false_eq_true, if_false, List.filter_nil]
        | some u =>
          obtain ⟨y, g4, g5, g6⟩ := (h2 u).1 hg
          have := (ent_cut.1 g4).2
          omega
theorem rmrg_cut {n s : Int} {js : List Jn} (hv : jsB n js = true) (hc : rcA js 15 = []) : rmrgR n (js.map (cutJ s)) = ((rmN js 15).filter fun t => decide (t.s < s), 0) := by
  unfold rmrgR
  rw [if_pos (jsB_cut s hv), if_pos (rcA_cut hv hc), rmN_cut hv hc]
end Go.Proofs.Ythikkiacgmgdhaa
