/-
  Plain: what is merged and who lies hangs on the entries alone.
-/
import Derived.Test.YthikkiacgmgdhaaQM31
set_option linter.unusedSimpArgs false
set_option linter.unusedVariables false
namespace Go.Proofs.Ythikkiacgmgdhaa
open Go.Ab

def Ent (js : List Jn) (x : En) : Prop := ∃ j ∈ js, x ∈ j.e
theorem Ent_of {js : List Jn} {s : Int} {a : Nat} {x : En} (h : lookE js s a = some x) : Ent js x ∧ x.s = s := by
  have h1 := lookE_lt h
  refine ⟨⟨gj js a, by simp [gj, h1], (lookE_mem h).1⟩, (lookE_mem h).2⟩
theorem Ent_look {n : Int} {js : List Jn} (hv : jsB n js = true) {x : En} (h : Ent js x) : ∃ a, lookE js x.s a = some x := by
  have hall : allJ n js = true := by unfold jsB at hv; simp at hv; exact hv.2
  obtain ⟨j, hj, hx⟩ := h
  obtain ⟨i, hi, rfl⟩ := List.getElem_of_mem hj
  refine ⟨i, atE_some (allJ_rise hall i) ?_⟩
  simpa [gj, hi] using hx
theorem rcA_nil {n : Int} {js : List Jn} (hv : jsB n js = true) : rcA js 15 = [] ↔ ∀ x y, Ent js x → Ent js y → x.s = y.s → x.t = y.t := by
  constructor
  · intro hc x y hx hy he
    obtain ⟨a, ha⟩ := Ent_look hv hx
    obtain ⟨b, hb⟩ := Ent_look hv hy
    rw [he] at ha
    exact no_clash hv hc ha hb
  · intro h
    rw [List.eq_nil_iff_forall_not_mem]
    intro c hc
    obtain ⟨s, a, b, _, _, _, _, h5, _⟩ := rcA_mem.1 hc
    unfold hitAB at h5
    cases hx : lookE js s a with
    | none => rw [hx] at h5; cases h5
    | some x =>
      cases hy : lookE js s b with
      | none => rw [hx, hy] at h5; cases h5
      | some y =>
        rw [hx, hy] at h5
        have h1 := Ent_of hx
        have h2 := Ent_of hy
        have ht := h x y h1.1 h2.1 (h1.2.trans h2.2.symm)
        have : tkEq x y = true := by
          unfold En.t at ht
          simp only [Tk.mk.injEq] at ht
          unfold tkEq
          simp [ht.1, ht.2.1, ht.2.2.1, ht.2.2.2]
        simp only [this] at h5
        cases h5
theorem fstN_ent {n : Int} {js : List Jn} (hv : jsB n js = true) (hc : rcA js 15 = []) {s : Int} {t : Tk} : fstN js s js.length = some t ↔ ∃ x, Ent js x ∧ x.s = s ∧ x.t = t := by
  constructor
  · intro h
    obtain ⟨b, x, _, h2, h3⟩ := fstN_some h
    exact ⟨x, (Ent_of h2).1, (Ent_of h2).2, h3⟩
  · rintro ⟨x, h1, h2, h3⟩
    obtain ⟨a, ha⟩ := Ent_look hv h1
    rw [h2] at ha
    cases hf : fstN js s js.length with
    | none => rw [fstN_none hf a (lookE_lt ha)] at ha; cases ha
    | some u =>
      obtain ⟨b, y, _, h4, h5⟩ := fstN_some hf
      rw [← h5, ← h3, no_clash hv hc h4 ha]
theorem tkEq_iff {x y : En} : tkEq x y = true ↔ x.t = y.t := by
  constructor
  · exact tkEq_t
  · intro ht
    unfold En.t at ht
    simp only [Tk.mk.injEq] at ht
    unfold tkEq
    simp [ht.1, ht.2.1, ht.2.2.1, ht.2.2.2]
theorem lies_ent {n : Int} {js : List Jn} (hv : jsB n js = true) {d : Int} : liesB js (rcA js 15) d = true ↔ ∃ x y, Ent js x ∧ Ent js y ∧ x.s = y.s ∧ x.t ≠ y.t ∧ x.b = y.b ∧ d ∈ x.v ∧ d ∈ y.v := by
  have hall : allJ n js = true := by unfold jsB at hv; simp at hv; exact hv.2
  rw [liesB_iff]
  constructor
  · rintro ⟨c, hc, h⟩
    obtain ⟨s, a, b, _, _, _, _, h5, rfl⟩ := rcA_mem.1 hc
    unfold hitAB at h5
    cases hx : lookE js s a with
    | none => rw [hx] at h5; cases h5
    | some x =>
      cases hy : lookE js s b with
      | none => rw [hx, hy] at h5; cases h5
      | some y =>
        rw [hx, hy] at h5
        unfold lie1 at h
        simp only [entOf, Int.toNat_natCast, hx, hy, Option.getD_some, Bool.and_eq_true, decide_eq_true_eq] at h
        refine ⟨x, y, (Ent_of hx).1, (Ent_of hy).1, (Ent_of hx).2.trans (Ent_of hy).2.symm, fun e => ?_, h.1.1, hasB_iff.1 h.1.2, hasB_iff.1 h.2⟩
        simp only [tkEq_iff.2 e] at h5; cases h5
  · rintro ⟨x, y, hx, hy, hs, ht, hb, hdx, hdy⟩
    obtain ⟨a, ha⟩ := Ent_look hv hx
    obtain ⟨b, hb'⟩ := Ent_look hv hy
    rw [← hs] at hb'
    have hsec := tk_secs ((jnB_facts (allJ_gj hall (lookE_lt ha))).1 x (lookE_mem ha).1).2
    have key : ∀ {a b : Nat} {x' y' : En}, a < b → lookE js x.s a = some x' → lookE js x.s b = some y' → x'.t ≠ y'.t → x'.b = y'.b → d ∈ x'.v → d ∈ y'.v → ∃ c ∈ rcA js 15, lie1 js c d = true := fun {a b x' y'} hab h1 h2 h3 h4 h5 h6 => by
      refine ⟨⟨x.s, a, b⟩, rcA_mem.2 ⟨x.s.toNat, a, b, by omega, by omega, hab, lookE_lt h2, ?_, by rw [Int.toNat_of_nonneg (by omega)]⟩, ?_⟩
      · rw [Int.toNat_of_nonneg (by omega)]
        unfold hitAB
        rw [h1, h2]
        cases hq : tkEq x' y' with
        | false => simp [hq]
        | true => exact absurd (tkEq_iff.1 hq) h3
      · unfold lie1
        simp only [entOf, Int.toNat_natCast, h1, h2, Option.getD_some]
        rw [decide_eq_true h4, hasB_iff.2 h5, hasB_iff.2 h6]; rfl
    rcases Nat.lt_trichotomy a b with h | h | h
    · exact key h ha hb' ht hb hdx hdy
    · subst h; rw [ha] at hb'; cases hb'; exact absurd rfl ht
    · exact key h hb' ha (Ne.symm ht) hb.symm hdy hdx
theorem same_ents {n : Int} {js js' : List Jn} (hb : jsB n js = jsB n js') (he : ∀ x, Ent js x ↔ Ent js' x) : rmrgR n js = rmrgR n js' ∧ rliR n js = rliR n js' := by
  unfold rmrgR rliR
  by_cases hv : jsB n js = true
  · have hv' : jsB n js' = true := hb ▸ hv
    rw [if_pos hv, if_pos hv', if_pos hv, if_pos hv']
    have hnil : rcA js 15 = [] ↔ rcA js' 15 = [] := by
      rw [rcA_nil hv, rcA_nil hv']
      simp only [he]
    constructor
    · by_cases hc : rcA js 15 = []
      · rw [if_pos hc, if_pos (hnil.1 hc)]
        have key : ∀ k, rmN js k = rmN js' k := by
          intro k
          induction k with
          | zero => rfl
          | succ k ih =>
            rw [rmN, rmN, ih]
            refine congrArg (fun o => rmN js' k ++ optL o) ?_
            have h1 := fun t => fstN_ent (t := t) (s := (k + 1 : Nat)) hv hc
            have h2 := fun t => fstN_ent (t := t) (s := (k + 1 : Nat)) hv' (hnil.1 hc)
            cases hf : fstN js (k + 1 : Nat) js.length with
            | some t =>
              have := (h1 t).1 hf
              simp only [he] at this
              exact ((h2 t).2 this).symm
            | none =>
              cases hg : fstN js' (k + 1 : Nat) js'.length with
              | none => rfl
              | some t =>
                have := (h2 t).1 hg
                simp only [← he] at this
                rw [(h1 t).2 this] at hf
                cases hf
        rw [key 15]
      · rw [if_neg hc, if_neg (fun h => hc (hnil.2 h))]
    · have key : ∀ d : Int, liesB js (rcA js 15) d = liesB js' (rcA js' 15) d := fun d => by
        have h1 := lies_ent hv (d := d)
        have h2 := lies_ent hv' (d := d)
        simp only [← he] at h2
        rw [← h1] at h2
        exact (Bool.eq_iff_iff.2 h2).symm
      simp only [key]
  · have hv' : ¬ jsB n js' = true := hb ▸ hv
    rw [if_neg hv, if_neg hv', if_neg hv, if_neg hv']
    exact ⟨rfl, rfl⟩

theorem turn_same (n : Int) (js : List Jn) (i : Nat) : rmrgR n (js.drop i ++ js.take i) = rmrgR n js ∧ rliR n (js.drop i ++ js.take i) = rliR n js := by
  refine same_ents ?_ fun x => ?_
  · unfold jsB allJ
    have h1 : (js.drop i ++ js.take i).length = js.length := by simp; omega
    have h2 : (js.drop i ++ js.take i).all (jnB n) = js.all (jnB n) := by
      conv => rhs; rw [← List.take_append_drop i js]
      rw [List.all_append, List.all_append, Bool.and_comm]
    rw [h1, h2]
  · unfold Ent
    have : ∀ j, j ∈ js.drop i ++ js.take i ↔ j ∈ js := fun j => by
      conv => rhs; rw [← List.take_append_drop i js]
      rw [List.mem_append, List.mem_append, or_comm]
    simp only [this]
theorem more_same (n : Int) (js : List Jn) (i : Nat) (hi : i < js.length) (hl : js.length < 8) : rmrgR n (js ++ [gj js i]) = rmrgR n js ∧ rliR n (js ++ [gj js i]) = rliR n js := by
  have hm : gj js i ∈ js := by simp [gj, hi]
  refine same_ents ?_ fun x => ?_
  · unfold jsB allJ
    rw [decide_eq_true (show (js ++ [gj js i]).length ≤ 8 by simp; omega), decide_eq_true (show js.length ≤ 8 by omega), List.all_append]
    cases hq : js.all (jnB n) with
    | false => rfl
    | true =>
      rw [List.all_eq_true] at hq
      simp [hq _ hm]
  · unfold Ent
    constructor
    · rintro ⟨j, hj, hx⟩
      rcases List.mem_append.1 hj with h | h
      · exact ⟨j, h, hx⟩
      · simp only [List.mem_singleton] at h
        subst h
        exact ⟨_, hm, hx⟩
    · rintro ⟨j, hj, hx⟩
      exact ⟨j, List.mem_append.2 (.inl hj), hx⟩
theorem jsOk_mem {l l' : List Jn} (h : JsOk l) (hl : l'.length ≤ 9223372036854775807) (hm : ∀ j ∈ l', j ∈ l) : JsOk l' := by
  refine jsOk_of hl fun j hj => ?_
  obtain ⟨i, hi, rfl⟩ := List.getElem_of_mem (hm j hj)
  have := h.2 i
  simpa [gj, hi] using this
end Go.Proofs.Ythikkiacgmgdhaa
