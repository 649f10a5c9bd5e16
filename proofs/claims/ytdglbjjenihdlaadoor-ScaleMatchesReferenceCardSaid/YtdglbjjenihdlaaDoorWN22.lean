/-
  Pitches sorted by slices.SortFunc; what Chain answers (plain).
-/
import Derived.Test.YtdglbjjenihdlaaDoorWK10
import Derived.Test.YtdglbjjenihdlaaDoorWN20
import Derived.Test.YtdglbjjenihdlaaDoorWN17
set_option linter.unusedSimpArgs false
set_option linter.unusedVariables false
namespace Go.Proofs.YtdglbjjenihdlaaDoor
open Go.Ab
theorem cmpP_lo {p q : P6} : cmpP p q < 0 ↔ Lo p q := by
  unfold cmpP
  by_cases h : Lo p q
  · simp [h]
  · rw [if_neg h]
    split <;> simp [h]
theorem ltE_iff (x y : El) : ltE x y = true ↔ Lo x.1 y.1 := by
  rw [show ltE x y = true ↔ cmpE x y < 0 by simp [ltE]]
  exact cmpP_lo
theorem Lo.not_trans {x y z : P6} (h : Lo x z) (h1 : ¬ Lo x y) (h2 : ¬ Lo y z) : False := by
  rcases Lo.tri x y with k | k | k
  · exact h1 k
  · subst k; exact h2 h
  · exact h2 (k.trans h)
theorem swoE : Go.Sort.SWO ltE := by
  refine ⟨fun x => ?_, fun x y z h1 h2 => ?_, fun x y z h1 h2 => ?_⟩
  · cases h : ltE x x with
    | false => rfl
    | true => rw [ltE_iff] at h; exact absurd h (Lo.irrefl _)
  · rw [ltE_iff] at h1 h2 ⊢; exact h1.trans h2
  · cases h : ltE x z with
    | false => rfl
    | true =>
      have h1' : ¬ ltE x y = true := by simp [h1]
      have h2' : ¬ ltE y z = true := by simp [h2]
      rw [ltE_iff] at h h1' h2'
      exact (h.not_trans h1' h2').elim
def sortQ (l : List El) : List El := (Go.Sort.sort ltE l.toArray).toList
theorem sortQ_perm (l : List El) : (sortQ l).Perm l := by
  have h := (Go.Sort.sort_sorts ltE swoE l.toArray).1
  have h1 := h.1
  have h2 := h.2.2
  rw [show (Go.Sort.sort ltE l.toArray).extract 0 l.toArray.size = Go.Sort.sort ltE l.toArray by rw [← h1];simp,show l.toArray.extract 0 l.toArray.size = l.toArray by simp] at h2
  exact h2
theorem sortQ_sorted (l : List El) : (sortQ l).Pairwise fun x y => ltE y x = false := by
  have h := Go.Sort.sort_sorts ltE swoE l.toArray
  have h1 := h.1.1
  have h2 := h.2
  unfold sortQ
  rw [List.pairwise_iff_getElem]
  intro i j hi hj hij
  have := h2 i j (by omega) hij (by rw [← h1]; simpa using hj)
  simp only [Array.length_toList] at hi hj
  simpa [getElem!_pos, hi, hj] using this
theorem elE_pt (d : Array El) : elE d = ptE (d.toList.map (·.1)) := by
  funext i j
  unfold elE ptE gP
  have : (d[i]! : El).1 = (d.toList.map (·.1)).getD i z6 := by
    rw [List.getD_eq_getElem?_getD, List.getElem?_map, Array.getElem?_toList, getElem!_def]
    cases d[i]? <;> rfl
  rw [← this]
theorem lift_el : ∀ {l : List P6}, (∀ p ∈ l, Bd6 576 p) → ∃ L : List El, L.map (·.1) = l
  | [], _ => ⟨[], rfl⟩
  | p :: l, h => by
    obtain ⟨L, hL⟩ := lift_el (l := l) fun q hq => h q (List.mem_cons_of_mem _ hq)
    exact ⟨⟨p, h p (by simp)⟩ :: L, by simp [hL]⟩
theorem sortP_tu (l : List P6) (hb : ∀ p ∈ l,Bd6 576 p) (hn : l.length ≤ 60000) : ∃ m : List P6,m.length = l.length ∧ m.Perm l ∧ m.Pairwise (fun x y=>¬ Lo y x) ∧ Turns Tryd.prog 41 [.own 0 0 l.length none,.fn (.func 33) [] []] [ptO l] (.tup []) [ptO m] := by
  obtain ⟨L, rfl⟩ := lift_el hb
  refine ⟨(sortQ L).map (·.1), ?_, ?_, ?_, ?_⟩
  · rw [List.length_map, (sortQ_perm L).length_eq, List.length_map]
  · exact (sortQ_perm L).map _
  · rw [List.pairwise_map]
    refine (sortQ_sorted L).imp fun {x y} h k => ?_
    rw [← ltE_iff, h] at k
    cases k
  · have h := sortF_tu L.length L.toArray (by simp) (by rw [List.length_map] at hn; exact hn)
    have e1 : (L.map (·.1)).length = L.length := List.length_map _
    have e2 : ((sortQ L).map (·.1)).length = L.length := by rw [List.length_map, (sortQ_perm L).length_eq]
    have f1 : ptO (L.map (·.1)) = elO L.length L.toArray := by
      show AObj.arr _ 6 _ _ = AObj.arr _ 6 _ _
      rw [e1, elE_pt]
    have f2 : ptO ((sortQ L).map (·.1)) = elO L.length (Go.Sort.sort ltE L.toArray) := by
      show AObj.arr _ 6 _ _ = AObj.arr _ 6 _ _
      rw [e2, elE_pt]
      rfl
    rw [f1, f2, e1]
    exact h
def chE (g : P6) (k : Nat) : Option P6 := if (powR g k).2 = 0 ∧ (octR (powR g k).1).2.2 = 0 then some (octR (powR g k).1).1 else none
def chL (g : P6) : Nat → Option (List P6)
  | 0 => some []
  | k + 1 => (chL g k).bind fun l => (chE g k).map fun p => l ++ [p]
def chR (g : P6) (n : Int) : List P6 × Int :=
  if Bd6 576 g ∧ 1 ≤ n ∧ n ≤ 64 then (match chL g n.toNat with
    | none => ([], 3)
    | some l => (match srtP l with
      | none => ([], 5)
      | some m => (m, 0))) else ([], 1)
theorem chL_none {g : P6} {k : Nat} (h : chL g k = none) : ∀ d, chL g (k + d) = none
  | 0 => h
  | d + 1 => by rw [← Nat.add_assoc, chL, chL_none h d]; rfl
theorem oct_bd {p : P6} (h : (octR p).2.2 = 0) : Bd6 576 (octR p).1 := by
  unfold octR at *
  by_cases hb : Bd6 576 p
  · rw [if_pos hb] at h ⊢
    by_cases hi : inB (up12 p (-octO p)) = true
    · rw [if_pos hi]; exact inB_lo hi
    · rw [if_neg hi] at h; simp at h
  · rw [if_neg hb] at h; simp at h
theorem chL_len {g : P6} : ∀ {k : Nat} {l : List P6}, chL g k = some l → l.length = k ∧ ∀ p ∈ l, Bd6 576 p
  | 0, l, h => by simp only [chL, Option.some.injEq] at h; subst h; exact ⟨rfl, fun p hp => by cases hp⟩
  | k + 1, l, h => by
    rw [chL] at h
    cases hq : chL g k with
    | none => rw [hq] at h; cases h
    | some m =>
      rw [hq] at h
      simp only [Option.bind_some] at h
      obtain ⟨g1, g2⟩ := chL_len hq
      cases he : chE g k with
      | none => rw [he] at h; cases h
      | some p =>
        rw [he] at h
        simp only [Option.map_some, Option.some.injEq] at h
        subst h
        refine ⟨by rw [List.length_append, g1]; rfl, fun q hq => ?_⟩
        rcases List.mem_append.1 hq with k1 | k1
        · exact g2 q k1
        · simp only [List.mem_singleton] at k1
          subst k1
          unfold chE at he
          split at he
          · rename_i h9
            simp only [Option.some.injEq] at he
            subst he
            exact oct_bd h9.2
          · cases he
end Go.Proofs.YtdglbjjenihdlaaDoor
