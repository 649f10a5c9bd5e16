/-
  Plain facts for pdqsortCmpFunc: sizes, its round in parts.
-/
import Derived.Test.YtgljhmnmmaclaaaQK8
import Derived.Sort.LotD4
set_option linter.unusedSimpArgs false
set_option linter.unusedVariables false
namespace Go.Proofs.Ytgljhmnmmaclaaa
open Go.Ab Go.Sort
section
variable {lt : El → El → Bool}
theorem size_insInner (a : Nat) : ∀ (j : Nat) (d : Array El), (insInner lt a j d).size = d.size
  | 0, d => rfl
  | j + 1, d => by
    rw [insInner]
    split
    · rw [size_insInner a j, size_swp]
    · rfl
theorem size_insOuter (a b : Nat) : ∀ (k i : Nat) (d : Array El), b - i ≤ k → (insOuter lt a b i d).size = d.size := by
  intro k
  induction k with
  | zero => intro i d h; rw [insOuter_ge (by omega)]
  | succ k ih =>
    intro i d h
    rw [insOuter]
    split
    · rw [ih _ _ (by omega), size_insInner]
    · rfl
theorem size_insertion (a b : Nat) (d : Array El) : (insertionSort lt d a b).size = d.size := size_insOuter a b _ _ _ (Nat.le_refl _)
theorem size_siftDown (hi first root : Nat) (d : Array El) : (siftDown lt hi first root d).size = d.size := by
  have key : ∀ (k root : Nat) (d : Array El), hi - root ≤ k → (siftDown lt hi first root d).size = d.size := by
    intro k
    induction k with
    | zero => intro root d h; rw [siftDown, dif_pos (by omega)]
    | succ k ih =>
      intro root d h
      rw [siftDown]
      split
      · rfl
      · split
        · split
          · rfl
          · split
            · rw [ih _ _ (by omega), size_swp]
            · rfl
        · split
          · rfl
          · rw [ih _ _ (by omega), size_swp]
  exact key _ root d (Nat.le_refl _)
theorem size_heapBuild (hi first : Nat) : ∀ (k : Nat) (d : Array El), (heapBuild lt hi first k d).size = d.size
  | 0, d => rfl
  | k + 1, d => by rw [heapBuild, size_heapBuild hi first k, size_siftDown]
theorem size_heapPop (first : Nat) : ∀ (k : Nat) (d : Array El), (heapPop lt first k d).size = d.size
  | 0, d => rfl
  | k + 1, d => by rw [heapPop, size_heapPop first k, size_siftDown, size_swp]
theorem size_heapSort (a b : Nat) (d : Array El) : (heapSort lt d a b).size = d.size := by rw [heapSort,size_heapPop,size_heapBuild]
theorem size_shiftDown : ∀ (j : Nat) (d : Array El), (shiftDown lt j d).size = d.size
  | 0, d => rfl
  | j + 1, d => by
    rw [shiftDown]
    split
    · rfl
    · rw [size_shiftDown j, size_swp]
theorem size_shiftUp (b : Nat) : ∀ (k j : Nat) (d : Array El), b - j ≤ k → (shiftUp lt b j d).size = d.size := by
  intro k
  induction k with
  | zero => intro j d h; rw [shiftUp, if_neg (by omega)]
  | succ k ih =>
    intro j d h
    rw [shiftUp]
    split
    · split
      · rfl
      · rw [ih _ _ (by omega), size_swp]
    · rfl
theorem size_pins (a b : Nat) : ∀ (s i : Nat) (d : Array El), (partialIns lt a b s i d).1.size = d.size
  | 0, i, d => rfl
  | s + 1, i, d => by
    rw [partialIns]
    simp only []
    split
    · rfl
    · split
      · rfl
      · rw [size_pins a b s]
        split
        · rw [size_shiftUp b _ _ _ (Nat.le_refl _)]
          split
          · rw [size_shiftDown, size_swp]
          · rw [size_swp]
        · split
          · rw [size_shiftDown, size_swp]
          · rw [size_swp]
theorem partEq_facts (d : Array El) {a b p : Nat} (hap : a ≤ p) (hpb : p < b) (hb : b ≤ d.size) : a < (partitionEqual lt d a b p).1 ∧ (partitionEqual lt d a b p).1 ≤ b ∧ (partitionEqual lt d a b p).2.size = d.size := by
  obtain ⟨r1,r2,r3,_⟩ := partEqLoop_spec lt a b _ (a + 1) (b - 1) (swp d a p) (Nat.le_refl _) (Nat.lt_succ_self a) (by omega) (by omega) (by rw [size_swp];exact hb) (fun t h1 h2=>by omega) (fun t h1 h2=>by omega)
  exact ⟨r1, r2, r3.1.trans (size_swp _ _ _)⟩
theorem part_facts (d : Array El) {a b p : Nat} (hap : a ≤ p) (hpb : p < b) (hb : b ≤ d.size) : a ≤ (partition lt d a b p).1 ∧ (partition lt d a b p).1 < b ∧ (partition lt d a b p).2.2.size = d.size := by
  obtain ⟨r1,r2,r3,_⟩ := partLoop_spec lt a b _ (a + 1) (b - 1) (swp d a p) (Nat.le_refl _) (Nat.lt_succ_self a) (by omega) (by omega) (by rw [size_swp];exact hb) (fun t h1 h2=>by omega) (fun t h1 h2=>by omega)
  rw [partition_fst, partition_arr]
  exact ⟨r1, r2, (size_swp _ _ _).trans (r3.1.trans (size_swp _ _ _))⟩
def pD (lt : El → El → Bool) (d3 : Array El) (a b limit : Nat) (wb wp : Bool) (pivot : Nat) : Array El :=
  if a > 0 && !lt d3[a - 1]! d3[pivot]! then
    match partitionEqual lt d3 a b pivot with
    | (mid, d4) => if _h : a < mid ∧ mid ≤ b then pdq lt d4 mid b limit wb wp else d4
  else
    match partition lt d3 a b pivot with
    | (mid, alreadyPartitioned, d4) =>
      if _h : a ≤ mid ∧ mid < b then
        if mid - a < b - mid then
          pdq lt (pdq lt d4 a mid limit true true) (mid + 1) b limit (decide (mid - a ≥ (b - a) / 8)) alreadyPartitioned
        else
          pdq lt (pdq lt d4 (mid + 1) b limit true true) a mid limit (decide (b - mid ≥ (b - a) / 8)) alreadyPartitioned
      else d4
def pC (lt : El → El → Bool) (d2 : Array El) (a b limit : Nat) (wb wp : Bool) (pivot : Nat) (hint : Hint) : Array El :=
  let pi := if wb && wp && hint = .increasing then partialInsertionSort lt d2 a b else (d2, false)
  if pi.2 then pi.1 else pD lt pi.1 a b limit wb wp pivot
def pB (lt : El → El → Bool) (d1 : Array El) (a b limit : Nat) (wb wp : Bool) : Array El :=
  let c := choosePivot lt d1 a b
  pC lt (if c.2 = .decreasing then reverseRange d1 a b else d1) a b limit wb wp (if c.2 = .decreasing then (b - 1) - (c.1 - a) else c.1) (if c.2 = .decreasing then Hint.increasing else c.2)
theorem pdq_1 {d : Array El} {a b limit : Nat} {wb wp : Bool} (h : b - a ≤ 12) : pdq lt d a b limit wb wp = insertionSort lt d a b := by rw [pdq,if_pos h]
theorem pdq_2 {d : Array El} {a b limit : Nat} {wb wp : Bool} (h : ¬ b - a ≤ 12) (h0 : limit = 0) : pdq lt d a b limit wb wp = heapSort lt d a b := by rw [pdq,if_neg h,if_pos h0]
theorem pdq_3 {d : Array El} {a b limit : Nat} {wb wp : Bool} (h : ¬ b - a ≤ 12) (h0 : ¬ limit = 0) : pdq lt d a b limit wb wp = pB lt (if !wb then breakPatterns d a b else d) a b (if !wb then limit - 1 else limit) wb wp := by
  rw [pdq, if_neg h, if_neg h0]; rfl
theorem pC_y {d2 : Array El} {a b limit : Nat} {wb wp : Bool} {pivot : Nat} {hint : Hint} (h : (wb && wp && decide (hint = .increasing)) = true) :
    pC lt d2 a b limit wb wp pivot hint = if (partialInsertionSort lt d2 a b).2 then (partialInsertionSort lt d2 a b).1 else pD lt (partialInsertionSort lt d2 a b).1 a b limit wb wp pivot := by
  unfold pC; simp only []; rw [if_pos h]
theorem pC_n {d2 : Array El} {a b limit : Nat} {wb wp : Bool} {pivot : Nat} {hint : Hint} (h : (wb && wp && decide (hint = .increasing)) = false) :
    pC lt d2 a b limit wb wp pivot hint = pD lt d2 a b limit wb wp pivot := by
  unfold pC; simp only [h, Bool.false_eq_true, if_false]
theorem pD_eq {d3 d4 : Array El} {a b limit mid : Nat} {wb wp : Bool} {pivot : Nat} (h : a > 0) (hl : lt d3[a - 1]! d3[pivot]! = false) (hx : partitionEqual lt d3 a b pivot = (mid,d4)) (hm : a < mid ∧ mid ≤ b) :
    pD lt d3 a b limit wb wp pivot = pdq lt d4 mid b limit wb wp := by
  unfold pD; rw [if_pos (by simp [h, hl]), hx]; simp only []; rw [dif_pos hm]
theorem pD_left {d3 d4 : Array El} {a b limit mid : Nat} {wb wp ap : Bool} {pivot : Nat} (h : a > 0 → lt d3[a - 1]! d3[pivot]! = true) (hx : partition lt d3 a b pivot = (mid,ap,d4)) (hm : a ≤ mid ∧ mid < b) (hlr : mid - a < b - mid) :
    pD lt d3 a b limit wb wp pivot = pdq lt (pdq lt d4 a mid limit true true) (mid + 1) b limit (decide (mid - a ≥ (b - a) / 8)) ap := by
  unfold pD; rw [if_neg (by simpa using h), hx]; simp only []; rw [dif_pos hm, if_pos hlr]
theorem pD_right {d3 d4 : Array El} {a b limit mid : Nat} {wb wp ap : Bool} {pivot : Nat} (h : a > 0 → lt d3[a - 1]! d3[pivot]! = true) (hx : partition lt d3 a b pivot = (mid,ap,d4)) (hm : a ≤ mid ∧ mid < b) (hlr : ¬ mid - a < b - mid) :
    pD lt d3 a b limit wb wp pivot = pdq lt (pdq lt d4 (mid + 1) b limit true true) a mid limit (decide (b - mid ≥ (b - a) / 8)) ap := by
  unfold pD; rw [if_neg (by simpa using h), hx]; simp only []; rw [dif_pos hm, if_neg hlr]
theorem size_pdq : ∀ (m : Nat) (d : Array El) (a b limit : Nat) (wb wp : Bool),b - a ≤ m → b ≤ d.size → (pdq lt d a b limit wb wp).size = d.size := by
  intro m
  induction m using Nat.strongRecOn with
  | ind m ih =>
    intro d a b limit wb wp hm hb
    by_cases h : b - a ≤ 12
    · rw [pdq_1 h, size_insertion]
    by_cases h0 : limit = 0
    · rw [pdq_2 h h0, size_heapSort]
    rw [pdq_3 h h0]
    have hs1 : (if !wb then breakPatterns d a b else d).size = d.size := by
      split
      · exact (breakPatterns_holds d a b (by omega) hb).1
      · rfl
    generalize (if !wb then breakPatterns d a b else d) = d1 at *
    generalize (if !wb then limit - 1 else limit) = lim
    unfold pB
    simp only []
    have hc := choosePivot_holds lt d1 a b (by omega)
    have hs2 : (if (choosePivot lt d1 a b).2 = .decreasing then reverseRange d1 a b else d1).size = d.size := by
      split
      · exact (reverseRange_holds d1 a b (by omega) (by omega)).1.trans hs1
      · exact hs1
    generalize (if (choosePivot lt d1 a b).2 = .decreasing then reverseRange d1 a b else d1) = d2 at *
    have hp : a ≤ (if (choosePivot lt d1 a b).2 = .decreasing then (b - 1) - ((choosePivot lt d1 a b).1 - a) else (choosePivot lt d1 a b).1) ∧ (if (choosePivot lt d1 a b).2 = .decreasing then (b - 1) - ((choosePivot lt d1 a b).1 - a) else (choosePivot lt d1 a b).1) < b := by
      split <;> omega
    generalize (if (choosePivot lt d1 a b).2 = .decreasing then (b - 1) - ((choosePivot lt d1 a b).1 - a) else (choosePivot lt d1 a b).1) = piv at *
    generalize (if (choosePivot lt d1 a b).2 = .decreasing then Hint.increasing else (choosePivot lt d1 a b).2) = hint
    have hD : ∀ d3 : Array El, d3.size = d.size → (pD lt d3 a b lim wb wp piv).size = d.size := by
      intro d3 hs3
      by_cases hq : a > 0 ∧ lt d3[a - 1]! d3[piv]! = false
      · have hf := partEq_facts (lt := lt) d3 hp.1 hp.2 (by omega)
        have e1 := ih (b - (partitionEqual lt d3 a b piv).1) (by omega) (partitionEqual lt d3 a b piv).2 (partitionEqual lt d3 a b piv).1 b lim wb wp (Nat.le_refl _) (by omega)
        rw [pD_eq (mid := (partitionEqual lt d3 a b piv).1) (d4 := (partitionEqual lt d3 a b piv).2) hq.1 hq.2 rfl ⟨hf.1,hf.2.1⟩]
        omega
      · have hq' : a > 0 → lt d3[a - 1]! d3[piv]! = true := fun h => by
          cases hx : lt d3[a - 1]! d3[piv]! with
          | true => rfl
          | false => exact absurd ⟨h, hx⟩ hq
        have hf := part_facts (lt := lt) d3 hp.1 hp.2 (by omega)
        by_cases hlr : (partition lt d3 a b piv).1 - a < b - (partition lt d3 a b piv).1
        · have e1 := ih ((partition lt d3 a b piv).1 - a) (by omega) (partition lt d3 a b piv).2.2 a (partition lt d3 a b piv).1 lim true true (Nat.le_refl _) (by omega)
          have e2 := ih (b - (partition lt d3 a b piv).1 - 1) (by omega) (pdq lt (partition lt d3 a b piv).2.2 a (partition lt d3 a b piv).1 lim true true) ((partition lt d3 a b piv).1 + 1) b lim (decide ((partition lt d3 a b piv).1 - a ≥ (b - a) / 8)) (partition lt d3 a b piv).2.1 (by omega) (by omega)
          rw [pD_left (mid := (partition lt d3 a b piv).1) (ap := (partition lt d3 a b piv).2.1) (d4 := (partition lt d3 a b piv).2.2) hq' rfl ⟨hf.1,hf.2.1⟩ hlr]
          omega
        · have e1 := ih (b - ((partition lt d3 a b piv).1 + 1)) (by omega) (partition lt d3 a b piv).2.2 ((partition lt d3 a b piv).1 + 1) b lim true true (Nat.le_refl _) (by omega)
          have e2 := ih ((partition lt d3 a b piv).1 - a) (by omega) (pdq lt (partition lt d3 a b piv).2.2 ((partition lt d3 a b piv).1 + 1) b lim true true) a (partition lt d3 a b piv).1 lim (decide (b - (partition lt d3 a b piv).1 ≥ (b - a) / 8)) (partition lt d3 a b piv).2.1 (Nat.le_refl _) (by omega)
          rw [pD_right (mid := (partition lt d3 a b piv).1) (ap := (partition lt d3 a b piv).2.1) (d4 := (partition lt d3 a b piv).2.2) hq' rfl ⟨hf.1,hf.2.1⟩ hlr]
          omega
    cases hh : (wb && wp && decide (hint = .increasing)) with
    | true =>
      rw [pC_y hh]
      split
      · exact (size_pins a b 5 _ _).trans hs2
      · exact hD _ ((size_pins a b 5 _ _).trans hs2)
    | false =>
      rw [pC_n hh]
      exact hD _ hs2
end
end Go.Proofs.Ytgljhmnmmaclaaa
