/-
  Plain: where a singer breathes, if that is allowed behind each note; how long one breath then lasts.
-/
set_option linter.unusedSimpArgs false
set_option linter.unusedVariables false
namespace Go.Proofs.YtonmienclploaaaGreatDoor
def fitN : List Int → Int → Nat
  | [], _ => 0
  | x :: l, b => if x ≤ b then fitN l (b - x) + 1 else 0
def gL (l : List Int) (i : Nat) : Int := l.getD i 0
theorem drop_gL {l : List Int} {i : Nat} (h : i < l.length) : l.drop i = gL l i :: l.drop (i + 1) := by
  rw [List.drop_eq_getElem_cons h]
  simp [gL, h]
theorem fitN_yes {l : List Int} {i : Nat} {b : Int} (h : i < l.length) (hx : gL l i ≤ b) : fitN (l.drop i) b = fitN (l.drop (i + 1)) (b - gL l i) + 1 := by
  rw [drop_gL h, fitN, if_pos hx]
theorem fitN_no {l : List Int} {i : Nat} {b : Int} (h : i < l.length) (hx : ¬ gL l i ≤ b) : fitN (l.drop i) b = 0 := by
  rw [drop_gL h, fitN, if_neg hx]
theorem fitN_end {l : List Int} {i : Nat} (b : Int) (h : l.length ≤ i) : fitN (l.drop i) b = 0 := by
  rw [List.drop_eq_nil_of_le h, fitN]
def brkF : Nat → List Int → Int → Nat → List Int × Int
  | 0, _, _, _ => ([], 0)
  | f + 1, l, b, i =>
    if l.length ≤ i + fitN (l.drop i) b then ([], 0)
    else if fitN (l.drop i) b = 0 then ([], 22)
    else (((i + fitN (l.drop i) b - 1 : Nat) : Int) :: (brkF f l b (i + fitN (l.drop i) b)).1,(brkF f l b (i + fitN (l.drop i) b)).2)
theorem brkF_fuel {l : List Int} {b : Int} : ∀ {f g i : Nat},l.length < i + f → l.length < i + g → brkF f l b i = brkF g l b i
  | 0, 0, _, _, _ => rfl
  | 0, g + 1, i, h, _ => by
    rw [brkF, brkF, if_pos (by omega)]
  | f + 1, 0, i, _, h => by
    rw [brkF, brkF, if_pos (by omega)]
  | f + 1, g + 1, i, h, k => by
    rw [brkF, brkF]
    split
    · rfl
    · split
      · rfl
      · rename_i h1 h2
        rw [brkF_fuel (f := f) (g := g) (i := i + fitN (l.drop i) b) (by omega) (by omega)]
def brk (l : List Int) (b : Int) (i : Nat) : List Int × Int := brkF (l.length + 1) l b i
theorem brk_end {l : List Int} {b : Int} {i : Nat} (h : l.length ≤ i + fitN (l.drop i) b) : brk l b i = ([], 0) := by
  unfold brk
  rw [brkF, if_pos h]
theorem brk_long {l : List Int} {b : Int} {i : Nat} (h : i < l.length) (h2 : fitN (l.drop i) b = 0) : brk l b i = ([],22) := by
  unfold brk
  rw [brkF, if_neg (by omega), if_pos h2]
theorem brk_step {l : List Int} {b : Int} {i : Nat} (h : i + fitN (l.drop i) b < l.length) (h2 : fitN (l.drop i) b ≠ 0) :
    brk l b i = (((i + fitN (l.drop i) b - 1 : Nat) : Int) :: (brk l b (i + fitN (l.drop i) b)).1,(brk l b (i + fitN (l.drop i) b)).2) := by
  unfold brk
  rw [brkF, if_neg (by omega), if_neg h2, brkF_fuel (f := l.length) (g := l.length + 1) (by omega) (by omega)]
def okLen (x : Int) : Bool := decide (1 ≤ x) && decide (x ≤ 100000)
def breR (b : Int) (l : List Int) : List Int × Int := if (brk l b 0).2 = 0 then ((brk l b 0).1, 0) else ([], 22)
def isB (bs : List Int) (k : Nat) : Bool := bs.contains (k : Int)
def smL (l : List Int) (i : Nat) : Nat → Int
  | 0 => 0
  | k + 1 => smL l i k + gL l (i + k)
theorem smL_s (l : List Int) (i : Nat) : ∀ k, smL l i (k + 1) = gL l i + smL l (i + 1) k
  | 0 => by simp [smL]
  | k + 1 => by
    have := smL_s l i k
    rw [smL, this, smL, show i + 1 + k = i + (k + 1) by omega]
    omega
theorem fit_sum {l : List Int} (hp : ∀ x ∈ l,1 ≤ x) : ∀ {k i : Nat} {b : Int},0 ≤ b → k ≤ fitN (l.drop i) b → smL l i k ≤ b
  | 0, _, _, h, _ => by simpa [smL] using h
  | k + 1, i, b, h, hk => by
    have hi : i < l.length := by
      by_cases hh : i < l.length
      · exact hh
      · rw [fitN_end b (by omega)] at hk; omega
    by_cases hx : gL l i ≤ b
    · rw [fitN_yes hi hx] at hk
      have := fit_sum hp (k := k) (i := i + 1) (b := b - gL l i) (by omega) (by omega)
      rw [smL_s]
      omega
    · rw [fitN_no hi hx] at hk; omega
theorem gL_mem {l : List Int} {i : Nat} (h : i < l.length) : gL l i ∈ l := by simp [gL, h]
end Go.Proofs.YtonmienclploaaaGreatDoor
