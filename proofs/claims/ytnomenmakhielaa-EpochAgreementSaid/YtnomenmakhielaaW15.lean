/-
  Contracts of the references' Learn and Merge.
-/
import Derived.Test.YtnomenmakhielaaW14
set_option linter.unusedSimpArgs false
set_option linter.unusedVariables false
namespace Go.Proofs.Ytnomenmakhielaa
open Go.Ab

def el (l : List Tk) (k : Int) : Tk := gt l (low l k)
open Classical in
noncomputable def rlL (l : List Tk) (t : Tk) : Nat → List Tk
  | 0 => []
  | k + 1 => (if knows l ((k : Int) + 1) then rlL l t k ++ [el l ((k : Int) + 1)] else rlL l t k) ++ (if t.s = (k : Int) + 1 then [t] else [])
theorem rlL_len (l : List Tk) (t : Tk) : ∀ k, (rlL l t k).length ≤ 2 * k
  | 0 => by simp [rlL]
  | k + 1 => by
    have := rlL_len l t k
    simp only [rlL, List.length_append]
    split <;> split <;> simp <;> omega
open Classical in
noncomputable def rmL (a b : List Tk) : Nat → List Tk
  | 0 => []
  | k + 1 => if knows a ((k : Int) + 1) then rmL a b k ++ [el a ((k : Int) + 1)] else if knows b ((k : Int) + 1) then rmL a b k ++ [el b ((k : Int) + 1)] else rmL a b k
theorem rmL_len (a b : List Tk) : ∀ k, (rmL a b k).length ≤ k
  | 0 => by simp [rmL]
  | k + 1 => by
    have := rmL_len a b k
    simp only [rmL]
    split
    · simp; omega
    · split
      · simp; omega
      · omega
def conf (a b : List Tk) (k : Int) : Prop := knows a k ∧ knows b k ∧ el a k ≠ el b k

theorem tk_snoc2 (l : List Tk) (x y : Tk) {i j : Nat} (h : i < l.length + 1 + 1) : catE (l.length + 1) (catE l.length (tkE l) (fun i j => nth (tkL x) (i * 4 + j))) (fun i j => nth (tkL y) (i * 4 + j)) i j = tkE (l ++ [x] ++ [y]) i j := by
  rw [← tk_snoc (l ++ [x]) y (by simpa using h)]
  unfold catE
  simp only [List.length_append, List.length_cons, List.length_nil, Nat.zero_add]
  split
  · rename_i h1
    rw [← tk_snoc l x h1]
    rfl
  · rfl

noncomputable def rlearnR (l : List Tk) (t : Tk) : List Tk × Int :=
  open Classical in if OkT t ∧ Val l then (if knows l t.s then (if gt l (low l t.s) = t then ([], 5) else ([], 23)) else (rlL l t 15, 0)) else ([], 1)
noncomputable def rmergeR (a b : List Tk) : List Tk × Int :=
  open Classical in if Val a ∧ Val b then (if ∃ k : Int, 1 ≤ k ∧ k ≤ 15 ∧ conf a b k then ([], 23) else (rmL a b 15, 0)) else ([], 1)

theorem conf_step {a b : List Tk} {k : Nat} (hva : Val a) (hvb : Val b) (h5 : ∀ q : Int, 1 ≤ q → q ≤ k → ¬ conf a b q)
    (hn : 0 ≤ rix a (↑k + 1) ∧ 0 ≤ rix b (↑k + 1) → (gt a (rix a (↑k + 1)).toNat).s = (gt b (rix b (↑k + 1)).toNat).s ∧ (gt a (rix a (↑k + 1)).toNat).c = (gt b (rix b (↑k + 1)).toNat).c ∧
        (gt a (rix a (↑k + 1)).toNat).n = (gt b (rix b (↑k + 1)).toNat).n ∧ (gt a (rix a (↑k + 1)).toNat).d = (gt b (rix b (↑k + 1)).toNat).d) : ∀ q : Int, 1 ≤ q → q ≤ ((k + 1 : Nat) : Int) → ¬ conf a b q := by
  intro q hq1 hq2 hcf
  rcases Int.lt_or_eq_of_le hq2 with h | h
  · exact h5 q hq1 (by omega) hcf
  · have h' : q = (k : Int) + 1 := by omega
    subst h'
    obtain ⟨c1, c2, c3⟩ := hcf
    rw [rix_knows hva.ris c1, rix_knows hvb.ris c2] at hn
    simp only [Int.toNat_natCast] at hn
    exact c3 (Tk.ext_iff'.2 (hn ⟨by omega, by omega⟩))

end Go.Proofs.Ytnomenmakhielaa
