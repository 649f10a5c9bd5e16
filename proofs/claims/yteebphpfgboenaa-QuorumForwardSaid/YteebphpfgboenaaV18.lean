/-
  Walk of the law QuorumOneStart.
-/
import Derived.Test.YteebphpfgboenaaV15
set_option linter.unusedSimpArgs false
set_option linter.unusedVariables false
namespace Go.Proofs.Yteebphpfgboenaa
open Go.Ab

/-- A part of a function's code. -/
def cAt : Code → List Bool → Code
  | .seq a _, false :: p => cAt a p
  | .seq _ b, true :: p => cAt b p
  | .block _ c, _ :: p => cAt c p
  | c, _ => c
@[reducible] noncomputable def os7 : Code := Try.f7.body.getD .skip

@[go_sem, reducible] def boxR (R : Rnd) : AObj := .box 29 [.own 0 0 R.acc.length none, .own 1 0 R.pro.length none, .own 2 0 R.sta.length none, .own 3 0 R.vot.length none]
@[go_sem, reducible] def osH (n : Int) : List AV := [.imm (.int .i64 n), .top, .top, .top, .imm (.bool false), .imm (.bool true), .optr 4 0 0]
@[go_sem, reducible] def osO (R : Rnd) : List AObj := rndO R ++ [boxR R]
/-- The last votes of the first j votes, desk by desk. -/
def lastA (n : Int) (vs : List Vot) : List Acc := (List.range n.toNat).map fun (i : Nat) => ⟨0, (lastV (i : Int) vs).1, (lastV (i : Int) vs).2⟩
theorem lastA_len (n : Int) (vs : List Vot) : (lastA n vs).length = n.toNat := by simp [lastA]
theorem gA_last {n : Int} {vs : List Vot} {i : Nat} (h : i < n.toNat) : gA (lastA n vs) i = ⟨0, (lastV i vs).1, (lastV i vs).2⟩ := by
  simp [gA, lastA, h]
theorem lastA_snoc {n : Int} {vs : List Vot} {w : Vot} (h0 : 0 ≤ w.d) (h1 : w.d < n) : lastA n (vs ++ [w]) = (lastA n vs).set w.d.toNat ⟨0, w.b, w.x⟩ := by
  apply List.ext_getElem
  · simp [lastA_len]
  · intro i h2 h3
    rw [lastA_len] at h2
    have e1 : (lastA n (vs ++ [w]))[i]'(by rw [lastA_len]; exact h2) = ⟨0, (lastV i (vs ++ [w])).1, (lastV i (vs ++ [w])).2⟩ := by simp [lastA]
    rw [e1, List.getElem_set, lastV_snoc]
    by_cases h : w.d.toNat = i
    · rw [if_pos h, if_pos (by omega)]
    · rw [if_neg h, if_neg (by omega)]
      simp [lastA]
theorem last_upd {n : Int} {vs : List Vot} {w : Vot} (h0 : 0 ≤ w.d) (h1 : w.d < n) {i j : Nat} (hi : i < n.toNat) (hj : j < 6) :
    updE (updE (accE (lastA n vs)) w.d.toNat 1 [.imm (.int .i64 w.b)]) w.d.toNat 2 (tkL w.x) i j = accE (lastA n (vs ++ [w])) i j := by
  rw [lastA_snoc h0 h1]
  unfold updE
  have hg : gA ((lastA n vs).set w.d.toNat ⟨0, w.b, w.x⟩) i = if i = w.d.toNat then ⟨0, w.b, w.x⟩ else gA (lastA n vs) i := gA_set (by rw [lastA_len]; omega)
  unfold accE
  rw [hg]
  by_cases h : i = w.d.toNat
  · subst h
    rw [gA_last (by omega)]
    rw [if_pos rfl]
    rcases j with _ | _ | _ | _ | _ | _ | j
    all_goals first | (exfalso; omega) | simp [nth]
  · rw [if_neg (by rintro ⟨q, _⟩; exact h q), if_neg (by rintro ⟨q, _⟩; exact h q), if_neg h]

@[go_sem, reducible] def lastO (n : Int) (vs : List Vot) : AObj := .arr 42 6 n.toNat (accE (lastA n vs))
@[go_sem, reducible] def osH2 (n : Int) : List AV := osH n ++ [.top, .top, .top, .top, .top, .own 5 0 n.toNat none]
end Go.Proofs.Yteebphpfgboenaa
