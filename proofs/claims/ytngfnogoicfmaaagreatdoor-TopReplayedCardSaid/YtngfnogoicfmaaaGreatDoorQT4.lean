/-
  Plain: determinants of intervals' rows, their bounds; columns that are not used.
-/
import Derived.Test.YtngfnogoicfmaaaGreatDoorQT1
import Derived.Test.YtngfnogoicfmaaaGreatDoorQU8
set_option linter.unusedSimpArgs false
set_option linter.unusedVariables false
namespace Go.Proofs.YtngfnogoicfmaaaGreatDoor
open Go.Ab
def rwP (p : P6) : Rw := fun j => match j with
  | 0 => p.a | 1 => p.b | 2 => p.c | 3 => p.d | 4 => p.e | 5 => p.f | _ => 0
theorem rwP_z (j : Nat) : rwP z6 j = 0 := by
  rcases j with _ | _ | _ | _ | _ | _ | j <;> rfl
theorem p6E_at (l : List P6) (i : Nat) {j : Nat} (h : j < 6) : p6E l i j = .imm (.int .i64 (rwP (gP l i) j)) := by
  rcases j with _ | _ | _ | _ | _ | _ | j <;> first | rfl | omega
def rowsR (l : List P6) : List Rw := l.map rwP
theorem rowsR_at (l : List P6) (i : Nat) : (rowsR l).getD i (fun _ => 0) = rwP (gP l i) := by
  unfold rowsR gP
  rw [List.getD_eq_getElem?_getD, List.getD_eq_getElem?_getD, List.getElem?_map]
  cases l[i]? with
  | none => exact (funext rwP_z).symm
  | some p => rfl
theorem rwP_bd {n : Int} (h0 : 0 ≤ n) {p : P6} (h : Bd6 n p) (j : Nat) : -n ≤ rwP p j ∧ rwP p j ≤ n := by
  obtain ⟨h1, h2, h3, h4, h5, h6⟩ := h
  rcases j with _ | _ | _ | _ | _ | _ | j
  · exact h1
  · exact h2
  · exact h3
  · exact h4
  · exact h5
  · exact h6
  · show -n ≤ 0 ∧ (0 : Int) ≤ n; omega
theorem gP_bd {l : List P6} (hb : ∀ p ∈ l, Bd6 48 p) (i : Nat) : Bd6 48 (gP l i) := by
  by_cases h : i < l.length
  · exact hb _ (gP_mem h)
  · have : gP l i = z6 := by simp [gP, Nat.le_of_not_lt h]
    rw [this]; decide
theorem iota_bd2 {x : Rw} {B C : Int} (hB : 0 ≤ B) (hC : 0 ≤ C) (hx : ∀ j,-B ≤ x j ∧ x j ≤ B) : ∀ {F : List Nat → Int} {cs : List Nat},(∀ l,l.length + 1 = cs.length → -C ≤ F l ∧ F l ≤ C) →
    -(cs.length * (B * C)) ≤ iota x F cs ∧ iota x F cs ≤ cs.length * (B * C)
  | F, [], _ => by simp [iota]
  | F, c :: cs, hF => by
    have h1 := iota_bd2 hB hC hx (F := fun l => F (c :: l)) (cs := cs) fun l hl => hF _ (by simp; omega)
    have h2 := mul_bd (hx c) (hF cs rfl) hB hC
    rw [iota, List.length_cons]
    have e : ((cs.length + 1 : Nat) : Int) * (B * C) = cs.length * (B * C) + B * C := by rw [Int.natCast_add,Int.add_mul];simp
    rw [e]
    omega
def bdD : Nat → Int
  | 0 => 1
  | n + 1 => 6 * (48 * bdD n)
theorem bdD_pos : ∀ n, 1 ≤ bdD n
  | 0 => Int.le_refl _
  | n + 1 => by have := bdD_pos n; unfold bdD; omega
theorem bdD_mono (n : Nat) : bdD n ≤ bdD (n + 1) := by have := bdD_pos n; rw [bdD]; omega
theorem bdD_le : ∀ {n m : Nat}, n ≤ m → bdD n ≤ bdD m
  | n, m, h => by
    obtain ⟨d, rfl⟩ : ∃ d, m = n + d := ⟨m - n, by omega⟩
    clear h
    induction d with
    | zero => exact Int.le_refl _
    | succ d ih => exact Int.le_trans ih (bdD_mono _)
theorem iota_bd6 {x : Rw} {C : Int} (hC : 0 ≤ C) (hx : ∀ j,-48 ≤ x j ∧ x j ≤ 48) {F : List Nat → Int} {cs : List Nat} (h6 : cs.length ≤ 6) (hF : ∀ l,l.length + 1 = cs.length → -C ≤ F l ∧ F l ≤ C) :
    -(6 * (48 * C)) ≤ iota x F cs ∧ iota x F cs ≤ 6 * (48 * C) := by
  have h := iota_bd2 (by decide) hC hx hF
  have : (cs.length : Int) * (48 * C) ≤ 6 * (48 * C) := Int.mul_le_mul_of_nonneg_right (by omega) (by omega)
  omega
theorem det_bd : ∀ {rs : List Rw},(∀ r ∈ rs,∀ j,-48 ≤ r j ∧ r j ≤ 48) → ∀ {cs : List Nat},cs.length ≤ 6 → -bdD rs.length ≤ det rs cs ∧ det rs cs ≤ bdD rs.length
  | [], _, cs, _ => by simp [det, bdD]
  | r :: rs, hb, cs, h => by
    have := iota_bd6 (x := r) (F := det rs) (cs := cs) (C := bdD rs.length) (by have := bdD_pos rs.length;omega) (hb r (by simp)) h fun l hl=>det_bd (rs := rs) (fun q hq=>hb q (by simp [hq])) (by omega)
    rw [det, List.length_cons, bdD]
    exact this
def unU : List Nat → List Bool → List Nat
  | j :: js, b :: u => if b then unU js u else j :: unU js u
  | _, _ => []
theorem unU_app : ∀ {a : List Nat} {u : List Bool} (b : List Nat) (v : List Bool),a.length = u.length → unU (a ++ b) (u ++ v) = unU a u ++ unU b v
  | [], [], b, v, _ => rfl
  | j :: a, x :: u, b, v, h => by
    have ih := unU_app (a := a) (u := u) b v (by simpa using h)
    cases x <;> simp [unU, ih]
  | [], _ :: _, _, _, h => by simp at h
  | _ :: _, [], _, _, h => by simp at h
theorem unU_len : ∀ (a : List Nat) (u : List Bool), (unU a u).length ≤ a.length
  | [], _ => by simp [unU]
  | _ :: _, [] => by simp [unU]
  | j :: a, x :: u => by
    have := unU_len a u
    cases x <;> simp [unU] <;> omega
def gNt (l : List Nat) (i : Nat) : Nat := l.getD i 0
def gU (u : List Bool) (i : Nat) : Bool := u.getD i false
theorem drop_gNt {l : List Nat} {i : Nat} (h : i < l.length) : l.drop i = gNt l i :: l.drop (i + 1) := by
  rw [List.drop_eq_getElem_cons h]; simp [gNt, h]
theorem drop_gU {l : List Bool} {i : Nat} (h : i < l.length) : l.drop i = gU l i :: l.drop (i + 1) := by
  rw [List.drop_eq_getElem_cons h]; simp [gU, h]
theorem take_gNt {l : List Nat} {i : Nat} (h : i < l.length) : l.take (i + 1) = l.take i ++ [gNt l i] := by
  rw [List.take_add_one, List.getElem?_eq_getElem h]; simp [gNt, h]
theorem take_gU {l : List Bool} {i : Nat} (h : i < l.length) : l.take (i + 1) = l.take i ++ [gU l i] := by
  rw [List.take_add_one, List.getElem?_eq_getElem h]; simp [gU, h]
def preU (js : List Nat) (u : List Bool) (k : Nat) : List Nat := unU (js.take k) (u.take k)
def resU (js : List Nat) (u : List Bool) (k : Nat) : List Nat := unU (js.drop k) (u.drop k)
theorem pre_res {js : List Nat} {u : List Bool} (h : js.length = u.length) (k : Nat) : preU js u k ++ resU js u k = unU js u := by
  unfold preU resU
  rw [← unU_app _ _ (by simp [h]), List.take_append_drop, List.take_append_drop]
theorem preU_s {js : List Nat} {u : List Bool} (h : js.length = u.length) {k : Nat} (hk : k < js.length) : preU js u (k + 1) = if gU u k = true then preU js u k else preU js u k ++ [gNt js k] := by
  unfold preU
  rw [take_gNt hk, take_gU (by omega), unU_app _ _ (by simp [h])]
  cases gU u k <;> simp [unU]
theorem resU_s {js : List Nat} {u : List Bool} (h : js.length = u.length) {k : Nat} (hk : k < js.length) : resU js u k = if gU u k = true then resU js u (k + 1) else gNt js k :: resU js u (k + 1) := by
  unfold resU
  rw [drop_gNt hk, drop_gU (by omega)]
  cases gU u k <;> simp [unU]
theorem unU_set {js : List Nat} {u : List Bool} (h : js.length = u.length) {k : Nat} (hk : k < js.length) : unU js (u.set k true) = preU js u k ++ resU js u (k + 1) := by
  have e := pre_res (js := js) (u := u.set k true) (by simp [h]) k
  rw [← e, resU_s (by simp [h]) hk]
  have e1 : gU (u.set k true) k = true := by unfold gU;rw [List.getD_eq_getElem?_getD,List.getElem?_set_self (by omega)];rfl
  rw [if_pos e1]
  unfold preU resU
  rw [List.take_set_of_le (Nat.le_refl _), List.drop_set_of_lt (Nat.lt_succ_self _)]
theorem unU_none (js : List Nat) : unU js (List.replicate js.length false) = js := by
  induction js with
  | nil => rfl
  | cons j js ih => simp [List.replicate_succ, unU, ih]
end Go.Proofs.YtngfnogoicfmaaaGreatDoor
