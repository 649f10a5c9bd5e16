/-
  Rows.StoreForwardCardSaid: what records lead to is never taken back by others; the checksum's table is laid as the program's text lays it; no other condition.
-/
import Derived.Test.YtnomenmakhielaaDoorQS43
import Derived.Test.YtnomenmakhielaaDoorQS42
set_option linter.unusedSimpArgs false
set_option linter.unusedVariables false
namespace Go.Proofs.YtnomenmakhielaaDoor
open Go.Ab Go.ChangeShapes Go.WideShapes Go.ChangeAt Go.RowKit

theorem storeForward_look : ∀ Ds, FitsArgs Γ Tryd.f3.params.toList Ds → Sized Tryd.prog Tryd.f3.params.toList Ds → ∃ us, (∀ w vs, RvL [] w (valsOf Γ Tryd.f3.params.toList Ds) vs → RvL [] w us vs) ∧ Look Tryd.prog 3 us (.imm (.bool true)) := by
  intro Ds hF hS
  have e : Tryd.f3.params.toList = [22, 23] := by kernel_rfl
  rw [e] at hF hS ⊢
  match Ds, hF, hS with
  | [D0, D1], hF, hS =>
    simp only [FitsArgs] at hF
    obtain ⟨q0, q1, _⟩ := hF
    obtain ⟨l, hl, rfl⟩ := fits_recs q0
    obtain ⟨a, ha, rfl⟩ := fits_u16 q1
    refine ⟨_, fun w vs h => ?_, law_forward l a hl ha⟩
    match vs, h with
    | [v0, v1], h =>
      simp only [valsOf, isAggT, Γ_22, Γ_23, TD.isAgg, RvL] at h ⊢
      exact ⟨recs_val (h.1), h.2.1, trivial⟩
    | [], h => simp [valsOf, RvL] at h
    | [_], h => simp [valsOf, RvL] at h
    | _ :: _ :: _ :: _, h => simp [valsOf, RvL] at h
  | [], hF, _ => simp [FitsArgs] at hF
  | [_], hF, _ => simp [FitsArgs] at hF
  | _ :: _ :: _ :: _, hF, _ => simp [FitsArgs] at hF

theorem storeForward_laid (os : Os) : laidMet Tryd.prog Rows.storeForwardRow.laid ((laidWorld os).forCall (fun _ _ => 0) ⟨#[], #[.slice none 0 0, .int .u16 0], []⟩).memory := laidMet_of_run' 8 (by kernel_rfl) (by kernel_rfl)
theorem storeForward_reads (os : Os) {H : Type} (enc : TypeId × Value → H) : ∃ places, DataW.whole enc Tryd.prog ((laidWorld os).forCall (fun _ _ => 0) ⟨#[], #[.slice none 0 0, .int .u16 0], []⟩).memory Tryd.f3.params.toList Rows.storeForwardSpec.vars false (#[.slice none 0 0, .int .u16 0] : Array Value).toList 8 = some ([.nil, .lit (.int .u16 0)], [], places) := ⟨[], by kernel_rfl⟩

set_option maxRecDepth 100000 in
theorem storeForward_lifted (os : Os) (started : os.Started) (H : Type) (enc : TypeId × Value → H) (F : Stop.Interp) :
    ReturnsInHanded {} Tryd.checked os 3 .any ((OpenSpec.ofChange Rows.storeForwardSpec).preRow enc Tryd.prog Tryd.f3 Rows.storeForwardRow.domain false Rows.storeForwardRow.laid) (((OpenSpec.ofChange Rows.storeForwardSpec).at F).post enc Tryd.prog Tryd.f3 false true false false) := by
  obtain ⟨places, hx⟩ := storeForward_reads os enc
  refine returnsInHanded_of_row (C := Tryd.checked) (s := OpenSpec.ofChange Rows.storeForwardSpec) own started (by kernel_rfl) Tryd.func3
    (witness_row_at (enc := enc) (C := Tryd.checked) false (laidWorld os) #[.slice none 0 0, .int .u16 0] rfl (by kernel_rfl) (by kernel_rfl) (by kernel_rfl)
      (OpenSpec.preRow_of_cond 8 hx (by kernel_rfl) (fun k hk => by cases hk) (by kernel_rfl) (storeForward_laid os))) ?_
  intro W base args ds gs before hval hW _ _ hw hL _ _
  exact law_contractS (fun _ h => globs h) Γ_ok (by kernel_rfl) laidOut (by kernel_rfl) Tryd.underlying4 (by kernel_rfl) rfl (fun ds hl => by
    match ds, hl with
    | [_, _], _ => rfl) (by kernel_rfl) storeForward_look _ W base args ds gs before hval hW hw hL

theorem storeForward_said : Rows.StoreForwardSaid :=
  OpenClaim.holds_of_cond 3 Tryd.f3 rfl rfl rfl rfl rfl rfl rfl ⟨rfl, rfl, rfl, rfl, rfl⟩ rfl rfl rfl rfl rfl (by kernel_rfl) Tryd.func3 (by kernel_rfl)
    (of_decide_eq_true (by kernel_rfl)) (by unfold Func.isWrapper; first | (rw [if_pos (by decide +kernel)]; kernel_rfl) | (rw [if_neg (by decide +kernel)]; exact ⟨rfl, rfl⟩))
    (fun os started H enc _ F => by rw [OpenClaim.pre_eq_preRow]; exact storeForward_lifted os started H enc F)

theorem storeForward_plain (f : FuncId) (fn : Func) (hf : Tryd.pinned.checked.prog.funcNamed Rows.storeForwardRow.func = some f) (hfn : Tryd.pinned.checked.prog.funcs[f]? = some fn) :
    false = Tryd.pinned.checked.prog.looks [] ∧ ∀ (j : Nat) t, fn.params[j]? = some t → Tryd.pinned.checked.prog.wantsStandIn t = false := by
  obtain rfl : f = 3 := Option.some.inj ((show Tryd.prog.funcNamed Rows.storeForwardRow.func = some 3 by kernel_rfl).symm.trans hf) |>.symm
  obtain rfl : fn = Tryd.f3 := (Option.some.inj (Tryd.func3.symm.trans hfn)).symm
  refine ⟨by kernel_rfl, fun j t ht => ?_⟩
  have hall : Tryd.f3.params.toList.all (fun t => !(Tryd.prog.wantsStandIn t)) = true := by kernel_rfl
  have hm := List.all_eq_true.1 hall t (by simpa using Array.mem_of_getElem? ht)
  have h2 : Tryd.prog.wantsStandIn t = false := by simpa using hm
  exact h2

theorem storeForward_holds : Rows.StoreForwardCardSaid :=
  Claim7.holds_tied_plain_at .later [] _ _ _ _ storeForward_said (fun _ h => by cases h) (by kernel_rfl) (fun _ h => by cases h) storeForward_row_tie rfl ⟨rfl, rfl⟩ (by kernel_rfl) rfl storeForward_plain (by kernel_rfl)

end Go.Proofs.YtnomenmakhielaaDoor
