/-
  Rows.ScaleStepsCardSaid: the products of the steps of a scale are its degrees and at last the octave;the primes are laid as the program's text lays them;no other condition.
-/
import Derived.Test.YtdglbjjenihdlaaDoorQC2
import Derived.Test.YtdglbjjenihdlaaDoorQD3
set_option linter.unusedSimpArgs false
set_option linter.unusedVariables false
namespace Go.Proofs.YtdglbjjenihdlaaDoor
open Go.Ab Go.ChangeShapes Go.WideShapes Go.ChangeAt Go.RowKit
theorem scaleSteps_look : ∀ Ds,FitsArgsX Γ Tryd.f9.params.toList Ds → SizedX Tryd.prog Tryd.f9.params.toList Ds → ∃ us,(∀ w vs,RvL [] w (valsOfX Γ Tryd.f9.params.toList Ds) vs → RvL [] w us vs) ∧ Look Tryd.prog 9 us (.imm (.bool true)) := by
  intro Ds hF hS
  have e : Tryd.f9.params.toList = [22] := by kernel_rfl
  rw [e] at hF hS ⊢
  match Ds, hF, hS with
  | [D0], hF, hS =>
    simp only [FitsArgsX] at hF
    obtain ⟨q0, _⟩ := hF
    obtain ⟨s, hs, rfl⟩ := fits_pts q0
    refine ⟨_, fun w vs h => ?_, steps_law s hs⟩
    match vs, h with
    | [v0], h =>
      simp only [valsOfX, isAggT, Γ_22, TD.isAgg, RvL] at h ⊢
      exact ⟨pts_val (h.1), trivial⟩
    | [], h => simp [valsOfX, RvL] at h
    | _ :: _ :: _, h => simp [valsOfX, RvL] at h
  | [], hF, _ => simp [FitsArgsX] at hF
  | _ :: _ :: _, hF, _ => simp [FitsArgsX] at hF
theorem scaleSteps_laid (os : Os) : laidMet Tryd.prog Rows.scaleStepsRow.laid ((laidWorld os).forCall (fun _ _=>0) ⟨#[],#[.slice none 0 0],[]⟩).memory := laidMet_of_run' 8 (by kernel_rfl) (by kernel_rfl)
theorem scaleSteps_reads (os : Os) {H : Type} (enc : TypeId × Value → H) : ∃ places,DataW.whole enc Tryd.prog ((laidWorld os).forCall (fun _ _=>0) ⟨#[],#[.slice none 0 0],[]⟩).memory Tryd.f9.params.toList Rows.scaleStepsSpec.vars false (#[.slice none 0 0] : Array Value).toList 8 = some ([.nil],[],places) := ⟨[],by kernel_rfl⟩
set_option maxRecDepth 100000 in
theorem scaleSteps_lifted (os : Os) (started : os.Started) (H : Type) (enc : TypeId × Value → H) (F : Stop.Interp) :
    ReturnsInHanded {} Tryd.checked os 9 .any ((OpenSpec.ofChange Rows.scaleStepsSpec).preRow enc Tryd.prog Tryd.f9 Rows.scaleStepsRow.domain false Rows.scaleStepsRow.laid) (((OpenSpec.ofChange Rows.scaleStepsSpec).at F).post enc Tryd.prog Tryd.f9 false true false false) := by
  obtain ⟨places, hx⟩ := scaleSteps_reads os enc
  refine returnsInHanded_of_row (C := Tryd.checked) (s := OpenSpec.ofChange Rows.scaleStepsSpec) own started (by kernel_rfl) Tryd.func9
    (witness_row_at (enc := enc) (C := Tryd.checked) false (laidWorld os) #[.slice none 0 0] rfl (by kernel_rfl) (by kernel_rfl) (by kernel_rfl)
      (OpenSpec.preRow_of_cond 8 hx (by kernel_rfl) (fun k hk => by cases hk) (by kernel_rfl) (scaleSteps_laid os))) ?_
  intro W base args ds gs before hval hW _ _ hw hL _ _
  exact law_contractSX (fun _ h => globs h) Γ_ok (by kernel_rfl) laidOut (by kernel_rfl) Tryd.underlying4 (by kernel_rfl) rfl (fun ds hl => by
    match ds, hl with
    | [_], _ => rfl) (by kernel_rfl) scaleSteps_look _ W base args ds gs before hval hW hw hL
theorem scaleSteps_said : Rows.ScaleStepsSaid :=
  OpenClaim.holds_of_cond 9 Tryd.f9 rfl rfl rfl rfl rfl rfl rfl ⟨rfl,rfl,rfl,rfl,rfl⟩ rfl rfl rfl rfl rfl (by kernel_rfl) Tryd.func9 (by kernel_rfl)
    (of_decide_eq_true (by kernel_rfl)) (by unfold Func.isWrapper;first | (rw [if_pos (by decide +kernel)];kernel_rfl) | (rw [if_neg (by decide +kernel)];exact ⟨rfl,rfl⟩))
    (fun os started H enc _ F => by rw [OpenClaim.pre_eq_preRow]; exact scaleSteps_lifted os started H enc F)
theorem scaleSteps_plain (f : FuncId) (fn : Func) (hf : Tryd.pinned.checked.prog.funcNamed Rows.scaleStepsRow.func = some f) (hfn : Tryd.pinned.checked.prog.funcs[f]? = some fn) :
    true = Tryd.pinned.checked.prog.looks [] ∧ ∀ (j : Nat) t,fn.params[j]? = some t → Tryd.pinned.checked.prog.wantsStandIn t = false := by
  obtain rfl : f = 9 := Option.some.inj ((show Tryd.prog.funcNamed Rows.scaleStepsRow.func = some 9 by kernel_rfl).symm.trans hf) |>.symm
  obtain rfl : fn = Tryd.f9 := (Option.some.inj (Tryd.func9.symm.trans hfn)).symm
  refine ⟨by kernel_rfl, fun j t ht => ?_⟩
  have hall : Tryd.f9.params.toList.all (fun t => !(Tryd.prog.wantsStandIn t)) = true := by kernel_rfl
  have hm := List.all_eq_true.1 hall t (by simpa using Array.mem_of_getElem? ht)
  have h2 : Tryd.prog.wantsStandIn t = false := by simpa using hm
  exact h2
theorem scaleSteps_holds : Rows.ScaleStepsCardSaid :=
  Claim7.holds_tied_plain_at .later [] _ _ _ _ scaleSteps_said (fun _ h=>by cases h) (by kernel_rfl) (fun _ h=>by cases h) scaleSteps_row_tie rfl ⟨rfl,rfl⟩ (by kernel_rfl) rfl scaleSteps_plain (by kernel_rfl)
end Go.Proofs.YtdglbjjenihdlaaDoor
