/-
  Rows.ScaleMatchesReferenceCardSaid: all functions of the package answer what the reference answers;the primes are laid as the program's text lays them;no other condition.
-/
import Derived.Test.YtdglbjjenihdlaaDoorWC2
import Derived.Test.YtdglbjjenihdlaaDoorWD8
set_option linter.unusedSimpArgs false
set_option linter.unusedVariables false
namespace Go.Proofs.YtdglbjjenihdlaaDoor
open Go.Ab Go.ChangeShapes Go.WideShapes Go.ChangeAt Go.RowKit
theorem scaleMatchesReference_look : ∀ Ds,FitsArgsX Γ Tryd.f3.params.toList Ds → SizedX Tryd.prog Tryd.f3.params.toList Ds → ∃ us,(∀ w vs,RvL [] w (valsOfX Γ Tryd.f3.params.toList Ds) vs → RvL [] w us vs) ∧ Look Tryd.prog 3 us (.imm (.bool true)) := by
  intro Ds hF hS
  have e : Tryd.f3.params.toList = [22, 24, 24, 3, 3] := by kernel_rfl
  rw [e] at hF hS ⊢
  match Ds, hF, hS with
  | [D0, D1, D2, D3, D4], hF, hS =>
    simp only [FitsArgsX] at hF
    obtain ⟨q0, q1, q2, q3, q4, _⟩ := hF
    obtain ⟨s, hs, rfl⟩ := fits_pts q0
    obtain ⟨p, rfl⟩ := fits_pitch q1
    obtain ⟨g, rfl⟩ := fits_pitch q2
    obtain ⟨n, rfl⟩ := fits_int q3
    obtain ⟨d, rfl⟩ := fits_int q4
    refine ⟨_, fun w vs h => ?_, ref_law s hs p g n d⟩
    match vs, h with
    | [v0, v1, v2, v3, v4], h =>
      simp only [valsOfX, isAggT, Γ_22, Γ_24, Γ_3, TD.isAgg, RvL] at h ⊢
      exact ⟨pts_val (h.1), pit_val (h.2.1), pit_val (h.2.2.1), h.2.2.2.1, h.2.2.2.2.1, trivial⟩
    | [], h => simp [valsOfX, RvL] at h
    | [_], h => simp [valsOfX, RvL] at h
    | [_, _], h => simp [valsOfX, RvL] at h
    | [_, _, _], h => simp [valsOfX, RvL] at h
    | [_, _, _, _], h => simp [valsOfX, RvL] at h
    | _ :: _ :: _ :: _ :: _ :: _ :: _, h => simp [valsOfX, RvL] at h
  | [], hF, _ => simp [FitsArgsX] at hF
  | [_], hF, _ => simp [FitsArgsX] at hF
  | [_, _], hF, _ => simp [FitsArgsX] at hF
  | [_, _, _], hF, _ => simp [FitsArgsX] at hF
  | [_, _, _, _], hF, _ => simp [FitsArgsX] at hF
  | _ :: _ :: _ :: _ :: _ :: _ :: _, hF, _ => simp [FitsArgsX] at hF
theorem scaleMatchesReference_laid (os : Os) : laidMet Tryd.prog Rows.scaleMatchesReferenceRow.laid ((laidWorld os).forCall (fun _ _=>0) ⟨#[],#[.slice none 0 0,.agg #[.int .i64 0,.int .i64 0,.int .i64 0,.int .i64 0,.int .i64 0,.int .i64 0],.agg #[.int .i64 0,.int .i64 0,.int .i64 0,.int .i64 0,.int .i64 0,.int .i64 0],.int .i64 0,.int .i64 0],[]⟩).memory := laidMet_of_run' 8 (by kernel_rfl) (by kernel_rfl)
theorem scaleMatchesReference_reads (os : Os) {H : Type} (enc : TypeId × Value → H) : ∃ places,DataW.whole enc Tryd.prog ((laidWorld os).forCall (fun _ _=>0) ⟨#[],#[.slice none 0 0,.agg #[.int .i64 0,.int .i64 0,.int .i64 0,.int .i64 0,.int .i64 0,.int .i64 0],.agg #[.int .i64 0,.int .i64 0,.int .i64 0,.int .i64 0,.int .i64 0,.int .i64 0],.int .i64 0,.int .i64 0],[]⟩).memory Tryd.f3.params.toList Rows.scaleMatchesReferenceSpec.vars false (#[.slice none 0 0,.agg #[.int .i64 0,.int .i64 0,.int .i64 0,.int .i64 0,.int .i64 0,.int .i64 0],.agg #[.int .i64 0,.int .i64 0,.int .i64 0,.int .i64 0,.int .i64 0,.int .i64 0],.int .i64 0,.int .i64 0] : Array Value).toList 8 = some ([.nil,.agg [.lit (.int .i64 0),.lit (.int .i64 0),.lit (.int .i64 0),.lit (.int .i64 0),.lit (.int .i64 0),.lit (.int .i64 0)],.agg [.lit (.int .i64 0),.lit (.int .i64 0),.lit (.int .i64 0),.lit (.int .i64 0),.lit (.int .i64 0),.lit (.int .i64 0)],.lit (.int .i64 0),.lit (.int .i64 0)],[],places) := ⟨[],by kernel_rfl⟩
set_option maxRecDepth 100000 in
theorem scaleMatchesReference_lifted (os : Os) (started : os.Started) (H : Type) (enc : TypeId × Value → H) (F : Stop.Interp) :
    ReturnsInHanded {} Tryd.checked os 3 .any ((OpenSpec.ofChange Rows.scaleMatchesReferenceSpec).preRow enc Tryd.prog Tryd.f3 Rows.scaleMatchesReferenceRow.domain false Rows.scaleMatchesReferenceRow.laid) (((OpenSpec.ofChange Rows.scaleMatchesReferenceSpec).at F).post enc Tryd.prog Tryd.f3 false true false false) := by
  obtain ⟨places, hx⟩ := scaleMatchesReference_reads os enc
  refine returnsInHanded_of_row (C := Tryd.checked) (s := OpenSpec.ofChange Rows.scaleMatchesReferenceSpec) own started (by kernel_rfl) Tryd.func3
    (witness_row_at (enc := enc) (C := Tryd.checked) false (laidWorld os) #[.slice none 0 0,.agg #[.int .i64 0,.int .i64 0,.int .i64 0,.int .i64 0,.int .i64 0,.int .i64 0],.agg #[.int .i64 0,.int .i64 0,.int .i64 0,.int .i64 0,.int .i64 0,.int .i64 0],.int .i64 0,.int .i64 0] rfl (by kernel_rfl) (by kernel_rfl) (by kernel_rfl)
      (OpenSpec.preRow_of_cond 8 hx (by kernel_rfl) (fun k hk => by cases hk) (by kernel_rfl) (scaleMatchesReference_laid os))) ?_
  intro W base args ds gs before hval hW _ _ hw hL _ _
  exact law_contractSX (fun _ h => globs h) Γ_ok (by kernel_rfl) laidOut (by kernel_rfl) Tryd.underlying4 (by kernel_rfl) rfl (fun ds hl => by
    match ds, hl with
    | [_, _, _, _, _], _ => rfl) (by kernel_rfl) scaleMatchesReference_look _ W base args ds gs before hval hW hw hL
theorem scaleMatchesReference_said : Rows.ScaleMatchesReferenceSaid :=
  OpenClaim.holds_of_cond 3 Tryd.f3 rfl rfl rfl rfl rfl rfl rfl ⟨rfl,rfl,rfl,rfl,rfl⟩ rfl rfl rfl rfl rfl (by kernel_rfl) Tryd.func3 (by kernel_rfl)
    (of_decide_eq_true (by kernel_rfl)) (by unfold Func.isWrapper;first | (rw [if_pos (by decide +kernel)];kernel_rfl) | (rw [if_neg (by decide +kernel)];exact ⟨rfl,rfl⟩))
    (fun os started H enc _ F => by rw [OpenClaim.pre_eq_preRow]; exact scaleMatchesReference_lifted os started H enc F)
theorem scaleMatchesReference_plain (f : FuncId) (fn : Func) (hf : Tryd.pinned.checked.prog.funcNamed Rows.scaleMatchesReferenceRow.func = some f) (hfn : Tryd.pinned.checked.prog.funcs[f]? = some fn) :
    true = Tryd.pinned.checked.prog.looks [] ∧ ∀ (j : Nat) t,fn.params[j]? = some t → Tryd.pinned.checked.prog.wantsStandIn t = false := by
  obtain rfl : f = 3 := Option.some.inj ((show Tryd.prog.funcNamed Rows.scaleMatchesReferenceRow.func = some 3 by kernel_rfl).symm.trans hf) |>.symm
  obtain rfl : fn = Tryd.f3 := (Option.some.inj (Tryd.func3.symm.trans hfn)).symm
  refine ⟨by kernel_rfl, fun j t ht => ?_⟩
  have hall : Tryd.f3.params.toList.all (fun t => !(Tryd.prog.wantsStandIn t)) = true := by kernel_rfl
  have hm := List.all_eq_true.1 hall t (by simpa using Array.mem_of_getElem? ht)
  have h2 : Tryd.prog.wantsStandIn t = false := by simpa using hm
  exact h2
theorem scaleMatchesReference_holds : Rows.ScaleMatchesReferenceCardSaid :=
  Claim7.holds_tied_plain_at .later [] _ _ _ _ scaleMatchesReference_said (fun _ h=>by cases h) (by kernel_rfl) (fun _ h=>by cases h) scaleMatchesReference_row_tie rfl ⟨rfl,rfl⟩ (by kernel_rfl) rfl scaleMatchesReference_plain (by kernel_rfl)
end Go.Proofs.YtdglbjjenihdlaaDoor
