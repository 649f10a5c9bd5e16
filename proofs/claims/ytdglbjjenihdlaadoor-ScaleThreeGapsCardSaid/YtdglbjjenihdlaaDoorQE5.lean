/-
  Rows.ScaleThreeGapsCardSaid: the steps of a chain have at most three sizes,and of three the greatest is the product of both others;the primes are laid as the program's text lays them;no other condition.
-/
import Derived.Test.YtdglbjjenihdlaaDoorQC2
import Derived.Test.YtdglbjjenihdlaaDoorQD5
set_option linter.unusedSimpArgs false
set_option linter.unusedVariables false
namespace Go.Proofs.YtdglbjjenihdlaaDoor
open Go.Ab Go.ChangeShapes Go.WideShapes Go.ChangeAt Go.RowKit
theorem scaleThreeGaps_look : ∀ Ds,FitsArgsX Γ Tryd.f8.params.toList Ds → SizedX Tryd.prog Tryd.f8.params.toList Ds → ∃ us,(∀ w vs,RvL [] w (valsOfX Γ Tryd.f8.params.toList Ds) vs → RvL [] w us vs) ∧ Look Tryd.prog 8 us (.imm (.bool true)) := by
  intro Ds hF hS
  have e : Tryd.f8.params.toList = [24, 3] := by kernel_rfl
  rw [e] at hF hS ⊢
  match Ds, hF, hS with
  | [D0, D1], hF, hS =>
    simp only [FitsArgsX] at hF
    obtain ⟨q0, q1, _⟩ := hF
    obtain ⟨g, rfl⟩ := fits_pitch q0
    obtain ⟨n, rfl⟩ := fits_int q1
    refine ⟨_, fun w vs h => ?_, gaps_law g n⟩
    match vs, h with
    | [v0, v1], h =>
      simp only [valsOfX, isAggT, Γ_24, Γ_3, TD.isAgg, RvL] at h ⊢
      exact ⟨pit_val (h.1), h.2.1, trivial⟩
    | [], h => simp [valsOfX, RvL] at h
    | [_], h => simp [valsOfX, RvL] at h
    | _ :: _ :: _ :: _, h => simp [valsOfX, RvL] at h
  | [], hF, _ => simp [FitsArgsX] at hF
  | [_], hF, _ => simp [FitsArgsX] at hF
  | _ :: _ :: _ :: _, hF, _ => simp [FitsArgsX] at hF
theorem scaleThreeGaps_laid (os : Os) : laidMet Tryd.prog Rows.scaleThreeGapsRow.laid ((laidWorld os).forCall (fun _ _=>0) ⟨#[],#[.agg #[.int .i64 0,.int .i64 0,.int .i64 0,.int .i64 0,.int .i64 0,.int .i64 0],.int .i64 0],[]⟩).memory := laidMet_of_run' 8 (by kernel_rfl) (by kernel_rfl)
theorem scaleThreeGaps_reads (os : Os) {H : Type} (enc : TypeId × Value → H) : ∃ places,DataW.whole enc Tryd.prog ((laidWorld os).forCall (fun _ _=>0) ⟨#[],#[.agg #[.int .i64 0,.int .i64 0,.int .i64 0,.int .i64 0,.int .i64 0,.int .i64 0],.int .i64 0],[]⟩).memory Tryd.f8.params.toList Rows.scaleThreeGapsSpec.vars false (#[.agg #[.int .i64 0,.int .i64 0,.int .i64 0,.int .i64 0,.int .i64 0,.int .i64 0],.int .i64 0] : Array Value).toList 8 = some ([.agg [.lit (.int .i64 0),.lit (.int .i64 0),.lit (.int .i64 0),.lit (.int .i64 0),.lit (.int .i64 0),.lit (.int .i64 0)],.lit (.int .i64 0)],[],places) := ⟨[],by kernel_rfl⟩
set_option maxRecDepth 100000 in
theorem scaleThreeGaps_lifted (os : Os) (started : os.Started) (H : Type) (enc : TypeId × Value → H) (F : Stop.Interp) :
    ReturnsInHanded {} Tryd.checked os 8 .any ((OpenSpec.ofChange Rows.scaleThreeGapsSpec).preRow enc Tryd.prog Tryd.f8 Rows.scaleThreeGapsRow.domain false Rows.scaleThreeGapsRow.laid) (((OpenSpec.ofChange Rows.scaleThreeGapsSpec).at F).post enc Tryd.prog Tryd.f8 false true false false) := by
  obtain ⟨places, hx⟩ := scaleThreeGaps_reads os enc
  refine returnsInHanded_of_row (C := Tryd.checked) (s := OpenSpec.ofChange Rows.scaleThreeGapsSpec) own started (by kernel_rfl) Tryd.func8
    (witness_row_at (enc := enc) (C := Tryd.checked) false (laidWorld os) #[.agg #[.int .i64 0,.int .i64 0,.int .i64 0,.int .i64 0,.int .i64 0,.int .i64 0],.int .i64 0] rfl (by kernel_rfl) (by kernel_rfl) (by kernel_rfl)
      (OpenSpec.preRow_of_cond 8 hx (by kernel_rfl) (fun k hk => by cases hk) (by kernel_rfl) (scaleThreeGaps_laid os))) ?_
  intro W base args ds gs before hval hW _ _ hw hL _ _
  exact law_contractSX (fun _ h => globs h) Γ_ok (by kernel_rfl) laidOut (by kernel_rfl) Tryd.underlying4 (by kernel_rfl) rfl (fun ds hl => by
    match ds, hl with
    | [_, _], _ => rfl) (by kernel_rfl) scaleThreeGaps_look _ W base args ds gs before hval hW hw hL
theorem scaleThreeGaps_said : Rows.ScaleThreeGapsSaid :=
  OpenClaim.holds_of_cond 8 Tryd.f8 rfl rfl rfl rfl rfl rfl rfl ⟨rfl,rfl,rfl,rfl,rfl⟩ rfl rfl rfl rfl rfl (by kernel_rfl) Tryd.func8 (by kernel_rfl)
    (of_decide_eq_true (by kernel_rfl)) (by unfold Func.isWrapper;first | (rw [if_pos (by decide +kernel)];kernel_rfl) | (rw [if_neg (by decide +kernel)];exact ⟨rfl,rfl⟩))
    (fun os started H enc _ F => by rw [OpenClaim.pre_eq_preRow]; exact scaleThreeGaps_lifted os started H enc F)
theorem scaleThreeGaps_plain (f : FuncId) (fn : Func) (hf : Tryd.pinned.checked.prog.funcNamed Rows.scaleThreeGapsRow.func = some f) (hfn : Tryd.pinned.checked.prog.funcs[f]? = some fn) :
    true = Tryd.pinned.checked.prog.looks [] ∧ ∀ (j : Nat) t,fn.params[j]? = some t → Tryd.pinned.checked.prog.wantsStandIn t = false := by
  obtain rfl : f = 8 := Option.some.inj ((show Tryd.prog.funcNamed Rows.scaleThreeGapsRow.func = some 8 by kernel_rfl).symm.trans hf) |>.symm
  obtain rfl : fn = Tryd.f8 := (Option.some.inj (Tryd.func8.symm.trans hfn)).symm
  refine ⟨by kernel_rfl, fun j t ht => ?_⟩
  have hall : Tryd.f8.params.toList.all (fun t => !(Tryd.prog.wantsStandIn t)) = true := by kernel_rfl
  have hm := List.all_eq_true.1 hall t (by simpa using Array.mem_of_getElem? ht)
  have h2 : Tryd.prog.wantsStandIn t = false := by simpa using hm
  exact h2
theorem scaleThreeGaps_holds : Rows.ScaleThreeGapsCardSaid :=
  Claim7.holds_tied_plain_at .later [] _ _ _ _ scaleThreeGaps_said (fun _ h=>by cases h) (by kernel_rfl) (fun _ h=>by cases h) scaleThreeGaps_row_tie rfl ⟨rfl,rfl⟩ (by kernel_rfl) rfl scaleThreeGaps_plain (by kernel_rfl)
end Go.Proofs.YtdglbjjenihdlaaDoor
