/-
 Rows.TopPlayableCardSaid: what reach calls possible is played by a keyboard,an organ,a neck,a horn or a singer;the tables are laid as the program's text lays them;no other condition.
-/
import Derived.Test.YtonmienclploaaaGreatDoorQL5
import Derived.Test.YtonmienclploaaaGreatDoorQL6
import Derived.Deep.DeepHandedRow
set_option linter.unusedSimpArgs false
set_option linter.unusedVariables false
namespace Go.Proofs.YtonmienclploaaaGreatDoor
open Go.Ab Go.ChangeShapes Go.WideShapes Go.ChangeAt Go.RowKit
theorem topPlayable_look : ∀ Ds,FitsArgsX Γ Tryz.f4.params.toList Ds → SizedX Tryz.prog Tryz.f4.params.toList Ds → ∃ us,(∀ w vs,RvL [] w (valsOfX Γ Tryz.f4.params.toList Ds) vs → RvL [] w us vs) ∧ Look Tryz.prog 4 us (.imm (.bool true)) := by
 intro Ds hF hS
 have e : Tryz.f4.params.toList = [56, 27] := by kernel_rfl
 rw [e] at hF hS ⊢
 match Ds, hF, hS with
 | [D0, D1], hF, hS =>
  simp only [FitsArgsX] at hF
  obtain ⟨q0, q1, _⟩ := hF
  obtain ⟨q, hq, rfl⟩ := fits_player q0
  obtain ⟨vs, hvs, rfl⟩ := fits_vecs q1
  refine ⟨_, fun w vs h => ?_, law_whole q.1 q.2 vs hq hvs⟩
  match vs, h with
  | [v0, v1], h =>
   simp only [valsOfX, isAggT, Γ_27, Γ_56, TD.isAgg, RvL] at h ⊢
   exact ⟨player_val (h.1), vecs_val (h.2.1), trivial⟩
  | [], h => simp [valsOfX, RvL] at h
  | [_], h => simp [valsOfX, RvL] at h
  | _ :: _ :: _ :: _, h => simp [valsOfX, RvL] at h
 | [], hF, _ => simp [FitsArgsX] at hF
 | [_], hF, _ => simp [FitsArgsX] at hF
 | _ :: _ :: _ :: _, hF, _ => simp [FitsArgsX] at hF
theorem topPlayable_laid (os : Os) : laidMet Tryz.prog Rows.topPlayableRow.laid ((laidWorld os).forCall (fun _ _=>0) ⟨#[],#[plyW,.slice none 0 0],[]⟩).memory := laidMet_of_run' 8 (by kernel_rfl) (by kernel_rfl)
theorem topPlayable_reads (os : Os) {H : Type} (enc : TypeId × Value → H) : ∃ places,DataW.whole enc Tryz.prog ((laidWorld os).forCall (fun _ _=>0) ⟨#[],#[plyW,.slice none 0 0],[]⟩).memory Tryz.f4.params.toList Rows.topPlayableSpec.vars false (#[plyW,.slice none 0 0] : Array Value).toList 8 = some ([.agg [.lit (.int .i64 0),.agg [.nil,.lit (.int .i64 0),.lit (.int .i64 0)],.agg [.nil,.lit (.int .i64 0),.lit (.int .i64 0)],.agg [.nil,.nil,.lit (.int .i64 0),.lit (.int .i64 0)],.agg [.agg [.lit (.int .i64 0),.lit (.int .i64 0),.lit (.int .i64 0),.lit (.int .i64 0),.lit (.int .i64 0),.lit (.int .i64 0)],.nil,.lit (.int .i64 0),.lit (.int .i64 0)],.agg [.agg [.lit (.int .i64 0),.lit (.int .i64 0),.lit (.int .i64 0),.lit (.int .i64 0),.lit (.int .i64 0),.lit (.int .i64 0)],.agg [.lit (.int .i64 0),.lit (.int .i64 0),.lit (.int .i64 0),.lit (.int .i64 0),.lit (.int .i64 0),.lit (.int .i64 0)],.lit (.int .i64 0),.lit (.int .i64 0)]],.nil],[],places) := ⟨[],by kernel_rfl⟩
set_option maxRecDepth 100000 in
theorem topPlayable_lifted (os : Os) (started : os.Started) (H : Type) (enc : TypeId × Value → H) (F : Stop.Interp) :
  ReturnsInHanded {} Tryz.checked os 4 .any ((OpenSpec.ofChange Rows.topPlayableSpec).preRow enc Tryz.prog Tryz.f4 Rows.topPlayableRow.domain false Rows.topPlayableRow.laid) (((OpenSpec.ofChange Rows.topPlayableSpec).at F).post enc Tryz.prog Tryz.f4 false true false false) := by
 obtain ⟨places, hx⟩ := topPlayable_reads os enc
 refine returnsInHanded_of_row (C := Tryz.checked) (s := OpenSpec.ofChange Rows.topPlayableSpec) own started (by kernel_rfl) Tryz.func4
  (witness_row_at (enc := enc) (C := Tryz.checked) false (laidWorld os) #[plyW,.slice none 0 0] rfl (by kernel_rfl) (by kernel_rfl) (by kernel_rfl)
   (OpenSpec.preRow_of_cond 8 hx (by kernel_rfl) (fun k hk => by cases hk) (by kernel_rfl) (topPlayable_laid os))) ?_
 intro W base args ds gs before hval hW _ _ hw hL _ _
 exact law_contractSX (fun _ h => globs h) Γ_ok (by kernel_rfl) laidOut (by kernel_rfl) Tryz.underlying4 (by kernel_rfl) rfl (fun ds hl => by
  match ds, hl with
  | [_, _], _ => rfl) (by kernel_rfl) topPlayable_look _ W base args ds gs before hval hW hw hL
theorem topPlayable_said : Rows.TopPlayableSaid :=
 OpenClaim.holds_of_cond 4 Tryz.f4 rfl rfl rfl rfl rfl rfl rfl ⟨rfl,rfl,rfl,rfl,rfl⟩ rfl rfl rfl rfl rfl (by kernel_rfl) Tryz.func4 (by kernel_rfl)
  (of_decide_eq_true (by kernel_rfl)) (by unfold Func.isWrapper;first | (rw [if_pos (by decide +kernel)];kernel_rfl) | (rw [if_neg (by decide +kernel)];exact ⟨rfl,rfl⟩))
  (fun os started H enc _ F => by rw [OpenClaim.pre_eq_preRow]; exact topPlayable_lifted os started H enc F)
theorem topPlayable_plain (f : FuncId) (fn : Func) (hf : Tryz.pinned.checked.prog.funcNamed Rows.topPlayableRow.func = some f) (hfn : Tryz.pinned.checked.prog.funcs[f]? = some fn) :
  true = Tryz.pinned.checked.prog.looks [] ∧ ∀ (j : Nat) t,fn.params[j]? = some t → Tryz.pinned.checked.prog.wantsStandIn t = false := by
 obtain rfl : f = 4 := Option.some.inj ((show Tryz.prog.funcNamed Rows.topPlayableRow.func = some 4 by kernel_rfl).symm.trans hf) |>.symm
 obtain rfl : fn = Tryz.f4 := (Option.some.inj (Tryz.func4.symm.trans hfn)).symm
 refine ⟨by kernel_rfl, fun j t ht => ?_⟩
 have hall : Tryz.f4.params.toList.all (fun t => !(Tryz.prog.wantsStandIn t)) = true := by kernel_rfl
 have hm := List.all_eq_true.1 hall t (by simpa using Array.mem_of_getElem? ht)
 have h2 : Tryz.prog.wantsStandIn t = false := by simpa using hm
 exact h2
theorem topPlayable_holds : Rows.TopPlayableCardSaid :=
 Claim7.holds_tied_plain_at .later [] _ _ _ _ topPlayable_said (fun _ h=>by cases h) (by kernel_rfl) (fun _ h=>by cases h) topPlayable_row_tie rfl ⟨rfl,rfl⟩ (by kernel_rfl) rfl topPlayable_plain (by kernel_rfl)
end Go.Proofs.YtonmienclploaaaGreatDoor
