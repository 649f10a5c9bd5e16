/-
  Rows.TopReplayedCardSaid: what a crash leaves of a log,its account by column,by desk and by the sums,and the whole again behind it;the tables are laid as the program's text lays them;no other condition.
-/
import Derived.Test.YtngfnogoicfmaaaGreatDoorQT25
import Derived.Deep.DeepHandedRow
set_option linter.unusedSimpArgs false
set_option linter.unusedVariables false
namespace Go.Proofs.YtngfnogoicfmaaaGreatDoor
open Go.Ab Go.ChangeShapes Go.WideShapes Go.ChangeAt Go.RowKit
theorem topReplayed_look : ∀ Ds,FitsArgsX Γ Tryz.f3.params.toList Ds → SizedX Tryz.prog Tryz.f3.params.toList Ds → ∃ us,(∀ w vs,RvL [] w (valsOfX Γ Tryz.f3.params.toList Ds) vs → RvL [] w us vs) ∧ Look Tryz.prog 3 us (.imm (.bool true)) := by
  intro Ds hF hS
  have e : Tryz.f3.params.toList = [22, 23, 5, 3] := by kernel_rfl
  rw [e] at hF hS ⊢
  match Ds, hF, hS with
  | [D0, D1, D2, D3], hF, hS =>
    simp only [FitsArgsX] at hF
    obtain ⟨q0, q1, q2, q3, _⟩ := hF
    obtain ⟨l, hl, rfl⟩ := fits_names q0
    obtain ⟨ts, hts, rfl⟩ := fits_takes q1
    obtain ⟨sy, hsy, rfl⟩ := fits_u8 q2
    obtain ⟨keep, rfl⟩ := fits_int q3
    refine ⟨_, fun w vs h => ?_, law_replayed l ts sy keep hsy⟩
    match vs, h with
    | [v0, v1, v2, v3], h =>
      simp only [valsOfX, isAggT, Γ_22, Γ_23, Γ_3, Γ_5, TD.isAgg, RvL] at h ⊢
      exact ⟨names_val (h.1), takes_val (h.2.1), h.2.2.1, h.2.2.2.1, trivial⟩
    | [], h => simp [valsOfX, RvL] at h
    | [_], h => simp [valsOfX, RvL] at h
    | [_, _], h => simp [valsOfX, RvL] at h
    | [_, _, _], h => simp [valsOfX, RvL] at h
    | _ :: _ :: _ :: _ :: _ :: _, h => simp [valsOfX, RvL] at h
  | [], hF, _ => simp [FitsArgsX] at hF
  | [_], hF, _ => simp [FitsArgsX] at hF
  | [_, _], hF, _ => simp [FitsArgsX] at hF
  | [_, _, _], hF, _ => simp [FitsArgsX] at hF
  | _ :: _ :: _ :: _ :: _ :: _, hF, _ => simp [FitsArgsX] at hF
theorem topReplayed_laid (os : Os) : laidMet Tryz.prog Rows.topReplayedRow.laid ((laidWorld os).forCall (fun _ _=>0) ⟨#[],#[.slice none 0 0,.slice none 0 0,.int .u8 0,.int .i64 0],[]⟩).memory := laidMet_of_run' 8 (by kernel_rfl) (by kernel_rfl)
theorem topReplayed_reads (os : Os) {H : Type} (enc : TypeId × Value → H) : ∃ places,DataW.whole enc Tryz.prog ((laidWorld os).forCall (fun _ _=>0) ⟨#[],#[.slice none 0 0,.slice none 0 0,.int .u8 0,.int .i64 0],[]⟩).memory Tryz.f3.params.toList Rows.topReplayedSpec.vars false (#[.slice none 0 0,.slice none 0 0,.int .u8 0,.int .i64 0] : Array Value).toList 8 = some ([.nil,.nil,.lit (.int .u8 0),.lit (.int .i64 0)],[],places) := ⟨[],by kernel_rfl⟩
set_option maxRecDepth 100000 in
theorem topReplayed_lifted (os : Os) (started : os.Started) (H : Type) (enc : TypeId × Value → H) (F : Stop.Interp) :
    ReturnsInHanded {} Tryz.checked os 3 .any ((OpenSpec.ofChange Rows.topReplayedSpec).preRow enc Tryz.prog Tryz.f3 Rows.topReplayedRow.domain false Rows.topReplayedRow.laid) (((OpenSpec.ofChange Rows.topReplayedSpec).at F).post enc Tryz.prog Tryz.f3 false true false false) := by
  obtain ⟨places, hx⟩ := topReplayed_reads os enc
  refine returnsInHanded_of_row (C := Tryz.checked) (s := OpenSpec.ofChange Rows.topReplayedSpec) own started (by kernel_rfl) Tryz.func3
    (witness_row_at (enc := enc) (C := Tryz.checked) false (laidWorld os) #[.slice none 0 0,.slice none 0 0,.int .u8 0,.int .i64 0] rfl (by kernel_rfl) (by kernel_rfl) (by kernel_rfl)
      (OpenSpec.preRow_of_cond 8 hx (by kernel_rfl) (fun k hk => by cases hk) (by kernel_rfl) (topReplayed_laid os))) ?_
  intro W base args ds gs before hval hW _ _ hw hL _ _
  exact law_contractSX (fun _ h => globs h) Γ_ok (by kernel_rfl) laidOut (by kernel_rfl) Tryz.underlying4 (by kernel_rfl) rfl (fun ds hl => by
    match ds, hl with
    | [_, _, _, _], _ => rfl) (by kernel_rfl) topReplayed_look _ W base args ds gs before hval hW hw hL
theorem topReplayed_said : Rows.TopReplayedSaid :=
  OpenClaim.holds_of_cond 3 Tryz.f3 rfl rfl rfl rfl rfl rfl rfl ⟨rfl,rfl,rfl,rfl,rfl⟩ rfl rfl rfl rfl rfl (by kernel_rfl) Tryz.func3 (by kernel_rfl)
    (of_decide_eq_true (by kernel_rfl)) (by unfold Func.isWrapper;first | (rw [if_pos (by decide +kernel)];kernel_rfl) | (rw [if_neg (by decide +kernel)];exact ⟨rfl,rfl⟩))
    (fun os started H enc _ F => by rw [OpenClaim.pre_eq_preRow]; exact topReplayed_lifted os started H enc F)
theorem topReplayed_plain (f : FuncId) (fn : Func) (hf : Tryz.pinned.checked.prog.funcNamed Rows.topReplayedRow.func = some f) (hfn : Tryz.pinned.checked.prog.funcs[f]? = some fn) :
    false = Tryz.pinned.checked.prog.looks [] ∧ ∀ (j : Nat) t,fn.params[j]? = some t → Tryz.pinned.checked.prog.wantsStandIn t = false := by
  obtain rfl : f = 3 := Option.some.inj ((show Tryz.prog.funcNamed Rows.topReplayedRow.func = some 3 by kernel_rfl).symm.trans hf) |>.symm
  obtain rfl : fn = Tryz.f3 := (Option.some.inj (Tryz.func3.symm.trans hfn)).symm
  refine ⟨by kernel_rfl, fun j t ht => ?_⟩
  have hall : Tryz.f3.params.toList.all (fun t => !(Tryz.prog.wantsStandIn t)) = true := by kernel_rfl
  have hm := List.all_eq_true.1 hall t (by simpa using Array.mem_of_getElem? ht)
  have h2 : Tryz.prog.wantsStandIn t = false := by simpa using hm
  exact h2
theorem topReplayed_holds : Rows.TopReplayedCardSaid :=
  Claim7.holds_tied_plain_at .later [] _ _ _ _ topReplayed_said (fun _ h=>by cases h) (by kernel_rfl) (fun _ h=>by cases h) topReplayed_row_tie rfl ⟨rfl,rfl⟩ (by kernel_rfl) rfl topReplayed_plain (by kernel_rfl)
end Go.Proofs.YtngfnogoicfmaaaGreatDoor
