/-
  Rows.TopBreathedCardSaid: with breath taken where Breaths says,the first note that cannot be sung is one that the singer does not have or does not find;the tables are laid as the program's text lays them;no other condition.
-/
import Derived.Test.YtonmienclploaaaGreatDoorQV9
import Derived.Test.YtonmienclploaaaGreatDoorQV8
import Derived.Deep.DeepHandedRow
set_option linter.unusedSimpArgs false
set_option linter.unusedVariables false
namespace Go.Proofs.YtonmienclploaaaGreatDoor
open Go.Ab Go.ChangeShapes Go.WideShapes Go.ChangeAt Go.RowKit
theorem law_whole (v : Vc) (ls : List Int) (ats : List P6) : Look Tryz.prog 3 [vcA v,its ls,vts ats] (.imm (.bool true)) := by
  by_cases h : ls.length ≤ 24 ∧ ls.length ≤ ats.length
  · exact law_breathed head_tc v ls ats h
  · exact law_few head_tc v ls ats h
theorem topBreathed_look : ∀ Ds,FitsArgsX Γ Tryz.f3.params.toList Ds → SizedX Tryz.prog Tryz.f3.params.toList Ds → ∃ us,(∀ w vs,RvL [] w (valsOfX Γ Tryz.f3.params.toList Ds) vs → RvL [] w us vs) ∧ Look Tryz.prog 3 us (.imm (.bool true)) := by
  intro Ds hF hS
  have e : Tryz.f3.params.toList = [25, 26, 27] := by kernel_rfl
  rw [e] at hF hS ⊢
  match Ds, hF, hS with
  | [D0, D1, D2], hF, hS =>
    simp only [FitsArgsX] at hF
    obtain ⟨q0, q1, q2, _⟩ := hF
    obtain ⟨v, rfl⟩ := fits_voice q0
    obtain ⟨ls, hls, rfl⟩ := fits_ints q1
    obtain ⟨ats, hats, rfl⟩ := fits_vecs q2
    refine ⟨_, fun w vs h => ?_, law_whole v ls ats⟩
    match vs, h with
    | [v0, v1, v2], h =>
      simp only [valsOfX, isAggT, Γ_27, Γ_26, Γ_25, TD.isAgg, RvL] at h ⊢
      exact ⟨voice_val (h.1), ints_val (h.2.1), vecs_val (h.2.2.1), trivial⟩
    | [], h => simp [valsOfX, RvL] at h
    | [_], h => simp [valsOfX, RvL] at h
    | [_, _], h => simp [valsOfX, RvL] at h
    | _ :: _ :: _ :: _ :: _, h => simp [valsOfX, RvL] at h
  | [], hF, _ => simp [FitsArgsX] at hF
  | [_], hF, _ => simp [FitsArgsX] at hF
  | [_, _], hF, _ => simp [FitsArgsX] at hF
  | _ :: _ :: _ :: _ :: _, hF, _ => simp [FitsArgsX] at hF
theorem topBreathed_laid (os : Os) : laidMet Tryz.prog Rows.topBreathedRow.laid ((laidWorld os).forCall (fun _ _=>0) ⟨#[],#[.agg #[.int .i64 0,.int .i64 0,.int .i64 0,.int .i64 0,.int .i64 0,.int .i64 0,.int .i64 0,.int .i64 0,.int .i64 0,.int .i64 0,.int .i64 0,.int .i64 0,.int .i64 0,.int .i64 0],.slice none 0 0,.slice none 0 0],[]⟩).memory := laidMet_of_run' 8 (by kernel_rfl) (by kernel_rfl)
theorem topBreathed_reads (os : Os) {H : Type} (enc : TypeId × Value → H) : ∃ places,DataW.whole enc Tryz.prog ((laidWorld os).forCall (fun _ _=>0) ⟨#[],#[.agg #[.int .i64 0,.int .i64 0,.int .i64 0,.int .i64 0,.int .i64 0,.int .i64 0,.int .i64 0,.int .i64 0,.int .i64 0,.int .i64 0,.int .i64 0,.int .i64 0,.int .i64 0,.int .i64 0],.slice none 0 0,.slice none 0 0],[]⟩).memory Tryz.f3.params.toList Rows.topBreathedSpec.vars false (#[.agg #[.int .i64 0,.int .i64 0,.int .i64 0,.int .i64 0,.int .i64 0,.int .i64 0,.int .i64 0,.int .i64 0,.int .i64 0,.int .i64 0,.int .i64 0,.int .i64 0,.int .i64 0,.int .i64 0],.slice none 0 0,.slice none 0 0] : Array Value).toList 8 = some ([.agg [.agg [.lit (.int .i64 0),.lit (.int .i64 0),.lit (.int .i64 0),.lit (.int .i64 0),.lit (.int .i64 0),.lit (.int .i64 0)],.agg [.lit (.int .i64 0),.lit (.int .i64 0),.lit (.int .i64 0),.lit (.int .i64 0),.lit (.int .i64 0),.lit (.int .i64 0)],.lit (.int .i64 0),.lit (.int .i64 0)],.nil,.nil],[],places) := ⟨[],by kernel_rfl⟩
set_option maxRecDepth 100000 in
theorem topBreathed_lifted (os : Os) (started : os.Started) (H : Type) (enc : TypeId × Value → H) (F : Stop.Interp) :
    ReturnsInHanded {} Tryz.checked os 3 .any ((OpenSpec.ofChange Rows.topBreathedSpec).preRow enc Tryz.prog Tryz.f3 Rows.topBreathedRow.domain false Rows.topBreathedRow.laid) (((OpenSpec.ofChange Rows.topBreathedSpec).at F).post enc Tryz.prog Tryz.f3 false true false false) := by
  obtain ⟨places, hx⟩ := topBreathed_reads os enc
  refine returnsInHanded_of_row (C := Tryz.checked) (s := OpenSpec.ofChange Rows.topBreathedSpec) own started (by kernel_rfl) Tryz.func3
    (witness_row_at (enc := enc) (C := Tryz.checked) false (laidWorld os) #[.agg #[.int .i64 0,.int .i64 0,.int .i64 0,.int .i64 0,.int .i64 0,.int .i64 0,.int .i64 0,.int .i64 0,.int .i64 0,.int .i64 0,.int .i64 0,.int .i64 0,.int .i64 0,.int .i64 0],.slice none 0 0,.slice none 0 0] rfl (by kernel_rfl) (by kernel_rfl) (by kernel_rfl)
      (OpenSpec.preRow_of_cond 8 hx (by kernel_rfl) (fun k hk => by cases hk) (by kernel_rfl) (topBreathed_laid os))) ?_
  intro W base args ds gs before hval hW _ _ hw hL _ _
  exact law_contractSX (fun _ h => globs h) Γ_ok (by kernel_rfl) laidOut (by kernel_rfl) Tryz.underlying4 (by kernel_rfl) rfl (fun ds hl => by
    match ds, hl with
    | [_, _, _], _ => rfl) (by kernel_rfl) topBreathed_look _ W base args ds gs before hval hW hw hL
theorem topBreathed_said : Rows.TopBreathedSaid :=
  OpenClaim.holds_of_cond 3 Tryz.f3 rfl rfl rfl rfl rfl rfl rfl ⟨rfl,rfl,rfl,rfl,rfl⟩ rfl rfl rfl rfl rfl (by kernel_rfl) Tryz.func3 (by kernel_rfl)
    (of_decide_eq_true (by kernel_rfl)) (by unfold Func.isWrapper;first | (rw [if_pos (by decide +kernel)];kernel_rfl) | (rw [if_neg (by decide +kernel)];exact ⟨rfl,rfl⟩))
    (fun os started H enc _ F => by rw [OpenClaim.pre_eq_preRow]; exact topBreathed_lifted os started H enc F)
theorem topBreathed_plain (f : FuncId) (fn : Func) (hf : Tryz.pinned.checked.prog.funcNamed Rows.topBreathedRow.func = some f) (hfn : Tryz.pinned.checked.prog.funcs[f]? = some fn) :
    true = Tryz.pinned.checked.prog.looks [] ∧ ∀ (j : Nat) t,fn.params[j]? = some t → Tryz.pinned.checked.prog.wantsStandIn t = false := by
  obtain rfl : f = 3 := Option.some.inj ((show Tryz.prog.funcNamed Rows.topBreathedRow.func = some 3 by kernel_rfl).symm.trans hf) |>.symm
  obtain rfl : fn = Tryz.f3 := (Option.some.inj (Tryz.func3.symm.trans hfn)).symm
  refine ⟨by kernel_rfl, fun j t ht => ?_⟩
  have hall : Tryz.f3.params.toList.all (fun t => !(Tryz.prog.wantsStandIn t)) = true := by kernel_rfl
  have hm := List.all_eq_true.1 hall t (by simpa using Array.mem_of_getElem? ht)
  have h2 : Tryz.prog.wantsStandIn t = false := by simpa using hm
  exact h2
theorem topBreathed_holds : Rows.TopBreathedCardSaid :=
  Claim7.holds_tied_plain_at .later [] _ _ _ _ topBreathed_said (fun _ h=>by cases h) (by kernel_rfl) (fun _ h=>by cases h) topBreathed_row_tie rfl ⟨rfl,rfl⟩ (by kernel_rfl) rfl topBreathed_plain (by kernel_rfl)
end Go.Proofs.YtonmienclploaaaGreatDoor
