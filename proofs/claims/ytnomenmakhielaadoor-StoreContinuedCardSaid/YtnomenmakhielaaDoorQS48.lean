/-
  Rows.StoreContinuedCardSaid: what can be put behind the records of a disk can be put behind those of the compacted disk and leads to the same; the checksum's table is laid as the program's text lays it; no other condition.
-/
import Derived.Test.YtnomenmakhielaaDoorQS43
import Derived.Test.YtnomenmakhielaaDoorQS41
set_option linter.unusedSimpArgs false
set_option linter.unusedVariables false
namespace Go.Proofs.YtnomenmakhielaaDoor
open Go.Ab Go.ChangeShapes Go.WideShapes Go.ChangeAt Go.RowKit

theorem storeContinued_look : ∀ Ds, FitsArgs Γ Tryd.f6.params.toList Ds → Sized Tryd.prog Tryd.f6.params.toList Ds → ∃ us, (∀ w vs, RvL [] w (valsOf Γ Tryd.f6.params.toList Ds) vs → RvL [] w us vs) ∧ Look Tryd.prog 6 us (.imm (.bool true)) := by
  intro Ds hF hS
  have e : Tryd.f6.params.toList = [43, 22] := by kernel_rfl
  rw [e] at hF hS ⊢
  match Ds, hF, hS with
  | [D0, D1], hF, hS =>
    simp only [FitsArgs] at hF
    obtain ⟨q0, q1, _⟩ := hF
    obtain ⟨d, hd, hld, rfl⟩ := fits_disk q0
    obtain ⟨more, hmore, rfl⟩ := fits_recs q1
    refine ⟨_, fun w vs h => ?_, law_continued d more hd hld (by have := hS 1 22 39 7 _ rfl rfl (by kernel_rfl); rw [List.length_map, bytes_rec] at this; exact this)⟩
    match vs, h with
    | [v0, v1], h =>
      simp only [valsOf, isAggT, Γ_22, Γ_43, TD.isAgg, RvL] at h ⊢
      exact ⟨disk_val (h.1), recs_val (h.2.1), trivial⟩
    | [], h => simp [valsOf, RvL] at h
    | [_], h => simp [valsOf, RvL] at h
    | _ :: _ :: _ :: _, h => simp [valsOf, RvL] at h
  | [], hF, _ => simp [FitsArgs] at hF
  | [_], hF, _ => simp [FitsArgs] at hF
  | _ :: _ :: _ :: _, hF, _ => simp [FitsArgs] at hF

theorem storeContinued_laid (os : Os) : laidMet Tryd.prog Rows.storeContinuedRow.laid ((laidWorld os).forCall (fun _ _ => 0) ⟨#[], #[.agg #[.slice none 0 0, .int .i64 0], .slice none 0 0], []⟩).memory := laidMet_of_run' 8 (by kernel_rfl) (by kernel_rfl)
theorem storeContinued_reads (os : Os) {H : Type} (enc : TypeId × Value → H) : ∃ places, DataW.whole enc Tryd.prog ((laidWorld os).forCall (fun _ _ => 0) ⟨#[], #[.agg #[.slice none 0 0, .int .i64 0], .slice none 0 0], []⟩).memory Tryd.f6.params.toList Rows.storeContinuedSpec.vars false (#[.agg #[.slice none 0 0, .int .i64 0], .slice none 0 0] : Array Value).toList 8 = some ([.agg [.nil, .lit (.int .i64 0)], .nil], [], places) := ⟨[], by kernel_rfl⟩

set_option maxRecDepth 100000 in
theorem storeContinued_lifted (os : Os) (started : os.Started) (H : Type) (enc : TypeId × Value → H) (F : Stop.Interp) :
    ReturnsInHanded {} Tryd.checked os 6 .any ((OpenSpec.ofChange Rows.storeContinuedSpec).preRow enc Tryd.prog Tryd.f6 Rows.storeContinuedRow.domain false Rows.storeContinuedRow.laid) (((OpenSpec.ofChange Rows.storeContinuedSpec).at F).post enc Tryd.prog Tryd.f6 false true false false) := by
  obtain ⟨places, hx⟩ := storeContinued_reads os enc
  refine returnsInHanded_of_row (C := Tryd.checked) (s := OpenSpec.ofChange Rows.storeContinuedSpec) own started (by kernel_rfl) Tryd.func6
    (witness_row_at (enc := enc) (C := Tryd.checked) false (laidWorld os) #[.agg #[.slice none 0 0, .int .i64 0], .slice none 0 0] rfl (by kernel_rfl) (by kernel_rfl) (by kernel_rfl)
      (OpenSpec.preRow_of_cond 8 hx (by kernel_rfl) (fun k hk => by cases hk) (by kernel_rfl) (storeContinued_laid os))) ?_
  intro W base args ds gs before hval hW _ _ hw hL _ _
  exact law_contractS (fun _ h => globs h) Γ_ok (by kernel_rfl) laidOut (by kernel_rfl) Tryd.underlying4 (by kernel_rfl) rfl (fun ds hl => by
    match ds, hl with
    | [_, _], _ => rfl) (by kernel_rfl) storeContinued_look _ W base args ds gs before hval hW hw hL

theorem storeContinued_said : Rows.StoreContinuedSaid :=
  OpenClaim.holds_of_cond 6 Tryd.f6 rfl rfl rfl rfl rfl rfl rfl ⟨rfl, rfl, rfl, rfl, rfl⟩ rfl rfl rfl rfl rfl (by kernel_rfl) Tryd.func6 (by kernel_rfl)
    (of_decide_eq_true (by kernel_rfl)) (by unfold Func.isWrapper; first | (rw [if_pos (by decide +kernel)]; kernel_rfl) | (rw [if_neg (by decide +kernel)]; exact ⟨rfl, rfl⟩))
    (fun os started H enc _ F => by rw [OpenClaim.pre_eq_preRow]; exact storeContinued_lifted os started H enc F)

theorem storeContinued_plain (f : FuncId) (fn : Func) (hf : Tryd.pinned.checked.prog.funcNamed Rows.storeContinuedRow.func = some f) (hfn : Tryd.pinned.checked.prog.funcs[f]? = some fn) :
    false = Tryd.pinned.checked.prog.looks [] ∧ ∀ (j : Nat) t, fn.params[j]? = some t → Tryd.pinned.checked.prog.wantsStandIn t = false := by
  obtain rfl : f = 6 := Option.some.inj ((show Tryd.prog.funcNamed Rows.storeContinuedRow.func = some 6 by kernel_rfl).symm.trans hf) |>.symm
  obtain rfl : fn = Tryd.f6 := (Option.some.inj (Tryd.func6.symm.trans hfn)).symm
  refine ⟨by kernel_rfl, fun j t ht => ?_⟩
  have hall : Tryd.f6.params.toList.all (fun t => !(Tryd.prog.wantsStandIn t)) = true := by kernel_rfl
  have hm := List.all_eq_true.1 hall t (by simpa using Array.mem_of_getElem? ht)
  have h2 : Tryd.prog.wantsStandIn t = false := by simpa using hm
  exact h2

theorem storeContinued_holds : Rows.StoreContinuedCardSaid :=
  Claim7.holds_tied_plain_at .later [] _ _ _ _ storeContinued_said (fun _ h => by cases h) (by kernel_rfl) (fun _ h => by cases h) storeContinued_row_tie rfl ⟨rfl, rfl⟩ (by kernel_rfl) rfl storeContinued_plain (by kernel_rfl)

end Go.Proofs.YtnomenmakhielaaDoor
