/-
  Rows.StoreCompactCardSaid: the records of a compacted disk lead to the same memory, no shorter list does, and compacting twice is compacting once; the checksum's table is laid as the program's text lays it; no other condition.
-/
import Derived.Test.YtnomenmakhielaaDoorQS43
import Derived.Test.YtnomenmakhielaaDoorQS41
set_option linter.unusedSimpArgs false
set_option linter.unusedVariables false
namespace Go.Proofs.YtnomenmakhielaaDoor
open Go.Ab Go.ChangeShapes Go.WideShapes Go.ChangeAt Go.RowKit

theorem storeCompact_look : ∀ Ds, FitsArgs Γ Tryd.f5.params.toList Ds → Sized Tryd.prog Tryd.f5.params.toList Ds → ∃ us, (∀ w vs, RvL [] w (valsOf Γ Tryd.f5.params.toList Ds) vs → RvL [] w us vs) ∧ Look Tryd.prog 5 us (.imm (.bool true)) := by
  intro Ds hF hS
  have e : Tryd.f5.params.toList = [43, 22] := by kernel_rfl
  rw [e] at hF hS ⊢
  match Ds, hF, hS with
  | [D0, D1], hF, hS =>
    simp only [FitsArgs] at hF
    obtain ⟨q0, q1, _⟩ := hF
    obtain ⟨d, hd, hld, rfl⟩ := fits_disk q0
    obtain ⟨other, hother, rfl⟩ := fits_recs q1
    refine ⟨_, fun w vs h => ?_, law_compact d other hd hld hother⟩
    match vs, h with
    | [v0, v1], h =>
      simp only [valsOf, isAggT, Γ_22, Γ_43, TD.isAgg, RvL] at h ⊢
      exact ⟨disk_val (h.1), recs_val (h.2.1), trivial⟩
    | [], h => simp [valsOf, RvL] at h
    | [_], h => simp [valsOf, RvL] at h
    | _ :: _ :: _ :: _, h => simp [valsOf, RvL] at h
  | [], hF, _ => simp [FitsArgs] at hF
  | [_], hF, _ => simp [FitsArgs] at hF
  | _ :: _ :: _ :: _, hF, _ => simp [FitsArgs] at hF

theorem storeCompact_laid (os : Os) : laidMet Tryd.prog Rows.storeCompactRow.laid ((laidWorld os).forCall (fun _ _ => 0) ⟨#[], #[.agg #[.slice none 0 0, .int .i64 0], .slice none 0 0], []⟩).memory := laidMet_of_run' 8 (by kernel_rfl) (by kernel_rfl)
theorem storeCompact_reads (os : Os) {H : Type} (enc : TypeId × Value → H) : ∃ places, DataW.whole enc Tryd.prog ((laidWorld os).forCall (fun _ _ => 0) ⟨#[], #[.agg #[.slice none 0 0, .int .i64 0], .slice none 0 0], []⟩).memory Tryd.f5.params.toList Rows.storeCompactSpec.vars false (#[.agg #[.slice none 0 0, .int .i64 0], .slice none 0 0] : Array Value).toList 8 = some ([.agg [.nil, .lit (.int .i64 0)], .nil], [], places) := ⟨[], by kernel_rfl⟩

set_option maxRecDepth 100000 in
theorem storeCompact_lifted (os : Os) (started : os.Started) (H : Type) (enc : TypeId × Value → H) (F : Stop.Interp) :
    ReturnsInHanded {} Tryd.checked os 5 .any ((OpenSpec.ofChange Rows.storeCompactSpec).preRow enc Tryd.prog Tryd.f5 Rows.storeCompactRow.domain false Rows.storeCompactRow.laid) (((OpenSpec.ofChange Rows.storeCompactSpec).at F).post enc Tryd.prog Tryd.f5 false true false false) := by
  obtain ⟨places, hx⟩ := storeCompact_reads os enc
  refine returnsInHanded_of_row (C := Tryd.checked) (s := OpenSpec.ofChange Rows.storeCompactSpec) own started (by kernel_rfl) Tryd.func5
    (witness_row_at (enc := enc) (C := Tryd.checked) false (laidWorld os) #[.agg #[.slice none 0 0, .int .i64 0], .slice none 0 0] rfl (by kernel_rfl) (by kernel_rfl) (by kernel_rfl)
      (OpenSpec.preRow_of_cond 8 hx (by kernel_rfl) (fun k hk => by cases hk) (by kernel_rfl) (storeCompact_laid os))) ?_
  intro W base args ds gs before hval hW _ _ hw hL _ _
  exact law_contractS (fun _ h => globs h) Γ_ok (by kernel_rfl) laidOut (by kernel_rfl) Tryd.underlying4 (by kernel_rfl) rfl (fun ds hl => by
    match ds, hl with
    | [_, _], _ => rfl) (by kernel_rfl) storeCompact_look _ W base args ds gs before hval hW hw hL

theorem storeCompact_said : Rows.StoreCompactSaid :=
  OpenClaim.holds_of_cond 5 Tryd.f5 rfl rfl rfl rfl rfl rfl rfl ⟨rfl, rfl, rfl, rfl, rfl⟩ rfl rfl rfl rfl rfl (by kernel_rfl) Tryd.func5 (by kernel_rfl)
    (of_decide_eq_true (by kernel_rfl)) (by unfold Func.isWrapper; first | (rw [if_pos (by decide +kernel)]; kernel_rfl) | (rw [if_neg (by decide +kernel)]; exact ⟨rfl, rfl⟩))
    (fun os started H enc _ F => by rw [OpenClaim.pre_eq_preRow]; exact storeCompact_lifted os started H enc F)

theorem storeCompact_plain (f : FuncId) (fn : Func) (hf : Tryd.pinned.checked.prog.funcNamed Rows.storeCompactRow.func = some f) (hfn : Tryd.pinned.checked.prog.funcs[f]? = some fn) :
    false = Tryd.pinned.checked.prog.looks [] ∧ ∀ (j : Nat) t, fn.params[j]? = some t → Tryd.pinned.checked.prog.wantsStandIn t = false := by
  obtain rfl : f = 5 := Option.some.inj ((show Tryd.prog.funcNamed Rows.storeCompactRow.func = some 5 by kernel_rfl).symm.trans hf) |>.symm
  obtain rfl : fn = Tryd.f5 := (Option.some.inj (Tryd.func5.symm.trans hfn)).symm
  refine ⟨by kernel_rfl, fun j t ht => ?_⟩
  have hall : Tryd.f5.params.toList.all (fun t => !(Tryd.prog.wantsStandIn t)) = true := by kernel_rfl
  have hm := List.all_eq_true.1 hall t (by simpa using Array.mem_of_getElem? ht)
  have h2 : Tryd.prog.wantsStandIn t = false := by simpa using hm
  exact h2

theorem storeCompact_holds : Rows.StoreCompactCardSaid :=
  Claim7.holds_tied_plain_at .later [] _ _ _ _ storeCompact_said (fun _ h => by cases h) (by kernel_rfl) (fun _ h => by cases h) storeCompact_row_tie rfl ⟨rfl, rfl⟩ (by kernel_rfl) rfl storeCompact_plain (by kernel_rfl)

end Go.Proofs.YtnomenmakhielaaDoor
