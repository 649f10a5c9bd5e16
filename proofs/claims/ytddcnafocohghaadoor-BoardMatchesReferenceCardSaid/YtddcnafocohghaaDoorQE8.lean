/-
  Rows.BoardMatchesReferenceCardSaid: all functions return what the reference returns; the logarithms are laid as the program's text lays them; no other condition.
-/
import Derived.Test.YtddcnafocohghaaDoorQC5
import Derived.Test.YtddcnafocohghaaDoorQD8
set_option linter.unusedSimpArgs false
set_option linter.unusedVariables false
namespace Go.Proofs.YtddcnafocohghaaDoor
open Go.Ab Go.ChangeShapes Go.WideShapes Go.ChangeAt Go.RowKit
theorem boardMatchesReference_look : ∀ Ds, FitsArgsX Γ Tryd.f3.params.toList Ds → SizedX Tryd.prog Tryd.f3.params.toList Ds → ∃ us, (∀ w vs, RvL [] w (valsOfX Γ Tryd.f3.params.toList Ds) vs → RvL [] w us vs) ∧ Look Tryd.prog 3 us (.imm (.bool true)) := by
  intro Ds hF hS
  have e : Tryd.f3.params.toList = [24, 26, 27, 28] := by kernel_rfl
  rw [e] at hF hS ⊢
  match Ds, hF, hS with
  | [D0, D1, D2, D3], hF, hS =>
    simp only [FitsArgsX] at hF
    obtain ⟨q0, q1, q2, q3, _⟩ := hF
    obtain ⟨b, hb, rfl⟩ := fits_board q0
    obtain ⟨v, rfl⟩ := fits_vec q1
    obtain ⟨ids, hids, rfl⟩ := fits_ints q2
    obtain ⟨vs, hvs, rfl⟩ := fits_vecs q3
    refine ⟨_, fun w vs h => ?_, ref_law b v ids vs hb hids (by have := hS 3 28 26 6 _ rfl rfl (by kernel_rfl); rw [List.length_map, bytes_vec] at this; exact this)⟩
    match vs, h with
    | [v0, v1, v2, v3], h =>
      simp only [valsOfX, isAggT, Γ_28, Γ_27, Γ_24, Γ_26, TD.isAgg, RvL] at h ⊢
      exact ⟨board_val (h.1), vec_val (h.2.1), ints_val (h.2.2.1), vecs_val (h.2.2.2.1), trivial⟩
    | [], h => simp [valsOfX, RvL] at h
    | [_], h => simp [valsOfX, RvL] at h
    | [_, _], h => simp [valsOfX, RvL] at h
    | [_, _, _], h => simp [valsOfX, RvL] at h
    | _ :: _ :: _ :: _ :: _ :: _, h => simp [valsOfX, RvL] at h
  | [], hF, _ => simp [FitsArgsX] at hF
  | [_], hF, _ => simp [FitsArgsX] at hF
  | [_, _], hF, _ => simp [FitsArgsX] at hF
  | [_, _, _], hF, _ => simp [FitsArgsX] at hF
  | _ :: _ :: _ :: _ :: _ :: _, hF, _ => simp [FitsArgsX] at hF
theorem boardMatchesReference_laid (os : Os) : laidMet Tryd.prog Rows.boardMatchesReferenceRow.laid ((laidWorld os).forCall (fun _ _ => 0) ⟨#[], #[.agg #[.slice none 0 0, .int .i64 0, .int .i64 0], .agg #[.int .i64 0, .int .i64 0, .int .i64 0, .int .i64 0, .int .i64 0, .int .i64 0], .slice none 0 0, .slice none 0 0], []⟩).memory := laidMet_of_run' 8 (by kernel_rfl) (by kernel_rfl)
theorem boardMatchesReference_reads (os : Os) {H : Type} (enc : TypeId × Value → H) : ∃ places, DataW.whole enc Tryd.prog ((laidWorld os).forCall (fun _ _ => 0) ⟨#[], #[.agg #[.slice none 0 0, .int .i64 0, .int .i64 0], .agg #[.int .i64 0, .int .i64 0, .int .i64 0, .int .i64 0, .int .i64 0, .int .i64 0], .slice none 0 0, .slice none 0 0], []⟩).memory Tryd.f3.params.toList Rows.boardMatchesReferenceSpec.vars false (#[.agg #[.slice none 0 0, .int .i64 0, .int .i64 0], .agg #[.int .i64 0, .int .i64 0, .int .i64 0, .int .i64 0, .int .i64 0, .int .i64 0], .slice none 0 0, .slice none 0 0] : Array Value).toList 8 = some ([.agg [.nil, .lit (.int .i64 0), .lit (.int .i64 0)], .agg [.lit (.int .i64 0), .lit (.int .i64 0), .lit (.int .i64 0), .lit (.int .i64 0), .lit (.int .i64 0), .lit (.int .i64 0)], .nil, .nil], [], places) := ⟨[], by kernel_rfl⟩
set_option maxRecDepth 100000 in
theorem boardMatchesReference_lifted (os : Os) (started : os.Started) (H : Type) (enc : TypeId × Value → H) (F : Stop.Interp) :
    ReturnsInHanded {} Tryd.checked os 3 .any ((OpenSpec.ofChange Rows.boardMatchesReferenceSpec).preRow enc Tryd.prog Tryd.f3 Rows.boardMatchesReferenceRow.domain false Rows.boardMatchesReferenceRow.laid) (((OpenSpec.ofChange Rows.boardMatchesReferenceSpec).at F).post enc Tryd.prog Tryd.f3 false true false false) := by
  obtain ⟨places, hx⟩ := boardMatchesReference_reads os enc
  refine returnsInHanded_of_row (C := Tryd.checked) (s := OpenSpec.ofChange Rows.boardMatchesReferenceSpec) own started (by kernel_rfl) Tryd.func3
    (witness_row_at (enc := enc) (C := Tryd.checked) false (laidWorld os) #[.agg #[.slice none 0 0, .int .i64 0, .int .i64 0], .agg #[.int .i64 0, .int .i64 0, .int .i64 0, .int .i64 0, .int .i64 0, .int .i64 0], .slice none 0 0, .slice none 0 0] rfl (by kernel_rfl) (by kernel_rfl) (by kernel_rfl)
      (OpenSpec.preRow_of_cond 8 hx (by kernel_rfl) (fun k hk => by cases hk) (by kernel_rfl) (boardMatchesReference_laid os))) ?_
  intro W base args ds gs before hval hW _ _ hw hL _ _
  exact law_contractSX (fun _ h => globs h) Γ_ok (by kernel_rfl) laidOut (by kernel_rfl) Tryd.underlying4 (by kernel_rfl) rfl (fun ds hl => by
    match ds, hl with
    | [_, _, _, _], _ => rfl) (by kernel_rfl) boardMatchesReference_look _ W base args ds gs before hval hW hw hL
theorem boardMatchesReference_said : Rows.BoardMatchesReferenceSaid :=
  OpenClaim.holds_of_cond 3 Tryd.f3 rfl rfl rfl rfl rfl rfl rfl ⟨rfl, rfl, rfl, rfl, rfl⟩ rfl rfl rfl rfl rfl (by kernel_rfl) Tryd.func3 (by kernel_rfl)
    (of_decide_eq_true (by kernel_rfl)) (by unfold Func.isWrapper; first | (rw [if_pos (by decide +kernel)]; kernel_rfl) | (rw [if_neg (by decide +kernel)]; exact ⟨rfl, rfl⟩))
    (fun os started H enc _ F => by rw [OpenClaim.pre_eq_preRow]; exact boardMatchesReference_lifted os started H enc F)
theorem boardMatchesReference_plain (f : FuncId) (fn : Func) (hf : Tryd.pinned.checked.prog.funcNamed Rows.boardMatchesReferenceRow.func = some f) (hfn : Tryd.pinned.checked.prog.funcs[f]? = some fn) :
    false = Tryd.pinned.checked.prog.looks [] ∧ ∀ (j : Nat) t, fn.params[j]? = some t → Tryd.pinned.checked.prog.wantsStandIn t = false := by
  obtain rfl : f = 3 := Option.some.inj ((show Tryd.prog.funcNamed Rows.boardMatchesReferenceRow.func = some 3 by kernel_rfl).symm.trans hf) |>.symm
  obtain rfl : fn = Tryd.f3 := (Option.some.inj (Tryd.func3.symm.trans hfn)).symm
  refine ⟨by kernel_rfl, fun j t ht => ?_⟩
  have hall : Tryd.f3.params.toList.all (fun t => !(Tryd.prog.wantsStandIn t)) = true := by kernel_rfl
  have hm := List.all_eq_true.1 hall t (by simpa using Array.mem_of_getElem? ht)
  have h2 : Tryd.prog.wantsStandIn t = false := by simpa using hm
  exact h2
theorem boardMatchesReference_holds : Rows.BoardMatchesReferenceCardSaid :=
  Claim7.holds_tied_plain_at .later [] _ _ _ _ boardMatchesReference_said (fun _ h => by cases h) (by kernel_rfl) (fun _ h => by cases h) boardMatchesReference_row_tie rfl ⟨rfl, rfl⟩ (by kernel_rfl) rfl boardMatchesReference_plain (by kernel_rfl)
end Go.Proofs.YtddcnafocohghaaDoor
