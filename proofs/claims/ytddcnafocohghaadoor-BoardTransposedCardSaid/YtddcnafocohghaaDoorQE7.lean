/-
  Rows.BoardTransposedCardSaid: a keyboard and a chord that are moved by the same interval answer alike; the logarithms are laid as the program's text lays them; no other condition.
-/
import Derived.Test.YtddcnafocohghaaDoorQC5
import Derived.Test.YtddcnafocohghaaDoorQD7
set_option linter.unusedSimpArgs false
set_option linter.unusedVariables false
namespace Go.Proofs.YtddcnafocohghaaDoor
open Go.Ab Go.ChangeShapes Go.WideShapes Go.ChangeAt Go.RowKit
theorem boardTransposed_look : ∀ Ds, FitsArgsX Γ Tryd.f10.params.toList Ds → SizedX Tryd.prog Tryd.f10.params.toList Ds → ∃ us, (∀ w vs, RvL [] w (valsOfX Γ Tryd.f10.params.toList Ds) vs → RvL [] w us vs) ∧ Look Tryd.prog 10 us (.imm (.bool true)) := by
  intro Ds hF hS
  have e : Tryd.f10.params.toList = [24, 28, 26] := by kernel_rfl
  rw [e] at hF hS ⊢
  match Ds, hF, hS with
  | [D0, D1, D2], hF, hS =>
    simp only [FitsArgsX] at hF
    obtain ⟨q0, q1, q2, _⟩ := hF
    obtain ⟨b, hb, rfl⟩ := fits_board q0
    obtain ⟨vs, hvs, rfl⟩ := fits_vecs q1
    obtain ⟨w, rfl⟩ := fits_vec q2
    refine ⟨_, fun w vs h => ?_, transposed_law b vs w hb (by have := hS 1 28 26 6 _ rfl rfl (by kernel_rfl); rw [List.length_map, bytes_vec] at this; exact this)⟩
    match vs, h with
    | [v0, v1, v2], h =>
      simp only [valsOfX, isAggT, Γ_28, Γ_24, Γ_26, TD.isAgg, RvL] at h ⊢
      exact ⟨board_val (h.1), vecs_val (h.2.1), vec_val (h.2.2.1), trivial⟩
    | [], h => simp [valsOfX, RvL] at h
    | [_], h => simp [valsOfX, RvL] at h
    | [_, _], h => simp [valsOfX, RvL] at h
    | _ :: _ :: _ :: _ :: _, h => simp [valsOfX, RvL] at h
  | [], hF, _ => simp [FitsArgsX] at hF
  | [_], hF, _ => simp [FitsArgsX] at hF
  | [_, _], hF, _ => simp [FitsArgsX] at hF
  | _ :: _ :: _ :: _ :: _, hF, _ => simp [FitsArgsX] at hF
theorem boardTransposed_laid (os : Os) : laidMet Tryd.prog Rows.boardTransposedRow.laid ((laidWorld os).forCall (fun _ _ => 0) ⟨#[], #[.agg #[.slice none 0 0, .int .i64 0, .int .i64 0], .slice none 0 0, .agg #[.int .i64 0, .int .i64 0, .int .i64 0, .int .i64 0, .int .i64 0, .int .i64 0]], []⟩).memory := laidMet_of_run' 8 (by kernel_rfl) (by kernel_rfl)
theorem boardTransposed_reads (os : Os) {H : Type} (enc : TypeId × Value → H) : ∃ places, DataW.whole enc Tryd.prog ((laidWorld os).forCall (fun _ _ => 0) ⟨#[], #[.agg #[.slice none 0 0, .int .i64 0, .int .i64 0], .slice none 0 0, .agg #[.int .i64 0, .int .i64 0, .int .i64 0, .int .i64 0, .int .i64 0, .int .i64 0]], []⟩).memory Tryd.f10.params.toList Rows.boardTransposedSpec.vars false (#[.agg #[.slice none 0 0, .int .i64 0, .int .i64 0], .slice none 0 0, .agg #[.int .i64 0, .int .i64 0, .int .i64 0, .int .i64 0, .int .i64 0, .int .i64 0]] : Array Value).toList 8 = some ([.agg [.nil, .lit (.int .i64 0), .lit (.int .i64 0)], .nil, .agg [.lit (.int .i64 0), .lit (.int .i64 0), .lit (.int .i64 0), .lit (.int .i64 0), .lit (.int .i64 0), .lit (.int .i64 0)]], [], places) := ⟨[], by kernel_rfl⟩
set_option maxRecDepth 100000 in
theorem boardTransposed_lifted (os : Os) (started : os.Started) (H : Type) (enc : TypeId × Value → H) (F : Stop.Interp) :
    ReturnsInHanded {} Tryd.checked os 10 .any ((OpenSpec.ofChange Rows.boardTransposedSpec).preRow enc Tryd.prog Tryd.f10 Rows.boardTransposedRow.domain false Rows.boardTransposedRow.laid) (((OpenSpec.ofChange Rows.boardTransposedSpec).at F).post enc Tryd.prog Tryd.f10 false true false false) := by
  obtain ⟨places, hx⟩ := boardTransposed_reads os enc
  refine returnsInHanded_of_row (C := Tryd.checked) (s := OpenSpec.ofChange Rows.boardTransposedSpec) own started (by kernel_rfl) Tryd.func10
    (witness_row_at (enc := enc) (C := Tryd.checked) false (laidWorld os) #[.agg #[.slice none 0 0, .int .i64 0, .int .i64 0], .slice none 0 0, .agg #[.int .i64 0, .int .i64 0, .int .i64 0, .int .i64 0, .int .i64 0, .int .i64 0]] rfl (by kernel_rfl) (by kernel_rfl) (by kernel_rfl)
      (OpenSpec.preRow_of_cond 8 hx (by kernel_rfl) (fun k hk => by cases hk) (by kernel_rfl) (boardTransposed_laid os))) ?_
  intro W base args ds gs before hval hW _ _ hw hL _ _
  exact law_contractSX (fun _ h => globs h) Γ_ok (by kernel_rfl) laidOut (by kernel_rfl) Tryd.underlying4 (by kernel_rfl) rfl (fun ds hl => by
    match ds, hl with
    | [_, _, _], _ => rfl) (by kernel_rfl) boardTransposed_look _ W base args ds gs before hval hW hw hL
theorem boardTransposed_said : Rows.BoardTransposedSaid :=
  OpenClaim.holds_of_cond 10 Tryd.f10 rfl rfl rfl rfl rfl rfl rfl ⟨rfl, rfl, rfl, rfl, rfl⟩ rfl rfl rfl rfl rfl (by kernel_rfl) Tryd.func10 (by kernel_rfl)
    (of_decide_eq_true (by kernel_rfl)) (by unfold Func.isWrapper; first | (rw [if_pos (by decide +kernel)]; kernel_rfl) | (rw [if_neg (by decide +kernel)]; exact ⟨rfl, rfl⟩))
    (fun os started H enc _ F => by rw [OpenClaim.pre_eq_preRow]; exact boardTransposed_lifted os started H enc F)
theorem boardTransposed_plain (f : FuncId) (fn : Func) (hf : Tryd.pinned.checked.prog.funcNamed Rows.boardTransposedRow.func = some f) (hfn : Tryd.pinned.checked.prog.funcs[f]? = some fn) :
    false = Tryd.pinned.checked.prog.looks [] ∧ ∀ (j : Nat) t, fn.params[j]? = some t → Tryd.pinned.checked.prog.wantsStandIn t = false := by
  obtain rfl : f = 10 := Option.some.inj ((show Tryd.prog.funcNamed Rows.boardTransposedRow.func = some 10 by kernel_rfl).symm.trans hf) |>.symm
  obtain rfl : fn = Tryd.f10 := (Option.some.inj (Tryd.func10.symm.trans hfn)).symm
  refine ⟨by kernel_rfl, fun j t ht => ?_⟩
  have hall : Tryd.f10.params.toList.all (fun t => !(Tryd.prog.wantsStandIn t)) = true := by kernel_rfl
  have hm := List.all_eq_true.1 hall t (by simpa using Array.mem_of_getElem? ht)
  have h2 : Tryd.prog.wantsStandIn t = false := by simpa using hm
  exact h2
theorem boardTransposed_holds : Rows.BoardTransposedCardSaid :=
  Claim7.holds_tied_plain_at .later [] _ _ _ _ boardTransposed_said (fun _ h => by cases h) (by kernel_rfl) (fun _ h => by cases h) boardTransposed_row_tie rfl ⟨rfl, rfl⟩ (by kernel_rfl) rfl boardTransposed_plain (by kernel_rfl)
end Go.Proofs.YtddcnafocohghaaDoor
