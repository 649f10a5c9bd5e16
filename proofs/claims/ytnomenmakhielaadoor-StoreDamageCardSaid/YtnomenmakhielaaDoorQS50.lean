/-
  Rows.StoreDamageCardSaid: if one byte of a frame other than its first one is changed, Recover returns exactly the records before it; the checksum's table is laid as the program's text lays it; no other condition.
-/
import Derived.Test.YtnomenmakhielaaDoorQS43
import Derived.Test.YtnomenmakhielaaDoorQS39
set_option linter.unusedSimpArgs false
set_option linter.unusedVariables false
namespace Go.Proofs.YtnomenmakhielaaDoor
open Go.Ab Go.ChangeShapes Go.WideShapes Go.ChangeAt Go.RowKit

theorem storeDamage_look : ∀ Ds, FitsArgs Γ Tryd.f8.params.toList Ds → Sized Tryd.prog Tryd.f8.params.toList Ds → ∃ us, (∀ w vs, RvL [] w (valsOf Γ Tryd.f8.params.toList Ds) vs → RvL [] w us vs) ∧ Look Tryd.prog 8 us (.imm (.bool true)) := by
  intro Ds hF hS
  have e : Tryd.f8.params.toList = [22, 5, 5, 5] := by kernel_rfl
  rw [e] at hF hS ⊢
  match Ds, hF, hS with
  | [D0, D1, D2, D3], hF, hS =>
    simp only [FitsArgs] at hF
    obtain ⟨q0, q1, q2, q3, _⟩ := hF
    obtain ⟨l, hl, rfl⟩ := fits_recs q0
    obtain ⟨a, ha, rfl⟩ := fits_u8 q1
    obtain ⟨n, hn, rfl⟩ := fits_u8 q2
    obtain ⟨b, hb, rfl⟩ := fits_u8 q3
    refine ⟨_, fun w vs h => ?_, law_damage l a n b hl ha hn hb⟩
    match vs, h with
    | [v0, v1, v2, v3], h =>
      simp only [valsOf, isAggT, Γ_22, Γ_5, TD.isAgg, RvL] at h ⊢
      exact ⟨recs_val (h.1), h.2.1, h.2.2.1, h.2.2.2.1, trivial⟩
    | [], h => simp [valsOf, RvL] at h
    | [_], h => simp [valsOf, RvL] at h
    | [_, _], h => simp [valsOf, RvL] at h
    | [_, _, _], h => simp [valsOf, RvL] at h
    | _ :: _ :: _ :: _ :: _ :: _, h => simp [valsOf, RvL] at h
  | [], hF, _ => simp [FitsArgs] at hF
  | [_], hF, _ => simp [FitsArgs] at hF
  | [_, _], hF, _ => simp [FitsArgs] at hF
  | [_, _, _], hF, _ => simp [FitsArgs] at hF
  | _ :: _ :: _ :: _ :: _ :: _, hF, _ => simp [FitsArgs] at hF

theorem storeDamage_laid (os : Os) : laidMet Tryd.prog Rows.storeDamageRow.laid ((laidWorld os).forCall (fun _ _ => 0) ⟨#[], #[.slice none 0 0, .int .u8 0, .int .u8 0, .int .u8 0], []⟩).memory := laidMet_of_run' 8 (by kernel_rfl) (by kernel_rfl)
theorem storeDamage_reads (os : Os) {H : Type} (enc : TypeId × Value → H) : ∃ places, DataW.whole enc Tryd.prog ((laidWorld os).forCall (fun _ _ => 0) ⟨#[], #[.slice none 0 0, .int .u8 0, .int .u8 0, .int .u8 0], []⟩).memory Tryd.f8.params.toList Rows.storeDamageSpec.vars false (#[.slice none 0 0, .int .u8 0, .int .u8 0, .int .u8 0] : Array Value).toList 8 = some ([.nil, .lit (.int .u8 0), .lit (.int .u8 0), .lit (.int .u8 0)], [], places) := ⟨[], by kernel_rfl⟩

set_option maxRecDepth 100000 in
theorem storeDamage_lifted (os : Os) (started : os.Started) (H : Type) (enc : TypeId × Value → H) (F : Stop.Interp) :
    ReturnsInHanded {} Tryd.checked os 8 .any ((OpenSpec.ofChange Rows.storeDamageSpec).preRow enc Tryd.prog Tryd.f8 Rows.storeDamageRow.domain false Rows.storeDamageRow.laid) (((OpenSpec.ofChange Rows.storeDamageSpec).at F).post enc Tryd.prog Tryd.f8 false true false false) := by
  obtain ⟨places, hx⟩ := storeDamage_reads os enc
  refine returnsInHanded_of_row (C := Tryd.checked) (s := OpenSpec.ofChange Rows.storeDamageSpec) own started (by kernel_rfl) Tryd.func8
    (witness_row_at (enc := enc) (C := Tryd.checked) false (laidWorld os) #[.slice none 0 0, .int .u8 0, .int .u8 0, .int .u8 0] rfl (by kernel_rfl) (by kernel_rfl) (by kernel_rfl)
      (OpenSpec.preRow_of_cond 8 hx (by kernel_rfl) (fun k hk => by cases hk) (by kernel_rfl) (storeDamage_laid os))) ?_
  intro W base args ds gs before hval hW _ _ hw hL _ _
  exact law_contractS (fun _ h => globs h) Γ_ok (by kernel_rfl) laidOut (by kernel_rfl) Tryd.underlying4 (by kernel_rfl) rfl (fun ds hl => by
    match ds, hl with
    | [_, _, _, _], _ => rfl) (by kernel_rfl) storeDamage_look _ W base args ds gs before hval hW hw hL

theorem storeDamage_said : Rows.StoreDamageSaid :=
  OpenClaim.holds_of_cond 8 Tryd.f8 rfl rfl rfl rfl rfl rfl rfl ⟨rfl, rfl, rfl, rfl, rfl⟩ rfl rfl rfl rfl rfl (by kernel_rfl) Tryd.func8 (by kernel_rfl)
    (of_decide_eq_true (by kernel_rfl)) (by unfold Func.isWrapper; first | (rw [if_pos (by decide +kernel)]; kernel_rfl) | (rw [if_neg (by decide +kernel)]; exact ⟨rfl, rfl⟩))
    (fun os started H enc _ F => by rw [OpenClaim.pre_eq_preRow]; exact storeDamage_lifted os started H enc F)

theorem storeDamage_plain (f : FuncId) (fn : Func) (hf : Tryd.pinned.checked.prog.funcNamed Rows.storeDamageRow.func = some f) (hfn : Tryd.pinned.checked.prog.funcs[f]? = some fn) :
    false = Tryd.pinned.checked.prog.looks [] ∧ ∀ (j : Nat) t, fn.params[j]? = some t → Tryd.pinned.checked.prog.wantsStandIn t = false := by
  obtain rfl : f = 8 := Option.some.inj ((show Tryd.prog.funcNamed Rows.storeDamageRow.func = some 8 by kernel_rfl).symm.trans hf) |>.symm
  obtain rfl : fn = Tryd.f8 := (Option.some.inj (Tryd.func8.symm.trans hfn)).symm
  refine ⟨by kernel_rfl, fun j t ht => ?_⟩
  have hall : Tryd.f8.params.toList.all (fun t => !(Tryd.prog.wantsStandIn t)) = true := by kernel_rfl
  have hm := List.all_eq_true.1 hall t (by simpa using Array.mem_of_getElem? ht)
  have h2 : Tryd.prog.wantsStandIn t = false := by simpa using hm
  exact h2

theorem storeDamage_holds : Rows.StoreDamageCardSaid :=
  Claim7.holds_tied_plain_at .later [] _ _ _ _ storeDamage_said (fun _ h => by cases h) (by kernel_rfl) (fun _ h => by cases h) storeDamage_row_tie rfl ⟨rfl, rfl⟩ (by kernel_rfl) rfl storeDamage_plain (by kernel_rfl)

end Go.Proofs.YtnomenmakhielaaDoor
