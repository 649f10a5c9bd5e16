/-
  A law's contract from arguments among which there are arrays, no variables laid (as law_contract of Ab20).
-/
import Derived.Test.YtmglcamgpgkblaaQAb31
set_option linter.unusedSimpArgs false
set_option linter.unusedVariables false
namespace Go.Ab
open Go.ChangeShapes Go.WideShapes Go.ChangeAt Go.RowKit
section
variable {H : Type} {enc : TypeId × Value → H} {P : Program} {Γ : Tab} {w : World} {sp : Nat → Bool} {held : Bool}
theorem law_contractX {fn : Func} {s : ChangeSpec} {f : FuncId} {tb : TypeId} {conds : List PathCond} (hg0 : gtab = []) (hΓ : TabOk P Γ) (hok : fnOk P f = true) (hl : laidOutB P = true) (hres : fn.resultTypes = #[tb]) (hbool : P.underlying tb = some .bool)
    (hpar : fn.params.toList.all (fun t=>P.readableRec t && Nat.blt t P.types.size) = true) (hvars : s.vars = []) (hspec : ∀ ds : List (DataW H),ds.length = fn.params.toList.length → s.fn H ds = { results := [.lit (.bool true)],args := ds })
    (hsup : fn.params.toList.all (supTX Γ 12) = true)
    (hlook : ∀ Ds,FitsArgsX Γ fn.params.toList Ds → ∃ as,(∀ w vs,RvL [] w (valsOfX Γ fn.params.toList Ds) vs → RvL [] w as vs) ∧ Look P f as (.imm (.bool true))) :
    ∀ (W : World) (base : Nat) (args : Array Value) (ds gs : List (DataW H)) (before : List MemPlace),(∀ (j : Nat) t v,fn.params[j]? = some t → args[j]? = some v → Value.okWide P W .any base t v) →
      DataW.Whole enc P fn.params.toList s.vars false W args.toList ds gs before → conds.all (PathCond.test P ⟨fn.params.toList,ds,s.plain.varTypes P,gs⟩) = true → Assume.holds {} P (lone (Frame.enter P f args .normal) [] W) →
      Calls P f args W fun e W' => ∃ v, e = .returned v ∧ s.post enc P fn false true false false W args v W' := by
  intro W base args ds gs before hval hW _ _
  obtain ⟨p, q, hA, hV, _, _, _⟩ := id hW
  obtain ⟨hlen,Ds,hF,hR⟩ := open_argsX hΓ hsup (fun j t v ht hv => ⟨base,hval j t v (by simpa using ht) (by simpa using hv)⟩) hA
  obtain ⟨as, hconv, hlk⟩ := hlook Ds hF
  refine law_post hl hres hbool hpar hvars hW (hspec ds hlen) ?_
  have := hlk.calls (fun g k vs hm => by rw [hg0] at hm; cases hm) hok (hconv W args.toList hR)
  simpa using this
end
end Go.Ab
