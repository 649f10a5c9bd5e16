/-
  ChainConsistent: one pair.
-/
import Derived.Test.YtmglcamgpgkblaaXE2
import Derived.Test.YtmglcamgpgkblaaXGo3
import Derived.Test.YtmglcamgpgkblaaXC1
import Derived.Test.YtmglcamgpgkblaaXAb30
set_option linter.unusedSimpArgs false
set_option linter.unusedVariables false
namespace Go.Proofs.Ytmglcamgpgkblaa
open Go.Ab
def cAt : Code → List Bool → Code
  | .seq a _, false :: p => cAt a p
  | .seq _ b, true :: p => cAt b p
  | .block _ c, _ :: p => cAt c p
  | .loop c, _ :: p => cAt c p
  | c, _ => c
@[reducible] noncomputable def cb7 : Code := Try.f7.body.getD .skip
@[go_sem,reducible] def enC (s : Sc) (c i : Nat) : List AV := [.top,.optr 0 0 0,.imm (.bool false),.imm (.bool true),.imm (.int .i64 c),.optr 1 0 0] ++ List.replicate 21 .top ++ [prs s.pairs,.imm (.int .i64 s.pairs.length),.imm (.int .i64 i)] ++ List.replicate 100 .top
@[go_sem, reducible] def fxC (s : Sc) (p : Pr) : List AObj := [.box 26 (scL s), .box 45 (prL p)]
def CK (K : St → Prop) (s : Sc) (c i : Nat) (w : Pr) : Prop := ∀ st', Wk 0 st' ⟨enC s c i, fxC s w⟩ → K st'
variable (rd : Rd)
end Go.Proofs.Ytmglcamgpgkblaa
