/-
  A law's contract from arguments among which there are arrays, no variables laid (as law_contract of Ab20).
-/
import Derived.Test.YtdglbjjenihdlaaDoorWAb31
set_option linter.unusedSimpArgs false
set_option linter.unusedVariables false
namespace Go.Ab
open Go.ChangeShapes Go.WideShapes Go.ChangeAt Go.RowKit
section
variable {H : Type} {enc : TypeId × Value → H} {P : Program} {Γ : Tab} {w : World} {sp : Nat → Bool} {held : Bool}
end
end Go.Ab
