/-
  The package-level variables of a program that are arrays of integers, never written: number, kind, values. (Each seat has its own list.)
-/
import Derived.WalkKit
namespace Go.Ab
def gtab : List (Nat × IntKind × List Int) := []
end Go.Ab
