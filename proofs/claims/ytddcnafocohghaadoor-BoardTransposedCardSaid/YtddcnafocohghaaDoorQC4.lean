/-
  hand as a contract.
-/
import Derived.Test.YtddcnafocohghaaDoorQC3
set_option linter.unusedSimpArgs false
set_option linter.unusedVariables false
namespace Go.Proofs.YtddcnafocohghaaDoor
open Go.Ab
end Go.Proofs.YtddcnafocohghaaDoor
