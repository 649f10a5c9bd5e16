/-
  ChainShortest.
-/
import Derived.Test.YtmglcamgpgkblaaXGo
import Derived.Test.YtmglcamgpgkblaaXGo2
import Derived.Test.YtmglcamgpgkblaaXC3
set_option linter.unusedSimpArgs false
set_option linter.unusedVariables false
namespace Go.Proofs.Ytmglcamgpgkblaa
open Go.Ab
end Go.Proofs.Ytmglcamgpgkblaa
