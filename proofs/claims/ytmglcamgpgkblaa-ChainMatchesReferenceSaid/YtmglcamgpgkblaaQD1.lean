/-
  ChainShortest.
-/
import Derived.Test.YtmglcamgpgkblaaQGo
import Derived.Test.YtmglcamgpgkblaaQC3
set_option linter.unusedSimpArgs false
set_option linter.unusedVariables false
namespace Go.Proofs.Ytmglcamgpgkblaa
open Go.Ab
theorem sh_len (s : Sc) : (shR s).1.length ≤ 400 := by
  rcases sh_cases s with ⟨_, k⟩ | ⟨_, _, k⟩ | ⟨hs, m, u, p, k1, k2, k3, k4⟩
  · rw [k]; simp
  · rw [k]; simp
  · rw [k4, stps_len]
    have := hs.sz
    unfold SzOk at this
    have := k1.le
    omega
theorem th_len (s : Sc) (n : Int) : (thR s n).1.length ≤ 400 := by
  rcases th_cases s n with ⟨_, k⟩ | ⟨hs, j, rfl, hj, ⟨_, k⟩ | ⟨w, p, h2, h3, h4, h5, h6, h7, k⟩⟩
  · rw [k]; simp
  · rw [k]; simp
  · rw [k, stps_len]
    have := hs.sz
    unfold SzOk at this
    omega
end Go.Proofs.Ytmglcamgpgkblaa
