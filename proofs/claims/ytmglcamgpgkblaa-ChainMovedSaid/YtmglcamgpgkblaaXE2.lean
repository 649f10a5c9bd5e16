/-
  Lengths of the answers; intervals as data.
-/
import Derived.Test.YtmglcamgpgkblaaXE1
import Derived.Test.YtmglcamgpgkblaaXGo
import Derived.Test.YtmglcamgpgkblaaXD1
import Derived.Test.YtmglcamgpgkblaaXC4
set_option linter.unusedSimpArgs false
set_option linter.unusedVariables false
namespace Go.Proofs.Ytmglcamgpgkblaa
open Go.Ab
@[go_sem,reducible] def pl10_12 : PT := (.last [(0,[],[]),(1,[],[]),(2,[0,1],[]),(3,[0,1,2],[]),(4,[],[]),(5,[],[]),(6,[5],[]),(7,[],[]),(8,[7],[]),(9,[5,6,7,8],[]),(10,[5,6,7,8,9],[]),(11,[5,6,7,8,9,10],[]),(12,[],[]),(13,[4,5,6,7,8,9,10,11],[]),(14,[4,5,6,7,8,9,10,11,12,13],[]),(15,[4,5,6,7,8,9,10,11,12,13,14],[]),(16,[],[]),(17,[],[]),(18,[17],[]),(19,[],[]),(20,[19],[]),(21,[17,18,19,20],[]),(22,[17,18,19,20,21],[]),(23,[17,18,19,20,21,22],[]),(24,[],[]),(25,[16,17,18,19,20,21,22,23],[]),(26,[16,17,18,19,20,21,22,23,24,25],[]),(27,[16,17,18,19,20,21,22,23,24,25,26],[]),(28,[4,5,6,7,8,9,10,11,12,13,14,15,16,17,18,19,20,21,22,23,24,25,26,27],[]),(29,[0,1,2,3,4,5,6,7,8,9,10,11,12,13,14,15,16,17,18,19,20,21,22,23,24,25,26,27,28],[]),(30,[],[]),(31,[0,1,2,3,4,5,6,7,8,9,10,11,12,13,14,15,16,17,18,19,20,21,22,23,24,25,26,27,28,29,30],[]),(32,[0,1,2,3,4,5,6,7,8,9,10,11,12,13,14,15,16,17,18,19,20,21,22,23,24,25,26,27,28,29,30,31],[])])
theorem sh_len (s : Sc) : (shR s).1.length ≤ 400 := by
  rcases sh_cases s with ⟨_, k⟩ | ⟨_, _, k⟩ | ⟨hs, m, u, p, k1, k2, k3, k4⟩
  · rw [k]; simp
  · rw [k]; simp
  · rw [k4, stps_len]
    have := hs.sz
    unfold SzOk at this
    have := k1.le
    omega
theorem th_len (s : Sc) (n : Int) : (thR s n).1.length ≤ 400 := by
  rcases th_cases s n with ⟨_, k⟩ | ⟨hs, j, rfl, hj, ⟨_, k⟩ | ⟨w, p, h2, h3, h4, h5, h6, h7, k⟩⟩
  · rw [k]; simp
  · rw [k]; simp
  · rw [k, stps_len]
    have := hs.sz
    unfold SzOk at this
    omega
theorem p6D_cells (p : P6) : (p6D p).cells = p6L p := rfl
theorem fits_vecs {D : DatX} (h : FitsX Γ 50 D) : ∃ l : List P6,l.length ≤ 9223372036854775807 ∧ D = .slice 6 (l.map p6D) := by
  cases D <;> simp [FitsX, Γ_50, Γ_31] at h
  rename_i z Ds
  obtain ⟨rfl, hl, h⟩ := h
  obtain ⟨l, rfl⟩ := fits_map fits_vec h
  exact ⟨l, by simpa [maxLen] using hl, rfl⟩
theorem vecs_val {l : List P6} {w : World} {x : Value} (h : Rv [] w (DatX.val false (.slice 6 (l.map p6D))) x) : Rv [] w (vts l) x := by
  simp only [DatX.val, DatX.cells, nth, Bool.false_eq_true, if_false] at h
  rw [List.length_map] at h
  refine Rv_view_ext (fun i j hi hj => ?_) h
  rw [cellsLLX_get _ _ (by simpa using hi), List.getElem_map, p6D_cells]
  simp [vtE, gv, hi]
end Go.Proofs.Ytmglcamgpgkblaa
