/-
  The head of the laws: two pipes that share their wind, and a singer who breathes once.
-/
import Derived.Test.YtonmienclploaaaGreatDoorQGo
import Derived.Test.YtonmienclploaaaGreatDoorQV8k
set_option linter.unusedSimpArgs false
set_option linter.unusedVariables false
namespace Go.Proofs.YtonmienclploaaaGreatDoor
open Go.Ab
def zV : P6 := ⟨0, 0, 0, 0, 0, 0⟩
def og1 : Og := ⟨[⟨1, zV, 5, 1000000, 0⟩, ⟨2, ⟨-12, 12, 0, 0, 0, 0⟩, 4, 1000000, 0⟩], 8, 100⟩
def vs1 : List P6 := [⟨-1, 1, 0, 0, 0, 0⟩, zV]
def vc1 : Vc := ⟨⟨-12, 0, 0, 0, 0, 0⟩, ⟨12, 0, 0, 0, 0, 0⟩, 702000, 10⟩
def ln1 : List Sg := [⟨0, 4, zV⟩, ⟨4, 8, zV⟩, ⟨9, 13, zV⟩]
theorem og1_ok : ogB og1 = true := by decide
theorem vs1_ok : anyV (fun x => !vOk x) vs1 = false := by decide
theorem och1 : ochR og1 vs1 0 = ([2, 1], 0) := by decide
theorem vc1_ok : vcB vc1 = true := by decide
theorem bre1 : breR vc1.br [4, 4, 4] = ([1], 0) := by decide
theorem ln1_ok : lokB ln1 = true := by decide
theorem ln1_fst : fstF (badS vc1 ln1) 0 ln1.length = 3 := by decide
theorem og1_E : ∀ i j,i < 2 → j < 10 → nth [AV.imm (.int .i64 1),.imm (.int .i64 0),.imm (.int .i64 0),.imm (.int .i64 0),.imm (.int .i64 0),.imm (.int .i64 0),.imm (.int .i64 0),.imm (.int .i64 5),.imm (.int .i64 1000000),.imm (.int .i64 0),.imm (.int .i64 2),.imm (.int .i64 (-12)),.imm (.int .i64 12),.imm (.int .i64 0),.imm (.int .i64 0),.imm (.int .i64 0),.imm (.int .i64 0),.imm (.int .i64 4),.imm (.int .i64 1000000),.imm (.int .i64 0)] (i * 10 + j) = ppE og1.ps i j := by
  intro i j hi hj
  rcases i with _ | _ | i
  · iterate 10 (rcases j with _ | j; (focus rfl))
    omega
  · iterate 10 (rcases j with _ | j; (focus rfl))
    omega
  · omega
def trE (_i _j : Nat) : AV := .imm (.bool true)
@[simp] theorem trE_free (i j : Nat) : Free (trE i j) := trivial
set_option maxRecDepth 100000 in
set_option maxHeartbeats 8000000 in
theorem head_tc : Look Tryz.prog 5 [] (.imm (.bool true)) := by
  have c1 := rbestO_tc og1 vs1 (by decide) (by decide) og1_ok vs1_ok
  rw [och1] at c1
  have c2 : Makes Tryz.prog 6 [vcA vc1,its [4,4,4],.view 3 1 trE] _ _ := breaths_tc vc1 [4,4,4] (by decide) ⟨vc1_ok,by decide⟩
  rw [bre1] at c2
  have c3 := line_tc vc1 ln1 (by decide) vc1_ok ln1_ok
  rw [ln1_fst, if_neg (by decide)] at c3
  have c4 := equalI_tc [2, 1] [2, 1] (by decide) (by decide) rfl
  have c5 := equalI_tc [1] [1] (by decide) (by decide) rfl
  have hv5 := og1_E
  refine Look.mk trivial ?_
  (refine TC_of_T Γ_ok Tryz.func5 rfl (by kernel_rfl) ?_;simp only [Tryz.ntmps5,Tryz.results5,List.length_cons,List.length_nil,Nat.reduceSub,Nat.reduceAdd,List.replicate,List.cons_append,List.nil_append])
  (have cm1 := c1;have cm2 := c2;have cl1 := c3;have dl1 := c4;have dl2 := c5;((refine goL0 _ _ _ _ _ _ _ _ ?_ ?_ ?_ ?_ ?_ ?_ ?_ ?_) <;> (repeat intro hb) <;> first|exact True.intro|refine Lf.mk ?_))
end Go.Proofs.YtonmienclploaaaGreatDoor
