/-
  What Run and Chosen answer (as far as the honest journals need it).
-/
import Derived.Test.YtgljhmnmmaclaaaQV12
set_option linter.unusedSimpArgs false
set_option linter.unusedVariables false
namespace Go.Proofs.Ytgljhmnmmaclaaa.Q
open Go.Ab
theorem run_cases (n : Int) (ms : List Mov) : (runR n ms = (⟨[],[],[],[]⟩,1)) ∨ ∃ R,R = foldR n ms ∧ runR n ms = (R,0) ∧ (1 ≤ n ∧ n ≤ 8) ∧ ms.length ≤ 200 ∧ ∀ m ∈ ms,movB n m = true := by
  unfold runR
  by_cases h : (1 ≤ n ∧ n ≤ 8) ∧ ms.length ≤ 200 ∧ ms.all (movB n) = true
  · rw [if_pos h]
    exact .inr ⟨_, rfl, rfl, h.1, h.2.1, List.all_eq_true.1 h.2.2⟩
  · rw [if_neg h]; exact .inl rfl
theorem run_bad {n : Int} {ms : List Mov} (hl : ms.length ≤ 9223372036854775807) (h : runR n ms = (⟨[],[],[],[]⟩,1)) : Makes Try.prog 5 [.imm (.int .i64 n),movs ms] (.tup [rndA ⟨[],[],[],[]⟩,.imm (.int .i64 1)]) (rndO ⟨[],[],[],[]⟩) := by
  have := run_tc n ms hl
  rwa [h] at this
theorem run_ok {n : Int} {ms : List Mov} {R : Rnd} (hl : ms.length ≤ 9223372036854775807) (h : runR n ms = (R,0)) : Makes Try.prog 5 [.imm (.int .i64 n),movs ms] (.tup [rndA R,.imm (.int .i64 0)]) (rndO R) := by
  have := run_tc n ms hl
  rwa [h] at this
theorem chosen_ok {n : Int} {R : Rnd} (hi : Inv n R) (hn : 1 ≤ n ∧ n ≤ 8) (hl : R.vot.length ≤ 1000000) : Makes Try.prog 6 [.imm (.int .i64 n),vots R.vot] (.tup [ownS (outV n R.vot),.imm (.int .i64 0)]) [stasO (outV n R.vot)] := by
  have := chosen_tc n R.vot hl (fun _ _ => hi.rises hn.1)
  rwa [hi.chosen hn] at this
theorem gS_mem {l : List Sta} {i : Nat} (h : i < l.length) : gS l i ∈ l := by simp [gS, h]
theorem outV_len (n : Int) (vs : List Vot) : (outV n vs).length ≤ vs.length := by
  have := outI_len n vs vs.length
  unfold outI at this
  rw [List.take_length] at this
  exact this
end Go.Proofs.Ytgljhmnmmaclaaa.Q
