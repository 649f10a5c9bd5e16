/-
  The contract of merge.Common.
-/
import Derived.Test.YtgljhmnmmaclaaaQGo
import Derived.Test.YtgljhmnmmaclaaaQM8
set_option linter.unusedSimpArgs false
set_option linter.unusedVariables false
namespace Go.Proofs.Ytgljhmnmmaclaaa
open Go.Ab
@[go_sem] theorem mkL_ren (π : List Nat) (n : Nat) (M : Nat → Bool) : renL π n (mkL M) = mkL M := rfl
@[go_sem] theorem mkL_sh (n : Nat) (M : Nat → Bool) : shL n (mkL M) = mkL M := rfl
@[go_sem] theorem mkL_take (M : Nat → Bool) : List.take 8 (mkL M) = mkL M := rfl
@[go_sem] theorem mkL_drop (M : Nat → Bool) : List.drop 0 (mkL M) = mkL M := rfl
theorem risB_range {n : Int} : ∀ {l : Int} {v : List Int},risB n l v = true → ∀ i,i < v.length → l < gi v i ∧ gi v i < n
  | _, [], _, i, h => by simp at h
  | l, d :: r, h, 0, _ => by
    unfold risB at h
    split at h
    · cases h
    · simp only [gi, List.getD_cons_zero]; omega
  | l, d :: r, h, i + 1, hi => by
    unfold risB at h
    split at h
    · cases h
    · have := risB_range h i (by simpa using hi)
      simp only [gi, List.getD_cons_succ] at this ⊢
      omega
theorem enB_range {n : Int} {x : En} (h : enB n x = true) (hn : n ≤ 8) : ∀ i,i < x.v.length → 0 ≤ gi x.v i ∧ gi x.v i < 8 := fun i hi => by
  unfold enB at h
  simp only [Bool.and_eq_true] at h
  have := risB_range h.2 i hi
  omega
def comR (n : Int) (a b : En) : List Int × Int := if cntB n = true ∧ enB n a = true ∧ enB n b = true then (mkR (mkN (fun _ => false) a.v b.v a.v.length) 8,0) else ([],1)
set_option maxRecDepth 100000 in
set_option maxHeartbeats 4000000 in
theorem common_raw (n : Int) (a b : En) (hl : a.v.length ≤ 9223372036854775807) (hb' : b.v.length ≤ 9223372036854775807) : TC Try.prog 14 [.imm (.int .i64 n),enA a,enA b] [] (fun v σ' =>
    (v = .tup [.imm (.slice none 0 0), .imm (.int .i64 (comR n a b).2)] ∧ (comR n a b).1.length = 0) ∨
    ∃ k E',v = .tup [.own k 0 (comR n a b).1.length none,.imm (.int .i64 (comR n a b).2)] ∧ nthO σ' k = .arr 3 1 (comR n a b).1.length E' ∧ ∀ i j,i < (comR n a b).1.length → E' i j = inE (comR n a b).1 i j) := by
  by_cases h : cntB n = true ∧ enB n a = true ∧ enB n b = true
  · have e : comR n a b = (mkR (mkN (fun _ => false) a.v b.v a.v.length) 8, 0) := if_pos h
    have hr := enB_range h.2.1 (by have := h.1; unfold cntB at this; simp at this; omega)
    rw [e]
    have h1 := isCount_tc n
    have h2 := isEntry_tc n a hl
    have h3 := isEntry_tc n b hb'
    rw [show (decide (1 ≤ n) && decide (n ≤ 8)) = cntB n from rfl, h.1] at h1
    rw [h.2.1] at h2
    rw [h.2.2] at h3
    (refine TC_of_T Γ_ok Try.func14 rfl (by kernel_rfl) ?_;simp only [Try.ntmps14,Try.results14,List.length_cons,List.length_nil,Nat.reduceSub,Nat.reduceAdd,List.replicate,List.cons_append,List.nil_append])
    (have cl1 := h1;have dl1 := h2;have dl2 := h3;have ct1 := TurnsAt.mk [2] (mark_tc (fun _k=>false) a b hl hb' hr);have cm1 := fun u1=>list_tc u1;((refine goR0 _ _ _ _ _ _ _ _ ?_ ?_ ?_ ?_ ?_ ?_ ?_ ?_) <;> (repeat intro hb) <;> first|exact True.intro|refine Lf.mk ?_))
    exact .inr ⟨5, _, rfl, rfl, fun _ _ _ => rfl⟩
  · have e : comR n a b = ([], 1) := if_neg h
    rw [e]
    (refine TC_of_T Γ_ok Try.func14 rfl (by kernel_rfl) ?_;simp only [Try.ntmps14,Try.results14,List.length_cons,List.length_nil,Nat.reduceSub,Nat.reduceAdd,List.replicate,List.cons_append,List.nil_append])
    (have cl1 := fun u1=>isCount_tc u1;have dl1 := isEntry_tc n a hl;have dl2 := isEntry_tc n b hb';((refine goR0 _ _ _ _ _ _ _ _ ?_ ?_ ?_ ?_ ?_ ?_ ?_ ?_) <;> (repeat intro hb) <;> first|exact True.intro|refine Lf.mk ?_))
    · exact .inl trivial
    · exact absurd ⟨by unfold cntB; simp [hb.1.1], hb.1.2, hb.2⟩ h
theorem common_tc (n : Int) (a b : En) (hl : a.v.length ≤ 9223372036854775807) (hb' : b.v.length ≤ 9223372036854775807) : Makes Try.prog 14 [.imm (.int .i64 n),enA a,enA b] (.tup [ownI (comR n a b).1,.imm (.int .i64 (comR n a b).2)]) [intO (comR n a b).1] :=
  Makes.lst (fun i j => inE_pl _ i j) trivial (common_raw n a b hl hb')
end Go.Proofs.Ytgljhmnmmaclaaa
