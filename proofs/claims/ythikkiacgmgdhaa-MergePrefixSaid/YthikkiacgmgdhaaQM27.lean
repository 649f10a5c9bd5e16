/-
  MergeMatchesReference and MergeCommon: the walks of the laws.
-/
import Derived.Test.YthikkiacgmgdhaaQGo
import Derived.Test.YthikkiacgmgdhaaQM25
set_option linter.unusedSimpArgs false
set_option linter.unusedVariables false
namespace Go.Proofs.Ythikkiacgmgdhaa
open Go.Ab

theorem rclsR_len (n : Int) (js : List Jn) : (rclsR n js).1.length ≤ 960 := by
  unfold rclsR
  by_cases hv : jsB n js = true
  · rw [if_pos hv]
    have hl8 : js.length ≤ 8 := by unfold jsB at hv; simp at hv; exact hv.1.2
    have := rcA_len js hl8 15
    simp only; omega
  · rw [if_neg hv]; simp
theorem rmrgR_len (n : Int) (js : List Jn) : (rmrgR n js).1.length ≤ 15 := by
  unfold rmrgR
  split
  · split
    · exact rmN_len js 15
    · simp
  · simp
theorem rliR_len (n : Int) (js : List Jn) : (rliR n js).1.length ≤ 8 := by
  unfold rliR
  by_cases hv : jsB n js = true
  · rw [if_pos hv]
    have hn8 : n ≤ 8 := by unfold jsB cntB at hv; simp at hv; exact hv.1.1.2
    have := mkR_len (fun d => liesB js (rcA js 15) d) n.toNat
    simp only; omega
  · rw [if_neg hv]; simp
theorem rcomR_len (n : Int) (a b : En) : (rcomR n a b).1.length ≤ 8 := by
  unfold rcomR
  by_cases h : cntB n = true ∧ enB n a = true ∧ enB n b = true
  · rw [if_pos h]
    have hn8 : n ≤ 8 := by have := h.1; unfold cntB at this; simp at this; omega
    have := enB_len h.2.1 hn8
    have := botL_len a.v b.v a.v.length
    simp only; omega
  · rw [if_neg h]; simp

set_option maxRecDepth 100000 in
set_option maxHeartbeats 8000000 in
theorem matches_law (n : Int) (js : List Jn) (a b : En) (h : JsOk js) (ha : a.v.length ≤ 9223372036854775807) (hb' : b.v.length ≤ 9223372036854775807) : Look Try.prog 3 [.imm (.int .i64 n), jns js, enA a, enA b] (.imm (.bool true)) := by
  have hl := h.1
  have c1 := clashes_tc n js h
  have c2 := rclashes_tc n js h
  rw [cls_eq] at c1
  have l1 := rclsR_len n js
  generalize rclsR n js = rc at c1 c2 l1
  obtain ⟨rc, ec⟩ := rc
  have s1 := sameC_tc rc rc (by simp at l1; omega) (by simp at l1; omega)
  rw [decide_eq_true rfl] at s1
  have c3 := merge_tc n js h
  have c4 := rmerge_tc n js h
  rw [mrg_eq] at c3
  have l2 := rmrgR_len n js
  generalize rmrgR n js = rm at c3 c4 l2
  obtain ⟨rm, em⟩ := rm
  have s2 := sameT_tc rm rm (by simp at l2; omega) (by simp at l2; omega)
  rw [decide_eq_true rfl] at s2
  have c5 := liars_tc n js h
  have c6 := rliars_tc n js h
  rw [lia_eq] at c5
  have l3 := rliR_len n js
  generalize rliR n js = rl at c5 c6 l3
  obtain ⟨rl, el⟩ := rl
  have s3 := ints_tc rl rl (by simp at l3; omega) (by simp at l3; omega)
  rw [decide_eq_true rfl] at s3
  have c7 := common_tc n a b ha hb'
  have c8 := rcommon_tc n a b ha hb'
  rw [com_eq] at c7
  have l4 := rcomR_len n a b
  generalize rcomR n a b = rb at c7 c8 l4
  obtain ⟨rb, eb⟩ := rb
  have s4 := ints_tc rb rb (by simp at l4; omega) (by simp at l4; omega)
  rw [decide_eq_true rfl] at s4
  simp only [] at c1 c2 c3 c4 c5 c6 c7 c8
  refine Look.mk trivial ?_
  (refine TC_of_T Γ_ok Try.func3 rfl (by kernel_rfl) ?_; simp only [Try.ntmps3, Try.results3, List.length_cons, List.length_nil, Nat.reduceSub, Nat.reduceAdd, List.replicate, List.cons_append, List.nil_append])
  (have cl1 := head_tc; repeat' (first | with_reducible refine T_seq_drawT (id := 7) Γ_ok drawsAny pl3_7 (by kernel_rfl) (fun K hK => ?_) | with_reducible refine T_last_drawT (id := 7) Γ_ok drawsAny pl3_7 (by kernel_rfl) (fun K hK => ?_) | ((refine goR0 _ _ _ _ _ _ _ _ ?_ ?_ ?_ ?_ ?_ ?_ ?_ ?_) <;> (repeat intro hb) <;> first | exact True.intro | refine Lf.mk ?_)))
  refine T_loopW (fun m st => ∃ i : Nat, i ≤ js.length ∧ i ≤ 9 ∧ m + i = 9 ∧ st = ⟨[.imm (.int .i64 n), jns js, .top, .top, .top, .top, .optr 0 0 0, .optr 1 0 0, .imm (.bool false), .imm (.bool true), .imm (.int .i64 i)] ++ List.replicate 137 .top, [.box 27 (enL a), .box 27 (enL b)]⟩)
    9 ⟨_, ?_, 0, by omega, by omega, rfl, rfl⟩ ?_
  · ((try simp only [List.length_append, List.length_cons, List.length_nil, Nat.zero_add]); refine Wk.intro [0, 1] (by decide) (by decide) (by intro o ho; simp at ho ⊢ <;> omega) ?_ ?_ <;> repeat' (first | exact WkVL.nil | refine WkVL.cons ?_ ?_ | exact WkV.top | exact WkV.imm rfl | exact WkV.imm (by simp) | exact WkV.optr rfl | exact WkV.own rfl (by simp) | exact WkV.nil_own (.inl rfl) | exact WkV.map rfl | (refine WkV.free ?_; simp [Free, FreeL] <;> assumption) | (refine WkV.free (fun _ _ => FreeL_nth ?_ _); simp [Free, FreeL]; done) | refine WkV.agg ?_ | refine WkV.tup ?_ | refine WkV.fn ?_ ?_ | exact WkO.dead | exact WkO.raw | refine WkO.ghost ?_ | exact WkO.mpE rfl trivial | refine WkO.box ?_ rfl | refine WkO.arr ?_ | refine And.intro ?_ (And.intro (by first | exact fun h => h | exact fun _ => rfl | exact nofun) ?_) | exact trivial | (intro i j hi hj)))
  rintro m st ⟨i, h0, h1, h2, rfl⟩
  have hj := h.2 i
  (simp only [go_sem, ↓reduceIte, Nat.reduceAdd, Nat.reduceSub, Nat.reduceMul, Nat.reduceLT, Nat.reduceLeDiff, Nat.reduceEqDiff, Nat.reduceGT, Int.reduceToNat, Int.reduceBEq, Int.reduceBNe]; try simp (disch := omega) only [wrapI, wrapU, half_sum, toNat_sub1, toNat_add1, Int.toNat_natCast])
  (have dl1 := valid_tc n (gj js i) hj.1 hj.2; have dl2 := rvalid_tc n (gj js i) hj.1 hj.2; have cm1 := c1; have cm2 := c2; have cm3 := c3; have cm4 := c4; have cm5 := c5; have cm6 := c6; have cm7 := c7; have cm8 := c8; have dl3 := s1; have dl4 := s2; have dl5 := s3; have dl6 := s4; have sx1 := @beq_self_eq_true Int _ _; have sx2 : (0 : Nat) + 0 = 0 := rfl; repeat' (first | with_reducible refine T_seq_drawT (id := 7) Γ_ok drawsAny pl3_7 (by kernel_rfl) (fun K hK => ?_) | with_reducible refine T_last_drawT (id := 7) Γ_ok drawsAny pl3_7 (by kernel_rfl) (fun K hK => ?_) | ((refine goR2 _ _ _ _ _ _ _ _ ?_ ?_ ?_ ?_ ?_ ?_ ?_ ?_) <;> (repeat intro hb) <;> first | exact True.intro | refine Lf.mk ?_)))
  refine ⟨9 - (i + 1), by omega, _, ?_, i + 1, by omega, by omega, by omega, rfl⟩
  ((try simp only [List.length_append, List.length_cons, List.length_nil, Nat.zero_add]); refine Wk.intro [0, 1] (by decide) (by decide) (by intro o ho; simp at ho ⊢ <;> omega) ?_ ?_ <;> repeat' (first | (refine WkV.imm ?_; congr 1; omega) | (exact WkV.imm (by simp)) | exact WkVL.nil | refine WkVL.cons ?_ ?_ | exact WkV.top | exact WkV.imm rfl | exact WkV.imm (by simp) | exact WkV.optr rfl | exact WkV.own rfl (by simp) | exact WkV.nil_own (.inl rfl) | exact WkV.map rfl | (refine WkV.free ?_; simp [Free, FreeL] <;> assumption) | (refine WkV.free (fun _ _ => FreeL_nth ?_ _); simp [Free, FreeL]; done) | refine WkV.agg ?_ | refine WkV.tup ?_ | refine WkV.fn ?_ ?_ | exact WkO.dead | exact WkO.raw | refine WkO.ghost ?_ | exact WkO.mpE rfl trivial | refine WkO.box ?_ rfl | refine WkO.arr ?_ | refine And.intro ?_ (And.intro (by first | exact fun h => h | exact fun _ => rfl | exact nofun) ?_) | exact trivial | (intro i j hi hj)))
end Go.Proofs.Ythikkiacgmgdhaa
