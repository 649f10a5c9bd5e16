/-
  MergeClashes: the walk of the law.
-/
import Derived.Test.YthikkiacgmgdhaaQGo
import Derived.Test.YthikkiacgmgdhaaQM27
set_option linter.unusedSimpArgs false
set_option linter.unusedVariables false
namespace Go.Proofs.Ythikkiacgmgdhaa
open Go.Ab

set_option maxRecDepth 100000 in
set_option maxHeartbeats 8000000 in
theorem clashes_law (n : Int) (js : List Jn) (h : JsOk js) : Look Try.prog 6 [.imm (.int .i64 n), jns js] (.imm (.bool true)) := by
  have hl := h.1
  have c1 := clashes_tc n js h
  rw [cls_eq] at c1
  unfold rclsR at c1
  have c2 := merge_tc n js h
  rw [mrg_eq] at c2
  unfold rmrgR at c2
  refine Look.mk trivial ?_
  by_cases hv : jsB n js = true
  · rw [if_pos hv] at c1 c2
    have hok := clsL_ok hv
    rw [clsL_rcA hv] at hok
    have hcl := clsL_le hv
    rw [clsL_rcA hv] at hcl
    have hl8 : js.length ≤ 8 := by unfold jsB at hv; simp at hv; exact hv.1.2
    obtain ⟨o, f, c3, hf⟩ : ∃ (o : List Tk) (f : Int), Makes Try.prog 17 [.imm (.int .i64 n), jns js] (.tup [.own 0 0 o.length none, .imm (.int .i64 f)]) [tkO o] ∧ ((rcA js 15 = [] ∧ f = 0) ∨ (rcA js 15 ≠ [] ∧ f = 23)) := by
      by_cases hc : rcA js 15 = []
      · rw [if_pos hc] at c2; exact ⟨_, _, c2, .inl ⟨hc, rfl⟩⟩
      · rw [if_neg hc] at c2; exact ⟨_, _, c2, .inr ⟨hc, rfl⟩⟩
    clear c2
    generalize rcA js 15 = cs at c1 hok hcl hf
    simp only [] at c1
    (refine TC_of_T Γ_ok Try.func6 rfl (by kernel_rfl) ?_; simp only [Try.ntmps6, Try.results6, List.length_cons, List.length_nil, Nat.reduceSub, Nat.reduceAdd, List.replicate, List.cons_append, List.nil_append])
    (have cl1 := head_tc; have cm1 := c1; have cm2 := c3; repeat' (first | with_reducible refine T_seq_drawT (id := 11) Γ_ok drawsAny pl6_11 (by kernel_rfl) (fun K hK => ?_) | with_reducible refine T_last_drawT (id := 11) Γ_ok drawsAny pl6_11 (by kernel_rfl) (fun K hK => ?_) | with_reducible refine T_seq_drawT (id := 12) Γ_ok drawsAny pl6_12 (by kernel_rfl) (fun K hK => ?_) | with_reducible refine T_last_drawT (id := 12) Γ_ok drawsAny pl6_12 (by kernel_rfl) (fun K hK => ?_) | ((refine goL0 _ _ _ _ _ _ _ _ ?_ ?_ ?_ ?_ ?_ ?_ ?_ ?_) <;> (repeat intro hb) <;> first | exact True.intro | refine Lf.mk ?_)))
    refine T_loopW (fun m st => ∃ i : Nat, i ≤ cs.length ∧ m + i = cs.length ∧ st = ⟨[.top, jns js, .top, .top, .top, .imm (.bool true), .own 0 0 cs.length none, .top, .top, .imm (.int .i64 f)] ++ List.replicate 30 .top ++ [.own 0 0 cs.length none, .imm (.int .i64 cs.length), .imm (.int .i64 i)] ++ List.replicate 74 .top, [elO cs.length cs.toArray]⟩)
      cs.length ⟨_, ?_, 0, by omega, by omega, rfl⟩ ?_
    · ((try simp only [List.length_append, List.length_cons, List.length_nil, Nat.zero_add]); refine Wk.intro [0] (by decide) (by decide) (by intro o ho; simp at ho ⊢ <;> omega) ?_ ?_ <;> repeat' (first | exact WkVL.nil | refine WkVL.cons ?_ ?_ | exact WkV.top | exact WkV.imm rfl | exact WkV.imm (by simp) | exact WkV.optr rfl | exact WkV.own rfl (by simp) | exact WkV.nil_own (.inl rfl) | exact WkV.map rfl | (refine WkV.free ?_; simp [Free, FreeL] <;> assumption) | (refine WkV.free (fun _ _ => FreeL_nth ?_ _); simp [Free, FreeL]; done) | refine WkV.agg ?_ | refine WkV.tup ?_ | refine WkV.fn ?_ ?_ | exact WkO.dead | exact WkO.raw | refine WkO.ghost ?_ | exact WkO.mpE rfl trivial | refine WkO.box ?_ rfl | refine WkO.arr ?_ | refine And.intro ?_ (And.intro (by first | exact fun h => h | exact fun _ => rfl | exact nofun) ?_) | exact trivial | (intro i j hi hj)))
    rintro m st ⟨i, h0, h1, rfl⟩
    by_cases hlt : i < cs.length
    · have hci := hok cs[i] (List.getElem_mem hlt)
      have hce : cs.toArray[i]! = cs[i] := by simp [hlt]
      rw [← hce] at hci
      obtain ⟨iB, iA, x, y, hcx, hik, hil, hx, hy, ht⟩ := hci
      have hs1 : (cs.toArray[i]!).s = x.s := by rw [hcx]
      have hs2 : (cs.toArray[i]!).a = (iA : Int) := by rw [hcx]
      have hs3 : (cs.toArray[i]!).b = (iB : Int) := by rw [hcx]
      have p1 := at_yes (h.2 iA) hy
      have p2 := at_yes (h.2 iB) hx
      have e1 : decide ((iA : Int) < 0) = false := decide_eq_false (by omega)
      have e2 : decide ((iA : Int) ≥ (iB : Int)) = false := decide_eq_false (by omega)
      have e3 : decide ((iB : Int) ≥ (js.length : Int)) = false := decide_eq_false (by omega)
      (simp only [go_sem, ↓reduceIte, Nat.reduceAdd, Nat.reduceSub, Nat.reduceMul, Nat.reduceLT, Nat.reduceLeDiff, Nat.reduceEqDiff, Nat.reduceGT, Int.reduceToNat, Int.reduceBEq, Int.reduceBNe]; try simp (disch := omega) only [wrapI, wrapU, half_sum, toNat_sub1, toNat_add1, Int.toNat_natCast])
      (have cp1 := p1; have cp2 := p2; have sx1 := (And.intro hs1 (And.intro hs2 (And.intro hs3 (And.intro e1 (And.intro e2 e3))))); repeat' (first | with_reducible refine T_seq_drawT (id := 11) Γ_ok drawsAny pl6_11 (by kernel_rfl) (fun K hK => ?_) | with_reducible refine T_last_drawT (id := 11) Γ_ok drawsAny pl6_11 (by kernel_rfl) (fun K hK => ?_) | with_reducible refine T_seq_drawT (id := 12) Γ_ok drawsAny pl6_12 (by kernel_rfl) (fun K hK => ?_) | with_reducible refine T_last_drawT (id := 12) Γ_ok drawsAny pl6_12 (by kernel_rfl) (fun K hK => ?_) | ((refine goL1 _ _ _ _ _ _ _ _ ?_ ?_ ?_ ?_ ?_ ?_ ?_ ?_) <;> (repeat intro hb) <;> first | exact True.intro | refine Lf.mk ?_)))
      have ht2 : (y.s == x.s && (y.c == x.c && (y.n == x.n && y.d == x.d))) = false := by
        rw [← ht]; unfold tkEq; simp only [Bool.and_assoc]; rfl
      rw [ht2]
      refine ⟨m - 1, by omega, _, ?_, i + 1, by omega, by omega, rfl⟩
      ((try simp only [List.length_append, List.length_cons, List.length_nil, Nat.zero_add]); refine Wk.intro [0] (by decide) (by decide) (by intro o ho; simp at ho ⊢ <;> omega) ?_ ?_ <;> repeat' (first | (exact WkV.imm (by simp)) | exact WkVL.nil | refine WkVL.cons ?_ ?_ | exact WkV.top | exact WkV.imm rfl | exact WkV.imm (by simp) | exact WkV.optr rfl | exact WkV.own rfl (by simp) | exact WkV.nil_own (.inl rfl) | exact WkV.map rfl | (refine WkV.free ?_; simp [Free, FreeL] <;> assumption) | (refine WkV.free (fun _ _ => FreeL_nth ?_ _); simp [Free, FreeL]; done) | refine WkV.agg ?_ | refine WkV.tup ?_ | refine WkV.fn ?_ ?_ | exact WkO.dead | exact WkO.raw | refine WkO.ghost ?_ | exact WkO.mpE rfl trivial | refine WkO.box ?_ rfl | refine WkO.arr ?_ | refine And.intro ?_ (And.intro (by first | exact fun h => h | exact fun _ => rfl | exact nofun) ?_) | exact trivial | (intro i j hi hj)))
    · (simp only [go_sem, ↓reduceIte, Nat.reduceAdd, Nat.reduceSub, Nat.reduceMul, Nat.reduceLT, Nat.reduceLeDiff, Nat.reduceEqDiff, Nat.reduceGT, Int.reduceToNat, Int.reduceBEq, Int.reduceBNe]; try simp (disch := omega) only [wrapI, wrapU, half_sum, toNat_sub1, toNat_add1, Int.toNat_natCast])
      (repeat' (first | with_reducible refine T_seq_drawT (id := 11) Γ_ok drawsAny pl6_11 (by kernel_rfl) (fun K hK => ?_) | with_reducible refine T_last_drawT (id := 11) Γ_ok drawsAny pl6_11 (by kernel_rfl) (fun K hK => ?_) | with_reducible refine T_seq_drawT (id := 12) Γ_ok drawsAny pl6_12 (by kernel_rfl) (fun K hK => ?_) | with_reducible refine T_last_drawT (id := 12) Γ_ok drawsAny pl6_12 (by kernel_rfl) (fun K hK => ?_) | ((refine goL0 _ _ _ _ _ _ _ _ ?_ ?_ ?_ ?_ ?_ ?_ ?_ ?_) <;> (repeat intro hb) <;> first | exact True.intro | refine Lf.mk ?_)))
      refine congrArg (fun b => AV.imm (.bool b)) ?_
      rcases hf with ⟨rfl, rfl⟩ | ⟨hne, rfl⟩
      · rfl
      · have h5 : cs.length ≠ 0 := fun h6 => hne (List.length_eq_zero_iff.1 h6)
        have h6 : ((cs.length : Int) == 0) = false := by simp [h5]
        have h7 : decide ((cs.length : Int) > 0) = true := decide_eq_true (by omega)
        rw [h6, h7]; rfl
  · rw [if_neg hv] at c1 c2
    simp only [] at c1 c2
    (refine TC_of_T Γ_ok Try.func6 rfl (by kernel_rfl) ?_; simp only [Try.ntmps6, Try.results6, List.length_cons, List.length_nil, Nat.reduceSub, Nat.reduceAdd, List.replicate, List.cons_append, List.nil_append])
    (have cl1 := head_tc; have cm1 := c1; have cm2 := c2; repeat' (first | with_reducible refine T_seq_drawT (id := 11) Γ_ok drawsAny pl6_11 (by kernel_rfl) (fun K hK => ?_) | with_reducible refine T_last_drawT (id := 11) Γ_ok drawsAny pl6_11 (by kernel_rfl) (fun K hK => ?_) | with_reducible refine T_seq_drawT (id := 12) Γ_ok drawsAny pl6_12 (by kernel_rfl) (fun K hK => ?_) | with_reducible refine T_last_drawT (id := 12) Γ_ok drawsAny pl6_12 (by kernel_rfl) (fun K hK => ?_) | ((refine goL0 _ _ _ _ _ _ _ _ ?_ ?_ ?_ ?_ ?_ ?_ ?_ ?_) <;> (repeat intro hb) <;> first | exact True.intro | refine Lf.mk ?_)))
end Go.Proofs.Ythikkiacgmgdhaa
