/-
  BoardFound: the walk of the law.
-/
import Derived.Test.YtddcnafocohghaaDoorQGo
import Derived.Test.YtddcnafocohghaaDoorQC4
set_option linter.unusedSimpArgs false
set_option linter.unusedVariables false
namespace Go.Proofs.YtddcnafocohghaaDoor
open Go.Ab
set_option maxRecDepth 100000 in
set_option maxHeartbeats 4000000 in
theorem found_law (b : Bd) (v : P6) (hl : b.ks.length ≤ 9223372036854775807) : Look Tryd.prog 4 [bdA b, p6A v] (.imm (.bool true)) := by
  have c1 := find_tc b v hl
  have c2 := valid_tc b hl
  have c3 := valid_v v
  unfold findR at c1
  refine Look.mk trivial ?_
  by_cases hb : bdB b = true
  · have hbd := hb
    have hg := bdB_iff.1 hb
    have hl2 := hg.len
    rw [hb] at c2
    by_cases hv : vOk v = true
    · rw [if_pos ⟨hb, hv⟩] at c1
      rw [hv] at c3
      simp only [] at c1
      have hll := findL_len hg v
      have hris := findL_rise hg v
      have hmem : ∀ id, id ∈ findL b v ↔ playsB b id v = true := fun id => findL_iff hg hv
      generalize findL b v = l at c1 hll hris hmem
      (refine TC_of_T Γ_ok Tryd.func4 rfl (by kernel_rfl) ?_; simp only [Tryd.ntmps4, Tryd.results4, List.length_cons, List.length_nil, Nat.reduceSub, Nat.reduceAdd, List.replicate, List.cons_append, List.nil_append])
      (have cl1 := head_tc; have cm1 := c1; have dl1 := c2; have dl2 := c3; repeat' (first | with_reducible refine T_seq_drawT (id := 10) Γ_ok drawsAny pl4_10 (by kernel_rfl) (fun K hK => ?_) | with_reducible refine T_last_drawT (id := 10) Γ_ok drawsAny pl4_10 (by kernel_rfl) (fun K hK => ?_) | with_reducible refine T_seq_drawT (id := 15) Γ_ok drawsAny pl4_15 (by kernel_rfl) (fun K hK => ?_) | with_reducible refine T_last_drawT (id := 15) Γ_ok drawsAny pl4_15 (by kernel_rfl) (fun K hK => ?_) | ((refine goR0 _ _ _ _ _ _ _ _ ?_ ?_ ?_ ?_ ?_ ?_ ?_ ?_) <;> (repeat intro hb) <;> first | exact True.intro | refine Lf.mk ?_)))
      refine T_loopW (fun m st => ∃ i : Nat, i ≤ l.length ∧ m + i = l.length ∧
          st = ⟨[.top, .top, .optr 0 0 0, .optr 1 0 0, .imm (.bool false), .imm (.bool true), .own 2 0 l.length none, .top, .imm (.int .i64 i)] ++ List.replicate 84 .top, [.box 24 (bdL b), .box 26 (p6L v), intO l]⟩)
        l.length ⟨_, ?_, 0, by omega, rfl, rfl⟩ ?_
      · ((try simp only [List.length_append, List.length_cons, List.length_nil, Nat.zero_add]); refine Wk.intro [0, 1, 2] (by decide) (by decide) (by intro o ho; simp at ho ⊢ <;> omega) ?_ ?_ <;> repeat' (first | exact WkVL.nil | refine WkVL.cons ?_ ?_ | exact WkV.top | exact WkV.imm rfl | exact WkV.imm (by simp) | exact WkV.optr rfl | exact WkV.own rfl (by simp) | exact WkV.nil_own (.inl rfl) | exact WkV.map rfl | (refine WkV.free ?_; simp [Free, FreeL] <;> assumption) | (refine WkV.free (fun _ _ => FreeL_nth ?_ _); simp [Free, FreeL]; done) | refine WkV.agg ?_ | refine WkV.tup ?_ | refine WkV.fn ?_ ?_ | exact WkO.dead | exact WkO.raw | refine WkO.ghost ?_ | exact WkO.mpE rfl trivial | refine WkO.box ?_ rfl | refine WkO.arr ?_ | refine And.intro ?_ (And.intro (by first | exact fun h => h | exact fun _ => rfl | exact nofun) ?_) | exact trivial | (intro i j hi hj)))
      rintro m st ⟨i, h0, h1, rfl⟩
      by_cases hi : i < l.length
      · have c4 := plays_tc b (gi l i) v hbd
        rw [(hmem _).1 (gi_mem hi)] at c4
        have hlt : 0 < i → gi l (i - 1) < gi l i := fun h => by
          have := List.pairwise_iff_getElem.1 hris (i - 1) i (by omega) hi (by omega)
          simpa [gi, hi, show i - 1 < l.length by omega] using this
        (simp only [go_sem, ↓reduceIte, Nat.reduceAdd, Nat.reduceSub, Nat.reduceMul, Nat.reduceLT, Nat.reduceLeDiff, Nat.reduceEqDiff, Nat.reduceGT, Int.reduceToNat, Int.reduceBEq, Int.reduceBNe]; try simp (disch := omega) only [wrapI, wrapU, half_sum, toNat_sub1, toNat_add1, Int.toNat_natCast])
        (have dl1 := c4; repeat' (first | with_reducible refine T_seq_drawT (id := 10) Γ_ok drawsAny pl4_10 (by kernel_rfl) (fun K hK => ?_) | with_reducible refine T_last_drawT (id := 10) Γ_ok drawsAny pl4_10 (by kernel_rfl) (fun K hK => ?_) | with_reducible refine T_seq_drawT (id := 15) Γ_ok drawsAny pl4_15 (by kernel_rfl) (fun K hK => ?_) | with_reducible refine T_last_drawT (id := 15) Γ_ok drawsAny pl4_15 (by kernel_rfl) (fun K hK => ?_) | ((refine goR0 _ _ _ _ _ _ _ _ ?_ ?_ ?_ ?_ ?_ ?_ ?_ ?_) <;> (repeat intro hb) <;> first | exact True.intro | refine Lf.mk ?_)))
        refine ⟨l.length - (i + 1), by omega, _, ?_, i + 1, by omega, by omega, rfl⟩
        ((try simp only [List.length_append, List.length_cons, List.length_nil, Nat.zero_add]); refine Wk.intro [0, 1, 2] (by decide) (by decide) (by intro o ho; simp at ho ⊢ <;> omega) ?_ ?_ <;> repeat' (first | (refine WkV.imm ?_; congr 1; omega) | exact WkVL.nil | refine WkVL.cons ?_ ?_ | exact WkV.top | exact WkV.imm rfl | exact WkV.imm (by simp) | exact WkV.optr rfl | exact WkV.own rfl (by simp) | exact WkV.nil_own (.inl rfl) | exact WkV.map rfl | (refine WkV.free ?_; simp [Free, FreeL] <;> assumption) | (refine WkV.free (fun _ _ => FreeL_nth ?_ _); simp [Free, FreeL]; done) | refine WkV.agg ?_ | refine WkV.tup ?_ | refine WkV.fn ?_ ?_ | exact WkO.dead | exact WkO.raw | refine WkO.ghost ?_ | exact WkO.mpE rfl trivial | refine WkO.box ?_ rfl | refine WkO.arr ?_ | refine And.intro ?_ (And.intro (by first | exact fun h => h | exact fun _ => rfl | exact nofun) ?_) | exact trivial | (intro i j hi hj)))
      · (simp only [go_sem, ↓reduceIte, Nat.reduceAdd, Nat.reduceSub, Nat.reduceMul, Nat.reduceLT, Nat.reduceLeDiff, Nat.reduceEqDiff, Nat.reduceGT, Int.reduceToNat, Int.reduceBEq, Int.reduceBNe]; try simp (disch := omega) only [wrapI, wrapU, half_sum, toNat_sub1, toNat_add1, Int.toNat_natCast])
        (repeat' (first | with_reducible refine T_seq_drawT (id := 10) Γ_ok drawsAny pl4_10 (by kernel_rfl) (fun K hK => ?_) | with_reducible refine T_last_drawT (id := 10) Γ_ok drawsAny pl4_10 (by kernel_rfl) (fun K hK => ?_) | with_reducible refine T_seq_drawT (id := 15) Γ_ok drawsAny pl4_15 (by kernel_rfl) (fun K hK => ?_) | with_reducible refine T_last_drawT (id := 15) Γ_ok drawsAny pl4_15 (by kernel_rfl) (fun K hK => ?_) | ((refine goR0 _ _ _ _ _ _ _ _ ?_ ?_ ?_ ?_ ?_ ?_ ?_ ?_) <;> (repeat intro hb) <;> first | exact True.intro | refine Lf.mk ?_)))
        refine T_loopW (fun m st => ∃ i : Nat, i ≤ b.ks.length ∧ m + i = b.ks.length ∧
            st = ⟨[.top, .top, .optr 0 0 0, .optr 1 0 0, .imm (.bool false), .imm (.bool true), .own 2 0 l.length none, .top, .top, .imm (.int .i64 i)] ++ List.replicate 83 .top, [.box 24 (bdL b), .box 26 (p6L v), intO l]⟩)
          b.ks.length ⟨_, ?_, 0, by omega, rfl, rfl⟩ ?_
        · ((try simp only [List.length_append, List.length_cons, List.length_nil, Nat.zero_add]); refine Wk.intro [0, 1, 2] (by decide) (by decide) (by intro o ho; simp at ho ⊢ <;> omega) ?_ ?_ <;> repeat' (first | exact WkVL.nil | refine WkVL.cons ?_ ?_ | exact WkV.top | exact WkV.imm rfl | exact WkV.imm (by simp) | exact WkV.optr rfl | exact WkV.own rfl (by simp) | exact WkV.nil_own (.inl rfl) | exact WkV.map rfl | (refine WkV.free ?_; simp [Free, FreeL] <;> assumption) | (refine WkV.free (fun _ _ => FreeL_nth ?_ _); simp [Free, FreeL]; done) | refine WkV.agg ?_ | refine WkV.tup ?_ | refine WkV.fn ?_ ?_ | exact WkO.dead | exact WkO.raw | refine WkO.ghost ?_ | exact WkO.mpE rfl trivial | refine WkO.box ?_ rfl | refine WkO.arr ?_ | refine And.intro ?_ (And.intro (by first | exact fun h => h | exact fun _ => rfl | exact nofun) ?_) | exact trivial | (intro i j hi hj)))
        rintro m st ⟨i, h0, h1, rfl⟩
        by_cases hi : i < b.ks.length
        · have c4 := plays_tc b (gk b.ks i).id v hbd
          have c5 := has_tc l (gk b.ks i).id (by omega)
          rw [show hasB l (gk b.ks i).id = playsB b (gk b.ks i).id v by rw [Bool.eq_iff_iff, hasB_iff, hmem]] at c5
          generalize playsB b (gk b.ks i).id v = g at c4 c5
          (simp only [go_sem, ↓reduceIte, Nat.reduceAdd, Nat.reduceSub, Nat.reduceMul, Nat.reduceLT, Nat.reduceLeDiff, Nat.reduceEqDiff, Nat.reduceGT, Int.reduceToNat, Int.reduceBEq, Int.reduceBNe]; try simp (disch := omega) only [wrapI, wrapU, half_sum, toNat_sub1, toNat_add1, Int.toNat_natCast])
          (have dl1 := c4; have dl2 := c5; repeat' (first | with_reducible refine T_seq_drawT (id := 10) Γ_ok drawsAny pl4_10 (by kernel_rfl) (fun K hK => ?_) | with_reducible refine T_last_drawT (id := 10) Γ_ok drawsAny pl4_10 (by kernel_rfl) (fun K hK => ?_) | with_reducible refine T_seq_drawT (id := 15) Γ_ok drawsAny pl4_15 (by kernel_rfl) (fun K hK => ?_) | with_reducible refine T_last_drawT (id := 15) Γ_ok drawsAny pl4_15 (by kernel_rfl) (fun K hK => ?_) | ((refine goR0 _ _ _ _ _ _ _ _ ?_ ?_ ?_ ?_ ?_ ?_ ?_ ?_) <;> (repeat intro hb) <;> first | exact True.intro | refine Lf.mk ?_)))
          · exact absurd trivial hb
          · refine ⟨b.ks.length - (i + 1), by omega, _, ?_, i + 1, by omega, by omega, rfl⟩
            ((try simp only [List.length_append, List.length_cons, List.length_nil, Nat.zero_add]); refine Wk.intro [0, 1, 2] (by decide) (by decide) (by intro o ho; simp at ho ⊢ <;> omega) ?_ ?_ <;> repeat' (first | (refine WkV.imm ?_; congr 1; omega) | exact WkVL.nil | refine WkVL.cons ?_ ?_ | exact WkV.top | exact WkV.imm rfl | exact WkV.imm (by simp) | exact WkV.optr rfl | exact WkV.own rfl (by simp) | exact WkV.nil_own (.inl rfl) | exact WkV.map rfl | (refine WkV.free ?_; simp [Free, FreeL] <;> assumption) | (refine WkV.free (fun _ _ => FreeL_nth ?_ _); simp [Free, FreeL]; done) | refine WkV.agg ?_ | refine WkV.tup ?_ | refine WkV.fn ?_ ?_ | exact WkO.dead | exact WkO.raw | refine WkO.ghost ?_ | exact WkO.mpE rfl trivial | refine WkO.box ?_ rfl | refine WkO.arr ?_ | refine And.intro ?_ (And.intro (by first | exact fun h => h | exact fun _ => rfl | exact nofun) ?_) | exact trivial | (intro i j hi hj)))
        · (simp only [go_sem, ↓reduceIte, Nat.reduceAdd, Nat.reduceSub, Nat.reduceMul, Nat.reduceLT, Nat.reduceLeDiff, Nat.reduceEqDiff, Nat.reduceGT, Int.reduceToNat, Int.reduceBEq, Int.reduceBNe]; try simp (disch := omega) only [wrapI, wrapU, half_sum, toNat_sub1, toNat_add1, Int.toNat_natCast])
          (repeat' (first | with_reducible refine T_seq_drawT (id := 10) Γ_ok drawsAny pl4_10 (by kernel_rfl) (fun K hK => ?_) | with_reducible refine T_last_drawT (id := 10) Γ_ok drawsAny pl4_10 (by kernel_rfl) (fun K hK => ?_) | with_reducible refine T_seq_drawT (id := 15) Γ_ok drawsAny pl4_15 (by kernel_rfl) (fun K hK => ?_) | with_reducible refine T_last_drawT (id := 15) Γ_ok drawsAny pl4_15 (by kernel_rfl) (fun K hK => ?_) | ((refine goR0 _ _ _ _ _ _ _ _ ?_ ?_ ?_ ?_ ?_ ?_ ?_ ?_) <;> (repeat intro hb) <;> first | exact True.intro | refine Lf.mk ?_)))
    · rw [if_neg fun h => hv h.2] at c1
      rw [Bool.not_eq_true] at hv
      rw [hv] at c3
      simp only [] at c1
      (refine TC_of_T Γ_ok Tryd.func4 rfl (by kernel_rfl) ?_; simp only [Tryd.ntmps4, Tryd.results4, List.length_cons, List.length_nil, Nat.reduceSub, Nat.reduceAdd, List.replicate, List.cons_append, List.nil_append])
      (have cl1 := head_tc; have cm1 := c1; have dl1 := c2; have dl2 := c3; repeat' (first | with_reducible refine T_seq_drawT (id := 10) Γ_ok drawsAny pl4_10 (by kernel_rfl) (fun K hK => ?_) | with_reducible refine T_last_drawT (id := 10) Γ_ok drawsAny pl4_10 (by kernel_rfl) (fun K hK => ?_) | with_reducible refine T_seq_drawT (id := 15) Γ_ok drawsAny pl4_15 (by kernel_rfl) (fun K hK => ?_) | with_reducible refine T_last_drawT (id := 15) Γ_ok drawsAny pl4_15 (by kernel_rfl) (fun K hK => ?_) | ((refine goR0 _ _ _ _ _ _ _ _ ?_ ?_ ?_ ?_ ?_ ?_ ?_ ?_) <;> (repeat intro hb) <;> first | exact True.intro | refine Lf.mk ?_)))
  · rw [if_neg fun h => hb h.1] at c1
    rw [Bool.not_eq_true] at hb
    obtain ⟨g, hg0⟩ : ∃ g : Bool, g = false := ⟨_, rfl⟩
    rw [hb, ← hg0] at c2
    simp only [] at c1
    generalize vOk v = q at c3
    (refine TC_of_T Γ_ok Tryd.func4 rfl (by kernel_rfl) ?_; simp only [Tryd.ntmps4, Tryd.results4, List.length_cons, List.length_nil, Nat.reduceSub, Nat.reduceAdd, List.replicate, List.cons_append, List.nil_append])
    (have cl1 := head_tc; have cm1 := c1; have dl1 := c2; have dl2 := c3; repeat' (first | with_reducible refine T_seq_drawT (id := 10) Γ_ok drawsAny pl4_10 (by kernel_rfl) (fun K hK => ?_) | with_reducible refine T_last_drawT (id := 10) Γ_ok drawsAny pl4_10 (by kernel_rfl) (fun K hK => ?_) | with_reducible refine T_seq_drawT (id := 15) Γ_ok drawsAny pl4_15 (by kernel_rfl) (fun K hK => ?_) | with_reducible refine T_last_drawT (id := 15) Γ_ok drawsAny pl4_15 (by kernel_rfl) (fun K hK => ?_) | ((refine goR0 _ _ _ _ _ _ _ _ ?_ ?_ ?_ ?_ ?_ ?_ ?_ ?_) <;> (repeat intro hb) <;> first | exact True.intro | refine Lf.mk ?_)))
    all_goals (subst hg0; simp_all)
end Go.Proofs.YtddcnafocohghaaDoor
