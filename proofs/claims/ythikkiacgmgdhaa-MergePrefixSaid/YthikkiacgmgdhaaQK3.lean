/-
  heapSortCmpFunc, reverseRangeCmpFunc.
-/
import Derived.Test.YthikkiacgmgdhaaQGo
import Derived.Test.YthikkiacgmgdhaaQK2
set_option linter.unusedSimpArgs false
set_option linter.unusedVariables false
namespace Go.Proofs.Ythikkiacgmgdhaa
open Go.Ab Go.Sort

set_option maxRecDepth 100000 in
set_option maxHeartbeats 4000000 in
theorem heap_tc (n : Nat) (d : Array El) (hd : d.size = n) (hn : n ≤ 60000) (a b : Nat) (hab : a ≤ b) (hbn : b ≤ n) : TC Try.prog 75 [elV n, .imm (.int .i64 a), .imm (.int .i64 b), cmpF] [elO n d] (fun v σ' => v = .tup [] ∧ σ' = [elO n (heapSort ltE d a b)]) := by
  have e0 : ((b : Int) - (a : Int)) = ((b - a : Nat) : Int) := by omega
  have e1 : (IntKind.i64.wrap (((b - a : Nat) : Int) - 1)).tdiv 2 = ((((b - a - 1) / 2 + 1 : Nat) : Int) - 1) := by
    rw [wrapI (by omega) (by omega)]
    rcases Nat.eq_zero_or_pos (b - a) with h | h
    · rw [h]; rfl
    · rw [Int.tdiv_eq_ediv_of_nonneg (by omega)]; omega
  (refine TC_of_T Γ_ok Try.func75 rfl (by kernel_rfl) ?_; simp only [Try.ntmps75, Try.results75, List.length_cons, List.length_nil, Nat.reduceSub, Nat.reduceAdd, List.replicate, List.cons_append, List.nil_append])
  (have sx1 := e0; have sx2 := e1; repeat' (first | with_reducible refine T_seq_drawT (id := 10) Γ_ok drawsAny pl75_10 (by kernel_rfl) (fun K hK => ?_) | with_reducible refine T_last_drawT (id := 10) Γ_ok drawsAny pl75_10 (by kernel_rfl) (fun K hK => ?_) | ((refine goR2 _ _ _ _ _ _ _ _ ?_ ?_ ?_ ?_ ?_ ?_ ?_ ?_) <;> (repeat intro hb) <;> first | exact True.intro | refine Lf.mk ?_)))
  · refine T_loopW (fun m st => ∃ (k : Nat) (e : Array El), k ≤ 60000 ∧ k ≤ b - a + 1 ∧ m = k ∧ e.size = n ∧ heapBuild ltE (b - a) a k e = heapBuild ltE (b - a) a ((b - a - 1) / 2 + 1) d ∧ st = ⟨[elV n, .imm (.int .i64 a), .imm (.int .i64 b), cmpF, .top, .top, .top, .top, .imm (.int .i64 a), .imm (.int .i64 0), .imm (.int .i64 (b - a : Nat)), .imm (.int .i64 ((k : Int) - 1))] ++ List.replicate 48 .top, [elO n e]⟩) ((b - a - 1) / 2 + 1) ⟨_, ?_, (b - a - 1) / 2 + 1, d, by omega, by omega, rfl, hd, rfl, rfl⟩ ?_
    · ((try simp only [List.length_append, List.length_cons, List.length_nil, Nat.zero_add]); refine Wk.intro [0] (by decide) (by decide) (by intro o ho; simp at ho ⊢ <;> omega) ?_ ?_ <;> repeat' (first | exact WkVL.nil | refine WkVL.cons ?_ ?_ | exact WkV.top | exact WkV.imm rfl | exact WkV.imm (by simp) | exact WkV.optr rfl | exact WkV.own rfl (by simp) | exact WkV.nil_own (.inl rfl) | exact WkV.map rfl | (refine WkV.free ?_; simp [Free, FreeL] <;> assumption) | (refine WkV.free (fun _ _ => FreeL_nth ?_ _); simp [Free, FreeL]; done) | refine WkV.agg ?_ | refine WkV.tup ?_ | refine WkV.fn ?_ ?_ | exact WkO.dead | exact WkO.raw | refine WkO.ghost ?_ | exact WkO.mpE rfl trivial | refine WkO.box ?_ rfl | refine WkO.arr ?_ | refine And.intro ?_ (And.intro (by first | exact fun h => h | exact fun _ => rfl | exact nofun) ?_) | exact trivial | (intro i j hi hj)))
    rintro k st ⟨_, e, h1, h2, rfl, h4, h5, rfl⟩
    rcases k with _ | k
    · rw [show (((0 : Nat) : Int) - 1) = -1 by rfl]
      (simp only [go_sem, ↓reduceIte, Nat.reduceAdd, Nat.reduceSub, Nat.reduceMul, Nat.reduceLT, Nat.reduceLeDiff, Nat.reduceEqDiff, Nat.reduceGT, Int.reduceToNat, Int.reduceBEq, Int.reduceBNe]; try simp (disch := omega) only [wrapI, wrapU, half_sum, toNat_sub1, toNat_add1, Int.toNat_natCast])
      (repeat' (first | with_reducible refine T_seq_drawT (id := 10) Γ_ok drawsAny pl75_10 (by kernel_rfl) (fun K hK => ?_) | with_reducible refine T_last_drawT (id := 10) Γ_ok drawsAny pl75_10 (by kernel_rfl) (fun K hK => ?_) | ((refine goR0 _ _ _ _ _ _ _ _ ?_ ?_ ?_ ?_ ?_ ?_ ?_ ?_) <;> (repeat intro hb) <;> first | exact True.intro | refine Lf.mk ?_)))
      refine T_loopW (fun m st => ∃ (k : Nat) (e : Array El), k ≤ b - a ∧ m = k ∧ e.size = n ∧ heapPop ltE a k e = heapSort ltE d a b ∧ st = ⟨[elV n, .imm (.int .i64 a), .imm (.int .i64 b), cmpF, .top, .top, .top, .top, .imm (.int .i64 a), .imm (.int .i64 0), .imm (.int .i64 (b - a : Nat)), .top, .imm (.int .i64 ((k : Int) - 1))] ++ List.replicate 47 .top, [elO n e]⟩) (b - a) ⟨_, ?_, b - a, e, by omega, rfl, h4, ?_, rfl⟩ ?_
      · ((try simp only [List.length_append, List.length_cons, List.length_nil, Nat.zero_add]); refine Wk.intro [0] (by decide) (by decide) (by intro o ho; simp at ho ⊢ <;> omega) ?_ ?_ <;> repeat' (first | exact WkVL.nil | refine WkVL.cons ?_ ?_ | exact WkV.top | exact WkV.imm rfl | exact WkV.imm (by simp) | exact WkV.optr rfl | exact WkV.own rfl (by simp) | exact WkV.nil_own (.inl rfl) | exact WkV.map rfl | (refine WkV.free ?_; simp [Free, FreeL] <;> assumption) | (refine WkV.free (fun _ _ => FreeL_nth ?_ _); simp [Free, FreeL]; done) | refine WkV.agg ?_ | refine WkV.tup ?_ | refine WkV.fn ?_ ?_ | exact WkO.dead | exact WkO.raw | refine WkO.ghost ?_ | exact WkO.mpE rfl trivial | refine WkO.box ?_ rfl | refine WkO.arr ?_ | refine And.intro ?_ (And.intro (by first | exact fun h => h | exact fun _ => rfl | exact nofun) ?_) | exact trivial | (intro i j hi hj)))
      · unfold heapSort; rw [← h5]; rfl
      clear h5 h4 h1 h2 e
      rintro k st ⟨_, e, h1, rfl, h4, h5, rfl⟩
      rcases k with _ | k
      · rw [show (((0 : Nat) : Int) - 1) = -1 by rfl]
        (simp only [go_sem, ↓reduceIte, Nat.reduceAdd, Nat.reduceSub, Nat.reduceMul, Nat.reduceLT, Nat.reduceLeDiff, Nat.reduceEqDiff, Nat.reduceGT, Int.reduceToNat, Int.reduceBEq, Int.reduceBNe]; try simp (disch := omega) only [wrapI, wrapU, half_sum, toNat_sub1, toNat_add1, Int.toNat_natCast])
        (repeat' (first | with_reducible refine T_seq_drawT (id := 10) Γ_ok drawsAny pl75_10 (by kernel_rfl) (fun K hK => ?_) | with_reducible refine T_last_drawT (id := 10) Γ_ok drawsAny pl75_10 (by kernel_rfl) (fun K hK => ?_) | ((refine goR0 _ _ _ _ _ _ _ _ ?_ ?_ ?_ ?_ ?_ ?_ ?_ ?_) <;> (repeat intro hb) <;> first | exact True.intro | refine Lf.mk ?_)))
        rw [← h5]; rfl
      · rw [show (((k + 1 : Nat) : Int) - 1) = (k : Int) by omega]
        have x1 : ((a : Int) + (k : Int)).toNat = a + k := by omega
        have hs := (size_swp e a (a + k)).trans h4
        have hq : ∀ p q, updE (updE (elE e) a 0 (elL (ga e (a + k)))) (a + k) 0 (elL (ga e a)) p q = elE (swp e a (a + k)) p q := fun p q => swp_elE (by omega) (by omega) p q
        have hq' := funext fun p => funext fun q => hq p q
        simp only [elL] at hq'
        (simp only [go_sem, ↓reduceIte, Nat.reduceAdd, Nat.reduceSub, Nat.reduceMul, Nat.reduceLT, Nat.reduceLeDiff, Nat.reduceEqDiff, Nat.reduceGT, Int.reduceToNat, Int.reduceBEq, Int.reduceBNe]; try simp (disch := omega) only [wrapI, wrapU, half_sum, toNat_sub1, toNat_add1, Int.toNat_natCast])
        (have ct1 := TurnsAt.mk [0] (sift_tu n (swp e a (a + k)) hs hn 0 k a (by omega) (by omega)); have sx1 := x1; have sx2 := hq'; repeat' (first | with_reducible refine T_seq_drawT (id := 10) Γ_ok drawsAny pl75_10 (by kernel_rfl) (fun K hK => ?_) | with_reducible refine T_last_drawT (id := 10) Γ_ok drawsAny pl75_10 (by kernel_rfl) (fun K hK => ?_) | ((refine goR2 _ _ _ _ _ _ _ _ ?_ ?_ ?_ ?_ ?_ ?_ ?_ ?_) <;> (repeat intro hb) <;> first | exact True.intro | refine Lf.mk ?_)))
        refine ⟨k, by omega, _, ?_, k, _, by omega, rfl, (size_sift _ _ _ k 0 _ (by omega)).trans hs, h5, rfl⟩
        ((try simp only [List.length_append, List.length_cons, List.length_nil, Nat.zero_add]); refine Wk.intro [0] (by decide) (by decide) (by intro o ho; simp at ho ⊢ <;> omega) ?_ ?_ <;> repeat' (first | exact WkVL.nil | refine WkVL.cons ?_ ?_ | exact WkV.top | exact WkV.imm rfl | exact WkV.imm (by simp) | exact WkV.optr rfl | exact WkV.own rfl (by simp) | exact WkV.nil_own (.inl rfl) | exact WkV.map rfl | (refine WkV.free ?_; simp [Free, FreeL] <;> assumption) | (refine WkV.free (fun _ _ => FreeL_nth ?_ _); simp [Free, FreeL]; done) | refine WkV.agg ?_ | refine WkV.tup ?_ | refine WkV.fn ?_ ?_ | exact WkO.dead | exact WkO.raw | refine WkO.ghost ?_ | exact WkO.mpE rfl trivial | refine WkO.box ?_ rfl | refine WkO.arr ?_ | refine And.intro ?_ (And.intro (by first | exact fun h => h | exact fun _ => rfl | exact nofun) ?_) | exact trivial | (intro i j hi hj)))
    · rw [show (((k + 1 : Nat) : Int) - 1) = (k : Int) by omega]
      (simp only [go_sem, ↓reduceIte, Nat.reduceAdd, Nat.reduceSub, Nat.reduceMul, Nat.reduceLT, Nat.reduceLeDiff, Nat.reduceEqDiff, Nat.reduceGT, Int.reduceToNat, Int.reduceBEq, Int.reduceBNe]; try simp (disch := omega) only [wrapI, wrapU, half_sum, toNat_sub1, toNat_add1, Int.toNat_natCast])
      (have ct1 := TurnsAt.mk [0] (sift_tu n e h4 hn k (b - a) a (by omega) (by omega)); repeat' (first | with_reducible refine T_seq_drawT (id := 10) Γ_ok drawsAny pl75_10 (by kernel_rfl) (fun K hK => ?_) | with_reducible refine T_last_drawT (id := 10) Γ_ok drawsAny pl75_10 (by kernel_rfl) (fun K hK => ?_) | ((refine goR0 _ _ _ _ _ _ _ _ ?_ ?_ ?_ ?_ ?_ ?_ ?_ ?_) <;> (repeat intro hb) <;> first | exact True.intro | refine Lf.mk ?_)))
      refine ⟨k, by omega, _, ?_, k, _, by omega, by omega, rfl, (size_sift _ _ _ (b - a) k _ (by omega)).trans h4, h5, rfl⟩
      ((try simp only [List.length_append, List.length_cons, List.length_nil, Nat.zero_add]); refine Wk.intro [0] (by decide) (by decide) (by intro o ho; simp at ho ⊢ <;> omega) ?_ ?_ <;> repeat' (first | exact WkVL.nil | refine WkVL.cons ?_ ?_ | exact WkV.top | exact WkV.imm rfl | exact WkV.imm (by simp) | exact WkV.optr rfl | exact WkV.own rfl (by simp) | exact WkV.nil_own (.inl rfl) | exact WkV.map rfl | (refine WkV.free ?_; simp [Free, FreeL] <;> assumption) | (refine WkV.free (fun _ _ => FreeL_nth ?_ _); simp [Free, FreeL]; done) | refine WkV.agg ?_ | refine WkV.tup ?_ | refine WkV.fn ?_ ?_ | exact WkO.dead | exact WkO.raw | refine WkO.ghost ?_ | exact WkO.mpE rfl trivial | refine WkO.box ?_ rfl | refine WkO.arr ?_ | refine And.intro ?_ (And.intro (by first | exact fun h => h | exact fun _ => rfl | exact nofun) ?_) | exact trivial | (intro i j hi hj)))
theorem heap_tu (n : Nat) (d : Array El) (hd : d.size = n) (hn : n ≤ 60000) (a b : Nat) (hab : a ≤ b) (hbn : b ≤ n) : Turns Try.prog 75 [elV n, .imm (.int .i64 a), .imm (.int .i64 b), cmpF] [elO n d] (.tup []) [elO n (heapSort ltE d a b)] :=
  ⟨heap_tc n d hd hn a b hab hbn, by simp [VF, VFL], elO_vf _ _⟩

set_option maxRecDepth 100000 in
set_option maxHeartbeats 4000000 in
theorem reverse_tc (n : Nat) (d : Array El) (hd : d.size = n) (hn : n ≤ 60000) (a b : Nat) (hab : a < b) (hbn : b ≤ n) : TC Try.prog 78 [elV n, .imm (.int .i64 a), .imm (.int .i64 b), cmpF] [elO n d] (fun v σ' => v = .tup [] ∧ σ' = [elO n (reverseRange d a b)]) := by
  (refine TC_of_T Γ_ok Try.func78 rfl (by kernel_rfl) ?_; simp only [Try.ntmps78, Try.results78, List.length_cons, List.length_nil, Nat.reduceSub, Nat.reduceAdd, List.replicate, List.cons_append, List.nil_append])
  (repeat' (first | with_reducible refine T_seq_drawT (id := 3) Γ_ok drawsAny pl78_3 (by kernel_rfl) (fun K hK => ?_) | with_reducible refine T_last_drawT (id := 3) Γ_ok drawsAny pl78_3 (by kernel_rfl) (fun K hK => ?_) | ((refine goR0 _ _ _ _ _ _ _ _ ?_ ?_ ?_ ?_ ?_ ?_ ?_ ?_) <;> (repeat intro hb) <;> first | exact True.intro | refine Lf.mk ?_)))
  refine T_loopW (fun m st => ∃ (i j : Nat) (e : Array El), i ≤ 60000 ∧ i ≤ j + 1 ∧ j < n ∧ m = j + 1 - i ∧ e.size = n ∧ reverseLoop i j e = reverseLoop a (b - 1) d ∧ st = ⟨[elV n, .imm (.int .i64 a), .imm (.int .i64 b), cmpF, .top, .top, .top, .top, .imm (.int .i64 i), .imm (.int .i64 j)] ++ List.replicate 24 .top, [elO n e]⟩) (b - a) ⟨_, ?_, a, b - 1, d, by omega, by omega, by omega, by omega, hd, rfl, rfl⟩ ?_
  · ((try simp only [List.length_append, List.length_cons, List.length_nil, Nat.zero_add]); refine Wk.intro [0] (by decide) (by decide) (by intro o ho; simp at ho ⊢ <;> omega) ?_ ?_ <;> repeat' (first | (refine WkV.imm ?_; congr 1; omega) | exact WkVL.nil | refine WkVL.cons ?_ ?_ | exact WkV.top | exact WkV.imm rfl | exact WkV.imm (by simp) | exact WkV.optr rfl | exact WkV.own rfl (by simp) | exact WkV.nil_own (.inl rfl) | exact WkV.map rfl | (refine WkV.free ?_; simp [Free, FreeL] <;> assumption) | (refine WkV.free (fun _ _ => FreeL_nth ?_ _); simp [Free, FreeL]; done) | refine WkV.agg ?_ | refine WkV.tup ?_ | refine WkV.fn ?_ ?_ | exact WkO.dead | exact WkO.raw | refine WkO.ghost ?_ | exact WkO.mpE rfl trivial | refine WkO.box ?_ rfl | refine WkO.arr ?_ | refine And.intro ?_ (And.intro (by first | exact fun h => h | exact fun _ => rfl | exact nofun) ?_) | exact trivial | (intro i j hi hj)))
  rintro m st ⟨i, j, e, h1, h2, h3, h4, h5, h6, rfl⟩
  (simp only [go_sem, ↓reduceIte, Nat.reduceAdd, Nat.reduceSub, Nat.reduceMul, Nat.reduceLT, Nat.reduceLeDiff, Nat.reduceEqDiff, Nat.reduceGT, Int.reduceToNat, Int.reduceBEq, Int.reduceBNe]; try simp (disch := omega) only [wrapI, wrapU, half_sum, toNat_sub1, toNat_add1, Int.toNat_natCast])
  (repeat' (first | with_reducible refine T_seq_drawT (id := 3) Γ_ok drawsAny pl78_3 (by kernel_rfl) (fun K hK => ?_) | with_reducible refine T_last_drawT (id := 3) Γ_ok drawsAny pl78_3 (by kernel_rfl) (fun K hK => ?_) | ((refine goR0 _ _ _ _ _ _ _ _ ?_ ?_ ?_ ?_ ?_ ?_ ?_ ?_) <;> (repeat intro hb) <;> first | exact True.intro | refine Lf.mk ?_)))
  · refine ⟨j - 1 + 1 - (i + 1), by omega, _, ?_, i + 1, j - 1, swp e i j, by omega, by omega, by omega, rfl, (size_swp e i j).trans h5, ?_, rfl⟩
    · ((try simp only [List.length_append, List.length_cons, List.length_nil, Nat.zero_add]); refine Wk.intro [0] (by decide) (by decide) (by intro o ho; simp at ho ⊢ <;> omega) ?_ ?_ <;> repeat' (first | (refine WkV.imm ?_; congr 1; omega) | (exact WkV.eqF (swp_elE (by omega) (by omega) _ _) (by simp)) | exact WkVL.nil | refine WkVL.cons ?_ ?_ | exact WkV.top | exact WkV.imm rfl | exact WkV.imm (by simp) | exact WkV.optr rfl | exact WkV.own rfl (by simp) | exact WkV.nil_own (.inl rfl) | exact WkV.map rfl | (refine WkV.free ?_; simp [Free, FreeL] <;> assumption) | (refine WkV.free (fun _ _ => FreeL_nth ?_ _); simp [Free, FreeL]; done) | refine WkV.agg ?_ | refine WkV.tup ?_ | refine WkV.fn ?_ ?_ | exact WkO.dead | exact WkO.raw | refine WkO.ghost ?_ | exact WkO.mpE rfl trivial | refine WkO.box ?_ rfl | refine WkO.arr ?_ | refine And.intro ?_ (And.intro (by first | exact fun h => h | exact fun _ => rfl | exact nofun) ?_) | exact trivial | (intro i j hi hj)))
    · rw [← h6, reverseLoop.eq_1 i j, if_pos (by omega)]
  · rw [reverseLoop, if_neg (by omega)] at h6
    rw [reverseRange, ← h6]
theorem reverse_tu (n : Nat) (d : Array El) (hd : d.size = n) (hn : n ≤ 60000) (a b : Nat) (hab : a < b) (hbn : b ≤ n) : Turns Try.prog 78 [elV n, .imm (.int .i64 a), .imm (.int .i64 b), cmpF] [elO n d] (.tup []) [elO n (reverseRange d a b)] :=
  ⟨reverse_tc n d hd hn a b hab hbn, by simp [VF, VFL], elO_vf _ _⟩
end Go.Proofs.Ythikkiacgmgdhaa
