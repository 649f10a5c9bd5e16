/-
  board.divide.
-/
import Derived.Test.YtddcnafocohghaaDoorQGo3
import Derived.Test.YtddcnafocohghaaDoorQB4
set_option linter.unusedSimpArgs false
set_option linter.unusedVariables false
namespace Go.Proofs.YtddcnafocohghaaDoor
open Go.Ab
theorem spanB_take {s : Int} {l : List Ky} {n : Nat} (h0 : 0 < n) (hn : n ≤ l.length) : spanB s (l.take n) = decide ((gk l (n - 1)).x - (gk l 0).x ≤ s) := by
  have e1 : (l.take n).head? = some (gk l 0) := by
    rw [List.head?_take, if_neg (by omega), List.head?_eq_getElem?]
    simp [gk, show 0 < l.length by omega]
  have e2 : (l.take n).getLast? = some (gk l (n - 1)) := by
    rw [List.getLast?_eq_getElem?, List.length_take, Nat.min_eq_left hn, List.getElem?_take_of_lt (by omega)]
    simp [gk, show n - 1 < l.length by omega]
  unfold spanB; rw [e1, e2]
theorem spanB_drop {s : Int} {l : List Ky} {n : Nat} (hn : n < l.length) : spanB s (l.drop n) = decide ((gk l (l.length - 1)).x - (gk l n).x ≤ s) := by
  have e1 : (l.drop n).head? = some (gk l n) := by
    rw [drop_gk hn]; rfl
  have e2 : (l.drop n).getLast? = some (gk l (l.length - 1)) := by
    rw [List.getLast?_eq_getElem?, List.length_drop, List.getElem?_drop, show n + (l.length - n - 1) = l.length - 1 by omega]
    simp [gk, show l.length - 1 < l.length by omega]
  unfold spanB; rw [e1, e2]
theorem spanB_nil (s : Int) : spanB s [] = true := rfl
set_option maxRecDepth 100000 in
set_option maxHeartbeats 4000000 in
theorem divide_tc (l : List Ky) (s : Int) (hl : l.length ≤ 120) (hx : ∀ i, i < l.length → 0 ≤ (gk l i).x ∧ (gk l i).x ≤ 1000) : Look Tryd.prog 38 [kys l, .imm (.int .i64 s)] (.imm (.int .i64 (divR s l))) := by
  refine Look.mk trivial ?_
  (refine TC_of_T Γ_ok Tryd.func38 rfl (by kernel_rfl) ?_; simp only [Tryd.ntmps38, Tryd.results38, List.length_cons, List.length_nil, Nat.reduceSub, Nat.reduceAdd, List.replicate, List.cons_append, List.nil_append])
  (have sx1 : (0 : Nat) + 0 = 0 := rfl; ((refine goU1 _ _ _ _ _ _ _ _ _ _ _ _ ?_ ?_ ?_ ?_ ?_ ?_ ?_ ?_ ?_ ?_ ?_ ?_) <;> (repeat intro hb) <;> first | exact True.intro | refine Lf.mk ?_))
  refine T_loopW (fun m st => ∃ k : Int, -1 ≤ k ∧ k ≤ 5 ∧ k ≤ l.length ∧ (m : Int) = k + 1 ∧ (∀ j : Nat, k < j → j ≤ l.length → divB s l j = false) ∧ st = ⟨[kys l, .imm (.int .i64 s), .top, .top, .imm (.int .i64 0), .imm (.int .i64 k)] ++ List.replicate 49 .top, []⟩)
    ((if 5 < (l.length : Int) then 5 else (l.length : Int)) + 1).toNat ⟨_, ?_, (if 5 < (l.length : Int) then 5 else (l.length : Int)), by split <;> omega, by split <;> omega, by split <;> omega, by split <;> omega, fun j h1 h2 => ?_, rfl⟩ ?_
  · ((try simp only [List.length_append, List.length_cons, List.length_nil, Nat.zero_add]); refine Wk.intro [] (by decide) (by decide) (by intro o ho; simp at ho ⊢ <;> omega) ?_ ?_ <;> repeat' (first | exact WkVL.nil | refine WkVL.cons ?_ ?_ | exact WkV.top | exact WkV.imm rfl | exact WkV.imm (by simp) | exact WkV.optr rfl | exact WkV.own rfl (by simp) | exact WkV.nil_own (.inl rfl) | exact WkV.map rfl | (refine WkV.free ?_; simp [Free, FreeL] <;> assumption) | (refine WkV.free (fun _ _ => FreeL_nth ?_ _); simp [Free, FreeL]; done) | refine WkV.agg ?_ | refine WkV.tup ?_ | refine WkV.fn ?_ ?_ | exact WkO.dead | exact WkO.raw | refine WkO.ghost ?_ | exact WkO.mpE rfl trivial | refine WkO.box ?_ rfl | refine WkO.arr ?_ | refine And.intro ?_ (And.intro (by first | exact fun h => h | exact fun _ => rfl | exact nofun) ?_) | exact trivial | (intro i j hi hj)))
  · unfold divB
    rw [decide_eq_false (p := j ≤ 5) (by split at h1 <;> omega)]
    rfl
  rintro m st ⟨k, h0, h1, h2, h3, h4, rfl⟩
  (simp only [go_sem, ↓reduceIte, Nat.reduceAdd, Nat.reduceSub, Nat.reduceMul, Nat.reduceLT, Nat.reduceLeDiff, Nat.reduceEqDiff, Nat.reduceGT, Int.reduceToNat, Int.reduceBEq, Int.reduceBNe]; try simp (disch := omega) only [wrapI, wrapU, half_sum, toNat_sub1, toNat_add1, Int.toNat_natCast])
  (have sx1 : (0 : Nat) + 0 = 0 := rfl; repeat' (first | with_reducible refine T_seq_drawT (id := 4) Γ_ok drawsAny pl38_4 (by kernel_rfl) (fun K hK => ?_) | with_reducible refine T_last_drawT (id := 4) Γ_ok drawsAny pl38_4 (by kernel_rfl) (fun K hK => ?_) | with_reducible refine T_seq_drawT (id := 7) Γ_ok drawsAny pl38_7 (by kernel_rfl) (fun K hK => ?_) | with_reducible refine T_last_drawT (id := 7) Γ_ok drawsAny pl38_7 (by kernel_rfl) (fun K hK => ?_) | ((refine goU1 _ _ _ _ _ _ _ _ _ _ _ _ ?_ ?_ ?_ ?_ ?_ ?_ ?_ ?_ ?_ ?_ ?_ ?_) <;> (repeat intro hb) <;> first | exact True.intro | refine Lf.mk ?_)))
  · obtain ⟨n, rfl⟩ := Int.eq_ofNat_of_zero_le hb.1
    have x1 := hx 0
    have x2 := hx (n - 1)
    have x3 := hx (l.length - 1)
    have x4 := hx n
    (simp only [go_sem, ↓reduceIte, Nat.reduceAdd, Nat.reduceSub, Nat.reduceMul, Nat.reduceLT, Nat.reduceLeDiff, Nat.reduceEqDiff, Nat.reduceGT, Int.reduceToNat, Int.reduceBEq, Int.reduceBNe]; try simp (disch := omega) only [wrapI, wrapU, half_sum, toNat_sub1, toNat_add1, Int.toNat_natCast])
    refine T_rounds 3 ?_
    (have sx1 : (0 : Nat) + 0 = 0 := rfl; repeat' (first | with_reducible refine T_seq_drawT (id := 4) Γ_ok drawsAny pl38_4 (by kernel_rfl) (fun K hK => ?_) | with_reducible refine T_last_drawT (id := 4) Γ_ok drawsAny pl38_4 (by kernel_rfl) (fun K hK => ?_) | with_reducible refine T_seq_drawT (id := 7) Γ_ok drawsAny pl38_7 (by kernel_rfl) (fun K hK => ?_) | with_reducible refine T_last_drawT (id := 7) Γ_ok drawsAny pl38_7 (by kernel_rfl) (fun K hK => ?_) | ((refine goU1 _ _ _ _ _ _ _ _ _ _ _ _ ?_ ?_ ?_ ?_ ?_ ?_ ?_ ?_ ?_ ?_ ?_ ?_) <;> (repeat intro hb) <;> first | exact True.intro | refine Lf.mk ?_)))
    · have e : divB s l n = false := by
        unfold divB
        rw [spanB_take (by omega) (by omega), decide_eq_false (p := (gk l (n - 1)).x - (gk l 0).x ≤ s)]
        · simp
        · have := hb.2
          rw [wrapI (by omega) (by omega)] at this
          omega
      refine ⟨n, by omega, _, ?_, (n : Int) - 1, by omega, by omega, by omega, by omega, fun j h5 h6 => ?_, rfl⟩
      · ((try simp only [List.length_append, List.length_cons, List.length_nil, Nat.zero_add]); refine Wk.intro [] (by decide) (by decide) (by intro o ho; simp at ho ⊢ <;> omega) ?_ ?_ <;> repeat' (first | exact WkVL.nil | refine WkVL.cons ?_ ?_ | exact WkV.top | exact WkV.imm rfl | exact WkV.imm (by simp) | exact WkV.optr rfl | exact WkV.own rfl (by simp) | exact WkV.nil_own (.inl rfl) | exact WkV.map rfl | (refine WkV.free ?_; simp [Free, FreeL] <;> assumption) | (refine WkV.free (fun _ _ => FreeL_nth ?_ _); simp [Free, FreeL]; done) | refine WkV.agg ?_ | refine WkV.tup ?_ | refine WkV.fn ?_ ?_ | exact WkO.dead | exact WkO.raw | refine WkO.ghost ?_ | exact WkO.mpE rfl trivial | refine WkO.box ?_ rfl | refine WkO.arr ?_ | refine And.intro ?_ (And.intro (by first | exact fun h => h | exact fun _ => rfl | exact nofun) ?_) | exact trivial | (intro i j hi hj)))
      · by_cases e2 : j = n
        · rw [e2]; exact e
        · exact h4 j (by omega) h6
    · have e : divB s l n = false := by
        unfold divB
        rw [spanB_drop (by omega), decide_eq_false (p := (gk l (l.length - 1)).x - (gk l n).x ≤ s)]
        · simp
        · have := hb.2
          rw [show n + (l.length - n - 1) = l.length - 1 by omega, wrapI (by omega) (by omega)] at this
          omega
      refine ⟨n, by omega, _, ?_, (n : Int) - 1, by omega, by omega, by omega, by omega, fun j h5 h6 => ?_, rfl⟩
      · ((try simp only [List.length_append, List.length_cons, List.length_nil, Nat.zero_add]); refine Wk.intro [] (by decide) (by decide) (by intro o ho; simp at ho ⊢ <;> omega) ?_ ?_ <;> repeat' (first | exact WkVL.nil | refine WkVL.cons ?_ ?_ | exact WkV.top | exact WkV.imm rfl | exact WkV.imm (by simp) | exact WkV.optr rfl | exact WkV.own rfl (by simp) | exact WkV.nil_own (.inl rfl) | exact WkV.map rfl | (refine WkV.free ?_; simp [Free, FreeL] <;> assumption) | (refine WkV.free (fun _ _ => FreeL_nth ?_ _); simp [Free, FreeL]; done) | refine WkV.agg ?_ | refine WkV.tup ?_ | refine WkV.fn ?_ ?_ | exact WkO.dead | exact WkO.raw | refine WkO.ghost ?_ | exact WkO.mpE rfl trivial | refine WkO.box ?_ rfl | refine WkO.arr ?_ | refine And.intro ?_ (And.intro (by first | exact fun h => h | exact fun _ => rfl | exact nofun) ?_) | exact trivial | (intro i j hi hj)))
      · by_cases e2 : j = n
        · rw [e2]; exact e
        · exact h4 j (by omega) h6
    · refine congrArg (fun b => AV.imm (.int .i64 b)) ?_
      have e : divB s l n = true := by
        unfold divB
        rw [decide_eq_true (p := n ≤ 5) (by omega), decide_eq_true (p := l.length - n ≤ 5) (by omega)]
        have e1 : spanB s (l.take n) = true := by
          by_cases h0 : n = 0
          · rw [h0, List.take_zero, spanB_nil]
          · rw [spanB_take (by omega) (by omega)]
            have : IntKind.i64.wrap ((gk l (n - 1)).x - (gk l 0).x) ≤ s := by grind
            rw [wrapI (by omega) (by omega)] at this
            exact decide_eq_true this
        have e2 : spanB s (l.drop n) = true := by
          by_cases h0 : n = l.length
          · rw [List.drop_of_length_le (by omega), spanB_nil]
          · rw [spanB_drop (by omega)]
            have : IntKind.i64.wrap ((gk l (n + (l.length - n - 1))).x - (gk l n).x) ≤ s := by grind
            rw [show n + (l.length - n - 1) = l.length - 1 by omega, wrapI (by omega) (by omega)] at this
            exact decide_eq_true this
        rw [e1, e2]; rfl
      unfold divR
      rcases divN_cases s l l.length with h5 | ⟨j, h5, h6, h7, h8⟩
      · rw [h5.2 n (by omega)] at e; cases e
      · rw [h6]
        by_cases h9 : j = n
        · rw [h9]
        · by_cases h10 : j < n
          · rw [h8 n h10 (by omega)] at e; cases e
          · rw [h4 j (by omega) h5] at h7; cases h7
  · refine congrArg (fun b => AV.imm (.int .i64 b)) ?_
    have key : ∀ j : Nat, j ≤ l.length → divB s l j = false := fun j hj => by
      by_cases e : k < j
      · exact h4 j e hj
      · unfold divB
        rw [decide_eq_false (p := l.length - j ≤ 5) (by omega)]
        simp
    rcases divN_cases s l l.length with h5 | ⟨j, h5, h6, h7, h8⟩
    · exact h5.1.symm
    · rw [key j h5] at h7; cases h7
end Go.Proofs.YtddcnafocohghaaDoor
