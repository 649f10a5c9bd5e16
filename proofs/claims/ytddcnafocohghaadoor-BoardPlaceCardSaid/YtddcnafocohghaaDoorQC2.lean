/-
  The law's functions over keys: plays, before, hand, fits.
-/
import Derived.Test.YtddcnafocohghaaDoorQGo
import Derived.Test.YtddcnafocohghaaDoorQC1
set_option linter.unusedSimpArgs false
set_option linter.unusedVariables false
namespace Go.Proofs.YtddcnafocohghaaDoor
open Go.Ab
theorem gk_of {l : List Ky} {i : Nat} {k : Ky} (h : l[i]? = some k) : gk l i = k := by simp [gk, h]
set_option maxRecDepth 100000 in
set_option maxHeartbeats 4000000 in
theorem plays_tc (b : Bd) (id : Int) (v : P6) (hb' : bdB b = true) : Look Tryd.prog 22 [bdA b, .imm (.int .i64 id), p6A v] (.imm (.bool (playsB b id v))) := by
  have hg := bdB_iff.1 hb'
  have hl := hg.len
  have c1 := key_tc b id (by omega)
  have c2 := of_tc v
  unfold ofR at c2
  unfold playsB
  refine Look.mk trivial ?_
  cases hk : keyOf b.ks id with
  | none =>
    rw [keyI_none hk] at c1
    generalize (if vOk v = true then (v.x12, 0) else (⟨0, 0, 0, 0, 0, 0⟩, 1) : P6 × Int) = w at c2
    (refine TC_of_T Γ_ok Tryd.func22 rfl (by kernel_rfl) ?_; simp only [Tryd.ntmps22, Tryd.results22, List.length_cons, List.length_nil, Nat.reduceSub, Nat.reduceAdd, List.replicate, List.cons_append, List.nil_append])
    (have dl1 := c1; have dl2 := c2; repeat' (first | with_reducible refine T_seq_drawT (id := 5) Γ_ok drawsAny pl22_5 (by kernel_rfl) (fun K hK => ?_) | with_reducible refine T_last_drawT (id := 5) Γ_ok drawsAny pl22_5 (by kernel_rfl) (fun K hK => ?_) | ((refine goR0 _ _ _ _ _ _ _ _ ?_ ?_ ?_ ?_ ?_ ?_ ?_ ?_) <;> (repeat intro hb) <;> first | exact True.intro | refine Lf.mk ?_)))
  | some k =>
    obtain ⟨i, h1, h2, h3⟩ := keyI_some hk
    rw [h2] at c1
    have hkk := gk_of h3
    by_cases hv : vOk v = true
    · rw [if_pos hv] at c2
      simp only [] at c2
      have hn := near_near1 (x12_ok hv) (hg.one k (keyOf_some hk).1).2.2.2.2.2.2 hg.t0 hg.t1
      subst hkk
      have c3 := near_tc v.x12 (gk b.ks i).p b.tol
      rw [hn.1] at c3
      have h4 := hn.2
      generalize (nearI v.x12 (gk b.ks i).p b.tol).1 = x at c3 h4
      dsimp only
      rw [hv, Bool.true_and, ← h4]
      (refine TC_of_T Γ_ok Tryd.func22 rfl (by kernel_rfl) ?_; simp only [Tryd.ntmps22, Tryd.results22, List.length_cons, List.length_nil, Nat.reduceSub, Nat.reduceAdd, List.replicate, List.cons_append, List.nil_append])
      (have dl1 := c1; have dl2 := c2; have dl3 := c3; repeat' (first | with_reducible refine T_seq_drawT (id := 5) Γ_ok drawsAny pl22_5 (by kernel_rfl) (fun K hK => ?_) | with_reducible refine T_last_drawT (id := 5) Γ_ok drawsAny pl22_5 (by kernel_rfl) (fun K hK => ?_) | ((refine goR0 _ _ _ _ _ _ _ _ ?_ ?_ ?_ ?_ ?_ ?_ ?_ ?_) <;> (repeat intro hb) <;> first | exact True.intro | refine Lf.mk ?_)))
      refine congrArg (fun b => AV.imm (.bool b)) ?_
      rw [Bool.eq_iff_iff]; simp
    · rw [if_neg hv] at c2
      simp only [] at c2
      rw [Bool.not_eq_true] at hv
      dsimp only
      rw [hv, Bool.false_and]
      (refine TC_of_T Γ_ok Tryd.func22 rfl (by kernel_rfl) ?_; simp only [Tryd.ntmps22, Tryd.results22, List.length_cons, List.length_nil, Nat.reduceSub, Nat.reduceAdd, List.replicate, List.cons_append, List.nil_append])
      (have dl1 := c1; have dl2 := c2; repeat' (first | with_reducible refine T_seq_drawT (id := 5) Γ_ok drawsAny pl22_5 (by kernel_rfl) (fun K hK => ?_) | with_reducible refine T_last_drawT (id := 5) Γ_ok drawsAny pl22_5 (by kernel_rfl) (fun K hK => ?_) | ((refine goR0 _ _ _ _ _ _ _ _ ?_ ?_ ?_ ?_ ?_ ?_ ?_ ?_) <;> (repeat intro hb) <;> first | exact True.intro | refine Lf.mk ?_)))
set_option maxRecDepth 100000 in
set_option maxHeartbeats 4000000 in
theorem before_tc (b : Bd) (x y : Int) (hb' : bdB b = true) : Look Tryd.prog 25 [bdA b, .imm (.int .i64 x), .imm (.int .i64 y)] (.imm (.bool (beforeB b x y))) := by
  have hg := bdB_iff.1 hb'
  have hl := hg.len
  have c1 := key_tc b x (by omega)
  have c2 := key_tc b y (by omega)
  unfold beforeB
  refine Look.mk trivial ?_
  cases hk : keyOf b.ks x with
  | none =>
    rw [keyI_none hk] at c1
    generalize keyI b y = j at c2
    (refine TC_of_T Γ_ok Tryd.func25 rfl (by kernel_rfl) ?_; simp only [Tryd.ntmps25, Tryd.results25, List.length_cons, List.length_nil, Nat.reduceSub, Nat.reduceAdd, List.replicate, List.cons_append, List.nil_append])
    (have dl1 := c1; have dl2 := c2; ((refine goR0 _ _ _ _ _ _ _ _ ?_ ?_ ?_ ?_ ?_ ?_ ?_ ?_) <;> (repeat intro hb) <;> first | exact True.intro | refine Lf.mk ?_))
  | some k =>
    obtain ⟨i, h1, h2, h3⟩ := keyI_some hk
    rw [h2] at c1
    have e1 := gk_of h3
    cases hq : keyOf b.ks y with
    | none =>
      rw [keyI_none hq] at c2
      (refine TC_of_T Γ_ok Tryd.func25 rfl (by kernel_rfl) ?_; simp only [Tryd.ntmps25, Tryd.results25, List.length_cons, List.length_nil, Nat.reduceSub, Nat.reduceAdd, List.replicate, List.cons_append, List.nil_append])
      (have dl1 := c1; have dl2 := c2; ((refine goR0 _ _ _ _ _ _ _ _ ?_ ?_ ?_ ?_ ?_ ?_ ?_ ?_) <;> (repeat intro hb) <;> first | exact True.intro | refine Lf.mk ?_))
    | some q =>
      obtain ⟨j, h4, h5, h6⟩ := keyI_some hq
      rw [h5] at c2
      have e2 := gk_of h6
      simp only []
      rw [← e1, ← e2]
      (refine TC_of_T Γ_ok Tryd.func25 rfl (by kernel_rfl) ?_; simp only [Tryd.ntmps25, Tryd.results25, List.length_cons, List.length_nil, Nat.reduceSub, Nat.reduceAdd, List.replicate, List.cons_append, List.nil_append])
      (have dl1 := c1; have dl2 := c2; ((refine goR0 _ _ _ _ _ _ _ _ ?_ ?_ ?_ ?_ ?_ ?_ ?_ ?_) <;> (repeat intro hb) <;> first | exact True.intro | refine Lf.mk ?_))
      refine congrArg (fun b => AV.imm (.bool b)) ?_
      rw [Bool.eq_iff_iff]
      simp only [Bool.or_eq_true, Bool.and_eq_true, decide_eq_true_eq, beq_iff_eq]
      exact Iff.rfl
set_option maxRecDepth 100000 in
set_option maxHeartbeats 4000000 in
theorem fits_tc (b : Bd) (vs : List P6) (ids : List Int) (hb' : bdB b = true) (hi : ids.length ≤ 9223372036854775807) (hv : vs.length ≤ 9223372036854775807) : Look Tryd.prog 26 [bdA b, vts vs, ints ids] (.imm (.bool (decide (fitsP b vs ids)))) := by
  have hg := bdB_iff.1 hb'
  have hl := hg.len
  have c1 := hands_tc b ids (by omega) hi
  have hok := handsR_ok (ids := ids) hb'
  generalize (handsR b ids).1 = l1 at c1
  generalize (handsR b ids).2.1 = l2 at c1
  generalize (handsR b ids).2.2 = e at c1 hok
  refine Look.mk trivial ?_
  (refine TC_of_T Γ_ok Tryd.func26 rfl (by kernel_rfl) ?_; simp only [Tryd.ntmps26, Tryd.results26, List.length_cons, List.length_nil, Nat.reduceSub, Nat.reduceAdd, List.replicate, List.cons_append, List.nil_append])
  (have cm1 := c1; repeat' (first | with_reducible refine T_seq_drawT (id := 7) Γ_ok drawsAny pl26_7 (by kernel_rfl) (fun K hK => ?_) | with_reducible refine T_last_drawT (id := 7) Γ_ok drawsAny pl26_7 (by kernel_rfl) (fun K hK => ?_) | ((refine goR0 _ _ _ _ _ _ _ _ ?_ ?_ ?_ ?_ ?_ ?_ ?_ ?_) <;> (repeat intro hb) <;> first | exact True.intro | refine Lf.mk ?_)))
  · rw [decide_eq_false (p := fitsP b vs ids)]
    intro h
    rcases hb with hb | hb
    · exact hb (hok.2 h.1)
    · exact hb (by rw [h.2.1])
  refine T_loopW (fun m st => ∃ i : Nat, i ≤ vs.length ∧ m + i = vs.length ∧ (∀ j, j < i → playsB b (gi ids j) (gv vs j) = true) ∧
      st = ⟨[.top, vts vs, ints ids, .optr 0 0 0, .top, .top, .imm (.bool false), .top, .top, .top, .imm (.int .i64 i)] ++ List.replicate 33 .top, [.box 24 (bdL b)]⟩)
      vs.length ⟨_, ?_, 0, by omega, rfl, fun j hj => by omega, rfl⟩ ?_
  · ((try simp only [List.length_append, List.length_cons, List.length_nil, Nat.zero_add]); refine Wk.intro [0] (by decide) (by decide) (by intro o ho; simp at ho ⊢ <;> omega) ?_ ?_ <;> repeat' (first | exact WkVL.nil | refine WkVL.cons ?_ ?_ | exact WkV.top | exact WkV.imm rfl | exact WkV.imm (by simp) | exact WkV.optr rfl | exact WkV.own rfl (by simp) | exact WkV.nil_own (.inl rfl) | exact WkV.map rfl | (refine WkV.free ?_; simp [Free, FreeL] <;> assumption) | (refine WkV.free (fun _ _ => FreeL_nth ?_ _); simp [Free, FreeL]; done) | refine WkV.agg ?_ | refine WkV.tup ?_ | refine WkV.fn ?_ ?_ | exact WkO.dead | exact WkO.raw | refine WkO.ghost ?_ | exact WkO.mpE rfl trivial | refine WkO.box ?_ rfl | refine WkO.arr ?_ | refine And.intro ?_ (And.intro (by first | exact fun h => h | exact fun _ => rfl | exact nofun) ?_) | exact trivial | (intro i j hi hj)))
  rintro m st ⟨i, h0, h1, h2, rfl⟩
  have c2 := plays_tc b (gi ids i) (gv vs i) hb'
  (simp only [go_sem, ↓reduceIte, Nat.reduceAdd, Nat.reduceSub, Nat.reduceMul, Nat.reduceLT, Nat.reduceLeDiff, Nat.reduceEqDiff, Nat.reduceGT, Int.reduceToNat, Int.reduceBEq, Int.reduceBNe]; try simp (disch := omega) only [wrapI, wrapU, half_sum, toNat_sub1, toNat_add1, Int.toNat_natCast])
  (have dl1 := c2; repeat' (first | with_reducible refine T_seq_drawT (id := 7) Γ_ok drawsAny pl26_7 (by kernel_rfl) (fun K hK => ?_) | with_reducible refine T_last_drawT (id := 7) Γ_ok drawsAny pl26_7 (by kernel_rfl) (fun K hK => ?_) | ((refine goR0 _ _ _ _ _ _ _ _ ?_ ?_ ?_ ?_ ?_ ?_ ?_ ?_) <;> (repeat intro hb) <;> first | exact True.intro | refine Lf.mk ?_)))
  · rw [decide_eq_false (p := fitsP b vs ids)]
    intro h
    have := h.2.2 i (by omega)
    unfold gi gv p60 at hb
    rw [this] at hb
    cases hb
  · refine ⟨vs.length - (i + 1), by omega, _, ?_, i + 1, by omega, by omega, fun j hj => ?_, rfl⟩
    · ((try simp only [List.length_append, List.length_cons, List.length_nil, Nat.zero_add]); refine Wk.intro [0] (by decide) (by decide) (by intro o ho; simp at ho ⊢ <;> omega) ?_ ?_ <;> repeat' (first | (refine WkV.imm ?_; congr 1; omega) | exact WkVL.nil | refine WkVL.cons ?_ ?_ | exact WkV.top | exact WkV.imm rfl | exact WkV.imm (by simp) | exact WkV.optr rfl | exact WkV.own rfl (by simp) | exact WkV.nil_own (.inl rfl) | exact WkV.map rfl | (refine WkV.free ?_; simp [Free, FreeL] <;> assumption) | (refine WkV.free (fun _ _ => FreeL_nth ?_ _); simp [Free, FreeL]; done) | refine WkV.agg ?_ | refine WkV.tup ?_ | refine WkV.fn ?_ ?_ | exact WkO.dead | exact WkO.raw | refine WkO.ghost ?_ | exact WkO.mpE rfl trivial | refine WkO.box ?_ rfl | refine WkO.arr ?_ | refine And.intro ?_ (And.intro (by first | exact fun h => h | exact fun _ => rfl | exact nofun) ?_) | exact trivial | (intro i j hi hj)))
    · by_cases e : j = i
      · subst e; exact hb
      · exact h2 j (by omega)
  · rw [decide_eq_true (p := fitsP b vs ids)]
    have hb2 : e = 0 ∧ (ids.length : Int) = vs.length := by assumption
    exact ⟨hok.1 hb2.1, by omega, fun j hj => h2 j (by omega)⟩
set_option maxRecDepth 100000 in
set_option maxHeartbeats 4000000 in
theorem hand_tc (b : Bd) (l : List Int) (hb' : bdB b = true) (hl : l.length ≤ 9223372036854775807) : TC Tryd.prog 24 [bdA b, ints l] [] (fun v _ => ∃ g : Bool, v = .imm (.bool g) ∧ (g = true ↔ handP b l)) := by
  have hg := bdB_iff.1 hb'
  have hl2 := hg.len
  (refine TC_of_T Γ_ok Tryd.func24 rfl (by kernel_rfl) ?_; simp only [Tryd.ntmps24, Tryd.results24, List.length_cons, List.length_nil, Nat.reduceSub, Nat.reduceAdd, List.replicate, List.cons_append, List.nil_append])
  (repeat' (first | with_reducible refine T_seq_drawT (id := 4) Γ_ok drawsAny pl24_4 (by kernel_rfl) (fun K hK => ?_) | with_reducible refine T_last_drawT (id := 4) Γ_ok drawsAny pl24_4 (by kernel_rfl) (fun K hK => ?_) | with_reducible refine T_seq_drawT (id := 8) Γ_ok drawsAny pl24_8 (by kernel_rfl) (fun K hK => ?_) | with_reducible refine T_last_drawT (id := 8) Γ_ok drawsAny pl24_8 (by kernel_rfl) (fun K hK => ?_) | with_reducible refine T_seq_drawT (id := 9) Γ_ok drawsAny pl24_9 (by kernel_rfl) (fun K hK => ?_) | with_reducible refine T_last_drawT (id := 9) Γ_ok drawsAny pl24_9 (by kernel_rfl) (fun K hK => ?_) | with_reducible refine T_seq_drawT (id := 10) Γ_ok drawsAny pl24_10 (by kernel_rfl) (fun K hK => ?_) | with_reducible refine T_last_drawT (id := 10) Γ_ok drawsAny pl24_10 (by kernel_rfl) (fun K hK => ?_) | ((refine goR0 _ _ _ _ _ _ _ _ ?_ ?_ ?_ ?_ ?_ ?_ ?_ ?_) <;> (repeat intro hb) <;> first | exact True.intro | refine Lf.mk ?_)))
  refine T_loopW (fun m st => ∃ i : Nat, 1 ≤ i ∧ i ≤ l.length + 1 ∧ m + i = l.length + 1 ∧ (∀ j, j < i → j < l.length → 1 ≤ j → beforeB b (gi l (j - 1)) (gi l j) = true) ∧
      st = ⟨[.top, ints l, .optr 0 0 0, .top, .imm (.bool false), .imm (.int .i64 i)] ++ List.replicate 65 .top, [.box 24 (bdL b)]⟩)
      l.length ⟨_, ?_, 1, by omega, by omega, by omega, fun j h1 h2 h3 => by omega, rfl⟩ ?_
  · ((try simp only [List.length_append, List.length_cons, List.length_nil, Nat.zero_add]); refine Wk.intro [0] (by decide) (by decide) (by intro o ho; simp at ho ⊢ <;> omega) ?_ ?_ <;> repeat' (first | exact WkVL.nil | refine WkVL.cons ?_ ?_ | exact WkV.top | exact WkV.imm rfl | exact WkV.imm (by simp) | exact WkV.optr rfl | exact WkV.own rfl (by simp) | exact WkV.nil_own (.inl rfl) | exact WkV.map rfl | (refine WkV.free ?_; simp [Free, FreeL] <;> assumption) | (refine WkV.free (fun _ _ => FreeL_nth ?_ _); simp [Free, FreeL]; done) | refine WkV.agg ?_ | refine WkV.tup ?_ | refine WkV.fn ?_ ?_ | exact WkO.dead | exact WkO.raw | refine WkO.ghost ?_ | exact WkO.mpE rfl trivial | refine WkO.box ?_ rfl | refine WkO.arr ?_ | refine And.intro ?_ (And.intro (by first | exact fun h => h | exact fun _ => rfl | exact nofun) ?_) | exact trivial | (intro i j hi hj)))
  rintro m st ⟨i, h0, h1, h2, h3, rfl⟩
  have c1 := before_tc b (gi l (i - 1)) (gi l i) hb'
  by_cases hi : i < l.length
  · (simp only [go_sem, ↓reduceIte, Nat.reduceAdd, Nat.reduceSub, Nat.reduceMul, Nat.reduceLT, Nat.reduceLeDiff, Nat.reduceEqDiff, Nat.reduceGT, Int.reduceToNat, Int.reduceBEq, Int.reduceBNe]; try simp (disch := omega) only [wrapI, wrapU, half_sum, toNat_sub1, toNat_add1, Int.toNat_natCast])
    (have dl1 := c1; repeat' (first | with_reducible refine T_seq_drawT (id := 4) Γ_ok drawsAny pl24_4 (by kernel_rfl) (fun K hK => ?_) | with_reducible refine T_last_drawT (id := 4) Γ_ok drawsAny pl24_4 (by kernel_rfl) (fun K hK => ?_) | with_reducible refine T_seq_drawT (id := 8) Γ_ok drawsAny pl24_8 (by kernel_rfl) (fun K hK => ?_) | with_reducible refine T_last_drawT (id := 8) Γ_ok drawsAny pl24_8 (by kernel_rfl) (fun K hK => ?_) | with_reducible refine T_seq_drawT (id := 9) Γ_ok drawsAny pl24_9 (by kernel_rfl) (fun K hK => ?_) | with_reducible refine T_last_drawT (id := 9) Γ_ok drawsAny pl24_9 (by kernel_rfl) (fun K hK => ?_) | with_reducible refine T_seq_drawT (id := 10) Γ_ok drawsAny pl24_10 (by kernel_rfl) (fun K hK => ?_) | with_reducible refine T_last_drawT (id := 10) Γ_ok drawsAny pl24_10 (by kernel_rfl) (fun K hK => ?_) | ((refine goR0 _ _ _ _ _ _ _ _ ?_ ?_ ?_ ?_ ?_ ?_ ?_ ?_) <;> (repeat intro hb) <;> first | exact True.intro | refine Lf.mk ?_)))
    · refine ⟨false, rfl, fun h => (by cases h), fun h => ?_⟩
      have := h.1 i hi h0
      unfold gi at hb
      rw [this] at hb; cases hb
    · refine ⟨l.length - i, by omega, _, ?_, i + 1, by omega, by omega, by omega, fun j h4 h5 h6 => ?_, rfl⟩
      · ((try simp only [List.length_append, List.length_cons, List.length_nil, Nat.zero_add]); refine Wk.intro [0] (by decide) (by decide) (by intro o ho; simp at ho ⊢ <;> omega) ?_ ?_ <;> repeat' (first | (refine WkV.imm ?_; congr 1; omega) | exact WkVL.nil | refine WkVL.cons ?_ ?_ | exact WkV.top | exact WkV.imm rfl | exact WkV.imm (by simp) | exact WkV.optr rfl | exact WkV.own rfl (by simp) | exact WkV.nil_own (.inl rfl) | exact WkV.map rfl | (refine WkV.free ?_; simp [Free, FreeL] <;> assumption) | (refine WkV.free (fun _ _ => FreeL_nth ?_ _); simp [Free, FreeL]; done) | refine WkV.agg ?_ | refine WkV.tup ?_ | refine WkV.fn ?_ ?_ | exact WkO.dead | exact WkO.raw | refine WkO.ghost ?_ | exact WkO.mpE rfl trivial | refine WkO.box ?_ rfl | refine WkO.arr ?_ | refine And.intro ?_ (And.intro (by first | exact fun h => h | exact fun _ => rfl | exact nofun) ?_) | exact trivial | (intro i j hi hj)))
      · by_cases e : j = i
        · subst e; exact hb
        · exact h3 j (by omega) h5 h6
  · have hall : ∀ j, j < l.length → 1 ≤ j → beforeB b (l.getD (j - 1) 0) (l.getD j 0) = true := fun j h4 h5 => h3 j (by omega) h4 h5
    by_cases hz : l.length = 0
    · (simp only [go_sem, ↓reduceIte, Nat.reduceAdd, Nat.reduceSub, Nat.reduceMul, Nat.reduceLT, Nat.reduceLeDiff, Nat.reduceEqDiff, Nat.reduceGT, Int.reduceToNat, Int.reduceBEq, Int.reduceBNe]; try simp (disch := omega) only [wrapI, wrapU, half_sum, toNat_sub1, toNat_add1, Int.toNat_natCast])
      (have dl1 := c1; repeat' (first | with_reducible refine T_seq_drawT (id := 4) Γ_ok drawsAny pl24_4 (by kernel_rfl) (fun K hK => ?_) | with_reducible refine T_last_drawT (id := 4) Γ_ok drawsAny pl24_4 (by kernel_rfl) (fun K hK => ?_) | with_reducible refine T_seq_drawT (id := 8) Γ_ok drawsAny pl24_8 (by kernel_rfl) (fun K hK => ?_) | with_reducible refine T_last_drawT (id := 8) Γ_ok drawsAny pl24_8 (by kernel_rfl) (fun K hK => ?_) | with_reducible refine T_seq_drawT (id := 9) Γ_ok drawsAny pl24_9 (by kernel_rfl) (fun K hK => ?_) | with_reducible refine T_last_drawT (id := 9) Γ_ok drawsAny pl24_9 (by kernel_rfl) (fun K hK => ?_) | with_reducible refine T_seq_drawT (id := 10) Γ_ok drawsAny pl24_10 (by kernel_rfl) (fun K hK => ?_) | with_reducible refine T_last_drawT (id := 10) Γ_ok drawsAny pl24_10 (by kernel_rfl) (fun K hK => ?_) | ((refine goR0 _ _ _ _ _ _ _ _ ?_ ?_ ?_ ?_ ?_ ?_ ?_ ?_) <;> (repeat intro hb) <;> first | exact True.intro | refine Lf.mk ?_)))
      exact ⟨true, rfl, fun _ => ⟨hall, .inl hz⟩, fun _ => rfl⟩
    · have c2 := key_tc b (gi l 0) (by omega)
      have c3 := key_tc b (gi l (l.length - 1)) (by omega)
      cases hk : keyOf b.ks (gi l 0) with
      | none =>
        rw [keyI_none hk] at c2
        generalize keyI b (gi l (l.length - 1)) = z at c3
        (simp only [go_sem, ↓reduceIte, Nat.reduceAdd, Nat.reduceSub, Nat.reduceMul, Nat.reduceLT, Nat.reduceLeDiff, Nat.reduceEqDiff, Nat.reduceGT, Int.reduceToNat, Int.reduceBEq, Int.reduceBNe]; try simp (disch := omega) only [wrapI, wrapU, half_sum, toNat_sub1, toNat_add1, Int.toNat_natCast])
        (have dl1 := c2; have dl2 := c3; repeat' (first | with_reducible refine T_seq_drawT (id := 4) Γ_ok drawsAny pl24_4 (by kernel_rfl) (fun K hK => ?_) | with_reducible refine T_last_drawT (id := 4) Γ_ok drawsAny pl24_4 (by kernel_rfl) (fun K hK => ?_) | with_reducible refine T_seq_drawT (id := 8) Γ_ok drawsAny pl24_8 (by kernel_rfl) (fun K hK => ?_) | with_reducible refine T_last_drawT (id := 8) Γ_ok drawsAny pl24_8 (by kernel_rfl) (fun K hK => ?_) | with_reducible refine T_seq_drawT (id := 9) Γ_ok drawsAny pl24_9 (by kernel_rfl) (fun K hK => ?_) | with_reducible refine T_last_drawT (id := 9) Γ_ok drawsAny pl24_9 (by kernel_rfl) (fun K hK => ?_) | with_reducible refine T_seq_drawT (id := 10) Γ_ok drawsAny pl24_10 (by kernel_rfl) (fun K hK => ?_) | with_reducible refine T_last_drawT (id := 10) Γ_ok drawsAny pl24_10 (by kernel_rfl) (fun K hK => ?_) | ((refine goR0 _ _ _ _ _ _ _ _ ?_ ?_ ?_ ?_ ?_ ?_ ?_ ?_) <;> (repeat intro hb) <;> first | exact True.intro | refine Lf.mk ?_)))
        refine ⟨false, by simp, fun h => (by cases h), fun h => ?_⟩
        rcases h.2 with h0 | ⟨_, a, z, h4, _⟩
        · exact absurd h0 hz
        · unfold gi at hk; rw [hk] at h4; cases h4
      | some k =>
        obtain ⟨p, p1, p2, p3⟩ := keyI_some hk
        rw [p2] at c2
        cases hq : keyOf b.ks (gi l (l.length - 1)) with
        | none =>
          rw [keyI_none hq] at c3
          (simp only [go_sem, ↓reduceIte, Nat.reduceAdd, Nat.reduceSub, Nat.reduceMul, Nat.reduceLT, Nat.reduceLeDiff, Nat.reduceEqDiff, Nat.reduceGT, Int.reduceToNat, Int.reduceBEq, Int.reduceBNe]; try simp (disch := omega) only [wrapI, wrapU, half_sum, toNat_sub1, toNat_add1, Int.toNat_natCast])
          (have dl1 := c2; have dl2 := c3; repeat' (first | with_reducible refine T_seq_drawT (id := 4) Γ_ok drawsAny pl24_4 (by kernel_rfl) (fun K hK => ?_) | with_reducible refine T_last_drawT (id := 4) Γ_ok drawsAny pl24_4 (by kernel_rfl) (fun K hK => ?_) | with_reducible refine T_seq_drawT (id := 8) Γ_ok drawsAny pl24_8 (by kernel_rfl) (fun K hK => ?_) | with_reducible refine T_last_drawT (id := 8) Γ_ok drawsAny pl24_8 (by kernel_rfl) (fun K hK => ?_) | with_reducible refine T_seq_drawT (id := 9) Γ_ok drawsAny pl24_9 (by kernel_rfl) (fun K hK => ?_) | with_reducible refine T_last_drawT (id := 9) Γ_ok drawsAny pl24_9 (by kernel_rfl) (fun K hK => ?_) | with_reducible refine T_seq_drawT (id := 10) Γ_ok drawsAny pl24_10 (by kernel_rfl) (fun K hK => ?_) | with_reducible refine T_last_drawT (id := 10) Γ_ok drawsAny pl24_10 (by kernel_rfl) (fun K hK => ?_) | ((refine goR0 _ _ _ _ _ _ _ _ ?_ ?_ ?_ ?_ ?_ ?_ ?_ ?_) <;> (repeat intro hb) <;> first | exact True.intro | refine Lf.mk ?_)))
          refine ⟨false, by simp, fun h => (by cases h), fun h => ?_⟩
          rcases h.2 with h0 | ⟨_, a, z, _, h4, _⟩
          · exact absurd h0 hz
          · unfold gi at hq; rw [hq] at h4; cases h4
        | some q =>
          obtain ⟨r, r1, r2, r3⟩ := keyI_some hq
          rw [r2] at c3
          have x1 := hg.one _ (gk_mem p1)
          have x2 := hg.one _ (gk_mem r1)
          (simp only [go_sem, ↓reduceIte, Nat.reduceAdd, Nat.reduceSub, Nat.reduceMul, Nat.reduceLT, Nat.reduceLeDiff, Nat.reduceEqDiff, Nat.reduceGT, Int.reduceToNat, Int.reduceBEq, Int.reduceBNe]; try simp (disch := omega) only [wrapI, wrapU, half_sum, toNat_sub1, toNat_add1, Int.toNat_natCast])
          (have dl1 := c2; have dl2 := c3; repeat' (first | with_reducible refine T_seq_drawT (id := 4) Γ_ok drawsAny pl24_4 (by kernel_rfl) (fun K hK => ?_) | with_reducible refine T_last_drawT (id := 4) Γ_ok drawsAny pl24_4 (by kernel_rfl) (fun K hK => ?_) | with_reducible refine T_seq_drawT (id := 8) Γ_ok drawsAny pl24_8 (by kernel_rfl) (fun K hK => ?_) | with_reducible refine T_last_drawT (id := 8) Γ_ok drawsAny pl24_8 (by kernel_rfl) (fun K hK => ?_) | with_reducible refine T_seq_drawT (id := 9) Γ_ok drawsAny pl24_9 (by kernel_rfl) (fun K hK => ?_) | with_reducible refine T_last_drawT (id := 9) Γ_ok drawsAny pl24_9 (by kernel_rfl) (fun K hK => ?_) | with_reducible refine T_seq_drawT (id := 10) Γ_ok drawsAny pl24_10 (by kernel_rfl) (fun K hK => ?_) | with_reducible refine T_last_drawT (id := 10) Γ_ok drawsAny pl24_10 (by kernel_rfl) (fun K hK => ?_) | ((refine goR0 _ _ _ _ _ _ _ _ ?_ ?_ ?_ ?_ ?_ ?_ ?_ ?_) <;> (repeat intro hb) <;> first | exact True.intro | refine Lf.mk ?_)))
          rw [gk_of p3, gk_of r3]
          refine ⟨_, rfl, ?_⟩
          unfold gi at hk hq
          simp only [Bool.and_eq_true, decide_eq_true_eq]
          constructor
          · rintro ⟨⟨⟨h4, _⟩, _⟩, h5⟩
            exact ⟨hall, .inr ⟨by omega, k, q, hk, hq, h5⟩⟩
          · rintro ⟨_, h0 | ⟨h4, a, z, h5, h6, h7⟩⟩
            · exact absurd h0 hz
            · rw [hk] at h5; rw [hq] at h6
              cases h5; cases h6
              exact ⟨⟨⟨by omega, by omega⟩, by omega⟩, h7⟩
end Go.Proofs.YtddcnafocohghaaDoor
