/-
  BoardHands: the walk of the law.
-/
import Derived.Test.YtddcnafocohghaaDoorQGo
import Derived.Test.YtddcnafocohghaaDoorQGo2
import Derived.Test.YtddcnafocohghaaDoorQC4
set_option linter.unusedSimpArgs false
set_option linter.unusedVariables false
namespace Go.Proofs.YtddcnafocohghaaDoor
open Go.Ab
theorem keyOf_id {b : Bd} (hg : Good b) {S : List Ky} (hS : ∀ k ∈ S, k ∈ b.ks) {i : Nat} (h : i < S.length) : keyOf b.ks ((S.map (·.id)).getD i 0) = some (gk S i) := by
  have e : (S.map (·.id)).getD i 0 = (gk S i).id := by simp [gk, h]
  rw [e]
  exact keyOf_mem hg.rise (hS _ (gk_mem h))
theorem handP_iff {b : Bd} (hg : Good b) {S : List Ky} (hS : ∀ k ∈ S, k ∈ b.ks) (hr : Lr S) : handP b (S.map (·.id)) ↔ S.length ≤ 5 ∧ spanB b.span S = true := by
  unfold handP
  rw [List.length_map]
  have h1 : ∀ i, i < S.length → 1 ≤ i → beforeB b ((S.map (·.id)).getD (i - 1) 0) ((S.map (·.id)).getD i 0) = true := fun i hi h1 => by
    unfold beforeB
    rw [keyOf_id hg hS (show i - 1 < S.length by omega), keyOf_id hg hS hi]
    simp only [decide_eq_true_eq]
    have := List.pairwise_iff_getElem.1 hr (i - 1) i (by omega) hi (by omega)
    simpa [gk, hi, show i - 1 < S.length by omega] using this
  by_cases h0 : S.length = 0
  · have : S = [] := List.length_eq_zero_iff.1 h0
    subst this
    simp [spanB]
  · have hsp : spanB b.span S = decide ((gk S (S.length - 1)).x - (gk S 0).x ≤ b.span) := by
      have := spanB_take (s := b.span) (l := S) (n := S.length) (by omega) (Nat.le_refl _)
      rwa [List.take_length] at this
    rw [hsp, decide_eq_true_eq]
    constructor
    · rintro ⟨_, h | ⟨h2, a, z, h3, h4, h5⟩⟩
      · exact absurd h h0
      · rw [keyOf_id hg hS (by omega)] at h3 h4
        cases h3; cases h4
        exact ⟨h2, h5⟩
    · rintro ⟨h2, h3⟩
      exact ⟨h1, .inr ⟨h2, _, _, keyOf_id hg hS (by omega), keyOf_id hg hS (by omega), h3⟩⟩
theorem hands_plain {b : Bd} (hg : Good b) {ids : List Int} (hp : playP b ids) :
    (handsR b ids).1.length + (handsR b ids).2.1.length = ids.length ∧ handP b (handsR b ids).1 ∧ handP b (handsR b ids).2.1 ∧
    (∀ id ∈ ids, hasB (handsR b ids).1 id ≠ hasB (handsR b ids).2.1 id) ∧
    (0 < (handsR b ids).2.1.length → (0 < (handsR b ids).1.length → beforeB b (gi (handsR b ids).1 ((handsR b ids).1.length - 1)) (gi (handsR b ids).2.1 0) = true) ∧ ¬ handP b ((handsR b ids).1 ++ [gi (handsR b ids).2.1 0])) := by
  have hbd := bdB_iff.2 hg
  have hlr := ordK_lr hg ids
  have hlen := ordK_len hg hp.1
  have hin : ∀ k ∈ ordK b ids, k ∈ b.ks := fun k hk => (ordK_mem.1 hk).1
  have hids : ∀ id ∈ ids, ∃ k ∈ ordK b ids, k.id = id := fun id hid => by
    have := keyD_mem hp.1 hid
    exact ⟨keyD b id, ordK_mem.2 ⟨this.1, by rw [this.2]; exact hid⟩, this.2⟩
  have hinj : ∀ k ∈ ordK b ids, ∀ m ∈ ordK b ids, k.id = m.id → k = m := fun k hk m hm e => by
    have h1 := keyOf_mem hg.rise (hin k hk)
    have h2 := keyOf_mem hg.rise (hin m hm)
    rw [e, h2] at h1
    exact (Option.some.inj h1).symm
  unfold handsR
  rw [if_pos ⟨hbd, hp.1⟩, if_neg (by have := hp.2; omega)]
  have hdc := divN_cases b.span (ordK b ids) (ordK b ids).length
  have hp2 := hp.2
  unfold divR at *
  generalize ordK b ids = S at *
  rcases hdc with ⟨h, _⟩ | ⟨n, hn, e, hd, hmax⟩
  · omega
  · rw [e]
    simp only [Int.toNat_natCast]
    have hdv := hd
    unfold divB at hdv
    simp only [Bool.and_eq_true, decide_eq_true_eq] at hdv
    have hin1 : ∀ k ∈ S.take n, k ∈ b.ks := fun k hk => hin k (List.mem_of_mem_take hk)
    have hin2 : ∀ k ∈ S.drop n, k ∈ b.ks := fun k hk => hin k (List.mem_of_mem_drop hk)
    have hlr1 : Lr (S.take n) := hlr.sublist (List.take_sublist n S)
    have hlr2 : Lr (S.drop n) := hlr.sublist (List.drop_sublist n S)
    refine ⟨?_, (handP_iff hg hin1 hlr1).2 ⟨by rw [List.length_take]; omega, hdv.1.2⟩, (handP_iff hg hin2 hlr2).2 ⟨by rw [List.length_drop]; omega, hdv.2⟩, fun id hid => ?_, fun hr0 => ⟨fun hl0 => ?_, fun hh => ?_⟩⟩
    · simp only [List.length_map, List.length_take, List.length_drop]; omega
    · obtain ⟨k, hk, rfl⟩ := hids id hid
      rw [← List.take_append_drop n S] at hk hlr
      have hap := (List.pairwise_append.1 hlr).2.2
      intro e2
      rcases List.mem_append.1 hk with h1 | h1
      · have a1 : hasB ((S.take n).map (·.id)) k.id = true := hasB_iff.2 (List.mem_map_of_mem h1)
        rw [a1] at e2
        obtain ⟨m, hm, hmk⟩ := List.mem_map.1 (hasB_iff.1 e2.symm)
        have := hinj m (List.mem_of_mem_drop hm) k (List.mem_of_mem_take h1) hmk
        subst this
        exact ltK_irr _ (hap m h1 m hm)
      · have a1 : hasB ((S.drop n).map (·.id)) k.id = true := hasB_iff.2 (List.mem_map_of_mem h1)
        rw [a1] at e2
        obtain ⟨m, hm, hmk⟩ := List.mem_map.1 (hasB_iff.1 e2)
        have := hinj m (List.mem_of_mem_take hm) k (List.mem_of_mem_drop h1) hmk
        subst this
        exact ltK_irr _ (hap m hm m h1)
    · rw [List.length_map, List.length_drop] at hr0
      rw [List.length_map, List.length_take] at hl0
      unfold beforeB gi
      rw [keyOf_id hg hin1 (by rw [List.length_map, List.length_take]; omega), keyOf_id hg hin2 (by rw [List.length_drop]; omega)]
      simp only [decide_eq_true_eq, List.length_map, List.length_take]
      rw [← List.take_append_drop n S] at hlr
      exact (List.pairwise_append.1 hlr).2.2 _ (gk_mem (by rw [List.length_take]; omega)) _ (gk_mem (by rw [List.length_drop]; omega))
    · rw [List.length_map, List.length_drop] at hr0
      have e3 : (S.take n).map (·.id) ++ [gi ((S.drop n).map (·.id)) 0] = (S.take (n + 1)).map (·.id) := by
        rw [take_gk (by omega), List.map_append]
        congr 1
        simp only [List.map_cons, List.map_nil]
        rw [gi_map _ (by rw [List.length_drop]; omega)]
        simp [gk, List.getElem?_drop]
      rw [e3] at hh
      have hin3 : ∀ k ∈ S.take (n + 1), k ∈ b.ks := fun k hk => hin k (List.mem_of_mem_take hk)
      have h4 := (handP_iff hg hin3 (hlr.sublist (List.take_sublist _ S))).1 hh
      have h5 := hmax (n + 1) (by omega) (by omega)
      rw [List.length_take] at h4
      have h6 : spanB b.span (S.drop (n + 1)) = true := by
        rw [spanB_iff hg.s0 hlr2] at hdv
        rw [spanB_iff hg.s0 (hlr.sublist (List.drop_sublist _ S))]
        have hsub : ∀ k ∈ S.drop (n + 1), k ∈ S.drop n := fun k hk => by
          rw [drop_gk (show n < S.length by omega)]; exact List.mem_cons_of_mem _ hk
        exact fun a ha c hc => hdv.2 a (hsub a ha) c (hsub c hc)
      unfold divB at h5
      rw [h4.2, h6, decide_eq_true (p := n + 1 ≤ 5) (by omega), decide_eq_true (p := S.length - (n + 1) ≤ 5) (by omega)] at h5
      cases h5
theorem hands_fewer {b : Bd} (hg : Good b) {ids : List Int} (hp : playP b ids) {d : Nat} (h : d < ids.length) : (handsR b (ids.take d ++ ids.drop (d + 1))).2.2 = 0 := by
  rw [handsR_ok (bdB_iff.2 hg)]
  refine hp.sub hg ?_
  rw [← List.eraseIdx_eq_take_drop_succ]
  exact List.eraseIdx_sublist _ _
theorem ids_cutl (ids : List Int) {d : Nat} (h : d < ids.length) : (ids.take d ++ ids.drop (d + 1)).length = d + (ids.length - (d + 1)) := by rw [List.length_append, List.length_take, List.length_drop]; omega
theorem ids_cut (ids : List Int) {d : Nat} (h : d < ids.length) : ∀ i j, i < d + (ids.length - (d + 1)) → j < 1 → catE d (fun i j => catE 0 (fun _ _ => AV.top) (fun i j => inE ids i j) i j) (fun i j => inE ids (d + 1 + i) j) i j = inE (ids.take d ++ ids.drop (d + 1)) i j := fun i j hi hj => by
  unfold catE inE gi
  simp only [Nat.not_lt_zero, if_false, Nat.sub_zero, List.getD_eq_getElem?_getD]
  split
  · rename_i h1
    rw [List.getElem?_append_left (by rw [List.length_take]; omega), List.getElem?_take_of_lt h1]
  · rename_i h1
    rw [List.getElem?_append_right (by rw [List.length_take]; omega), List.length_take, Nat.min_eq_left (by omega), List.getElem?_drop]
set_option maxRecDepth 100000 in
set_option maxHeartbeats 4000000 in
theorem hands_law (b : Bd) (ids : List Int) (drop : Int) (hl : b.ks.length ≤ 9223372036854775807) (hi : ids.length ≤ 9223372036854775807) : Look Tryd.prog 5 [bdA b, ints ids, .imm (.int .i64 drop)] (.imm (.bool true)) := by
  have c1 := hands_tc b ids hl hi
  have c2 := valid_tc b hl
  have hrr : (handsR b ids).2.2 = 0 ∨ ((handsR b ids).2.2 = 1 ∨ (handsR b ids).2.2 = 20 ∧ bdB b = true) ∧ (handsR b ids).1 = [] ∧ (handsR b ids).2.1 = [] := by
    unfold handsR
    split
    · rename_i h
      split
      · exact .inr ⟨.inr ⟨rfl, h.1⟩, rfl, rfl⟩
      · exact .inl rfl
    · exact .inr ⟨.inl rfl, rfl, rfl⟩
  refine Look.mk trivial ?_
  by_cases he : (handsR b ids).2.2 = 0
  · have hb : bdB b = true := by
      by_cases h : bdB b = true
      · exact h
      · unfold handsR at he; rw [if_neg fun h2 => h h2.1] at he; cases he
    have hg := bdB_iff.1 hb
    have hp := (handsR_ok hb).1 he
    rw [he] at c1
    obtain ⟨k1, k2, k3, k4, k5⟩ := hands_plain hg hp
    have k6 := fun d (h : d < ids.length) => hands_fewer hg hp h
    generalize (handsR b ids).1 = l at *
    generalize (handsR b ids).2.1 = r at *
    have c3 := hand_lk b l hb (by omega)
    have c4 := hand_lk b r hb (by omega)
    rw [handB_t k2] at c3
    rw [handB_t k3] at c4
    have hids := diff_len hg hp.1
    clear hp he c2 hrr
    have hbd := hb
    (refine TC_of_T Γ_ok Tryd.func5 rfl (by kernel_rfl) ?_; simp only [Tryd.ntmps5, Tryd.results5, List.length_cons, List.length_nil, Nat.reduceSub, Nat.reduceAdd, List.replicate, List.cons_append, List.nil_append])
    (have cl1 := head_tc; have cm1 := c1; have dl1 := c3; have dl2 := c4; repeat' (first | with_reducible refine T_seq_drawT (id := 10) Γ_ok drawsAny pl5_10 (by kernel_rfl) (fun K hK => ?_) | with_reducible refine T_last_drawT (id := 10) Γ_ok drawsAny pl5_10 (by kernel_rfl) (fun K hK => ?_) | with_reducible refine T_seq_drawT (id := 12) Γ_ok drawsAny pl5_12 (by kernel_rfl) (fun K hK => ?_) | with_reducible refine T_last_drawT (id := 12) Γ_ok drawsAny pl5_12 (by kernel_rfl) (fun K hK => ?_) | with_reducible refine T_seq_drawT (id := 14) Γ_ok drawsAny pl5_14 (by kernel_rfl) (fun K hK => ?_) | with_reducible refine T_last_drawT (id := 14) Γ_ok drawsAny pl5_14 (by kernel_rfl) (fun K hK => ?_) | with_reducible refine T_seq_drawT (id := 18) Γ_ok drawsAny pl5_18 (by kernel_rfl) (fun K hK => ?_) | with_reducible refine T_last_drawT (id := 18) Γ_ok drawsAny pl5_18 (by kernel_rfl) (fun K hK => ?_) | ((refine goR0 _ _ _ _ _ _ _ _ ?_ ?_ ?_ ?_ ?_ ?_ ?_ ?_) <;> (repeat intro hb) <;> first | exact True.intro | refine Lf.mk ?_)))
    refine T_loopW (fun m st => ∃ i : Nat, i ≤ ids.length ∧ m + i = ids.length ∧
        st = ⟨[.top, ints ids, .imm (.int .i64 drop), .optr 0 0 0, .top, .top, .imm (.bool false), .imm (.bool true), .own 1 0 l.length none, .own 2 0 r.length none, .top, .imm (.int .i64 i)] ++ List.replicate 142 .top, [.box 24 (bdL b), intO l, intO r]⟩)
      ids.length ⟨_, ?_, 0, by omega, rfl, rfl⟩ ?_
    · ((try simp only [List.length_append, List.length_cons, List.length_nil, Nat.zero_add]); refine Wk.intro [0, 1, 2] (by decide) (by decide) (by intro o ho; simp at ho ⊢ <;> omega) ?_ ?_ <;> repeat' (first | exact WkVL.nil | refine WkVL.cons ?_ ?_ | exact WkV.top | exact WkV.imm rfl | exact WkV.imm (by simp) | exact WkV.optr rfl | exact WkV.own rfl (by simp) | exact WkV.nil_own (.inl rfl) | exact WkV.map rfl | (refine WkV.free ?_; simp [Free, FreeL] <;> assumption) | (refine WkV.free (fun _ _ => FreeL_nth ?_ _); simp [Free, FreeL]; done) | refine WkV.agg ?_ | refine WkV.tup ?_ | refine WkV.fn ?_ ?_ | exact WkO.dead | exact WkO.raw | refine WkO.ghost ?_ | exact WkO.mpE rfl trivial | refine WkO.box ?_ rfl | refine WkO.arr ?_ | refine And.intro ?_ (And.intro (by first | exact fun h => h | exact fun _ => rfl | exact nofun) ?_) | exact trivial | (intro i j hi hj)))
    rintro m st ⟨i, h0, h1, rfl⟩
    by_cases hi2 : i < ids.length
    · have c5 := has_tc l (gi ids i) (by omega)
      have c6 := has_tc r (gi ids i) (by omega)
      have hne := k4 _ (gi_mem hi2)
      (simp only [go_sem, ↓reduceIte, Nat.reduceAdd, Nat.reduceSub, Nat.reduceMul, Nat.reduceLT, Nat.reduceLeDiff, Nat.reduceEqDiff, Nat.reduceGT, Int.reduceToNat, Int.reduceBEq, Int.reduceBNe]; try simp (disch := omega) only [wrapI, wrapU, half_sum, toNat_sub1, toNat_add1, Int.toNat_natCast])
      generalize hasB l (gi ids i) = x1 at c5 hne
      generalize hasB r (gi ids i) = x2 at c6 hne
      (have dl1 := c5; have dl2 := c6; repeat' (first | with_reducible refine T_seq_drawT (id := 10) Γ_ok drawsAny pl5_10 (by kernel_rfl) (fun K hK => ?_) | with_reducible refine T_last_drawT (id := 10) Γ_ok drawsAny pl5_10 (by kernel_rfl) (fun K hK => ?_) | with_reducible refine T_seq_drawT (id := 12) Γ_ok drawsAny pl5_12 (by kernel_rfl) (fun K hK => ?_) | with_reducible refine T_last_drawT (id := 12) Γ_ok drawsAny pl5_12 (by kernel_rfl) (fun K hK => ?_) | with_reducible refine T_seq_drawT (id := 14) Γ_ok drawsAny pl5_14 (by kernel_rfl) (fun K hK => ?_) | with_reducible refine T_last_drawT (id := 14) Γ_ok drawsAny pl5_14 (by kernel_rfl) (fun K hK => ?_) | with_reducible refine T_seq_drawT (id := 18) Γ_ok drawsAny pl5_18 (by kernel_rfl) (fun K hK => ?_) | with_reducible refine T_last_drawT (id := 18) Γ_ok drawsAny pl5_18 (by kernel_rfl) (fun K hK => ?_) | ((refine goR0 _ _ _ _ _ _ _ _ ?_ ?_ ?_ ?_ ?_ ?_ ?_ ?_) <;> (repeat intro hb) <;> first | exact True.intro | refine Lf.mk ?_)))
      · exact absurd hb hne
      · refine ⟨ids.length - (i + 1), by omega, _, ?_, i + 1, by omega, by omega, rfl⟩
        ((try simp only [List.length_append, List.length_cons, List.length_nil, Nat.zero_add]); refine Wk.intro [0, 1, 2] (by decide) (by decide) (by intro o ho; simp at ho ⊢ <;> omega) ?_ ?_ <;> repeat' (first | (refine WkV.imm ?_; congr 1; omega) | exact WkVL.nil | refine WkVL.cons ?_ ?_ | exact WkV.top | exact WkV.imm rfl | exact WkV.imm (by simp) | exact WkV.optr rfl | exact WkV.own rfl (by simp) | exact WkV.nil_own (.inl rfl) | exact WkV.map rfl | (refine WkV.free ?_; simp [Free, FreeL] <;> assumption) | (refine WkV.free (fun _ _ => FreeL_nth ?_ _); simp [Free, FreeL]; done) | refine WkV.agg ?_ | refine WkV.tup ?_ | refine WkV.fn ?_ ?_ | exact WkO.dead | exact WkO.raw | refine WkO.ghost ?_ | exact WkO.mpE rfl trivial | refine WkO.box ?_ rfl | refine WkO.arr ?_ | refine And.intro ?_ (And.intro (by first | exact fun h => h | exact fun _ => rfl | exact nofun) ?_) | exact trivial | (intro i j hi hj)))
    · by_cases hr0 : 0 < r.length
      · have c7 := before_tc b (gi l (l.length - 1)) (gi r 0) hbd
        have c8 := hand_lk b (l ++ [gi r 0]) hbd (by simp; omega)
        rw [handB_f (k5 hr0).2] at c8
        have hbe := (k5 hr0).1
        have hrT : decide ((r.length : Int) > 0) = true := decide_eq_true (by omega)
        have hlT : 0 < l.length → beforeB b (gi l (l.length - 1)) (gi r 0) = true := hbe
        have hv5 : ∀ i j, i < l.length + 1 → j < 1 → catE l.length (fun i j => catE 0 (fun _ _ => AV.top) (fun i j => inE l i j) i j) (fun i j => nth [AV.imm (.int .i64 (gi r 0))] (i * 1 + j)) i j = inE (l ++ [gi r 0]) i j := fun i j h1 h2 => by rw [← in_snoc l _ h1 h2]; rfl
        unfold ints at c8
        rw [show (l ++ [gi r 0]).length = l.length + 1 by simp] at c8
        generalize beforeB b (gi l (l.length - 1)) (gi r 0) = g at c7 hlT hbe
        (simp only [go_sem, ↓reduceIte, Nat.reduceAdd, Nat.reduceSub, Nat.reduceMul, Nat.reduceLT, Nat.reduceLeDiff, Nat.reduceEqDiff, Nat.reduceGT, Int.reduceToNat, Int.reduceBEq, Int.reduceBNe]; try simp (disch := omega) only [wrapI, wrapU, half_sum, toNat_sub1, toNat_add1, Int.toNat_natCast])
        (have dl1 := c7; have dl2 := c8; have sx1 := hrT; have sx2 : (0 : Nat) + 0 = 0 := rfl; repeat' (first | with_reducible refine T_seq_drawT (id := 10) Γ_ok drawsAny pl5_10 (by kernel_rfl) (fun K hK => ?_) | with_reducible refine T_last_drawT (id := 10) Γ_ok drawsAny pl5_10 (by kernel_rfl) (fun K hK => ?_) | with_reducible refine T_seq_drawT (id := 12) Γ_ok drawsAny pl5_12 (by kernel_rfl) (fun K hK => ?_) | with_reducible refine T_last_drawT (id := 12) Γ_ok drawsAny pl5_12 (by kernel_rfl) (fun K hK => ?_) | with_reducible refine T_seq_drawT (id := 14) Γ_ok drawsAny pl5_14 (by kernel_rfl) (fun K hK => ?_) | with_reducible refine T_last_drawT (id := 14) Γ_ok drawsAny pl5_14 (by kernel_rfl) (fun K hK => ?_) | with_reducible refine T_seq_drawT (id := 18) Γ_ok drawsAny pl5_18 (by kernel_rfl) (fun K hK => ?_) | with_reducible refine T_last_drawT (id := 18) Γ_ok drawsAny pl5_18 (by kernel_rfl) (fun K hK => ?_) | ((refine goR2 _ _ _ _ _ _ _ _ ?_ ?_ ?_ ?_ ?_ ?_ ?_ ?_) <;> (repeat intro hb) <;> first | exact True.intro | refine Lf.mk ?_)))
        · have := hlT (by omega)
          rw [this] at hb; cases hb.2
        · clear hv5
          obtain ⟨d, rfl⟩ := Int.eq_ofNat_of_zero_le hb.1
          have hd2 : d < ids.length := by omega
          have c9 := hands_tc b (ids.take d ++ ids.drop (d + 1)) (by omega) (by rw [List.length_append, List.length_take, List.length_drop]; omega)
          rw [k6 d hd2] at c9
          have hv5 := ids_cut ids hd2
          unfold ints at c9
          rw [ids_cutl ids hd2] at c9
          (simp only [go_sem, ↓reduceIte, Nat.reduceAdd, Nat.reduceSub, Nat.reduceMul, Nat.reduceLT, Nat.reduceLeDiff, Nat.reduceEqDiff, Nat.reduceGT, Int.reduceToNat, Int.reduceBEq, Int.reduceBNe]; try simp (disch := omega) only [wrapI, wrapU, half_sum, toNat_sub1, toNat_add1, Int.toNat_natCast])
          (have cm1 := c9; repeat' (first | with_reducible refine T_seq_drawT (id := 10) Γ_ok drawsAny pl5_10 (by kernel_rfl) (fun K hK => ?_) | with_reducible refine T_last_drawT (id := 10) Γ_ok drawsAny pl5_10 (by kernel_rfl) (fun K hK => ?_) | with_reducible refine T_seq_drawT (id := 12) Γ_ok drawsAny pl5_12 (by kernel_rfl) (fun K hK => ?_) | with_reducible refine T_last_drawT (id := 12) Γ_ok drawsAny pl5_12 (by kernel_rfl) (fun K hK => ?_) | with_reducible refine T_seq_drawT (id := 14) Γ_ok drawsAny pl5_14 (by kernel_rfl) (fun K hK => ?_) | with_reducible refine T_last_drawT (id := 14) Γ_ok drawsAny pl5_14 (by kernel_rfl) (fun K hK => ?_) | with_reducible refine T_seq_drawT (id := 18) Γ_ok drawsAny pl5_18 (by kernel_rfl) (fun K hK => ?_) | with_reducible refine T_last_drawT (id := 18) Γ_ok drawsAny pl5_18 (by kernel_rfl) (fun K hK => ?_) | ((refine goR0 _ _ _ _ _ _ _ _ ?_ ?_ ?_ ?_ ?_ ?_ ?_ ?_) <;> (repeat intro hb) <;> first | exact True.intro | refine Lf.mk ?_)))
      · have hrT : decide ((r.length : Int) > 0) = false := decide_eq_false (by omega)
        (simp only [go_sem, ↓reduceIte, Nat.reduceAdd, Nat.reduceSub, Nat.reduceMul, Nat.reduceLT, Nat.reduceLeDiff, Nat.reduceEqDiff, Nat.reduceGT, Int.reduceToNat, Int.reduceBEq, Int.reduceBNe]; try simp (disch := omega) only [wrapI, wrapU, half_sum, toNat_sub1, toNat_add1, Int.toNat_natCast])
        (have sx1 := hrT; repeat' (first | with_reducible refine T_seq_drawT (id := 10) Γ_ok drawsAny pl5_10 (by kernel_rfl) (fun K hK => ?_) | with_reducible refine T_last_drawT (id := 10) Γ_ok drawsAny pl5_10 (by kernel_rfl) (fun K hK => ?_) | with_reducible refine T_seq_drawT (id := 12) Γ_ok drawsAny pl5_12 (by kernel_rfl) (fun K hK => ?_) | with_reducible refine T_last_drawT (id := 12) Γ_ok drawsAny pl5_12 (by kernel_rfl) (fun K hK => ?_) | with_reducible refine T_seq_drawT (id := 14) Γ_ok drawsAny pl5_14 (by kernel_rfl) (fun K hK => ?_) | with_reducible refine T_last_drawT (id := 14) Γ_ok drawsAny pl5_14 (by kernel_rfl) (fun K hK => ?_) | with_reducible refine T_seq_drawT (id := 18) Γ_ok drawsAny pl5_18 (by kernel_rfl) (fun K hK => ?_) | with_reducible refine T_last_drawT (id := 18) Γ_ok drawsAny pl5_18 (by kernel_rfl) (fun K hK => ?_) | ((refine goB1 _ _ _ _ _ _ _ _ ?_ ?_ ?_ ?_ ?_ ?_ ?_ ?_) <;> (repeat intro hb) <;> first | exact True.intro | refine Lf.mk ?_)))
        obtain ⟨d, rfl⟩ := Int.eq_ofNat_of_zero_le hb.1
        have hd2 : d < ids.length := by omega
        have c9 := hands_tc b (ids.take d ++ ids.drop (d + 1)) (by omega) (by rw [List.length_append, List.length_take, List.length_drop]; omega)
        rw [k6 d hd2] at c9
        have hv5 := ids_cut ids hd2
        unfold ints at c9
        rw [ids_cutl ids hd2] at c9
        (simp only [go_sem, ↓reduceIte, Nat.reduceAdd, Nat.reduceSub, Nat.reduceMul, Nat.reduceLT, Nat.reduceLeDiff, Nat.reduceEqDiff, Nat.reduceGT, Int.reduceToNat, Int.reduceBEq, Int.reduceBNe]; try simp (disch := omega) only [wrapI, wrapU, half_sum, toNat_sub1, toNat_add1, Int.toNat_natCast])
        (have cm1 := c9; repeat' (first | with_reducible refine T_seq_drawT (id := 10) Γ_ok drawsAny pl5_10 (by kernel_rfl) (fun K hK => ?_) | with_reducible refine T_last_drawT (id := 10) Γ_ok drawsAny pl5_10 (by kernel_rfl) (fun K hK => ?_) | with_reducible refine T_seq_drawT (id := 12) Γ_ok drawsAny pl5_12 (by kernel_rfl) (fun K hK => ?_) | with_reducible refine T_last_drawT (id := 12) Γ_ok drawsAny pl5_12 (by kernel_rfl) (fun K hK => ?_) | with_reducible refine T_seq_drawT (id := 14) Γ_ok drawsAny pl5_14 (by kernel_rfl) (fun K hK => ?_) | with_reducible refine T_last_drawT (id := 14) Γ_ok drawsAny pl5_14 (by kernel_rfl) (fun K hK => ?_) | with_reducible refine T_seq_drawT (id := 18) Γ_ok drawsAny pl5_18 (by kernel_rfl) (fun K hK => ?_) | with_reducible refine T_last_drawT (id := 18) Γ_ok drawsAny pl5_18 (by kernel_rfl) (fun K hK => ?_) | ((refine goR0 _ _ _ _ _ _ _ _ ?_ ?_ ?_ ?_ ?_ ?_ ?_ ?_) <;> (repeat intro hb) <;> first | exact True.intro | refine Lf.mk ?_)))
  · rcases hrr with h | ⟨h, h1, h2⟩
    · exact absurd h he
    · rw [h1, h2] at c1
      generalize (handsR b ids).2.2 = e at c1 he h
      generalize bdB b = g at c2 h
      (refine TC_of_T Γ_ok Tryd.func5 rfl (by kernel_rfl) ?_; simp only [Tryd.ntmps5, Tryd.results5, List.length_cons, List.length_nil, Nat.reduceSub, Nat.reduceAdd, List.replicate, List.cons_append, List.nil_append])
      (have cl1 := head_tc; have cm1 := c1; have dl1 := c2; repeat' (first | with_reducible refine T_seq_drawT (id := 10) Γ_ok drawsAny pl5_10 (by kernel_rfl) (fun K hK => ?_) | with_reducible refine T_last_drawT (id := 10) Γ_ok drawsAny pl5_10 (by kernel_rfl) (fun K hK => ?_) | with_reducible refine T_seq_drawT (id := 12) Γ_ok drawsAny pl5_12 (by kernel_rfl) (fun K hK => ?_) | with_reducible refine T_last_drawT (id := 12) Γ_ok drawsAny pl5_12 (by kernel_rfl) (fun K hK => ?_) | with_reducible refine T_seq_drawT (id := 14) Γ_ok drawsAny pl5_14 (by kernel_rfl) (fun K hK => ?_) | with_reducible refine T_last_drawT (id := 14) Γ_ok drawsAny pl5_14 (by kernel_rfl) (fun K hK => ?_) | with_reducible refine T_seq_drawT (id := 18) Γ_ok drawsAny pl5_18 (by kernel_rfl) (fun K hK => ?_) | with_reducible refine T_last_drawT (id := 18) Γ_ok drawsAny pl5_18 (by kernel_rfl) (fun K hK => ?_) | ((refine goR0 _ _ _ _ _ _ _ _ ?_ ?_ ?_ ?_ ?_ ?_ ?_ ?_) <;> (repeat intro hb) <;> first | exact True.intro | refine Lf.mk ?_)))
      rcases h with rfl | ⟨rfl, rfl⟩ <;> rfl
end Go.Proofs.YtddcnafocohghaaDoor
