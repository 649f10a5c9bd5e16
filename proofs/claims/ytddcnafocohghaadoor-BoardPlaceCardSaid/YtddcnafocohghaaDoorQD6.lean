/-
  BoardPlace: the walk of the law.
-/
import Derived.Test.YtddcnafocohghaaDoorQGo
import Derived.Test.YtddcnafocohghaaDoorQC4
import Derived.Test.YtddcnafocohghaaDoorQP7
set_option linter.unusedSimpArgs false
set_option linter.unusedVariables false
namespace Go.Proofs.YtddcnafocohghaaDoor
open Go.Ab
def mvE (f : Ky → Ky) (l : List Ky) (i k j : Nat) : AV := nth (kyL (if k < i then f (gk l k) else gk l k)) j
theorem mvE_pl (f : Ky → Ky) (l : List Ky) (i k j : Nat) : Pl (mvE f l i k j) := by
  unfold mvE; rcases j with _ | _ | _ | _ | _ | _ | _ | _ | _ | j <;> trivial
@[simp] theorem mvE_free (f : Ky → Ky) (l : List Ky) (i k j : Nat) : Free (mvE f l i k j) := Pl.free _ (mvE_pl f l i k j)
theorem mvE_0 (f : Ky → Ky) (l : List Ky) (k j : Nat) : mvE f l 0 k j = kyE l k j := by unfold mvE; rw [if_neg (by omega)]; rfl
theorem mvE_end (f : Ky → Ky) (l : List Ky) {k j : Nat} (h : k < l.length) : mvE f l l.length k j = kyE (l.map f) k j := by
  unfold mvE kyE; rw [if_pos h]; congr 2; simp [gk, h]
theorem mvE_at (f : Ky → Ky) (l : List Ky) (i : Nat) (j : Nat) : mvE f l i i j = kyE l i j := by unfold mvE; rw [if_neg (by omega)]; rfl
theorem mv_sh (n : Int) (l : List Ky) (i : Nat) {k j : Nat} (hj : j < 9) : updE (mvE (shK n) l i) i 1 [.imm (.int .i64 ((gk l i).x + n))] k j = mvE (shK n) l (i + 1) k j := by
  unfold updE
  by_cases h : k = i
  · subst h
    unfold mvE
    rw [if_neg (show ¬ k < k by omega), if_pos (show k < k + 1 by omega)]
    rcases j with _ | _ | _ | _ | _ | _ | _ | _ | _ | j
    all_goals first | rfl | (exfalso; omega) | (rw [if_neg (by simp)]; rfl) | (rw [if_pos (by simp)]; rfl)
  · rw [if_neg (fun hh => h hh.1)]
    unfold mvE
    by_cases h2 : k < i
    · rw [if_pos h2, if_pos (by omega)]
    · rw [if_neg h2, if_neg (by omega)]
set_option maxRecDepth 100000 in
set_option maxHeartbeats 4000000 in
theorem place_law (b : Bd) (by' : Int) (v : P6) (ids : List Int) (vs : List P6) (hl : b.ks.length ≤ 9223372036854775807) (hv : vs.length * 48 ≤ 140737488351232) (hi : ids.length ≤ 9223372036854775807) : Look Tryd.prog 9 [bdA b, .imm (.int .i64 by'), p6A v, ints ids, vts vs] (.imm (.bool true)) := by
  have c2 := valid_tc b hl
  refine Look.mk trivial ?_
  by_cases hb : bdB b = true ∧ -1000 ≤ by' ∧ by' ≤ 1000
  · have hbd := hb.1
    have hg := bdB_iff.1 hbd
    have hl2 := hg.len
    rw [hbd] at c2
    (refine TC_of_T Γ_ok Tryd.func9 rfl (by kernel_rfl) ?_; simp only [Tryd.ntmps9, Tryd.results9, List.length_cons, List.length_nil, Nat.reduceSub, Nat.reduceAdd, List.replicate, List.cons_append, List.nil_append])
    (have cl1 := head_tc; have dl1 := c2; repeat' (first | with_reducible refine T_seq_drawT (id := 4) Γ_ok drawsAny pl9_4 (by kernel_rfl) (fun K hK => ?_) | with_reducible refine T_last_drawT (id := 4) Γ_ok drawsAny pl9_4 (by kernel_rfl) (fun K hK => ?_) | with_reducible refine T_seq_drawT (id := 8) Γ_ok drawsAny pl9_8 (by kernel_rfl) (fun K hK => ?_) | with_reducible refine T_last_drawT (id := 8) Γ_ok drawsAny pl9_8 (by kernel_rfl) (fun K hK => ?_) | ((refine goR0 _ _ _ _ _ _ _ _ ?_ ?_ ?_ ?_ ?_ ?_ ?_ ?_) <;> (repeat intro hb) <;> first | exact True.intro | refine Lf.mk ?_)))
    all_goals
      refine T_loopW (fun m st => ∃ i : Nat, i ≤ b.ks.length ∧ m + i = b.ks.length ∧
          st = ⟨[.top, .imm (.int .i64 by'), .top, ints ids, vts vs, .optr 0 0 0, .top, .optr 1 0 0, .top, .top, .imm (.bool false), .imm (.bool true), .optr 3 0 0, .imm (.int .i64 i)] ++ List.replicate 125 .top,
            [.box 24 (bdL b), .box 26 (p6L v), .arr 43 9 b.ks.length (mvE (shK by') b.ks i), .box 24 [.own 2 0 b.ks.length none, .imm (.int .i64 b.span), .imm (.int .i64 b.tol)]]⟩)
        b.ks.length ⟨_, ?_, 0, by omega, rfl, rfl⟩ ?_
      · have hz : ∀ k j, catE 0 (fun _ _ => AV.top) (kyE b.ks) k j = mvE (shK by') b.ks 0 k j := fun k j => by rw [mvE_0]; rfl
        first
        | (focus (((try simp only [List.length_append, List.length_cons, List.length_nil, Nat.zero_add]); refine Wk.intro [0, 1, 2, 3] (by decide) (by decide) (by intro o ho; simp at ho ⊢ <;> omega) ?_ ?_ <;> repeat' (first | (exact WkV.eqF (hz _ _) (by simp)) | exact WkVL.nil | refine WkVL.cons ?_ ?_ | exact WkV.top | exact WkV.imm rfl | exact WkV.imm (by simp) | exact WkV.optr rfl | exact WkV.own rfl (by simp) | exact WkV.nil_own (.inl rfl) | exact WkV.map rfl | (refine WkV.free ?_; simp [Free, FreeL] <;> assumption) | (refine WkV.free (fun _ _ => FreeL_nth ?_ _); simp [Free, FreeL]; done) | refine WkV.agg ?_ | refine WkV.tup ?_ | refine WkV.fn ?_ ?_ | exact WkO.dead | exact WkO.raw | refine WkO.ghost ?_ | exact WkO.mpE rfl trivial | refine WkO.box ?_ rfl | refine WkO.arr ?_ | refine And.intro ?_ (And.intro (by first | exact fun h => h | exact fun _ => rfl | exact nofun) ?_) | exact trivial | (intro i j hi hj))); done))
        | (focus (((try simp only [List.length_append, List.length_cons, List.length_nil, Nat.zero_add]); refine Wk.intro [0, 1, 3, 2] (by decide) (by decide) (by intro o ho; simp at ho ⊢ <;> omega) ?_ ?_ <;> repeat' (first | (exact WkV.eqF (hz _ _) (by simp)) | exact WkVL.nil | refine WkVL.cons ?_ ?_ | exact WkV.top | exact WkV.imm rfl | exact WkV.imm (by simp) | exact WkV.optr rfl | exact WkV.own rfl (by simp) | exact WkV.nil_own (.inl rfl) | exact WkV.map rfl | (refine WkV.free ?_; simp [Free, FreeL] <;> assumption) | (refine WkV.free (fun _ _ => FreeL_nth ?_ _); simp [Free, FreeL]; done) | refine WkV.agg ?_ | refine WkV.tup ?_ | refine WkV.fn ?_ ?_ | exact WkO.dead | exact WkO.raw | refine WkO.ghost ?_ | exact WkO.mpE rfl trivial | refine WkO.box ?_ rfl | refine WkO.arr ?_ | refine And.intro ?_ (And.intro (by first | exact fun h => h | exact fun _ => rfl | exact nofun) ?_) | exact trivial | (intro i j hi hj))); done))
      rintro m st ⟨i, h0, h1, rfl⟩
      by_cases hi2 : i < b.ks.length
      · have hone := hg.one _ (gk_mem hi2)
        have hup := fun k j => mv_sh by' b.ks i (k := k) (j := j)
        have hat := mvE_at (shK by') b.ks i
        (simp only [go_sem, ↓reduceIte, Nat.reduceAdd, Nat.reduceSub, Nat.reduceMul, Nat.reduceLT, Nat.reduceLeDiff, Nat.reduceEqDiff, Nat.reduceGT, Int.reduceToNat, Int.reduceBEq, Int.reduceBNe]; try simp (disch := omega) only [wrapI, wrapU, half_sum, toNat_sub1, toNat_add1, Int.toNat_natCast])
        (have sx1 := hat; have sx2 : (0 : Nat) + 0 = 0 := rfl; repeat' (first | with_reducible refine T_seq_drawT (id := 4) Γ_ok drawsAny pl9_4 (by kernel_rfl) (fun K hK => ?_) | with_reducible refine T_last_drawT (id := 4) Γ_ok drawsAny pl9_4 (by kernel_rfl) (fun K hK => ?_) | with_reducible refine T_seq_drawT (id := 8) Γ_ok drawsAny pl9_8 (by kernel_rfl) (fun K hK => ?_) | with_reducible refine T_last_drawT (id := 8) Γ_ok drawsAny pl9_8 (by kernel_rfl) (fun K hK => ?_) | ((refine goR2 _ _ _ _ _ _ _ _ ?_ ?_ ?_ ?_ ?_ ?_ ?_ ?_) <;> (repeat intro hb) <;> first | exact True.intro | refine Lf.mk ?_)))
        refine ⟨b.ks.length - (i + 1), by omega, _, ?_, i + 1, by omega, by omega, rfl⟩
        ((try simp only [List.length_append, List.length_cons, List.length_nil, Nat.zero_add]); refine Wk.intro [0, 1, 2, 3] (by decide) (by decide) (by intro o ho; simp at ho ⊢ <;> omega) ?_ ?_ <;> repeat' (first | (refine WkV.imm ?_; congr 1; omega) | (exact WkV.eqF (hup _ _ hj) (by simp)) | exact WkVL.nil | refine WkVL.cons ?_ ?_ | exact WkV.top | exact WkV.imm rfl | exact WkV.imm (by simp) | exact WkV.optr rfl | exact WkV.own rfl (by simp) | exact WkV.nil_own (.inl rfl) | exact WkV.map rfl | (refine WkV.free ?_; simp [Free, FreeL] <;> assumption) | (refine WkV.free (fun _ _ => FreeL_nth ?_ _); simp [Free, FreeL]; done) | refine WkV.agg ?_ | refine WkV.tup ?_ | refine WkV.fn ?_ ?_ | exact WkO.dead | exact WkO.raw | refine WkO.ghost ?_ | exact WkO.mpE rfl trivial | refine WkO.box ?_ rfl | refine WkO.arr ?_ | refine And.intro ?_ (And.intro (by first | exact fun h => h | exact fun _ => rfl | exact nofun) ?_) | exact trivial | (intro i j hi hj)))
      · have hie : i = b.ks.length := by omega
        subst hie
        have hv5 : ∀ i j, i < b.ks.length → j < 9 → mvE (shK by') b.ks b.ks.length i j = kyE (b.ks.map (shK by')) i j := fun i j p _ => mvE_end _ _ p
        have v2 := valid_tc (mvB (shK by') b) (by show (b.ks.map _).length ≤ _; rw [List.length_map]; omega)
        have hml : (b.ks.map (shK by')).length = b.ks.length := List.length_map _
        unfold mvB bdA bdL kys at v2
        dsimp only at v2
        rw [hml] at v2
        by_cases hc : bdB (mvB (shK by') b) = true
        · have v3 := v2
          unfold mvB at hc
          rw [hc] at v3
          have f1 := find_tc b v hl
          have f2 := find_tc (mvB (shK by') b) v (by show (b.ks.map _).length ≤ _; rw [List.length_map]; omega)
          rw [findR_sh hbd hc] at f2
          have h1 := hands_tc b ids hl hi
          have h2 := hands_tc (mvB (shK by') b) ids (by show (b.ks.map _).length ≤ _; rw [List.length_map]; omega) hi
          rw [handsR_mv (shK_mv by') hbd hc] at h2
          have q1 := chord_tc b vs hl hv
          have q2 := chord_tc (mvB (shK by') b) vs (by show (b.ks.map _).length ≤ _; rw [List.length_map]; omega) hv
          rw [chordR_sh hbd hc] at q2
          have s1 := h_same (findR b v).1 (by have := findR_len b v; omega)
          have s2 := h_same (handsR b ids).1 (by have := handsR_len b ids; omega)
          have s3 := h_same (handsR b ids).2.1 (by have := handsR_len b ids; omega)
          have s4 := h_same (chordR b vs).1 (by have := chordR_len b vs; omega)
          unfold mvB bdA bdL kys at f2 h2 q2
          dsimp only at f2 h2 q2
          rw [hml] at f2 h2 q2
          generalize (findR b v).1 = a1 at *
          generalize (findR b v).2 = e1 at *
          generalize (handsR b ids).1 = a2 at *
          generalize (handsR b ids).2.1 = a3 at *
          generalize (handsR b ids).2.2 = e2 at *
          generalize (chordR b vs).1 = a4 at *
          generalize (chordR b vs).2 = e3 at *
          clear v2
          have t1 : ∀ x : Int, (x == x) = true := fun x => by simp
          have t2 : ∀ x : Int, (x != x) = false := fun x => by simp
          (simp only [go_sem, ↓reduceIte, Nat.reduceAdd, Nat.reduceSub, Nat.reduceMul, Nat.reduceLT, Nat.reduceLeDiff, Nat.reduceEqDiff, Nat.reduceGT, Int.reduceToNat, Int.reduceBEq, Int.reduceBNe]; try simp (disch := omega) only [wrapI, wrapU, half_sum, toNat_sub1, toNat_add1, Int.toNat_natCast])
          (have dl1 := v3; have dm1 := f1; have dm2 := h1; have dm3 := q1; have cm1 := f2; have cm2 := h2; have cm3 := q2; have dl2 := s1; have dl3 := s2; have dl4 := s3; have dl5 := s4; have sx1 := t1; have sx2 := t2; repeat' (first | with_reducible refine T_seq_drawT (id := 4) Γ_ok drawsAny pl9_4 (by kernel_rfl) (fun K hK => ?_) | with_reducible refine T_last_drawT (id := 4) Γ_ok drawsAny pl9_4 (by kernel_rfl) (fun K hK => ?_) | with_reducible refine T_seq_drawT (id := 8) Γ_ok drawsAny pl9_8 (by kernel_rfl) (fun K hK => ?_) | with_reducible refine T_last_drawT (id := 8) Γ_ok drawsAny pl9_8 (by kernel_rfl) (fun K hK => ?_) | ((refine goR2 _ _ _ _ _ _ _ _ ?_ ?_ ?_ ?_ ?_ ?_ ?_ ?_) <;> (repeat intro hb) <;> first | exact True.intro | refine Lf.mk ?_)))
        · unfold mvB at hc
          rw [Bool.not_eq_true] at hc
          rw [hc] at v2
          (simp only [go_sem, ↓reduceIte, Nat.reduceAdd, Nat.reduceSub, Nat.reduceMul, Nat.reduceLT, Nat.reduceLeDiff, Nat.reduceEqDiff, Nat.reduceGT, Int.reduceToNat, Int.reduceBEq, Int.reduceBNe]; try simp (disch := omega) only [wrapI, wrapU, half_sum, toNat_sub1, toNat_add1, Int.toNat_natCast])
          (have dl1 := v2; repeat' (first | with_reducible refine T_seq_drawT (id := 4) Γ_ok drawsAny pl9_4 (by kernel_rfl) (fun K hK => ?_) | with_reducible refine T_last_drawT (id := 4) Γ_ok drawsAny pl9_4 (by kernel_rfl) (fun K hK => ?_) | with_reducible refine T_seq_drawT (id := 8) Γ_ok drawsAny pl9_8 (by kernel_rfl) (fun K hK => ?_) | with_reducible refine T_last_drawT (id := 8) Γ_ok drawsAny pl9_8 (by kernel_rfl) (fun K hK => ?_) | ((refine goR0 _ _ _ _ _ _ _ _ ?_ ?_ ?_ ?_ ?_ ?_ ?_ ?_) <;> (repeat intro hb) <;> first | exact True.intro | refine Lf.mk ?_)))
  · by_cases hv2 : bdB b = true
    · have hl2 := (bdB_iff.1 hv2).len
      rw [hv2] at c2
      have hby : ¬ (-1000 ≤ by' ∧ by' ≤ 1000) := fun h => hb ⟨hv2, h⟩
      (refine TC_of_T Γ_ok Tryd.func9 rfl (by kernel_rfl) ?_; simp only [Tryd.ntmps9, Tryd.results9, List.length_cons, List.length_nil, Nat.reduceSub, Nat.reduceAdd, List.replicate, List.cons_append, List.nil_append])
      (have cl1 := head_tc; have dl1 := c2; repeat' (first | with_reducible refine T_seq_drawT (id := 4) Γ_ok drawsAny pl9_4 (by kernel_rfl) (fun K hK => ?_) | with_reducible refine T_last_drawT (id := 4) Γ_ok drawsAny pl9_4 (by kernel_rfl) (fun K hK => ?_) | with_reducible refine T_seq_drawT (id := 8) Γ_ok drawsAny pl9_8 (by kernel_rfl) (fun K hK => ?_) | with_reducible refine T_last_drawT (id := 8) Γ_ok drawsAny pl9_8 (by kernel_rfl) (fun K hK => ?_) | ((refine goR0 _ _ _ _ _ _ _ _ ?_ ?_ ?_ ?_ ?_ ?_ ?_ ?_) <;> (repeat intro hb) <;> first | exact True.intro | refine Lf.mk ?_)))
    · rw [Bool.not_eq_true] at hv2
      rw [hv2] at c2
      (refine TC_of_T Γ_ok Tryd.func9 rfl (by kernel_rfl) ?_; simp only [Tryd.ntmps9, Tryd.results9, List.length_cons, List.length_nil, Nat.reduceSub, Nat.reduceAdd, List.replicate, List.cons_append, List.nil_append])
      (have cl1 := head_tc; have dl1 := c2; repeat' (first | with_reducible refine T_seq_drawT (id := 4) Γ_ok drawsAny pl9_4 (by kernel_rfl) (fun K hK => ?_) | with_reducible refine T_last_drawT (id := 4) Γ_ok drawsAny pl9_4 (by kernel_rfl) (fun K hK => ?_) | with_reducible refine T_seq_drawT (id := 8) Γ_ok drawsAny pl9_8 (by kernel_rfl) (fun K hK => ?_) | with_reducible refine T_last_drawT (id := 8) Γ_ok drawsAny pl9_8 (by kernel_rfl) (fun K hK => ?_) | ((refine goR0 _ _ _ _ _ _ _ _ ?_ ?_ ?_ ?_ ?_ ?_ ?_ ?_) <;> (repeat intro hb) <;> first | exact True.intro | refine Lf.mk ?_)))
end Go.Proofs.YtddcnafocohghaaDoor
