/-
  BoardTransposed: the walk of the law.
-/
import Derived.Test.YtddcnafocohghaaDoorQGo4
import Derived.Test.YtddcnafocohghaaDoorQD6
import Derived.Test.YtddcnafocohghaaDoorQD7a
import Derived.Test.YtddcnafocohghaaDoorQP7
set_option linter.unusedSimpArgs false
set_option linter.unusedVariables false
namespace Go.Proofs.YtddcnafocohghaaDoor
open Go.Ab
theorem rd_3_4 (f : Nat → Nat → AV) (i : Nat) (v : AV) : updE f i 3 [v] i 4 = f i 4 := by simp [updE]
theorem rd_3_5 (f : Nat → Nat → AV) (i : Nat) (v : AV) : updE f i 3 [v] i 5 = f i 5 := by simp [updE]
theorem rd_3_6 (f : Nat → Nat → AV) (i : Nat) (v : AV) : updE f i 3 [v] i 6 = f i 6 := by simp [updE]
theorem rd_3_7 (f : Nat → Nat → AV) (i : Nat) (v : AV) : updE f i 3 [v] i 7 = f i 7 := by simp [updE]
theorem rd_3_8 (f : Nat → Nat → AV) (i : Nat) (v : AV) : updE f i 3 [v] i 8 = f i 8 := by simp [updE]
theorem rd_4_5 (f : Nat → Nat → AV) (i : Nat) (v : AV) : updE f i 4 [v] i 5 = f i 5 := by simp [updE]
theorem rd_4_6 (f : Nat → Nat → AV) (i : Nat) (v : AV) : updE f i 4 [v] i 6 = f i 6 := by simp [updE]
theorem rd_4_7 (f : Nat → Nat → AV) (i : Nat) (v : AV) : updE f i 4 [v] i 7 = f i 7 := by simp [updE]
theorem rd_4_8 (f : Nat → Nat → AV) (i : Nat) (v : AV) : updE f i 4 [v] i 8 = f i 8 := by simp [updE]
theorem rd_5_6 (f : Nat → Nat → AV) (i : Nat) (v : AV) : updE f i 5 [v] i 6 = f i 6 := by simp [updE]
theorem rd_5_7 (f : Nat → Nat → AV) (i : Nat) (v : AV) : updE f i 5 [v] i 7 = f i 7 := by simp [updE]
theorem rd_5_8 (f : Nat → Nat → AV) (i : Nat) (v : AV) : updE f i 5 [v] i 8 = f i 8 := by simp [updE]
theorem rd_6_7 (f : Nat → Nat → AV) (i : Nat) (v : AV) : updE f i 6 [v] i 7 = f i 7 := by simp [updE]
theorem rd_6_8 (f : Nat → Nat → AV) (i : Nat) (v : AV) : updE f i 6 [v] i 8 = f i 8 := by simp [updE]
theorem rd_7_8 (f : Nat → Nat → AV) (i : Nat) (v : AV) : updE f i 7 [v] i 8 = f i 8 := by simp [updE]
theorem rv_0_1 (f : Nat → Nat → AV) (i : Nat) (v : AV) : updE f i 0 [v] i 1 = f i 1 := by simp [updE]
theorem rv_0_2 (f : Nat → Nat → AV) (i : Nat) (v : AV) : updE f i 0 [v] i 2 = f i 2 := by simp [updE]
theorem rv_0_3 (f : Nat → Nat → AV) (i : Nat) (v : AV) : updE f i 0 [v] i 3 = f i 3 := by simp [updE]
theorem rv_0_4 (f : Nat → Nat → AV) (i : Nat) (v : AV) : updE f i 0 [v] i 4 = f i 4 := by simp [updE]
theorem rv_0_5 (f : Nat → Nat → AV) (i : Nat) (v : AV) : updE f i 0 [v] i 5 = f i 5 := by simp [updE]
theorem rv_1_2 (f : Nat → Nat → AV) (i : Nat) (v : AV) : updE f i 1 [v] i 2 = f i 2 := by simp [updE]
theorem rv_1_3 (f : Nat → Nat → AV) (i : Nat) (v : AV) : updE f i 1 [v] i 3 = f i 3 := by simp [updE]
theorem rv_1_4 (f : Nat → Nat → AV) (i : Nat) (v : AV) : updE f i 1 [v] i 4 = f i 4 := by simp [updE]
theorem rv_1_5 (f : Nat → Nat → AV) (i : Nat) (v : AV) : updE f i 1 [v] i 5 = f i 5 := by simp [updE]
theorem rv_2_3 (f : Nat → Nat → AV) (i : Nat) (v : AV) : updE f i 2 [v] i 3 = f i 3 := by simp [updE]
theorem rv_2_4 (f : Nat → Nat → AV) (i : Nat) (v : AV) : updE f i 2 [v] i 4 = f i 4 := by simp [updE]
theorem rv_2_5 (f : Nat → Nat → AV) (i : Nat) (v : AV) : updE f i 2 [v] i 5 = f i 5 := by simp [updE]
theorem rv_3_4 (f : Nat → Nat → AV) (i : Nat) (v : AV) : updE f i 3 [v] i 4 = f i 4 := by simp [updE]
theorem rv_3_5 (f : Nat → Nat → AV) (i : Nat) (v : AV) : updE f i 3 [v] i 5 = f i 5 := by simp [updE]
theorem rv_4_5 (f : Nat → Nat → AV) (i : Nat) (v : AV) : updE f i 4 [v] i 5 = f i 5 := by simp [updE]
theorem re_0 (f : Nat → Nat → AV) (i : Nat) (v : AV) : updE f i 0 [v] i 0 = v := by simp [updE, nth]
theorem rw_1_0 (f : Nat → Nat → AV) (i : Nat) (v : AV) : updE f i 1 [v] i 0 = f i 0 := by simp [updE]
theorem re_1 (f : Nat → Nat → AV) (i : Nat) (v : AV) : updE f i 1 [v] i 1 = v := by simp [updE, nth]
theorem rw_2_0 (f : Nat → Nat → AV) (i : Nat) (v : AV) : updE f i 2 [v] i 0 = f i 0 := by simp [updE]
theorem rw_2_1 (f : Nat → Nat → AV) (i : Nat) (v : AV) : updE f i 2 [v] i 1 = f i 1 := by simp [updE]
theorem re_2 (f : Nat → Nat → AV) (i : Nat) (v : AV) : updE f i 2 [v] i 2 = v := by simp [updE, nth]
theorem rw_3_0 (f : Nat → Nat → AV) (i : Nat) (v : AV) : updE f i 3 [v] i 0 = f i 0 := by simp [updE]
theorem rw_3_1 (f : Nat → Nat → AV) (i : Nat) (v : AV) : updE f i 3 [v] i 1 = f i 1 := by simp [updE]
theorem rw_3_2 (f : Nat → Nat → AV) (i : Nat) (v : AV) : updE f i 3 [v] i 2 = f i 2 := by simp [updE]
theorem re_3 (f : Nat → Nat → AV) (i : Nat) (v : AV) : updE f i 3 [v] i 3 = v := by simp [updE, nth]
theorem rw_4_0 (f : Nat → Nat → AV) (i : Nat) (v : AV) : updE f i 4 [v] i 0 = f i 0 := by simp [updE]
theorem rw_4_1 (f : Nat → Nat → AV) (i : Nat) (v : AV) : updE f i 4 [v] i 1 = f i 1 := by simp [updE]
theorem rw_4_2 (f : Nat → Nat → AV) (i : Nat) (v : AV) : updE f i 4 [v] i 2 = f i 2 := by simp [updE]
theorem rw_4_3 (f : Nat → Nat → AV) (i : Nat) (v : AV) : updE f i 4 [v] i 3 = f i 3 := by simp [updE]
theorem re_4 (f : Nat → Nat → AV) (i : Nat) (v : AV) : updE f i 4 [v] i 4 = v := by simp [updE, nth]
theorem rw_5_0 (f : Nat → Nat → AV) (i : Nat) (v : AV) : updE f i 5 [v] i 0 = f i 0 := by simp [updE]
theorem rw_5_1 (f : Nat → Nat → AV) (i : Nat) (v : AV) : updE f i 5 [v] i 1 = f i 1 := by simp [updE]
theorem rw_5_2 (f : Nat → Nat → AV) (i : Nat) (v : AV) : updE f i 5 [v] i 2 = f i 2 := by simp [updE]
theorem rw_5_3 (f : Nat → Nat → AV) (i : Nat) (v : AV) : updE f i 5 [v] i 3 = f i 3 := by simp [updE]
theorem rw_5_4 (f : Nat → Nat → AV) (i : Nat) (v : AV) : updE f i 5 [v] i 4 = f i 4 := by simp [updE]
theorem re_5 (f : Nat → Nat → AV) (i : Nat) (v : AV) : updE f i 5 [v] i 5 = v := by simp [updE, nth]
theorem tr_sh (w : P6) (l : List Ky) (i : Nat) {v0 v1 v2 v3 v4 v5 : Int} (h0 : v0 = (gk l i).p.a + w.a * 12) (h1 : v1 = (gk l i).p.b + w.b * 12) (h2 : v2 = (gk l i).p.c + w.c * 12) (h3 : v3 = (gk l i).p.d + w.d * 12) (h4 : v4 = (gk l i).p.e + w.e * 12) (h5 : v5 = (gk l i).p.f + w.f * 12) {k j : Nat} (hj : j < 9) : (updE (updE (updE (updE (updE (updE (mvE (trK w) l i) i 3 [.imm (.int .i64 v0)]) i 4 [.imm (.int .i64 v1)]) i 5 [.imm (.int .i64 v2)]) i 6 [.imm (.int .i64 v3)]) i 7 [.imm (.int .i64 v4)]) i 8 [.imm (.int .i64 v5)]) k j = mvE (trK w) l (i + 1) k j := by
  subst h0 h1 h2 h3 h4 h5
  by_cases h : k = i
  · subst h
    unfold mvE
    rw [if_pos (show k < k + 1 by omega)]
    rcases j with _ | _ | _ | _ | _ | _ | _ | _ | _ | j
    all_goals first | (exfalso; omega) | (simp [updE, nth, trK, kyL, p6L, P6.add, P6.map2, P6.x12])
  · unfold mvE
    simp only [updE, h, false_and, if_false]
    by_cases h2 : k < i
    · rw [if_pos h2, if_pos (by omega)]
    · rw [if_neg h2, if_neg (by omega)]
def mvV (f : P6 → P6) (l : List P6) (i k j : Nat) : AV := nth (p6L (if k < i then f (gv l k) else gv l k)) j
theorem mvV_pl (f : P6 → P6) (l : List P6) (i k j : Nat) : Pl (mvV f l i k j) := by
  unfold mvV; rcases j with _ | _ | _ | _ | _ | _ | j <;> trivial
@[simp] theorem mvV_free (f : P6 → P6) (l : List P6) (i k j : Nat) : Free (mvV f l i k j) := Pl.free _ (mvV_pl f l i k j)
theorem mvV_0 (f : P6 → P6) (l : List P6) (k j : Nat) : mvV f l 0 k j = vtE l k j := by unfold mvV; rw [if_neg (by omega)]; rfl
theorem mvV_end (f : P6 → P6) (l : List P6) {k j : Nat} (h : k < l.length) : mvV f l l.length k j = vtE (l.map f) k j := by
  unfold mvV vtE; rw [if_pos h]; congr 2; simp [gv, h]
theorem mvV_at (f : P6 → P6) (l : List P6) (i : Nat) (j : Nat) : mvV f l i i j = vtE l i j := by unfold mvV; rw [if_neg (by omega)]; rfl
theorem tv_sh (w : P6) (l : List P6) (i : Nat) {v0 v1 v2 v3 v4 v5 : Int} (h0 : v0 = (gv l i).a + w.a) (h1 : v1 = (gv l i).b + w.b) (h2 : v2 = (gv l i).c + w.c) (h3 : v3 = (gv l i).d + w.d) (h4 : v4 = (gv l i).e + w.e) (h5 : v5 = (gv l i).f + w.f) {k j : Nat} (hj : j < 6) : (updE (updE (updE (updE (updE (updE (mvV (fun v => v.add w) l i) i 0 [.imm (.int .i64 v0)]) i 1 [.imm (.int .i64 v1)]) i 2 [.imm (.int .i64 v2)]) i 3 [.imm (.int .i64 v3)]) i 4 [.imm (.int .i64 v4)]) i 5 [.imm (.int .i64 v5)]) k j = mvV (fun v => v.add w) l (i + 1) k j := by
  subst h0 h1 h2 h3 h4 h5
  by_cases h : k = i
  · subst h
    unfold mvV
    rw [if_pos (show k < k + 1 by omega)]
    rcases j with _ | _ | _ | _ | _ | _ | j
    all_goals first | (exfalso; omega) | (simp [updE, nth, p6L, P6.add, P6.map2])
  · unfold mvV
    simp only [updE, h, false_and, if_false]
    by_cases h2 : k < i
    · rw [if_pos h2, if_pos (by omega)]
    · rw [if_neg h2, if_neg (by omega)]
set_option maxRecDepth 100000 in
set_option maxHeartbeats 4000000 in
theorem transposed_law (b : Bd) (vs : List P6) (w : P6) (hl : b.ks.length ≤ 9223372036854775807) (hv : vs.length * 48 ≤ 140737488351232) : Look Tryd.prog 10 [bdA b, vts vs, p6A w] (.imm (.bool true)) := by
  have c2 := valid_tc b hl
  have cw := valid_v w
  refine Look.mk trivial ?_
  by_cases hb : bdB b = true ∧ vOk w = true
  · have hbd := hb.1
    have hg := bdB_iff.1 hbd
    have hl2 := hg.len
    have hw := hb.2
    unfold vOk P6.all inB at hw
    simp only [Bool.and_eq_true, decide_eq_true_eq] at hw
    rw [hbd] at c2
    rw [hb.2] at cw
    (refine TC_of_T Γ_ok Tryd.func10 rfl (by kernel_rfl) ?_; simp only [Tryd.ntmps10, Tryd.results10, List.length_cons, List.length_nil, Nat.reduceSub, Nat.reduceAdd, List.replicate, List.cons_append, List.nil_append])
    (have cl1 := head_tc; have dl1 := c2; have dl2 := cw; repeat' (first | with_reducible refine T_seq_drawT (id := 4) Γ_ok drawsAny pl10_4 (by kernel_rfl) (fun K hK => ?_) | with_reducible refine T_last_drawT (id := 4) Γ_ok drawsAny pl10_4 (by kernel_rfl) (fun K hK => ?_) | with_reducible refine T_seq_drawT (id := 11) Γ_ok drawsAny pl10_11 (by kernel_rfl) (fun K hK => ?_) | with_reducible refine T_last_drawT (id := 11) Γ_ok drawsAny pl10_11 (by kernel_rfl) (fun K hK => ?_) | with_reducible refine T_seq_drawT (id := 21) Γ_ok drawsAny pl10_21 (by kernel_rfl) (fun K hK => ?_) | with_reducible refine T_last_drawT (id := 21) Γ_ok drawsAny pl10_21 (by kernel_rfl) (fun K hK => ?_) | ((refine goU0 _ _ _ _ _ _ _ _ _ _ _ _ ?_ ?_ ?_ ?_ ?_ ?_ ?_ ?_ ?_ ?_ ?_ ?_) <;> (repeat intro hb) <;> first | exact True.intro | refine Lf.mk ?_)))
    all_goals
      refine T_loopW (fun m st => ∃ i : Nat, i ≤ b.ks.length ∧ m + i = b.ks.length ∧
          st = ⟨[.top, vts vs, .top, .optr 0 0 0, .top, .optr 1 0 0, .imm (.bool false), .imm (.bool true), .optr 3 0 0, .imm (.int .i64 i)] ++ List.replicate 127 .top,
            [.box 24 (bdL b), .box 26 (p6L w), .arr 43 9 b.ks.length (mvE (trK w) b.ks i), .box 24 [.own 2 0 b.ks.length none, .imm (.int .i64 b.span), .imm (.int .i64 b.tol)]]⟩)
        b.ks.length ⟨_, ?_, 0, by omega, rfl, rfl⟩ ?_
      · have hz : ∀ k j, catE 0 (fun _ _ => AV.top) (kyE b.ks) k j = mvE (trK w) b.ks 0 k j := fun k j => by rw [mvE_0]; rfl
        first
        | (focus (((try simp only [List.length_append, List.length_cons, List.length_nil, Nat.zero_add]); refine Wk.intro [0, 1, 2, 3] (by decide) (by decide) (by intro o ho; simp at ho ⊢ <;> omega) ?_ ?_ <;> repeat' (first | (exact WkV.eqF (hz _ _) (by simp)) | exact WkVL.nil | refine WkVL.cons ?_ ?_ | exact WkV.top | exact WkV.imm rfl | exact WkV.imm (by simp) | exact WkV.optr rfl | exact WkV.own rfl (by simp) | exact WkV.nil_own (.inl rfl) | exact WkV.map rfl | (refine WkV.free ?_; simp [Free, FreeL] <;> assumption) | (refine WkV.free (fun _ _ => FreeL_nth ?_ _); simp [Free, FreeL]; done) | refine WkV.agg ?_ | refine WkV.tup ?_ | refine WkV.fn ?_ ?_ | exact WkO.dead | exact WkO.raw | refine WkO.ghost ?_ | exact WkO.mpE rfl trivial | refine WkO.box ?_ rfl | refine WkO.arr ?_ | refine And.intro ?_ (And.intro (by first | exact fun h => h | exact fun _ => rfl | exact nofun) ?_) | exact trivial | (intro i j hi hj))); done))
        | (focus (((try simp only [List.length_append, List.length_cons, List.length_nil, Nat.zero_add]); refine Wk.intro [0, 1, 3, 2] (by decide) (by decide) (by intro o ho; simp at ho ⊢ <;> omega) ?_ ?_ <;> repeat' (first | (exact WkV.eqF (hz _ _) (by simp)) | exact WkVL.nil | refine WkVL.cons ?_ ?_ | exact WkV.top | exact WkV.imm rfl | exact WkV.imm (by simp) | exact WkV.optr rfl | exact WkV.own rfl (by simp) | exact WkV.nil_own (.inl rfl) | exact WkV.map rfl | (refine WkV.free ?_; simp [Free, FreeL] <;> assumption) | (refine WkV.free (fun _ _ => FreeL_nth ?_ _); simp [Free, FreeL]; done) | refine WkV.agg ?_ | refine WkV.tup ?_ | refine WkV.fn ?_ ?_ | exact WkO.dead | exact WkO.raw | refine WkO.ghost ?_ | exact WkO.mpE rfl trivial | refine WkO.box ?_ rfl | refine WkO.arr ?_ | refine And.intro ?_ (And.intro (by first | exact fun h => h | exact fun _ => rfl | exact nofun) ?_) | exact trivial | (intro i j hi hj))); done))
      rintro m st ⟨i, h0, h1, rfl⟩
      by_cases hi2 : i < b.ks.length
      · have hone := hg.one _ (gk_mem hi2)
        have hp := hone.2.2.2.2.2.2
        unfold pOk P6.all inB at hp
        simp only [Bool.and_eq_true, decide_eq_true_eq] at hp
        have hat := mvE_at (trK w) b.ks i
        have hup := fun k j (hj : j < 9) => tr_sh w b.ks i (k := k) (j := j) (show (gk b.ks i).p.a + 12 * w.a = _ by omega) (show (gk b.ks i).p.b + 12 * w.b = _ by omega) (show (gk b.ks i).p.c + 12 * w.c = _ by omega) (show (gk b.ks i).p.d + 12 * w.d = _ by omega) (show (gk b.ks i).p.e + 12 * w.e = _ by omega) (show (gk b.ks i).p.f + 12 * w.f = _ by omega) hj
        (simp only [go_sem, ↓reduceIte, Nat.reduceAdd, Nat.reduceSub, Nat.reduceMul, Nat.reduceLT, Nat.reduceLeDiff, Nat.reduceEqDiff, Nat.reduceGT, Int.reduceToNat, Int.reduceBEq, Int.reduceBNe]; try simp (disch := omega) only [wrapI, wrapU, half_sum, toNat_sub1, toNat_add1, Int.toNat_natCast])
        (have sx1 := hat; repeat' (first | with_reducible refine T_seq_drawT (id := 4) Γ_ok drawsAny pl10_4 (by kernel_rfl) (fun K hK => ?_) | with_reducible refine T_last_drawT (id := 4) Γ_ok drawsAny pl10_4 (by kernel_rfl) (fun K hK => ?_) | with_reducible refine T_seq_drawT (id := 11) Γ_ok drawsAny pl10_11 (by kernel_rfl) (fun K hK => ?_) | with_reducible refine T_last_drawT (id := 11) Γ_ok drawsAny pl10_11 (by kernel_rfl) (fun K hK => ?_) | with_reducible refine T_seq_drawT (id := 21) Γ_ok drawsAny pl10_21 (by kernel_rfl) (fun K hK => ?_) | with_reducible refine T_last_drawT (id := 21) Γ_ok drawsAny pl10_21 (by kernel_rfl) (fun K hK => ?_) | ((refine goU1 _ _ _ _ _ _ _ _ _ _ _ _ ?_ ?_ ?_ ?_ ?_ ?_ ?_ ?_ ?_ ?_ ?_ ?_) <;> (repeat intro hb) <;> first | exact True.intro | refine Lf.mk ?_)))
        refine T_rounds 7 ?_
        (have sx1 := (And.intro hat (And.intro rd_3_4 (And.intro rd_3_5 (And.intro rd_3_6 (And.intro rd_3_7 (And.intro rd_3_8 (And.intro rd_4_5 (And.intro rd_4_6 (And.intro rd_4_7 (And.intro rd_4_8 (And.intro rd_5_6 (And.intro rd_5_7 (And.intro rd_5_8 (And.intro rd_6_7 (And.intro rd_6_8 rd_7_8))))))))))))))); repeat' (first | with_reducible refine T_seq_drawT (id := 4) Γ_ok drawsAny pl10_4 (by kernel_rfl) (fun K hK => ?_) | with_reducible refine T_last_drawT (id := 4) Γ_ok drawsAny pl10_4 (by kernel_rfl) (fun K hK => ?_) | with_reducible refine T_seq_drawT (id := 11) Γ_ok drawsAny pl10_11 (by kernel_rfl) (fun K hK => ?_) | with_reducible refine T_last_drawT (id := 11) Γ_ok drawsAny pl10_11 (by kernel_rfl) (fun K hK => ?_) | with_reducible refine T_seq_drawT (id := 21) Γ_ok drawsAny pl10_21 (by kernel_rfl) (fun K hK => ?_) | with_reducible refine T_last_drawT (id := 21) Γ_ok drawsAny pl10_21 (by kernel_rfl) (fun K hK => ?_) | ((refine goU1 _ _ _ _ _ _ _ _ _ _ _ _ ?_ ?_ ?_ ?_ ?_ ?_ ?_ ?_ ?_ ?_ ?_ ?_) <;> (repeat intro hb) <;> first | exact True.intro | refine Lf.mk ?_)))
        refine ⟨b.ks.length - (i + 1), by omega, _, ?_, i + 1, by omega, by omega, rfl⟩
        ((try simp only [List.length_append, List.length_cons, List.length_nil, Nat.zero_add]); refine Wk.intro [0, 1, 2, 3] (by decide) (by decide) (by intro o ho; simp at ho ⊢ <;> omega) ?_ ?_ <;> repeat' (first | (refine WkV.imm ?_; congr 1; omega) | (exact WkV.eqF (hup _ _ hj) (by simp)) | exact WkVL.nil | refine WkVL.cons ?_ ?_ | exact WkV.top | exact WkV.imm rfl | exact WkV.imm (by simp) | exact WkV.optr rfl | exact WkV.own rfl (by simp) | exact WkV.nil_own (.inl rfl) | exact WkV.map rfl | (refine WkV.free ?_; simp [Free, FreeL] <;> assumption) | (refine WkV.free (fun _ _ => FreeL_nth ?_ _); simp [Free, FreeL]; done) | refine WkV.agg ?_ | refine WkV.tup ?_ | refine WkV.fn ?_ ?_ | exact WkO.dead | exact WkO.raw | refine WkO.ghost ?_ | exact WkO.mpE rfl trivial | refine WkO.box ?_ rfl | refine WkO.arr ?_ | refine And.intro ?_ (And.intro (by first | exact fun h => h | exact fun _ => rfl | exact nofun) ?_) | exact trivial | (intro i j hi hj)))
      · have hie : i = b.ks.length := by omega
        subst hie
        (simp only [go_sem, ↓reduceIte, Nat.reduceAdd, Nat.reduceSub, Nat.reduceMul, Nat.reduceLT, Nat.reduceLeDiff, Nat.reduceEqDiff, Nat.reduceGT, Int.reduceToNat, Int.reduceBEq, Int.reduceBNe]; try simp (disch := omega) only [wrapI, wrapU, half_sum, toNat_sub1, toNat_add1, Int.toNat_natCast])
        (repeat' (first | with_reducible refine T_seq_drawT (id := 4) Γ_ok drawsAny pl10_4 (by kernel_rfl) (fun K hK => ?_) | with_reducible refine T_last_drawT (id := 4) Γ_ok drawsAny pl10_4 (by kernel_rfl) (fun K hK => ?_) | with_reducible refine T_seq_drawT (id := 11) Γ_ok drawsAny pl10_11 (by kernel_rfl) (fun K hK => ?_) | with_reducible refine T_last_drawT (id := 11) Γ_ok drawsAny pl10_11 (by kernel_rfl) (fun K hK => ?_) | with_reducible refine T_seq_drawT (id := 21) Γ_ok drawsAny pl10_21 (by kernel_rfl) (fun K hK => ?_) | with_reducible refine T_last_drawT (id := 21) Γ_ok drawsAny pl10_21 (by kernel_rfl) (fun K hK => ?_) | ((refine goU0 _ _ _ _ _ _ _ _ _ _ _ _ ?_ ?_ ?_ ?_ ?_ ?_ ?_ ?_ ?_ ?_ ?_ ?_) <;> (repeat intro hb) <;> first | exact True.intro | refine Lf.mk ?_)))
        all_goals
          refine T_loopW (fun m st => ∃ i : Nat, i ≤ vs.length ∧ m + i = vs.length ∧ (∀ v ∈ vs.take i, vOk v = true ∧ vOk (v.add w) = true) ∧
              st = ⟨[.top, vts vs, .top, .optr 0 0 0, .top, .optr 1 0 0, .imm (.bool false), .imm (.bool true), .optr 3 0 0, .top, .top, .own 4 0 vs.length none, .imm (.int .i64 i)] ++ List.replicate 124 .top,
                [.box 24 (bdL b), .box 26 (p6L w), .arr 43 9 b.ks.length (mvE (trK w) b.ks b.ks.length), .box 24 [.own 2 0 b.ks.length none, .imm (.int .i64 b.span), .imm (.int .i64 b.tol)],
                 .arr 26 6 vs.length (mvV (fun v => v.add w) vs i)]⟩)
            vs.length ⟨_, ?_, 0, by omega, rfl, by simp, rfl⟩ ?_
          · have hz : ∀ k j, catE 0 (fun _ _ => AV.top) (vtE vs) k j = mvV (fun v => v.add w) vs 0 k j := fun k j => by rw [mvV_0]; rfl
            ((try simp only [List.length_append, List.length_cons, List.length_nil, Nat.zero_add]); refine Wk.intro [0, 1, 2, 3, 5] (by decide) (by decide) (by intro o ho; simp at ho ⊢ <;> omega) ?_ ?_ <;> repeat' (first | (exact WkV.eqF (hz _ _) (by simp)) | exact WkVL.nil | refine WkVL.cons ?_ ?_ | exact WkV.top | exact WkV.imm rfl | exact WkV.imm (by simp) | exact WkV.optr rfl | exact WkV.own rfl (by simp) | exact WkV.nil_own (.inl rfl) | exact WkV.map rfl | (refine WkV.free ?_; simp [Free, FreeL] <;> assumption) | (refine WkV.free (fun _ _ => FreeL_nth ?_ _); simp [Free, FreeL]; done) | refine WkV.agg ?_ | refine WkV.tup ?_ | refine WkV.fn ?_ ?_ | exact WkO.dead | exact WkO.raw | refine WkO.ghost ?_ | exact WkO.mpE rfl trivial | refine WkO.box ?_ rfl | refine WkO.arr ?_ | refine And.intro ?_ (And.intro (by first | exact fun h => h | exact fun _ => rfl | exact nofun) ?_) | exact trivial | (intro i j hi hj)))
          rintro m st ⟨i, h0, h1, h2, rfl⟩
          by_cases hi2 : i < vs.length
          · have hat := mvV_at (fun v => v.add w) vs i
            have hup := fun k j (hj : j < 6) => tv_sh w vs i (k := k) (j := j) (show (gv vs i).a + w.a = _ by omega) (show (gv vs i).b + w.b = _ by omega) (show (gv vs i).c + w.c = _ by omega) (show (gv vs i).d + w.d = _ by omega) (show (gv vs i).e + w.e = _ by omega) (show (gv vs i).f + w.f = _ by omega) hj
            have cv := valid_v (gv vs i)
            by_cases hvi : vOk (gv vs i) = true
            · rw [hvi] at cv
              have hx := hvi
              unfold vOk P6.all inB at hx
              simp only [Bool.and_eq_true, decide_eq_true_eq] at hx
              have cx := valid_v ⟨(gv vs i).a + w.a, (gv vs i).b + w.b, (gv vs i).c + w.c, (gv vs i).d + w.d, (gv vs i).e + w.e, (gv vs i).f + w.f⟩
              by_cases hvx : vOk ((gv vs i).add w) = true
              · have hvx2 : vOk ⟨(gv vs i).a + w.a, (gv vs i).b + w.b, (gv vs i).c + w.c, (gv vs i).d + w.d, (gv vs i).e + w.e, (gv vs i).f + w.f⟩ = true := hvx
                rw [hvx2] at cx
                (simp only [go_sem, ↓reduceIte, Nat.reduceAdd, Nat.reduceSub, Nat.reduceMul, Nat.reduceLT, Nat.reduceLeDiff, Nat.reduceEqDiff, Nat.reduceGT, Int.reduceToNat, Int.reduceBEq, Int.reduceBNe]; try simp (disch := omega) only [wrapI, wrapU, half_sum, toNat_sub1, toNat_add1, Int.toNat_natCast])
                (have dl1 := cv; have sx1 := hat; repeat' (first | with_reducible refine T_seq_drawT (id := 4) Γ_ok drawsAny pl10_4 (by kernel_rfl) (fun K hK => ?_) | with_reducible refine T_last_drawT (id := 4) Γ_ok drawsAny pl10_4 (by kernel_rfl) (fun K hK => ?_) | with_reducible refine T_seq_drawT (id := 11) Γ_ok drawsAny pl10_11 (by kernel_rfl) (fun K hK => ?_) | with_reducible refine T_last_drawT (id := 11) Γ_ok drawsAny pl10_11 (by kernel_rfl) (fun K hK => ?_) | with_reducible refine T_seq_drawT (id := 21) Γ_ok drawsAny pl10_21 (by kernel_rfl) (fun K hK => ?_) | with_reducible refine T_last_drawT (id := 21) Γ_ok drawsAny pl10_21 (by kernel_rfl) (fun K hK => ?_) | ((refine goU1 _ _ _ _ _ _ _ _ _ _ _ _ ?_ ?_ ?_ ?_ ?_ ?_ ?_ ?_ ?_ ?_ ?_ ?_) <;> (repeat intro hb) <;> first | exact True.intro | refine Lf.mk ?_)))
                refine T_rounds 7 ?_
                (have dl1 := cx; have sx1 := (And.intro hat (And.intro rv_0_1 (And.intro rv_0_2 (And.intro rv_0_3 (And.intro rv_0_4 (And.intro rv_0_5 (And.intro rv_1_2 (And.intro rv_1_3 (And.intro rv_1_4 (And.intro rv_1_5 (And.intro rv_2_3 (And.intro rv_2_4 (And.intro rv_2_5 (And.intro rv_3_4 (And.intro rv_3_5 (And.intro rv_4_5 (And.intro rw_1_0 (And.intro rw_2_0 (And.intro rw_2_1 (And.intro rw_3_0 (And.intro rw_3_1 (And.intro rw_3_2 (And.intro rw_4_0 (And.intro rw_4_1 (And.intro rw_4_2 (And.intro rw_4_3 (And.intro rw_5_0 (And.intro rw_5_1 (And.intro rw_5_2 (And.intro rw_5_3 (And.intro rw_5_4 (And.intro re_0 (And.intro re_1 (And.intro re_2 (And.intro re_3 (And.intro re_4 re_5)))))))))))))))))))))))))))))))))))); repeat' (first | with_reducible refine T_seq_drawT (id := 4) Γ_ok drawsAny pl10_4 (by kernel_rfl) (fun K hK => ?_) | with_reducible refine T_last_drawT (id := 4) Γ_ok drawsAny pl10_4 (by kernel_rfl) (fun K hK => ?_) | with_reducible refine T_seq_drawT (id := 11) Γ_ok drawsAny pl10_11 (by kernel_rfl) (fun K hK => ?_) | with_reducible refine T_last_drawT (id := 11) Γ_ok drawsAny pl10_11 (by kernel_rfl) (fun K hK => ?_) | with_reducible refine T_seq_drawT (id := 21) Γ_ok drawsAny pl10_21 (by kernel_rfl) (fun K hK => ?_) | with_reducible refine T_last_drawT (id := 21) Γ_ok drawsAny pl10_21 (by kernel_rfl) (fun K hK => ?_) | ((refine goU1 _ _ _ _ _ _ _ _ _ _ _ _ ?_ ?_ ?_ ?_ ?_ ?_ ?_ ?_ ?_ ?_ ?_ ?_) <;> (repeat intro hb) <;> first | exact True.intro | refine Lf.mk ?_)))
                refine ⟨vs.length - (i + 1), by omega, _, ?_, i + 1, by omega, by omega, ?_, rfl⟩
                · ((try simp only [List.length_append, List.length_cons, List.length_nil, Nat.zero_add]); refine Wk.intro [0, 1, 2, 3, 4] (by decide) (by decide) (by intro o ho; simp at ho ⊢ <;> omega) ?_ ?_ <;> repeat' (first | (refine WkV.imm ?_; congr 1; omega) | (exact WkV.eqF (hup _ _ hj) (by simp)) | exact WkVL.nil | refine WkVL.cons ?_ ?_ | exact WkV.top | exact WkV.imm rfl | exact WkV.imm (by simp) | exact WkV.optr rfl | exact WkV.own rfl (by simp) | exact WkV.nil_own (.inl rfl) | exact WkV.map rfl | (refine WkV.free ?_; simp [Free, FreeL] <;> assumption) | (refine WkV.free (fun _ _ => FreeL_nth ?_ _); simp [Free, FreeL]; done) | refine WkV.agg ?_ | refine WkV.tup ?_ | refine WkV.fn ?_ ?_ | exact WkO.dead | exact WkO.raw | refine WkO.ghost ?_ | exact WkO.mpE rfl trivial | refine WkO.box ?_ rfl | refine WkO.arr ?_ | refine And.intro ?_ (And.intro (by first | exact fun h => h | exact fun _ => rfl | exact nofun) ?_) | exact trivial | (intro i j hi hj)))
                · rw [take_gv hi2]
                  intro v hv
                  rcases List.mem_append.1 hv with hv | hv
                  · exact h2 v hv
                  · rw [List.mem_singleton] at hv
                    subst hv
                    exact ⟨hvi, hvx⟩
              · rw [Bool.not_eq_true] at hvx
                have hvx2 : vOk ⟨(gv vs i).a + w.a, (gv vs i).b + w.b, (gv vs i).c + w.c, (gv vs i).d + w.d, (gv vs i).e + w.e, (gv vs i).f + w.f⟩ = false := hvx
                rw [hvx2] at cx
                (simp only [go_sem, ↓reduceIte, Nat.reduceAdd, Nat.reduceSub, Nat.reduceMul, Nat.reduceLT, Nat.reduceLeDiff, Nat.reduceEqDiff, Nat.reduceGT, Int.reduceToNat, Int.reduceBEq, Int.reduceBNe]; try simp (disch := omega) only [wrapI, wrapU, half_sum, toNat_sub1, toNat_add1, Int.toNat_natCast])
                (have dl1 := cv; have sx1 := hat; repeat' (first | with_reducible refine T_seq_drawT (id := 4) Γ_ok drawsAny pl10_4 (by kernel_rfl) (fun K hK => ?_) | with_reducible refine T_last_drawT (id := 4) Γ_ok drawsAny pl10_4 (by kernel_rfl) (fun K hK => ?_) | with_reducible refine T_seq_drawT (id := 11) Γ_ok drawsAny pl10_11 (by kernel_rfl) (fun K hK => ?_) | with_reducible refine T_last_drawT (id := 11) Γ_ok drawsAny pl10_11 (by kernel_rfl) (fun K hK => ?_) | with_reducible refine T_seq_drawT (id := 21) Γ_ok drawsAny pl10_21 (by kernel_rfl) (fun K hK => ?_) | with_reducible refine T_last_drawT (id := 21) Γ_ok drawsAny pl10_21 (by kernel_rfl) (fun K hK => ?_) | ((refine goU1 _ _ _ _ _ _ _ _ _ _ _ _ ?_ ?_ ?_ ?_ ?_ ?_ ?_ ?_ ?_ ?_ ?_ ?_) <;> (repeat intro hb) <;> first | exact True.intro | refine Lf.mk ?_)))
                refine T_rounds 7 ?_
                (have dl1 := cx; have sx1 := (And.intro hat (And.intro rv_0_1 (And.intro rv_0_2 (And.intro rv_0_3 (And.intro rv_0_4 (And.intro rv_0_5 (And.intro rv_1_2 (And.intro rv_1_3 (And.intro rv_1_4 (And.intro rv_1_5 (And.intro rv_2_3 (And.intro rv_2_4 (And.intro rv_2_5 (And.intro rv_3_4 (And.intro rv_3_5 (And.intro rv_4_5 (And.intro rw_1_0 (And.intro rw_2_0 (And.intro rw_2_1 (And.intro rw_3_0 (And.intro rw_3_1 (And.intro rw_3_2 (And.intro rw_4_0 (And.intro rw_4_1 (And.intro rw_4_2 (And.intro rw_4_3 (And.intro rw_5_0 (And.intro rw_5_1 (And.intro rw_5_2 (And.intro rw_5_3 (And.intro rw_5_4 (And.intro re_0 (And.intro re_1 (And.intro re_2 (And.intro re_3 (And.intro re_4 re_5)))))))))))))))))))))))))))))))))))); repeat' (first | with_reducible refine T_seq_drawT (id := 4) Γ_ok drawsAny pl10_4 (by kernel_rfl) (fun K hK => ?_) | with_reducible refine T_last_drawT (id := 4) Γ_ok drawsAny pl10_4 (by kernel_rfl) (fun K hK => ?_) | with_reducible refine T_seq_drawT (id := 11) Γ_ok drawsAny pl10_11 (by kernel_rfl) (fun K hK => ?_) | with_reducible refine T_last_drawT (id := 11) Γ_ok drawsAny pl10_11 (by kernel_rfl) (fun K hK => ?_) | with_reducible refine T_seq_drawT (id := 21) Γ_ok drawsAny pl10_21 (by kernel_rfl) (fun K hK => ?_) | with_reducible refine T_last_drawT (id := 21) Γ_ok drawsAny pl10_21 (by kernel_rfl) (fun K hK => ?_) | ((refine goU1 _ _ _ _ _ _ _ _ _ _ _ _ ?_ ?_ ?_ ?_ ?_ ?_ ?_ ?_ ?_ ?_ ?_ ?_) <;> (repeat intro hb) <;> first | exact True.intro | refine Lf.mk ?_)))
            · rw [Bool.not_eq_true] at hvi
              rw [hvi] at cv
              (simp only [go_sem, ↓reduceIte, Nat.reduceAdd, Nat.reduceSub, Nat.reduceMul, Nat.reduceLT, Nat.reduceLeDiff, Nat.reduceEqDiff, Nat.reduceGT, Int.reduceToNat, Int.reduceBEq, Int.reduceBNe]; try simp (disch := omega) only [wrapI, wrapU, half_sum, toNat_sub1, toNat_add1, Int.toNat_natCast])
              (have dl1 := cv; have sx1 := hat; repeat' (first | with_reducible refine T_seq_drawT (id := 4) Γ_ok drawsAny pl10_4 (by kernel_rfl) (fun K hK => ?_) | with_reducible refine T_last_drawT (id := 4) Γ_ok drawsAny pl10_4 (by kernel_rfl) (fun K hK => ?_) | with_reducible refine T_seq_drawT (id := 11) Γ_ok drawsAny pl10_11 (by kernel_rfl) (fun K hK => ?_) | with_reducible refine T_last_drawT (id := 11) Γ_ok drawsAny pl10_11 (by kernel_rfl) (fun K hK => ?_) | with_reducible refine T_seq_drawT (id := 21) Γ_ok drawsAny pl10_21 (by kernel_rfl) (fun K hK => ?_) | with_reducible refine T_last_drawT (id := 21) Γ_ok drawsAny pl10_21 (by kernel_rfl) (fun K hK => ?_) | ((refine goU1 _ _ _ _ _ _ _ _ _ _ _ _ ?_ ?_ ?_ ?_ ?_ ?_ ?_ ?_ ?_ ?_ ?_ ?_) <;> (repeat intro hb) <;> first | exact True.intro | refine Lf.mk ?_)))
          · have hie : i = vs.length := by omega
            subst hie
            rw [List.take_length] at h2
            have hv5 : ∀ i j, i < b.ks.length → j < 9 → mvE (trK w) b.ks b.ks.length i j = kyE (b.ks.map (trK w)) i j := fun i j p _ => mvE_end _ _ p
            have hv6 : ∀ i j, i < vs.length → j < 6 → mvV (fun v => v.add w) vs vs.length i j = vtE (vs.map fun v => v.add w) i j := fun i j p _ => mvV_end _ _ p
            have v2 := valid_tc (mvB (trK w) b) (by show (b.ks.map _).length ≤ _; rw [List.length_map]; omega)
            have hml : (b.ks.map (trK w)).length = b.ks.length := List.length_map _
            have hml2 : (vs.map fun v => v.add w).length = vs.length := List.length_map _
            unfold mvB bdA bdL kys at v2
            dsimp only at v2
            rw [hml] at v2
            by_cases hc : bdB (mvB (trK w) b) = true
            · have v3 := v2
              have q1 := chord_tc b vs hl hv
              have q2 := chord_tc (mvB (trK w) b) (vs.map fun v => v.add w) (by show (b.ks.map _).length ≤ _; rw [List.length_map]; omega) (by rw [List.length_map]; exact hv)
              rw [chordR_tr hbd hc (fun v hv => (h2 v hv).1) (fun v hv => (h2 v hv).2)] at q2
              have s4 := h_same (chordR b vs).1 (by have := chordR_len b vs; omega)
              unfold mvB at hc
              rw [hc] at v3
              unfold mvB bdA bdL kys vts at q2
              dsimp only at q2
              rw [hml, hml2] at q2
              generalize (chordR b vs).1 = a4 at *
              generalize (chordR b vs).2 = e3 at *
              clear v2
              have t1 : ∀ x : Int, (x == x) = true := fun x => by simp
              have t2 : ∀ x : Int, (x != x) = false := fun x => by simp
              (simp only [go_sem, ↓reduceIte, Nat.reduceAdd, Nat.reduceSub, Nat.reduceMul, Nat.reduceLT, Nat.reduceLeDiff, Nat.reduceEqDiff, Nat.reduceGT, Int.reduceToNat, Int.reduceBEq, Int.reduceBNe]; try simp (disch := omega) only [wrapI, wrapU, half_sum, toNat_sub1, toNat_add1, Int.toNat_natCast])
              (have dl1 := v3; have dm1 := q1; have cm1 := q2; have dl2 := s4; have sx1 := (And.intro t1 t2); repeat' (first | with_reducible refine T_seq_drawT (id := 4) Γ_ok drawsAny pl10_4 (by kernel_rfl) (fun K hK => ?_) | with_reducible refine T_last_drawT (id := 4) Γ_ok drawsAny pl10_4 (by kernel_rfl) (fun K hK => ?_) | with_reducible refine T_seq_drawT (id := 11) Γ_ok drawsAny pl10_11 (by kernel_rfl) (fun K hK => ?_) | with_reducible refine T_last_drawT (id := 11) Γ_ok drawsAny pl10_11 (by kernel_rfl) (fun K hK => ?_) | with_reducible refine T_seq_drawT (id := 21) Γ_ok drawsAny pl10_21 (by kernel_rfl) (fun K hK => ?_) | with_reducible refine T_last_drawT (id := 21) Γ_ok drawsAny pl10_21 (by kernel_rfl) (fun K hK => ?_) | ((refine goU1 _ _ _ _ _ _ _ _ _ _ _ _ ?_ ?_ ?_ ?_ ?_ ?_ ?_ ?_ ?_ ?_ ?_ ?_) <;> (repeat intro hb) <;> first | exact True.intro | refine Lf.mk ?_)))
            · unfold mvB at hc
              rw [Bool.not_eq_true] at hc
              rw [hc] at v2
              (simp only [go_sem, ↓reduceIte, Nat.reduceAdd, Nat.reduceSub, Nat.reduceMul, Nat.reduceLT, Nat.reduceLeDiff, Nat.reduceEqDiff, Nat.reduceGT, Int.reduceToNat, Int.reduceBEq, Int.reduceBNe]; try simp (disch := omega) only [wrapI, wrapU, half_sum, toNat_sub1, toNat_add1, Int.toNat_natCast])
              (have dl1 := v2; repeat' (first | with_reducible refine T_seq_drawT (id := 4) Γ_ok drawsAny pl10_4 (by kernel_rfl) (fun K hK => ?_) | with_reducible refine T_last_drawT (id := 4) Γ_ok drawsAny pl10_4 (by kernel_rfl) (fun K hK => ?_) | with_reducible refine T_seq_drawT (id := 11) Γ_ok drawsAny pl10_11 (by kernel_rfl) (fun K hK => ?_) | with_reducible refine T_last_drawT (id := 11) Γ_ok drawsAny pl10_11 (by kernel_rfl) (fun K hK => ?_) | with_reducible refine T_seq_drawT (id := 21) Γ_ok drawsAny pl10_21 (by kernel_rfl) (fun K hK => ?_) | with_reducible refine T_last_drawT (id := 21) Γ_ok drawsAny pl10_21 (by kernel_rfl) (fun K hK => ?_) | ((refine goU0 _ _ _ _ _ _ _ _ _ _ _ _ ?_ ?_ ?_ ?_ ?_ ?_ ?_ ?_ ?_ ?_ ?_ ?_) <;> (repeat intro hb) <;> first | exact True.intro | refine Lf.mk ?_)))
  · by_cases hv2 : bdB b = true
    · have hl2 := (bdB_iff.1 hv2).len
      rw [hv2] at c2
      have hw : vOk w = false := by rw [← Bool.not_eq_true]; exact fun h => hb ⟨hv2, h⟩
      rw [hw] at cw
      (refine TC_of_T Γ_ok Tryd.func10 rfl (by kernel_rfl) ?_; simp only [Tryd.ntmps10, Tryd.results10, List.length_cons, List.length_nil, Nat.reduceSub, Nat.reduceAdd, List.replicate, List.cons_append, List.nil_append])
      (have cl1 := head_tc; have dl1 := c2; have dl2 := cw; repeat' (first | with_reducible refine T_seq_drawT (id := 4) Γ_ok drawsAny pl10_4 (by kernel_rfl) (fun K hK => ?_) | with_reducible refine T_last_drawT (id := 4) Γ_ok drawsAny pl10_4 (by kernel_rfl) (fun K hK => ?_) | with_reducible refine T_seq_drawT (id := 11) Γ_ok drawsAny pl10_11 (by kernel_rfl) (fun K hK => ?_) | with_reducible refine T_last_drawT (id := 11) Γ_ok drawsAny pl10_11 (by kernel_rfl) (fun K hK => ?_) | with_reducible refine T_seq_drawT (id := 21) Γ_ok drawsAny pl10_21 (by kernel_rfl) (fun K hK => ?_) | with_reducible refine T_last_drawT (id := 21) Γ_ok drawsAny pl10_21 (by kernel_rfl) (fun K hK => ?_) | ((refine goU0 _ _ _ _ _ _ _ _ _ _ _ _ ?_ ?_ ?_ ?_ ?_ ?_ ?_ ?_ ?_ ?_ ?_ ?_) <;> (repeat intro hb) <;> first | exact True.intro | refine Lf.mk ?_)))
    · rw [Bool.not_eq_true] at hv2
      exact transposed_bad b vs w hl hv2
end Go.Proofs.YtddcnafocohghaaDoor
