/-
  Parts joined: R1 R2 R3.
-/
import Derived.Test.YtddcnafocohghaaDoorQGo3
import Derived.Test.YtddcnafocohghaaDoorQB3
import Derived.Test.YtddcnafocohghaaDoorQGo
import Derived.Test.YtddcnafocohghaaDoorQS5
set_option linter.unusedSimpArgs false
set_option linter.unusedVariables false
namespace Go.Proofs.YtddcnafocohghaaDoor
open Go.Ab
set_option maxRecDepth 100000 in
set_option maxHeartbeats 4000000 in
theorem rvalid_p (p : P6) : Look Tryd.prog 30 [p6A p] (.imm (.bool (pOk p))) := by
  refine Look.mk trivial ?_
  (refine TC_of_T Γ_ok Tryd.func30 rfl (by kernel_rfl) ?_; simp only [Tryd.ntmps30, Tryd.results30, List.length_cons, List.length_nil, Nat.reduceSub, Nat.reduceAdd, List.replicate, List.cons_append, List.nil_append])
  (have sx1 : (0 : Nat) + 0 = 0 := rfl; ((refine goU1 _ _ _ _ _ _ _ _ _ _ _ _ ?_ ?_ ?_ ?_ ?_ ?_ ?_ ?_ ?_ ?_ ?_ ?_) <;> (repeat intro hb) <;> first | exact True.intro | refine Lf.mk ?_))
  refine T_rounds 7 ?_
  (have sx1 : (0 : Nat) + 0 = 0 := rfl; ((refine goU1 _ _ _ _ _ _ _ _ _ _ _ _ ?_ ?_ ?_ ?_ ?_ ?_ ?_ ?_ ?_ ?_ ?_ ?_) <;> (repeat intro hb) <;> first | exact True.intro | refine Lf.mk ?_))
  all_goals (refine congrArg (fun b => AV.imm (.bool b)) ?_; simp only [pOk, P6.all, inB]; grind)
set_option maxRecDepth 100000 in
set_option maxHeartbeats 4000000 in
theorem rvalid_v (p : P6) : Look Tryd.prog 33 [p6A p] (.imm (.bool (vOk p))) := by
  refine Look.mk trivial ?_
  (refine TC_of_T Γ_ok Tryd.func33 rfl (by kernel_rfl) ?_; simp only [Tryd.ntmps33, Tryd.results33, List.length_cons, List.length_nil, Nat.reduceSub, Nat.reduceAdd, List.replicate, List.cons_append, List.nil_append])
  (have sx1 : (0 : Nat) + 0 = 0 := rfl; ((refine goU1 _ _ _ _ _ _ _ _ _ _ _ _ ?_ ?_ ?_ ?_ ?_ ?_ ?_ ?_ ?_ ?_ ?_ ?_) <;> (repeat intro hb) <;> first | exact True.intro | refine Lf.mk ?_))
  refine T_rounds 7 ?_
  (have sx1 : (0 : Nat) + 0 = 0 := rfl; ((refine goU1 _ _ _ _ _ _ _ _ _ _ _ _ ?_ ?_ ?_ ?_ ?_ ?_ ?_ ?_ ?_ ?_ ?_ ?_) <;> (repeat intro hb) <;> first | exact True.intro | refine Lf.mk ?_))
  all_goals (refine congrArg (fun b => AV.imm (.bool b)) ?_; simp only [vOk, P6.all, inB]; grind)
set_option maxRecDepth 100000 in
set_option maxHeartbeats 4000000 in
theorem lower_0 : Look Tryd.prog 81 [.imm (.int .i64 0)] (.imm (.int .i64 1000000000)) := by
  refine Look.mk trivial ?_
  (refine TC_of_T Γ_ok Tryd.func81 rfl (by kernel_rfl) ?_; simp only [Tryd.ntmps81, Tryd.results81, List.length_cons, List.length_nil, Nat.reduceSub, Nat.reduceAdd, List.replicate, List.cons_append, List.nil_append])
  (have sx1 : (0 : Nat) + 0 = 0 := rfl; ((refine goU1 _ _ _ _ _ _ _ _ _ _ _ _ ?_ ?_ ?_ ?_ ?_ ?_ ?_ ?_ ?_ ?_ ?_ ?_) <;> (repeat intro hb) <;> first | exact True.intro | refine Lf.mk ?_))
set_option maxRecDepth 100000 in
set_option maxHeartbeats 4000000 in
theorem lower_1 : Look Tryd.prog 81 [.imm (.int .i64 1)] (.imm (.int .i64 1584962500)) := by
  refine Look.mk trivial ?_
  (refine TC_of_T Γ_ok Tryd.func81 rfl (by kernel_rfl) ?_; simp only [Tryd.ntmps81, Tryd.results81, List.length_cons, List.length_nil, Nat.reduceSub, Nat.reduceAdd, List.replicate, List.cons_append, List.nil_append])
  (have sx1 : (0 : Nat) + 0 = 0 := rfl; ((refine goU1 _ _ _ _ _ _ _ _ _ _ _ _ ?_ ?_ ?_ ?_ ?_ ?_ ?_ ?_ ?_ ?_ ?_ ?_) <;> (repeat intro hb) <;> first | exact True.intro | refine Lf.mk ?_))
set_option maxRecDepth 100000 in
set_option maxHeartbeats 4000000 in
theorem lower_2 : Look Tryd.prog 81 [.imm (.int .i64 2)] (.imm (.int .i64 2321928094)) := by
  refine Look.mk trivial ?_
  (refine TC_of_T Γ_ok Tryd.func81 rfl (by kernel_rfl) ?_; simp only [Tryd.ntmps81, Tryd.results81, List.length_cons, List.length_nil, Nat.reduceSub, Nat.reduceAdd, List.replicate, List.cons_append, List.nil_append])
  (have sx1 : (0 : Nat) + 0 = 0 := rfl; ((refine goU1 _ _ _ _ _ _ _ _ _ _ _ _ ?_ ?_ ?_ ?_ ?_ ?_ ?_ ?_ ?_ ?_ ?_ ?_) <;> (repeat intro hb) <;> first | exact True.intro | refine Lf.mk ?_))
set_option maxRecDepth 100000 in
set_option maxHeartbeats 4000000 in
theorem lower_3 : Look Tryd.prog 81 [.imm (.int .i64 3)] (.imm (.int .i64 2807354922)) := by
  refine Look.mk trivial ?_
  (refine TC_of_T Γ_ok Tryd.func81 rfl (by kernel_rfl) ?_; simp only [Tryd.ntmps81, Tryd.results81, List.length_cons, List.length_nil, Nat.reduceSub, Nat.reduceAdd, List.replicate, List.cons_append, List.nil_append])
  (have sx1 : (0 : Nat) + 0 = 0 := rfl; ((refine goU1 _ _ _ _ _ _ _ _ _ _ _ _ ?_ ?_ ?_ ?_ ?_ ?_ ?_ ?_ ?_ ?_ ?_ ?_) <;> (repeat intro hb) <;> first | exact True.intro | refine Lf.mk ?_))
set_option maxRecDepth 100000 in
set_option maxHeartbeats 4000000 in
theorem lower_4 : Look Tryd.prog 81 [.imm (.int .i64 4)] (.imm (.int .i64 3459431618)) := by
  refine Look.mk trivial ?_
  (refine TC_of_T Γ_ok Tryd.func81 rfl (by kernel_rfl) ?_; simp only [Tryd.ntmps81, Tryd.results81, List.length_cons, List.length_nil, Nat.reduceSub, Nat.reduceAdd, List.replicate, List.cons_append, List.nil_append])
  (have sx1 : (0 : Nat) + 0 = 0 := rfl; ((refine goU1 _ _ _ _ _ _ _ _ _ _ _ _ ?_ ?_ ?_ ?_ ?_ ?_ ?_ ?_ ?_ ?_ ?_ ?_) <;> (repeat intro hb) <;> first | exact True.intro | refine Lf.mk ?_))
set_option maxRecDepth 100000 in
set_option maxHeartbeats 4000000 in
theorem lower_5 : Look Tryd.prog 81 [.imm (.int .i64 5)] (.imm (.int .i64 3700439718)) := by
  refine Look.mk trivial ?_
  (refine TC_of_T Γ_ok Tryd.func81 rfl (by kernel_rfl) ?_; simp only [Tryd.ntmps81, Tryd.results81, List.length_cons, List.length_nil, Nat.reduceSub, Nat.reduceAdd, List.replicate, List.cons_append, List.nil_append])
  (have sx1 : (0 : Nat) + 0 = 0 := rfl; ((refine goU1 _ _ _ _ _ _ _ _ _ _ _ _ ?_ ?_ ?_ ?_ ?_ ?_ ?_ ?_ ?_ ?_ ?_ ?_) <;> (repeat intro hb) <;> first | exact True.intro | refine Lf.mk ?_))
set_option maxRecDepth 100000 in
set_option maxHeartbeats 4000000 in
theorem upper_0 : Look Tryd.prog 82 [.imm (.int .i64 0)] (.imm (.int .i64 1000000000)) := by
  refine Look.mk trivial ?_
  (refine TC_of_T Γ_ok Tryd.func82 rfl (by kernel_rfl) ?_; simp only [Tryd.ntmps82, Tryd.results82, List.length_cons, List.length_nil, Nat.reduceSub, Nat.reduceAdd, List.replicate, List.cons_append, List.nil_append])
  (have cl1 := lower_0; have sx1 : (0 : Nat) + 0 = 0 := rfl; ((refine goU1 _ _ _ _ _ _ _ _ _ _ _ _ ?_ ?_ ?_ ?_ ?_ ?_ ?_ ?_ ?_ ?_ ?_ ?_) <;> (repeat intro hb) <;> first | exact True.intro | refine Lf.mk ?_))
set_option maxRecDepth 100000 in
set_option maxHeartbeats 4000000 in
theorem upper_1 : Look Tryd.prog 82 [.imm (.int .i64 1)] (.imm (.int .i64 1584962501)) := by
  refine Look.mk trivial ?_
  (refine TC_of_T Γ_ok Tryd.func82 rfl (by kernel_rfl) ?_; simp only [Tryd.ntmps82, Tryd.results82, List.length_cons, List.length_nil, Nat.reduceSub, Nat.reduceAdd, List.replicate, List.cons_append, List.nil_append])
  (have cl1 := lower_1; have sx1 : (0 : Nat) + 0 = 0 := rfl; ((refine goU1 _ _ _ _ _ _ _ _ _ _ _ _ ?_ ?_ ?_ ?_ ?_ ?_ ?_ ?_ ?_ ?_ ?_ ?_) <;> (repeat intro hb) <;> first | exact True.intro | refine Lf.mk ?_))
set_option maxRecDepth 100000 in
set_option maxHeartbeats 4000000 in
theorem upper_2 : Look Tryd.prog 82 [.imm (.int .i64 2)] (.imm (.int .i64 2321928095)) := by
  refine Look.mk trivial ?_
  (refine TC_of_T Γ_ok Tryd.func82 rfl (by kernel_rfl) ?_; simp only [Tryd.ntmps82, Tryd.results82, List.length_cons, List.length_nil, Nat.reduceSub, Nat.reduceAdd, List.replicate, List.cons_append, List.nil_append])
  (have cl1 := lower_2; have sx1 : (0 : Nat) + 0 = 0 := rfl; ((refine goU1 _ _ _ _ _ _ _ _ _ _ _ _ ?_ ?_ ?_ ?_ ?_ ?_ ?_ ?_ ?_ ?_ ?_ ?_) <;> (repeat intro hb) <;> first | exact True.intro | refine Lf.mk ?_))
set_option maxRecDepth 100000 in
set_option maxHeartbeats 4000000 in
theorem upper_3 : Look Tryd.prog 82 [.imm (.int .i64 3)] (.imm (.int .i64 2807354923)) := by
  refine Look.mk trivial ?_
  (refine TC_of_T Γ_ok Tryd.func82 rfl (by kernel_rfl) ?_; simp only [Tryd.ntmps82, Tryd.results82, List.length_cons, List.length_nil, Nat.reduceSub, Nat.reduceAdd, List.replicate, List.cons_append, List.nil_append])
  (have cl1 := lower_3; have sx1 : (0 : Nat) + 0 = 0 := rfl; ((refine goU1 _ _ _ _ _ _ _ _ _ _ _ _ ?_ ?_ ?_ ?_ ?_ ?_ ?_ ?_ ?_ ?_ ?_ ?_) <;> (repeat intro hb) <;> first | exact True.intro | refine Lf.mk ?_))
set_option maxRecDepth 100000 in
set_option maxHeartbeats 4000000 in
theorem upper_4 : Look Tryd.prog 82 [.imm (.int .i64 4)] (.imm (.int .i64 3459431619)) := by
  refine Look.mk trivial ?_
  (refine TC_of_T Γ_ok Tryd.func82 rfl (by kernel_rfl) ?_; simp only [Tryd.ntmps82, Tryd.results82, List.length_cons, List.length_nil, Nat.reduceSub, Nat.reduceAdd, List.replicate, List.cons_append, List.nil_append])
  (have cl1 := lower_4; have sx1 : (0 : Nat) + 0 = 0 := rfl; ((refine goU1 _ _ _ _ _ _ _ _ _ _ _ _ ?_ ?_ ?_ ?_ ?_ ?_ ?_ ?_ ?_ ?_ ?_ ?_) <;> (repeat intro hb) <;> first | exact True.intro | refine Lf.mk ?_))
set_option maxRecDepth 100000 in
set_option maxHeartbeats 4000000 in
theorem upper_5 : Look Tryd.prog 82 [.imm (.int .i64 5)] (.imm (.int .i64 3700439719)) := by
  refine Look.mk trivial ?_
  (refine TC_of_T Γ_ok Tryd.func82 rfl (by kernel_rfl) ?_; simp only [Tryd.ntmps82, Tryd.results82, List.length_cons, List.length_nil, Nat.reduceSub, Nat.reduceAdd, List.replicate, List.cons_append, List.nil_append])
  (have cl1 := lower_5; have sx1 : (0 : Nat) + 0 = 0 := rfl; ((refine goU1 _ _ _ _ _ _ _ _ _ _ _ _ ?_ ?_ ?_ ?_ ?_ ?_ ?_ ?_ ?_ ?_ ?_ ?_) <;> (repeat intro hb) <;> first | exact True.intro | refine Lf.mk ?_))
theorem ex_min (x l h : Int) (hl : l ≤ h) : (if x * h < x * l then x * h else x * l) = exL x l h := by
  unfold exL
  by_cases hx : x < 0
  · rw [if_pos hx]
    have : x * h ≤ x * l := Int.mul_le_mul_of_nonpos_left (by omega) hl
    split <;> omega
  · rw [if_neg hx]
    have : x * l ≤ x * h := Int.mul_le_mul_of_nonneg_left hl (by omega)
    rw [if_neg (by omega)]
theorem ex_max (x l h : Int) (hl : l ≤ h) : (if x * l < x * h then x * h else x * l) = exL x h l := by
  unfold exL
  by_cases hx : x < 0
  · rw [if_pos hx]
    have : x * h ≤ x * l := Int.mul_le_mul_of_nonpos_left (by omega) hl
    rw [if_neg (by omega)]
  · rw [if_neg hx]
    have : x * l ≤ x * h := Int.mul_le_mul_of_nonneg_left hl (by omega)
    split <;> omega
def stR (e : P6) (i : Nat) : St := ⟨[p6A e, .optr 0 0 0, .optr 1 0 0, .optr 2 0 0, .imm (.int .i64 (ixI i))] ++ List.replicate 34 .top, [.box 25 (p6L e), .box 80 [.imm (.int .i64 0), .imm (.int .i64 0)], .box 80 [.imm (.int .i64 (loS e i)), .imm (.int .i64 (hiS e i))]]⟩
set_option maxRecDepth 100000 in
set_option maxHeartbeats 4000000 in
theorem rexp_tc (e : P6) (h : Small e) : Look Tryd.prog 75 [p6A e] (.agg [.imm (.int .i64 (sizeLo e)), .imm (.int .i64 (sizeHi e))]) := by
  refine Look.mk (by simp [Pl, PlL]) ?_
  have hq := h
  unfold Small at hq
  (refine TC_of_T Γ_ok Tryd.func75 rfl (by kernel_rfl) ?_; simp only [Tryd.ntmps75, Tryd.results75, List.length_cons, List.length_nil, Nat.reduceSub, Nat.reduceAdd, List.replicate, List.cons_append, List.nil_append])
  (have sx1 : (0 : Nat) + 0 = 0 := rfl; ((refine goU1 _ _ _ _ _ _ _ _ _ _ _ _ ?_ ?_ ?_ ?_ ?_ ?_ ?_ ?_ ?_ ?_ ?_ ?_) <;> (repeat intro hb) <;> first | exact True.intro | refine Lf.mk ?_))
  refine T_loopW (fun m st => ∃ i : Nat, i ≤ 6 ∧ m + i = 6 ∧ st = stR e i) 6 ⟨_, ?_, 0, by omega, rfl, rfl⟩ ?_
  · unfold stR
    ((try simp only [List.length_append, List.length_cons, List.length_nil, Nat.zero_add]); refine Wk.intro [0, 1, 2] (by decide) (by decide) (by intro o ho; simp at ho ⊢ <;> omega) ?_ ?_ <;> repeat' (first | exact WkVL.nil | refine WkVL.cons ?_ ?_ | exact WkV.top | exact WkV.imm rfl | exact WkV.imm (by simp) | exact WkV.optr rfl | exact WkV.own rfl (by simp) | exact WkV.nil_own (.inl rfl) | exact WkV.map rfl | (refine WkV.free ?_; simp [Free, FreeL] <;> assumption) | (refine WkV.free (fun _ _ => FreeL_nth ?_ _); simp [Free, FreeL]; done) | refine WkV.agg ?_ | refine WkV.tup ?_ | refine WkV.fn ?_ ?_ | exact WkO.dead | exact WkO.raw | refine WkO.ghost ?_ | exact WkO.mpE rfl trivial | refine WkO.box ?_ rfl | refine WkO.arr ?_ | refine And.intro ?_ (And.intro (by first | exact fun h => h | exact fun _ => rfl | exact nofun) ?_) | exact trivial | (intro i j hi hj)))
  rintro m st ⟨i, h0, h1, rfl⟩
  unfold stR
  have hb1 := loS_bd h i
  have hb2 := hiS_bd h i
  obtain rfl | rfl | rfl | rfl | rfl | rfl | rfl : i = 0 ∨ i = 1 ∨ i = 2 ∨ i = 3 ∨ i = 4 ∨ i = 5 ∨ i = 6 := by omega
  case inr.inr.inr.inr.inr.inr =>
    rw [ixI_6, loS_6, hiS_6]
    (simp only [go_sem, ↓reduceIte, Nat.reduceAdd, Nat.reduceSub, Nat.reduceMul, Nat.reduceLT, Nat.reduceLeDiff, Nat.reduceEqDiff, Nat.reduceGT, Int.reduceToNat, Int.reduceBEq, Int.reduceBNe]; try simp (disch := omega) only [wrapI, wrapU, half_sum, toNat_sub1, toNat_add1, Int.toNat_natCast])
    (have sx1 : (0 : Nat) + 0 = 0 := rfl; ((refine goU1 _ _ _ _ _ _ _ _ _ _ _ _ ?_ ?_ ?_ ?_ ?_ ?_ ?_ ?_ ?_ ?_ ?_ ?_) <;> (repeat intro hb) <;> first | exact True.intro | refine Lf.mk ?_))
  case inl =>
    rw [ixI_0]
    have m0 := ex_min e.a 1000000000 1000000000 (by omega)
    have n0 := ex_max e.a 1000000000 1000000000 (by omega)
    have b0 := exL_bd (x := e.a) (l := 1000000000) (h := 1000000000) (by omega) (by omega) (by omega)
    have d0 := exL_bd (x := e.a) (l := 1000000000) (h := 1000000000) (by omega) (by omega) (by omega)
    have el : loS e 1 = loS e 0 + exL e.a 1000000000 1000000000 := rfl
    have eh : hiS e 1 = hiS e 0 + exL e.a 1000000000 1000000000 := rfl
    generalize exL e.a 1000000000 1000000000 = y0 at *
    
    (simp only [go_sem, ↓reduceIte, Nat.reduceAdd, Nat.reduceSub, Nat.reduceMul, Nat.reduceLT, Nat.reduceLeDiff, Nat.reduceEqDiff, Nat.reduceGT, Int.reduceToNat, Int.reduceBEq, Int.reduceBNe]; try simp (disch := omega) only [wrapI, wrapU, half_sum, toNat_sub1, toNat_add1, Int.toNat_natCast])
    (have dl1 := lower_0; have dl2 := upper_0; have sx1 := (And.intro m0 n0); repeat' (first | with_reducible refine T_seq_drawT (id := 5) Γ_ok drawsAny pl75_5 (by kernel_rfl) (fun K hK => ?_) | with_reducible refine T_last_drawT (id := 5) Γ_ok drawsAny pl75_5 (by kernel_rfl) (fun K hK => ?_) | with_reducible refine T_seq_drawT (id := 6) Γ_ok drawsAny pl75_6 (by kernel_rfl) (fun K hK => ?_) | with_reducible refine T_last_drawT (id := 6) Γ_ok drawsAny pl75_6 (by kernel_rfl) (fun K hK => ?_) | ((refine goU1 _ _ _ _ _ _ _ _ _ _ _ _ ?_ ?_ ?_ ?_ ?_ ?_ ?_ ?_ ?_ ?_ ?_ ?_) <;> (repeat intro hb) <;> first | exact True.intro | refine Lf.mk ?_)))
    all_goals
      refine ⟨6 - (0 + 1), by omega, _, ?_, 0 + 1, by omega, by omega, rfl⟩
      ((try simp only [List.length_append, List.length_cons, List.length_nil, Nat.zero_add]); refine Wk.intro [0, 1, 2] (by decide) (by decide) (by intro o ho; simp at ho ⊢ <;> omega) ?_ ?_ <;> repeat' (first | (refine WkV.imm ?_; congr 1; (first | rfl | (exact el.symm) | (exact eh.symm) | omega)) | exact WkVL.nil | refine WkVL.cons ?_ ?_ | exact WkV.top | exact WkV.imm rfl | exact WkV.imm (by simp) | exact WkV.optr rfl | exact WkV.own rfl (by simp) | exact WkV.nil_own (.inl rfl) | exact WkV.map rfl | (refine WkV.free ?_; simp [Free, FreeL] <;> assumption) | (refine WkV.free (fun _ _ => FreeL_nth ?_ _); simp [Free, FreeL]; done) | refine WkV.agg ?_ | refine WkV.tup ?_ | refine WkV.fn ?_ ?_ | exact WkO.dead | exact WkO.raw | refine WkO.ghost ?_ | exact WkO.mpE rfl trivial | refine WkO.box ?_ rfl | refine WkO.arr ?_ | refine And.intro ?_ (And.intro (by first | exact fun h => h | exact fun _ => rfl | exact nofun) ?_) | exact trivial | (intro i j hi hj)))
  case inr.inl =>
    rw [ixI_1]
    have m1 := ex_min e.b 1584962500 1584962501 (by omega)
    have n1 := ex_max e.b 1584962500 1584962501 (by omega)
    have b1 := exL_bd (x := e.b) (l := 1584962500) (h := 1584962501) (by omega) (by omega) (by omega)
    have d1 := exL_bd (x := e.b) (l := 1584962501) (h := 1584962500) (by omega) (by omega) (by omega)
    have el : loS e 2 = loS e 1 + exL e.b 1584962500 1584962501 := rfl
    have eh : hiS e 2 = hiS e 1 + exL e.b 1584962501 1584962500 := rfl
    generalize exL e.b 1584962500 1584962501 = y1 at *
    generalize exL e.b 1584962501 1584962500 = z1 at *
    (simp only [go_sem, ↓reduceIte, Nat.reduceAdd, Nat.reduceSub, Nat.reduceMul, Nat.reduceLT, Nat.reduceLeDiff, Nat.reduceEqDiff, Nat.reduceGT, Int.reduceToNat, Int.reduceBEq, Int.reduceBNe]; try simp (disch := omega) only [wrapI, wrapU, half_sum, toNat_sub1, toNat_add1, Int.toNat_natCast])
    (have dl1 := lower_1; have dl2 := upper_1; have sx1 := (And.intro m1 n1); repeat' (first | with_reducible refine T_seq_drawT (id := 5) Γ_ok drawsAny pl75_5 (by kernel_rfl) (fun K hK => ?_) | with_reducible refine T_last_drawT (id := 5) Γ_ok drawsAny pl75_5 (by kernel_rfl) (fun K hK => ?_) | with_reducible refine T_seq_drawT (id := 6) Γ_ok drawsAny pl75_6 (by kernel_rfl) (fun K hK => ?_) | with_reducible refine T_last_drawT (id := 6) Γ_ok drawsAny pl75_6 (by kernel_rfl) (fun K hK => ?_) | ((refine goU1 _ _ _ _ _ _ _ _ _ _ _ _ ?_ ?_ ?_ ?_ ?_ ?_ ?_ ?_ ?_ ?_ ?_ ?_) <;> (repeat intro hb) <;> first | exact True.intro | refine Lf.mk ?_)))
    all_goals
      refine ⟨6 - (1 + 1), by omega, _, ?_, 1 + 1, by omega, by omega, rfl⟩
      ((try simp only [List.length_append, List.length_cons, List.length_nil, Nat.zero_add]); refine Wk.intro [0, 1, 2] (by decide) (by decide) (by intro o ho; simp at ho ⊢ <;> omega) ?_ ?_ <;> repeat' (first | (refine WkV.imm ?_; congr 1; (first | rfl | (exact el.symm) | (exact eh.symm) | omega)) | exact WkVL.nil | refine WkVL.cons ?_ ?_ | exact WkV.top | exact WkV.imm rfl | exact WkV.imm (by simp) | exact WkV.optr rfl | exact WkV.own rfl (by simp) | exact WkV.nil_own (.inl rfl) | exact WkV.map rfl | (refine WkV.free ?_; simp [Free, FreeL] <;> assumption) | (refine WkV.free (fun _ _ => FreeL_nth ?_ _); simp [Free, FreeL]; done) | refine WkV.agg ?_ | refine WkV.tup ?_ | refine WkV.fn ?_ ?_ | exact WkO.dead | exact WkO.raw | refine WkO.ghost ?_ | exact WkO.mpE rfl trivial | refine WkO.box ?_ rfl | refine WkO.arr ?_ | refine And.intro ?_ (And.intro (by first | exact fun h => h | exact fun _ => rfl | exact nofun) ?_) | exact trivial | (intro i j hi hj)))
  case inr.inr.inl =>
    rw [ixI_2]
    have m2 := ex_min e.c 2321928094 2321928095 (by omega)
    have n2 := ex_max e.c 2321928094 2321928095 (by omega)
    have b2 := exL_bd (x := e.c) (l := 2321928094) (h := 2321928095) (by omega) (by omega) (by omega)
    have d2 := exL_bd (x := e.c) (l := 2321928095) (h := 2321928094) (by omega) (by omega) (by omega)
    have el : loS e 3 = loS e 2 + exL e.c 2321928094 2321928095 := rfl
    have eh : hiS e 3 = hiS e 2 + exL e.c 2321928095 2321928094 := rfl
    generalize exL e.c 2321928094 2321928095 = y2 at *
    generalize exL e.c 2321928095 2321928094 = z2 at *
    (simp only [go_sem, ↓reduceIte, Nat.reduceAdd, Nat.reduceSub, Nat.reduceMul, Nat.reduceLT, Nat.reduceLeDiff, Nat.reduceEqDiff, Nat.reduceGT, Int.reduceToNat, Int.reduceBEq, Int.reduceBNe]; try simp (disch := omega) only [wrapI, wrapU, half_sum, toNat_sub1, toNat_add1, Int.toNat_natCast])
    (have dl1 := lower_2; have dl2 := upper_2; have sx1 := (And.intro m2 n2); repeat' (first | with_reducible refine T_seq_drawT (id := 5) Γ_ok drawsAny pl75_5 (by kernel_rfl) (fun K hK => ?_) | with_reducible refine T_last_drawT (id := 5) Γ_ok drawsAny pl75_5 (by kernel_rfl) (fun K hK => ?_) | with_reducible refine T_seq_drawT (id := 6) Γ_ok drawsAny pl75_6 (by kernel_rfl) (fun K hK => ?_) | with_reducible refine T_last_drawT (id := 6) Γ_ok drawsAny pl75_6 (by kernel_rfl) (fun K hK => ?_) | ((refine goU1 _ _ _ _ _ _ _ _ _ _ _ _ ?_ ?_ ?_ ?_ ?_ ?_ ?_ ?_ ?_ ?_ ?_ ?_) <;> (repeat intro hb) <;> first | exact True.intro | refine Lf.mk ?_)))
    all_goals
      refine ⟨6 - (2 + 1), by omega, _, ?_, 2 + 1, by omega, by omega, rfl⟩
      ((try simp only [List.length_append, List.length_cons, List.length_nil, Nat.zero_add]); refine Wk.intro [0, 1, 2] (by decide) (by decide) (by intro o ho; simp at ho ⊢ <;> omega) ?_ ?_ <;> repeat' (first | (refine WkV.imm ?_; congr 1; (first | rfl | (exact el.symm) | (exact eh.symm) | omega)) | exact WkVL.nil | refine WkVL.cons ?_ ?_ | exact WkV.top | exact WkV.imm rfl | exact WkV.imm (by simp) | exact WkV.optr rfl | exact WkV.own rfl (by simp) | exact WkV.nil_own (.inl rfl) | exact WkV.map rfl | (refine WkV.free ?_; simp [Free, FreeL] <;> assumption) | (refine WkV.free (fun _ _ => FreeL_nth ?_ _); simp [Free, FreeL]; done) | refine WkV.agg ?_ | refine WkV.tup ?_ | refine WkV.fn ?_ ?_ | exact WkO.dead | exact WkO.raw | refine WkO.ghost ?_ | exact WkO.mpE rfl trivial | refine WkO.box ?_ rfl | refine WkO.arr ?_ | refine And.intro ?_ (And.intro (by first | exact fun h => h | exact fun _ => rfl | exact nofun) ?_) | exact trivial | (intro i j hi hj)))
  case inr.inr.inr.inl =>
    rw [ixI_3]
    have m3 := ex_min e.d 2807354922 2807354923 (by omega)
    have n3 := ex_max e.d 2807354922 2807354923 (by omega)
    have b3 := exL_bd (x := e.d) (l := 2807354922) (h := 2807354923) (by omega) (by omega) (by omega)
    have d3 := exL_bd (x := e.d) (l := 2807354923) (h := 2807354922) (by omega) (by omega) (by omega)
    have el : loS e 4 = loS e 3 + exL e.d 2807354922 2807354923 := rfl
    have eh : hiS e 4 = hiS e 3 + exL e.d 2807354923 2807354922 := rfl
    generalize exL e.d 2807354922 2807354923 = y3 at *
    generalize exL e.d 2807354923 2807354922 = z3 at *
    (simp only [go_sem, ↓reduceIte, Nat.reduceAdd, Nat.reduceSub, Nat.reduceMul, Nat.reduceLT, Nat.reduceLeDiff, Nat.reduceEqDiff, Nat.reduceGT, Int.reduceToNat, Int.reduceBEq, Int.reduceBNe]; try simp (disch := omega) only [wrapI, wrapU, half_sum, toNat_sub1, toNat_add1, Int.toNat_natCast])
    (have dl1 := lower_3; have dl2 := upper_3; have sx1 := (And.intro m3 n3); repeat' (first | with_reducible refine T_seq_drawT (id := 5) Γ_ok drawsAny pl75_5 (by kernel_rfl) (fun K hK => ?_) | with_reducible refine T_last_drawT (id := 5) Γ_ok drawsAny pl75_5 (by kernel_rfl) (fun K hK => ?_) | with_reducible refine T_seq_drawT (id := 6) Γ_ok drawsAny pl75_6 (by kernel_rfl) (fun K hK => ?_) | with_reducible refine T_last_drawT (id := 6) Γ_ok drawsAny pl75_6 (by kernel_rfl) (fun K hK => ?_) | ((refine goU1 _ _ _ _ _ _ _ _ _ _ _ _ ?_ ?_ ?_ ?_ ?_ ?_ ?_ ?_ ?_ ?_ ?_ ?_) <;> (repeat intro hb) <;> first | exact True.intro | refine Lf.mk ?_)))
    all_goals
      refine ⟨6 - (3 + 1), by omega, _, ?_, 3 + 1, by omega, by omega, rfl⟩
      ((try simp only [List.length_append, List.length_cons, List.length_nil, Nat.zero_add]); refine Wk.intro [0, 1, 2] (by decide) (by decide) (by intro o ho; simp at ho ⊢ <;> omega) ?_ ?_ <;> repeat' (first | (refine WkV.imm ?_; congr 1; (first | rfl | (exact el.symm) | (exact eh.symm) | omega)) | exact WkVL.nil | refine WkVL.cons ?_ ?_ | exact WkV.top | exact WkV.imm rfl | exact WkV.imm (by simp) | exact WkV.optr rfl | exact WkV.own rfl (by simp) | exact WkV.nil_own (.inl rfl) | exact WkV.map rfl | (refine WkV.free ?_; simp [Free, FreeL] <;> assumption) | (refine WkV.free (fun _ _ => FreeL_nth ?_ _); simp [Free, FreeL]; done) | refine WkV.agg ?_ | refine WkV.tup ?_ | refine WkV.fn ?_ ?_ | exact WkO.dead | exact WkO.raw | refine WkO.ghost ?_ | exact WkO.mpE rfl trivial | refine WkO.box ?_ rfl | refine WkO.arr ?_ | refine And.intro ?_ (And.intro (by first | exact fun h => h | exact fun _ => rfl | exact nofun) ?_) | exact trivial | (intro i j hi hj)))
  case inr.inr.inr.inr.inl =>
    rw [ixI_4]
    have m4 := ex_min e.e 3459431618 3459431619 (by omega)
    have n4 := ex_max e.e 3459431618 3459431619 (by omega)
    have b4 := exL_bd (x := e.e) (l := 3459431618) (h := 3459431619) (by omega) (by omega) (by omega)
    have d4 := exL_bd (x := e.e) (l := 3459431619) (h := 3459431618) (by omega) (by omega) (by omega)
    have el : loS e 5 = loS e 4 + exL e.e 3459431618 3459431619 := rfl
    have eh : hiS e 5 = hiS e 4 + exL e.e 3459431619 3459431618 := rfl
    generalize exL e.e 3459431618 3459431619 = y4 at *
    generalize exL e.e 3459431619 3459431618 = z4 at *
    (simp only [go_sem, ↓reduceIte, Nat.reduceAdd, Nat.reduceSub, Nat.reduceMul, Nat.reduceLT, Nat.reduceLeDiff, Nat.reduceEqDiff, Nat.reduceGT, Int.reduceToNat, Int.reduceBEq, Int.reduceBNe]; try simp (disch := omega) only [wrapI, wrapU, half_sum, toNat_sub1, toNat_add1, Int.toNat_natCast])
    (have dl1 := lower_4; have dl2 := upper_4; have sx1 := (And.intro m4 n4); repeat' (first | with_reducible refine T_seq_drawT (id := 5) Γ_ok drawsAny pl75_5 (by kernel_rfl) (fun K hK => ?_) | with_reducible refine T_last_drawT (id := 5) Γ_ok drawsAny pl75_5 (by kernel_rfl) (fun K hK => ?_) | with_reducible refine T_seq_drawT (id := 6) Γ_ok drawsAny pl75_6 (by kernel_rfl) (fun K hK => ?_) | with_reducible refine T_last_drawT (id := 6) Γ_ok drawsAny pl75_6 (by kernel_rfl) (fun K hK => ?_) | ((refine goU1 _ _ _ _ _ _ _ _ _ _ _ _ ?_ ?_ ?_ ?_ ?_ ?_ ?_ ?_ ?_ ?_ ?_ ?_) <;> (repeat intro hb) <;> first | exact True.intro | refine Lf.mk ?_)))
    all_goals
      refine ⟨6 - (4 + 1), by omega, _, ?_, 4 + 1, by omega, by omega, rfl⟩
      ((try simp only [List.length_append, List.length_cons, List.length_nil, Nat.zero_add]); refine Wk.intro [0, 1, 2] (by decide) (by decide) (by intro o ho; simp at ho ⊢ <;> omega) ?_ ?_ <;> repeat' (first | (refine WkV.imm ?_; congr 1; (first | rfl | (exact el.symm) | (exact eh.symm) | omega)) | exact WkVL.nil | refine WkVL.cons ?_ ?_ | exact WkV.top | exact WkV.imm rfl | exact WkV.imm (by simp) | exact WkV.optr rfl | exact WkV.own rfl (by simp) | exact WkV.nil_own (.inl rfl) | exact WkV.map rfl | (refine WkV.free ?_; simp [Free, FreeL] <;> assumption) | (refine WkV.free (fun _ _ => FreeL_nth ?_ _); simp [Free, FreeL]; done) | refine WkV.agg ?_ | refine WkV.tup ?_ | refine WkV.fn ?_ ?_ | exact WkO.dead | exact WkO.raw | refine WkO.ghost ?_ | exact WkO.mpE rfl trivial | refine WkO.box ?_ rfl | refine WkO.arr ?_ | refine And.intro ?_ (And.intro (by first | exact fun h => h | exact fun _ => rfl | exact nofun) ?_) | exact trivial | (intro i j hi hj)))
  case inr.inr.inr.inr.inr.inl =>
    rw [ixI_5]
    have m5 := ex_min e.f 3700439718 3700439719 (by omega)
    have n5 := ex_max e.f 3700439718 3700439719 (by omega)
    have b5 := exL_bd (x := e.f) (l := 3700439718) (h := 3700439719) (by omega) (by omega) (by omega)
    have d5 := exL_bd (x := e.f) (l := 3700439719) (h := 3700439718) (by omega) (by omega) (by omega)
    have el : loS e 6 = loS e 5 + exL e.f 3700439718 3700439719 := rfl
    have eh : hiS e 6 = hiS e 5 + exL e.f 3700439719 3700439718 := rfl
    generalize exL e.f 3700439718 3700439719 = y5 at *
    generalize exL e.f 3700439719 3700439718 = z5 at *
    (simp only [go_sem, ↓reduceIte, Nat.reduceAdd, Nat.reduceSub, Nat.reduceMul, Nat.reduceLT, Nat.reduceLeDiff, Nat.reduceEqDiff, Nat.reduceGT, Int.reduceToNat, Int.reduceBEq, Int.reduceBNe]; try simp (disch := omega) only [wrapI, wrapU, half_sum, toNat_sub1, toNat_add1, Int.toNat_natCast])
    (have dl1 := lower_5; have dl2 := upper_5; have sx1 := (And.intro m5 n5); repeat' (first | with_reducible refine T_seq_drawT (id := 5) Γ_ok drawsAny pl75_5 (by kernel_rfl) (fun K hK => ?_) | with_reducible refine T_last_drawT (id := 5) Γ_ok drawsAny pl75_5 (by kernel_rfl) (fun K hK => ?_) | with_reducible refine T_seq_drawT (id := 6) Γ_ok drawsAny pl75_6 (by kernel_rfl) (fun K hK => ?_) | with_reducible refine T_last_drawT (id := 6) Γ_ok drawsAny pl75_6 (by kernel_rfl) (fun K hK => ?_) | ((refine goU1 _ _ _ _ _ _ _ _ _ _ _ _ ?_ ?_ ?_ ?_ ?_ ?_ ?_ ?_ ?_ ?_ ?_ ?_) <;> (repeat intro hb) <;> first | exact True.intro | refine Lf.mk ?_)))
    all_goals
      refine ⟨6 - (5 + 1), by omega, _, ?_, 5 + 1, by omega, by omega, rfl⟩
      ((try simp only [List.length_append, List.length_cons, List.length_nil, Nat.zero_add]); refine Wk.intro [0, 1, 2] (by decide) (by decide) (by intro o ho; simp at ho ⊢ <;> omega) ?_ ?_ <;> repeat' (first | (refine WkV.imm ?_; congr 1; (first | rfl | (exact el.symm) | (exact eh.symm) | omega)) | exact WkVL.nil | refine WkVL.cons ?_ ?_ | exact WkV.top | exact WkV.imm rfl | exact WkV.imm (by simp) | exact WkV.optr rfl | exact WkV.own rfl (by simp) | exact WkV.nil_own (.inl rfl) | exact WkV.map rfl | (refine WkV.free ?_; simp [Free, FreeL] <;> assumption) | (refine WkV.free (fun _ _ => FreeL_nth ?_ _); simp [Free, FreeL]; done) | refine WkV.agg ?_ | refine WkV.tup ?_ | refine WkV.fn ?_ ?_ | exact WkO.dead | exact WkO.raw | refine WkO.ghost ?_ | exact WkO.mpE rfl trivial | refine WkO.box ?_ rfl | refine WkO.arr ?_ | refine And.intro ?_ (And.intro (by first | exact fun h => h | exact fun _ => rfl | exact nofun) ?_) | exact trivial | (intro i j hi hj)))
set_option maxRecDepth 100000 in
set_option maxHeartbeats 4000000 in
theorem rpure_tc (v : P6) (h : vOk v = true) : Look Tryd.prog 52 [p6A v] (p6A v.x12) := by
  have hb := h
  unfold vOk P6.all inB at hb
  simp only [Bool.and_eq_true, decide_eq_true_eq] at hb
  have e : ∀ x : Int, 12 * x = x * 12 := fun x => Int.mul_comm _ _
  refine Look.mk (by simp [Pl, PlL]) ?_
  (refine TC_of_T Γ_ok Tryd.func52 rfl (by kernel_rfl) ?_; simp only [Tryd.ntmps52, Tryd.results52, List.length_cons, List.length_nil, Nat.reduceSub, Nat.reduceAdd, List.replicate, List.cons_append, List.nil_append])
  (have sx1 : (0 : Nat) + 0 = 0 := rfl; ((refine goU1 _ _ _ _ _ _ _ _ _ _ _ _ ?_ ?_ ?_ ?_ ?_ ?_ ?_ ?_ ?_ ?_ ?_ ?_) <;> (repeat intro hb) <;> first | exact True.intro | refine Lf.mk ?_))
  refine T_rounds 7 ?_
  (have sx1 : (0 : Nat) + 0 = 0 := rfl; ((refine goU1 _ _ _ _ _ _ _ _ _ _ _ _ ?_ ?_ ?_ ?_ ?_ ?_ ?_ ?_ ?_ ?_ ?_ ?_) <;> (repeat intro hb) <;> first | exact True.intro | refine Lf.mk ?_))
  simp only [P6.x12, Int.mul_comm]
set_option maxRecDepth 100000 in
set_option maxHeartbeats 4000000 in
theorem rsurely_tc (l h x y : Int) : Look Tryd.prog 63 [.agg [.imm (.int .i64 l), .imm (.int .i64 h)], .imm (.int .i64 x), .imm (.int .i64 y)] (.imm (.int .i64 (surelyI l h x y))) := by
  refine Look.mk trivial ?_
  (refine TC_of_T Γ_ok Tryd.func63 rfl (by kernel_rfl) ?_; simp only [Tryd.ntmps63, Tryd.results63, List.length_cons, List.length_nil, Nat.reduceSub, Nat.reduceAdd, List.replicate, List.cons_append, List.nil_append])
  (have sx1 : (0 : Nat) + 0 = 0 := rfl; ((refine goU1 _ _ _ _ _ _ _ _ _ _ _ _ ?_ ?_ ?_ ?_ ?_ ?_ ?_ ?_ ?_ ?_ ?_ ?_) <;> (repeat intro hb) <;> first | exact True.intro | refine Lf.mk ?_))
  all_goals (congr 2; unfold surelyI)
  all_goals grind
set_option maxRecDepth 100000 in
set_option maxHeartbeats 4000000 in
theorem rgap_tc (p q : P6) : Look Tryd.prog 62 [p6A p, p6A q] (.tup [.agg [.imm (.int .i64 (gapR p q).1.1), .imm (.int .i64 (gapR p q).1.2)], .imm (.int .i64 (gapR p q).2)]) := by
  have h1 := rvalid_p p
  have h2 := rvalid_p q
  unfold gapR
  by_cases h : pOk p = true ∧ pOk q = true
  · rw [if_pos h]
    have he := rexp_tc (p.sub q) (pOk_sub h.1 h.2)
    have hp := h.1
    have hq := h.2
    rw [hp] at h1
    rw [hq] at h2
    unfold pOk P6.all inB at hp hq
    simp only [Bool.and_eq_true, decide_eq_true_eq] at hp hq
    refine Look.mk (by simp [Pl, PlL]) ?_
    (refine TC_of_T Γ_ok Tryd.func62 rfl (by kernel_rfl) ?_; simp only [Tryd.ntmps62, Tryd.results62, List.length_cons, List.length_nil, Nat.reduceSub, Nat.reduceAdd, List.replicate, List.cons_append, List.nil_append])
    (have dl1 := h1; have dl2 := h2; have sx1 : (0 : Nat) + 0 = 0 := rfl; repeat' (first | with_reducible refine T_seq_drawT (id := 7) Γ_ok drawsAny pl62_7 (by kernel_rfl) (fun K hK => ?_) | with_reducible refine T_last_drawT (id := 7) Γ_ok drawsAny pl62_7 (by kernel_rfl) (fun K hK => ?_) | ((refine goU1 _ _ _ _ _ _ _ _ _ _ _ _ ?_ ?_ ?_ ?_ ?_ ?_ ?_ ?_ ?_ ?_ ?_ ?_) <;> (repeat intro hb) <;> first | exact True.intro | refine Lf.mk ?_)))
    refine T_rounds 7 ?_
    (have cl1 := he; have sx1 : (0 : Nat) + 0 = 0 := rfl; repeat' (first | with_reducible refine T_seq_drawT (id := 7) Γ_ok drawsAny pl62_7 (by kernel_rfl) (fun K hK => ?_) | with_reducible refine T_last_drawT (id := 7) Γ_ok drawsAny pl62_7 (by kernel_rfl) (fun K hK => ?_) | ((refine goU1 _ _ _ _ _ _ _ _ _ _ _ _ ?_ ?_ ?_ ?_ ?_ ?_ ?_ ?_ ?_ ?_ ?_ ?_) <;> (repeat intro hb) <;> first | exact True.intro | refine Lf.mk ?_)))
  · rw [if_neg h]
    refine Look.mk (by simp [Pl, PlL]) ?_
    (refine TC_of_T Γ_ok Tryd.func62 rfl (by kernel_rfl) ?_; simp only [Tryd.ntmps62, Tryd.results62, List.length_cons, List.length_nil, Nat.reduceSub, Nat.reduceAdd, List.replicate, List.cons_append, List.nil_append])
    (have dl1 := h1; have dl2 := h2; have sx1 : (0 : Nat) + 0 = 0 := rfl; repeat' (first | with_reducible refine T_seq_drawT (id := 7) Γ_ok drawsAny pl62_7 (by kernel_rfl) (fun K hK => ?_) | with_reducible refine T_last_drawT (id := 7) Γ_ok drawsAny pl62_7 (by kernel_rfl) (fun K hK => ?_) | ((refine goU1 _ _ _ _ _ _ _ _ _ _ _ _ ?_ ?_ ?_ ?_ ?_ ?_ ?_ ?_ ?_ ?_ ?_ ?_) <;> (repeat intro hb) <;> first | exact True.intro | refine Lf.mk ?_)))
    exact absurd hb h
set_option maxRecDepth 100000 in
set_option maxHeartbeats 4000000 in
theorem rnear_tc (p q : P6) (t : Int) : Look Tryd.prog 51 [p6A p, p6A q, .imm (.int .i64 t)] (.tup [.imm (.int .i64 (nearI p q t).1), .imm (.int .i64 (nearI p q t).2)]) := by
  have hga := rgap_tc p q
  unfold gapR at hga
  unfold nearI
  by_cases h : pOk p = true ∧ pOk q = true
  · rw [if_pos h] at hga
    by_cases ht : 0 ≤ t ∧ t ≤ 2400000
    · rw [if_pos ⟨h.1, h.2, ht.1, ht.2⟩]
      refine Look.mk (by simp [Pl, PlL]) ?_
      (refine TC_of_T Γ_ok Tryd.func51 rfl (by kernel_rfl) ?_; simp only [Tryd.ntmps51, Tryd.results51, List.length_cons, List.length_nil, Nat.reduceSub, Nat.reduceAdd, List.replicate, List.cons_append, List.nil_append])
      (have dl1 := hga; have dl2 := fun u1 u2 u3 u4 => rsurely_tc u1 u2 u3 u4; have sx1 : (0 : Nat) + 0 = 0 := rfl; ((refine goU1 _ _ _ _ _ _ _ _ _ _ _ _ ?_ ?_ ?_ ?_ ?_ ?_ ?_ ?_ ?_ ?_ ?_ ?_) <;> (repeat intro hb) <;> first | exact True.intro | refine Lf.mk ?_))
    · rw [if_neg fun hh => ht hh.2.2]
      refine Look.mk (by simp [Pl, PlL]) ?_
      (refine TC_of_T Γ_ok Tryd.func51 rfl (by kernel_rfl) ?_; simp only [Tryd.ntmps51, Tryd.results51, List.length_cons, List.length_nil, Nat.reduceSub, Nat.reduceAdd, List.replicate, List.cons_append, List.nil_append])
      (have dl1 := hga; have dl2 := fun u1 u2 u3 u4 => rsurely_tc u1 u2 u3 u4; have sx1 : (0 : Nat) + 0 = 0 := rfl; ((refine goU1 _ _ _ _ _ _ _ _ _ _ _ _ ?_ ?_ ?_ ?_ ?_ ?_ ?_ ?_ ?_ ?_ ?_ ?_) <;> (repeat intro hb) <;> first | exact True.intro | refine Lf.mk ?_))
  · rw [if_neg h] at hga
    rw [if_neg fun hh => h ⟨hh.1, hh.2.1⟩]
    refine Look.mk (by simp [Pl, PlL]) ?_
    (refine TC_of_T Γ_ok Tryd.func51 rfl (by kernel_rfl) ?_; simp only [Tryd.ntmps51, Tryd.results51, List.length_cons, List.length_nil, Nat.reduceSub, Nat.reduceAdd, List.replicate, List.cons_append, List.nil_append])
    (have dl1 := hga; have dl2 := fun u1 u2 u3 u4 => rsurely_tc u1 u2 u3 u4; have sx1 : (0 : Nat) + 0 = 0 := rfl; ((refine goU1 _ _ _ _ _ _ _ _ _ _ _ _ ?_ ?_ ?_ ?_ ?_ ?_ ?_ ?_ ?_ ?_ ?_ ?_) <;> (repeat intro hb) <;> first | exact True.intro | refine Lf.mk ?_))
set_option maxRecDepth 100000 in
set_option maxHeartbeats 4000000 in
theorem rplays_tc (k : Ky) (tol : Int) (v : P6) (hv : vOk v = true) (hk : pOk k.p = true) (h0 : 0 ≤ tol) (h1 : tol ≤ 50000) : Look Tryd.prog 34 [.agg [.imm (.int .i64 k.id), .imm (.int .i64 k.x), .imm (.int .i64 k.row), .imm (.int .i64 k.p.a), .imm (.int .i64 k.p.b), .imm (.int .i64 k.p.c), .imm (.int .i64 k.p.d), .imm (.int .i64 k.p.e), .imm (.int .i64 k.p.f)], .imm (.int .i64 tol), p6A v] (.imm (.bool (near1 v.x12 k.p tol))) := by
  have c1 := rpure_tc v hv
  have c2 := rnear_tc v.x12 k.p tol
  have hn := near_near1 (x12_ok hv) hk h0 h1
  rw [hn.1] at c2
  have h3 := hn.2
  generalize (nearI v.x12 k.p tol).1 = x at c2 h3
  rw [← h3]
  refine Look.mk trivial ?_
  (refine TC_of_T Γ_ok Tryd.func34 rfl (by kernel_rfl) ?_; simp only [Tryd.ntmps34, Tryd.results34, List.length_cons, List.length_nil, Nat.reduceSub, Nat.reduceAdd, List.replicate, List.cons_append, List.nil_append])
  (have dl1 := c1; have dl2 := c2; have sx1 : (0 : Nat) + 0 = 0 := rfl; repeat' (first | with_reducible refine T_seq_drawT (id := 1) Γ_ok drawsAny pl34_1 (by kernel_rfl) (fun K hK => ?_) | with_reducible refine T_last_drawT (id := 1) Γ_ok drawsAny pl34_1 (by kernel_rfl) (fun K hK => ?_) | ((refine goU1 _ _ _ _ _ _ _ _ _ _ _ _ ?_ ?_ ?_ ?_ ?_ ?_ ?_ ?_ ?_ ?_ ?_ ?_) <;> (repeat intro hb) <;> first | exact True.intro | refine Lf.mk ?_)))
  refine congrArg (fun b => AV.imm (.bool b)) ?_
  rw [Bool.eq_iff_iff]; simp
end Go.Proofs.YtddcnafocohghaaDoor
namespace Go.Proofs.YtddcnafocohghaaDoor
open Go.Ab
def lastI (l : List Ky) : Nat → Int
  | 0 => 0
  | i + 1 => (gk l i).id
theorem takenB_iff {S : List Ky} {x r : Int} : takenB S x r = true ↔ ∃ y ∈ S, y.x = x ∧ y.row = r := by
  unfold takenB
  rw [List.any_eq_true]
  simp
theorem taken_take {l : List Ky} {i : Nat} (hi : i ≤ l.length) {x r : Int} : takenB (l.take i) x r = true ↔ ∃ j, j < i ∧ (gk l j).x = x ∧ (gk l j).row = r := by
  rw [takenB_iff]
  constructor
  · rintro ⟨y, hy, h⟩
    obtain ⟨j, hj, rfl⟩ := List.mem_iff_getElem.1 hy
    rw [List.length_take] at hj
    refine ⟨j, by omega, ?_⟩
    rw [List.getElem_take] at h
    simpa [gk, show j < l.length by omega] using h
  · rintro ⟨j, hj, h⟩
    refine ⟨gk l j, ?_, h⟩
    rw [List.mem_iff_getElem]
    exact ⟨j, by rw [List.length_take]; omega, by rw [List.getElem_take]; simp [gk, show j < l.length by omega]⟩
set_option maxRecDepth 100000 in
set_option maxHeartbeats 4000000 in
theorem rvalid_b (b : Bd) (hl : b.ks.length ≤ 9223372036854775807) : Look Tryd.prog 13 [bdA b] (.imm (.bool (bdB b))) := by
  refine Look.mk trivial ?_
  (refine TC_of_T Γ_ok Tryd.func13 rfl (by kernel_rfl) ?_; simp only [Tryd.ntmps13, Tryd.results13, List.length_cons, List.length_nil, Nat.reduceSub, Nat.reduceAdd, List.replicate, List.cons_append, List.nil_append])
  (repeat' (first | with_reducible refine T_seq_drawT (id := 7) Γ_ok drawsAny pl13_7 (by kernel_rfl) (fun K hK => ?_) | with_reducible refine T_last_drawT (id := 7) Γ_ok drawsAny pl13_7 (by kernel_rfl) (fun K hK => ?_) | with_reducible refine T_seq_drawT (id := 12) Γ_ok drawsAny pl13_12 (by kernel_rfl) (fun K hK => ?_) | with_reducible refine T_last_drawT (id := 12) Γ_ok drawsAny pl13_12 (by kernel_rfl) (fun K hK => ?_) | ((refine goR0 _ _ _ _ _ _ _ _ ?_ ?_ ?_ ?_ ?_ ?_ ?_ ?_) <;> (repeat intro hb) <;> first | exact True.intro | refine Lf.mk ?_)))
  · refine congrArg (fun b => AV.imm (.bool b)) ?_
    unfold bdB
    grind
  · have he : bdB b = keysB [] 0 b.ks := by unfold bdB; grind
    rw [he]
    have hl2 : b.ks.length ≤ 120 := by omega
    refine T_loopW (fun m st => ∃ (i : Nat), i ≤ b.ks.length ∧ m + i = b.ks.length ∧ keysB [] 0 b.ks = keysB (b.ks.take i) (lastI b.ks i) (b.ks.drop i) ∧ 0 ≤ lastI b.ks i ∧
      st = ⟨[.top, .optr 0 0 0, .imm (.bool false), .imm (.int .i64 i)] ++ List.replicate 113 .top, [.box 24 (bdL b)]⟩)
      b.ks.length ⟨_, ?_, 0, by omega, rfl, rfl, Int.le_refl _, rfl⟩ ?_
    · ((try simp only [List.length_append, List.length_cons, List.length_nil, Nat.zero_add]); refine Wk.intro [0] (by decide) (by decide) (by intro o ho; simp at ho ⊢ <;> omega) ?_ ?_ <;> repeat' (first | exact WkVL.nil | refine WkVL.cons ?_ ?_ | exact WkV.top | exact WkV.imm rfl | exact WkV.imm (by simp) | exact WkV.optr rfl | exact WkV.own rfl (by simp) | exact WkV.nil_own (.inl rfl) | exact WkV.map rfl | (refine WkV.free ?_; simp [Free, FreeL] <;> assumption) | (refine WkV.free (fun _ _ => FreeL_nth ?_ _); simp [Free, FreeL]; done) | refine WkV.agg ?_ | refine WkV.tup ?_ | refine WkV.fn ?_ ?_ | exact WkO.dead | exact WkO.raw | refine WkO.ghost ?_ | exact WkO.mpE rfl trivial | refine WkO.box ?_ rfl | refine WkO.arr ?_ | refine And.intro ?_ (And.intro (by first | exact fun h => h | exact fun _ => rfl | exact nofun) ?_) | exact trivial | (intro i j hi hj)))
    rintro m st ⟨i, h0, h1, h2, hl0, rfl⟩
    by_cases hi : i < b.ks.length
    · have hp := rvalid_p (gk b.ks i).p
      rw [keysB_drop _ _ hi] at h2
      have hlast : 0 < i → lastI b.ks i = (gk b.ks (i - 1)).id := fun h => by
        obtain ⟨n, rfl⟩ : ∃ n, i = n + 1 := ⟨i - 1, by omega⟩
        rfl
      have hlast0 : i = 0 → lastI b.ks i = 0 := fun h => by rw [h]; rfl
      generalize lastI b.ks i = last at h2 hlast hlast0 hl0
      (simp only [go_sem, ↓reduceIte, Nat.reduceAdd, Nat.reduceSub, Nat.reduceMul, Nat.reduceLT, Nat.reduceLeDiff, Nat.reduceEqDiff, Nat.reduceGT, Int.reduceToNat, Int.reduceBEq, Int.reduceBNe]; try simp (disch := omega) only [wrapI, wrapU, half_sum, toNat_sub1, toNat_add1, Int.toNat_natCast])
      (have dl1 := hp; repeat' (first | with_reducible refine T_seq_drawT (id := 7) Γ_ok drawsAny pl13_7 (by kernel_rfl) (fun K hK => ?_) | with_reducible refine T_last_drawT (id := 7) Γ_ok drawsAny pl13_7 (by kernel_rfl) (fun K hK => ?_) | with_reducible refine T_seq_drawT (id := 12) Γ_ok drawsAny pl13_12 (by kernel_rfl) (fun K hK => ?_) | with_reducible refine T_last_drawT (id := 12) Γ_ok drawsAny pl13_12 (by kernel_rfl) (fun K hK => ?_) | ((refine goR0 _ _ _ _ _ _ _ _ ?_ ?_ ?_ ?_ ?_ ?_ ?_ ?_) <;> (repeat intro hb) <;> first | exact True.intro | refine Lf.mk ?_)))
      · refine congrArg (fun b => AV.imm (.bool b)) ?_
        have hk : keyB last (gk b.ks i) = false := by
          rw [← Bool.not_eq_true, keyB_iff]
          rintro ⟨k1, k2, k3, k4, k5, k6, k7⟩
          rw [k7] at hb
          simp only [Bool.true_eq_false, or_false] at hb
          rcases Nat.eq_zero_or_pos i with hz | hz
          · have := hlast0 hz
            omega
          · have := hlast hz
            omega
        rw [h2, hk]
        rfl
      · have hk : keyB last (gk b.ks i) = true := by
          rw [keyB_iff]
          obtain ⟨⟨⟨⟨⟨⟨⟨k1, k2⟩, k3⟩, k4⟩, k5⟩, k6⟩, k8⟩, k7⟩ := hb
          refine ⟨?_, k2, k4, k5, k6, k8, k7⟩
          rcases Nat.eq_zero_or_pos i with hz | hz
          · have := hlast0 hz
            omega
          · have := hlast hz
            have := k3 (by omega)
            omega
        rw [hk] at h2
        refine T_loopW (fun m st => ∃ (j : Nat), j ≤ i ∧ m + j = i ∧ (∀ q, q < j → ¬ ((gk b.ks q).x = (gk b.ks i).x ∧ (gk b.ks q).row = (gk b.ks i).row)) ∧
          st = ⟨[.top, .optr 0 0 0, .imm (.bool false), .imm (.int .i64 i), .optr 1 0 0, .imm (.int .i64 j)] ++ List.replicate 111 .top, [.box 24 (bdL b), .box 43 (kyL (gk b.ks i))]⟩)
          i ⟨_, ?_, 0, by omega, rfl, (by intro q h; omega), rfl⟩ ?_
        · ((try simp only [List.length_append, List.length_cons, List.length_nil, Nat.zero_add]); refine Wk.intro [0, 1] (by decide) (by decide) (by intro o ho; simp at ho ⊢ <;> omega) ?_ ?_ <;> repeat' (first | exact WkVL.nil | refine WkVL.cons ?_ ?_ | exact WkV.top | exact WkV.imm rfl | exact WkV.imm (by simp) | exact WkV.optr rfl | exact WkV.own rfl (by simp) | exact WkV.nil_own (.inl rfl) | exact WkV.map rfl | (refine WkV.free ?_; simp [Free, FreeL] <;> assumption) | (refine WkV.free (fun _ _ => FreeL_nth ?_ _); simp [Free, FreeL]; done) | refine WkV.agg ?_ | refine WkV.tup ?_ | refine WkV.fn ?_ ?_ | exact WkO.dead | exact WkO.raw | refine WkO.ghost ?_ | exact WkO.mpE rfl trivial | refine WkO.box ?_ rfl | refine WkO.arr ?_ | refine And.intro ?_ (And.intro (by first | exact fun h => h | exact fun _ => rfl | exact nofun) ?_) | exact trivial | (intro i j hi hj)))
        rintro m2 st ⟨j, g0, g1, g2, rfl⟩
        have hjl : j < i → j < b.ks.length := fun h => by omega
        have hid : 0 ≤ (gk b.ks i).id := by have := (keyB_iff.1 hk).1; omega
        (simp only [go_sem, ↓reduceIte, Nat.reduceAdd, Nat.reduceSub, Nat.reduceMul, Nat.reduceLT, Nat.reduceLeDiff, Nat.reduceEqDiff, Nat.reduceGT, Int.reduceToNat, Int.reduceBEq, Int.reduceBNe]; try simp (disch := omega) only [wrapI, wrapU, half_sum, toNat_sub1, toNat_add1, Int.toNat_natCast])
        (repeat' (first | with_reducible refine T_seq_drawT (id := 7) Γ_ok drawsAny pl13_7 (by kernel_rfl) (fun K hK => ?_) | with_reducible refine T_last_drawT (id := 7) Γ_ok drawsAny pl13_7 (by kernel_rfl) (fun K hK => ?_) | with_reducible refine T_seq_drawT (id := 12) Γ_ok drawsAny pl13_12 (by kernel_rfl) (fun K hK => ?_) | with_reducible refine T_last_drawT (id := 12) Γ_ok drawsAny pl13_12 (by kernel_rfl) (fun K hK => ?_) | ((refine goR0 _ _ _ _ _ _ _ _ ?_ ?_ ?_ ?_ ?_ ?_ ?_ ?_) <;> (repeat intro hb) <;> first | exact True.intro | refine Lf.mk ?_)))
        · refine congrArg (fun b => AV.imm (.bool b)) ?_
          rw [h2, (taken_take (by omega)).2 ⟨j, by omega, hb⟩]
          rfl
        · refine ⟨i - (j + 1), by omega, _, ?_, j + 1, by omega, by omega, ?_, rfl⟩
          · ((try simp only [List.length_append, List.length_cons, List.length_nil, Nat.zero_add]); refine Wk.intro [0, 1] (by decide) (by decide) (by intro o ho; simp at ho ⊢ <;> omega) ?_ ?_ <;> repeat' (first | (refine WkV.imm ?_; congr 1; omega) | exact WkVL.nil | refine WkVL.cons ?_ ?_ | exact WkV.top | exact WkV.imm rfl | exact WkV.imm (by simp) | exact WkV.optr rfl | exact WkV.own rfl (by simp) | exact WkV.nil_own (.inl rfl) | exact WkV.map rfl | (refine WkV.free ?_; simp [Free, FreeL] <;> assumption) | (refine WkV.free (fun _ _ => FreeL_nth ?_ _); simp [Free, FreeL]; done) | refine WkV.agg ?_ | refine WkV.tup ?_ | refine WkV.fn ?_ ?_ | exact WkO.dead | exact WkO.raw | refine WkO.ghost ?_ | exact WkO.mpE rfl trivial | refine WkO.box ?_ rfl | refine WkO.arr ?_ | refine And.intro ?_ (And.intro (by first | exact fun h => h | exact fun _ => rfl | exact nofun) ?_) | exact trivial | (intro i j hi hj)))
          · intro q hq
            by_cases hqj : q = j
            · subst hqj
              exact fun h => hb h.1 h.2
            · exact g2 q (by omega)
        · have ht : takenB (b.ks.take i) (gk b.ks i).x (gk b.ks i).row = false := by
            rw [← Bool.not_eq_true, taken_take (by omega)]
            rintro ⟨q, q1, q2⟩
            exact g2 q (by omega) q2
          rw [ht, ← take_gk hi] at h2
          refine ⟨b.ks.length - (i + 1), by omega, _, ?_, i + 1, by omega, by omega, h2, hid, rfl⟩
          ((try simp only [List.length_append, List.length_cons, List.length_nil, Nat.zero_add]); refine Wk.intro [0] (by decide) (by decide) (by intro o ho; simp at ho ⊢ <;> omega) ?_ ?_ <;> repeat' (first | (refine WkV.imm ?_; congr 1; omega) | exact WkVL.nil | refine WkVL.cons ?_ ?_ | exact WkV.top | exact WkV.imm rfl | exact WkV.imm (by simp) | exact WkV.optr rfl | exact WkV.own rfl (by simp) | exact WkV.nil_own (.inl rfl) | exact WkV.map rfl | (refine WkV.free ?_; simp [Free, FreeL] <;> assumption) | (refine WkV.free (fun _ _ => FreeL_nth ?_ _); simp [Free, FreeL]; done) | refine WkV.agg ?_ | refine WkV.tup ?_ | refine WkV.fn ?_ ?_ | exact WkO.dead | exact WkO.raw | refine WkO.ghost ?_ | exact WkO.mpE rfl trivial | refine WkO.box ?_ rfl | refine WkO.arr ?_ | refine And.intro ?_ (And.intro (by first | exact fun h => h | exact fun _ => rfl | exact nofun) ?_) | exact trivial | (intro i j hi hj)))
    · (simp only [go_sem, ↓reduceIte, Nat.reduceAdd, Nat.reduceSub, Nat.reduceMul, Nat.reduceLT, Nat.reduceLeDiff, Nat.reduceEqDiff, Nat.reduceGT, Int.reduceToNat, Int.reduceBEq, Int.reduceBNe]; try simp (disch := omega) only [wrapI, wrapU, half_sum, toNat_sub1, toNat_add1, Int.toNat_natCast])
      (repeat' (first | with_reducible refine T_seq_drawT (id := 7) Γ_ok drawsAny pl13_7 (by kernel_rfl) (fun K hK => ?_) | with_reducible refine T_last_drawT (id := 7) Γ_ok drawsAny pl13_7 (by kernel_rfl) (fun K hK => ?_) | with_reducible refine T_seq_drawT (id := 12) Γ_ok drawsAny pl13_12 (by kernel_rfl) (fun K hK => ?_) | with_reducible refine T_last_drawT (id := 12) Γ_ok drawsAny pl13_12 (by kernel_rfl) (fun K hK => ?_) | ((refine goR0 _ _ _ _ _ _ _ _ ?_ ?_ ?_ ?_ ?_ ?_ ?_ ?_) <;> (repeat intro hb) <;> first | exact True.intro | refine Lf.mk ?_)))
      refine congrArg (fun b => AV.imm (.bool b)) ?_
      rw [h2, List.drop_of_length_le (by omega)]
      rfl
set_option maxRecDepth 100000 in
set_option maxHeartbeats 4000000 in
theorem rindex_tc (b : Bd) (id : Int) (hl : b.ks.length ≤ 9223372036854775807) : Look Tryd.prog 57 [bdA b, .imm (.int .i64 id)] (.imm (.int .i64 (keyI b id))) := by
  refine Look.mk trivial ?_
  (refine TC_of_T Γ_ok Tryd.func57 rfl (by kernel_rfl) ?_; simp only [Tryd.ntmps57, Tryd.results57, List.length_cons, List.length_nil, Nat.reduceSub, Nat.reduceAdd, List.replicate, List.cons_append, List.nil_append])
  (((refine goR0 _ _ _ _ _ _ _ _ ?_ ?_ ?_ ?_ ?_ ?_ ?_ ?_) <;> (repeat intro hb) <;> first | exact True.intro | refine Lf.mk ?_))
  refine T_loopW (fun m st => ∃ i : Nat, i ≤ b.ks.length ∧ m + i = b.ks.length ∧ keyI b id = idxK (b.ks.drop i) id i ∧
      st = ⟨[bdA b, .imm (.int .i64 id), .optr 0 0 0, .top, .imm (.int .i64 0), .imm (.int .i64 i)] ++ List.replicate 16 .top, [.box 24 (bdL b)]⟩)
      b.ks.length ⟨_, ?_, 0, by omega, rfl, rfl, rfl⟩ ?_
  · ((try simp only [List.length_append, List.length_cons, List.length_nil, Nat.zero_add]); refine Wk.intro [0] (by decide) (by decide) (by intro o ho; simp at ho ⊢ <;> omega) ?_ ?_ <;> repeat' (first | exact WkVL.nil | refine WkVL.cons ?_ ?_ | exact WkV.top | exact WkV.imm rfl | exact WkV.imm (by simp) | exact WkV.optr rfl | exact WkV.own rfl (by simp) | exact WkV.nil_own (.inl rfl) | exact WkV.map rfl | (refine WkV.free ?_; simp [Free, FreeL] <;> assumption) | (refine WkV.free (fun _ _ => FreeL_nth ?_ _); simp [Free, FreeL]; done) | refine WkV.agg ?_ | refine WkV.tup ?_ | refine WkV.fn ?_ ?_ | exact WkO.dead | exact WkO.raw | refine WkO.ghost ?_ | exact WkO.mpE rfl trivial | refine WkO.box ?_ rfl | refine WkO.arr ?_ | refine And.intro ?_ (And.intro (by first | exact fun h => h | exact fun _ => rfl | exact nofun) ?_) | exact trivial | (intro i j hi hj)))
  rintro m st ⟨i, h0, h1, h2, rfl⟩
  (simp only [go_sem, ↓reduceIte, Nat.reduceAdd, Nat.reduceSub, Nat.reduceMul, Nat.reduceLT, Nat.reduceLeDiff, Nat.reduceEqDiff, Nat.reduceGT, Int.reduceToNat, Int.reduceBEq, Int.reduceBNe]; try simp (disch := omega) only [wrapI, wrapU, half_sum, toNat_sub1, toNat_add1, Int.toNat_natCast])
  (((refine goR0 _ _ _ _ _ _ _ _ ?_ ?_ ?_ ?_ ?_ ?_ ?_ ?_) <;> (repeat intro hb) <;> first | exact True.intro | refine Lf.mk ?_))
  · rw [h2, idxK_drop (by omega), if_pos hb]
  · refine ⟨b.ks.length - (i + 1), by omega, _, ?_, i + 1, by omega, by omega, ?_, rfl⟩
    · ((try simp only [List.length_append, List.length_cons, List.length_nil, Nat.zero_add]); refine Wk.intro [0] (by decide) (by decide) (by intro o ho; simp at ho ⊢ <;> omega) ?_ ?_ <;> repeat' (first | (refine WkV.imm ?_; congr 1; omega) | exact WkVL.nil | refine WkVL.cons ?_ ?_ | exact WkV.top | exact WkV.imm rfl | exact WkV.imm (by simp) | exact WkV.optr rfl | exact WkV.own rfl (by simp) | exact WkV.nil_own (.inl rfl) | exact WkV.map rfl | (refine WkV.free ?_; simp [Free, FreeL] <;> assumption) | (refine WkV.free (fun _ _ => FreeL_nth ?_ _); simp [Free, FreeL]; done) | refine WkV.agg ?_ | refine WkV.tup ?_ | refine WkV.fn ?_ ?_ | exact WkO.dead | exact WkO.raw | refine WkO.ghost ?_ | exact WkO.mpE rfl trivial | refine WkO.box ?_ rfl | refine WkO.arr ?_ | refine And.intro ?_ (And.intro (by first | exact fun h => h | exact fun _ => rfl | exact nofun) ?_) | exact trivial | (intro i j hi hj)))
    · rw [h2, idxK_drop (by omega), if_neg hb]
  · congr 2
    rw [h2, List.drop_of_length_le (by omega)]
    rfl
set_option maxRecDepth 100000 in
set_option maxHeartbeats 4000000 in
theorem rbefore_tc (x y : Ky) : Look Tryd.prog 58 [kyA x, kyA y] (.imm (.bool (decide (ltK x y)))) := by
  refine Look.mk trivial ?_
  (refine TC_of_T Γ_ok Tryd.func58 rfl (by kernel_rfl) ?_; simp only [Tryd.ntmps58, Tryd.results58, List.length_cons, List.length_nil, Nat.reduceSub, Nat.reduceAdd, List.replicate, List.cons_append, List.nil_append])
  (((refine goR0 _ _ _ _ _ _ _ _ ?_ ?_ ?_ ?_ ?_ ?_ ?_ ?_) <;> (repeat intro hb) <;> first | exact True.intro | refine Lf.mk ?_))
  refine congrArg (fun b => AV.imm (.bool b)) ?_
  rw [Bool.eq_iff_iff]
  simp only [Bool.or_eq_true, Bool.and_eq_true, decide_eq_true_eq, beq_iff_eq]
  exact Iff.rfl
theorem nodup_gi {ids : List Int} (h : ids.Nodup) {j i : Nat} (hj : j < i) (hi : i < ids.length) (he : gi ids j = gi ids i) : False := by
  have := (List.pairwise_iff_getElem.1 h) j i (by omega) hi hj
  apply this
  simpa [gi, hi, show j < ids.length by omega] using he
theorem mem_take_gi {ids : List Int} {i : Nat} {a : Int} (h : a ∈ ids.take i) : ∃ q, q < i ∧ gi ids q = a := by
  obtain ⟨j, hj, rfl⟩ := List.mem_iff_getElem.1 h
  rw [List.length_take] at hj
  refine ⟨j, by omega, ?_⟩
  rw [List.getElem_take]
  simp [gi, show j < ids.length by omega]
set_option maxRecDepth 100000 in
set_option maxHeartbeats 4000000 in
theorem rdiff_tc (b : Bd) (ids : List Int) (hg : Good b) (hi : ids.length ≤ 9223372036854775807) : Look Tryd.prog 40 [bdA b, ints ids] (.imm (.bool (decide (diffP b ids)))) := by
  have hl := hg.len
  refine Look.mk trivial ?_
  (refine TC_of_T Γ_ok Tryd.func40 rfl (by kernel_rfl) ?_; simp only [Tryd.ntmps40, Tryd.results40, List.length_cons, List.length_nil, Nat.reduceSub, Nat.reduceAdd, List.replicate, List.cons_append, List.nil_append])
  (repeat' (first | with_reducible refine T_seq_drawT (id := 6) Γ_ok drawsAny pl40_6 (by kernel_rfl) (fun K hK => ?_) | with_reducible refine T_last_drawT (id := 6) Γ_ok drawsAny pl40_6 (by kernel_rfl) (fun K hK => ?_) | with_reducible refine T_seq_drawT (id := 11) Γ_ok drawsAny pl40_11 (by kernel_rfl) (fun K hK => ?_) | with_reducible refine T_last_drawT (id := 11) Γ_ok drawsAny pl40_11 (by kernel_rfl) (fun K hK => ?_) | ((refine goR0 _ _ _ _ _ _ _ _ ?_ ?_ ?_ ?_ ?_ ?_ ?_ ?_) <;> (repeat intro hb) <;> first | exact True.intro | refine Lf.mk ?_)))
  · rw [decide_eq_false (p := diffP b ids)]
    intro h
    have := ordK_len hg h
    have h2 : (ordK b ids).length ≤ b.ks.length := by
      unfold ordK
      refine Nat.le_trans (List.length_filter_le _ _) ?_
      rw [srtK_len]; exact Nat.le_refl _
    omega
  refine T_loopW (fun m st => ∃ (i : Nat), i ≤ ids.length ∧ m + i = ids.length ∧ diffP b (ids.take i) ∧
      st = ⟨[.top, ints ids, .optr 0 0 0, .top, .imm (.bool false), .imm (.int .i64 i)] ++ List.replicate 34 .top, [.box 24 (bdL b)]⟩)
      ids.length ⟨_, ?_, 0, by omega, rfl, by simp [diffP], rfl⟩ ?_
  · ((try simp only [List.length_append, List.length_cons, List.length_nil, Nat.zero_add]); refine Wk.intro [0] (by decide) (by decide) (by intro o ho; simp at ho ⊢ <;> omega) ?_ ?_ <;> repeat' (first | exact WkVL.nil | refine WkVL.cons ?_ ?_ | exact WkV.top | exact WkV.imm rfl | exact WkV.imm (by simp) | exact WkV.optr rfl | exact WkV.own rfl (by simp) | exact WkV.nil_own (.inl rfl) | exact WkV.map rfl | (refine WkV.free ?_; simp [Free, FreeL] <;> assumption) | (refine WkV.free (fun _ _ => FreeL_nth ?_ _); simp [Free, FreeL]; done) | refine WkV.agg ?_ | refine WkV.tup ?_ | refine WkV.fn ?_ ?_ | exact WkO.dead | exact WkO.raw | refine WkO.ghost ?_ | exact WkO.mpE rfl trivial | refine WkO.box ?_ rfl | refine WkO.arr ?_ | refine And.intro ?_ (And.intro (by first | exact fun h => h | exact fun _ => rfl | exact nofun) ?_) | exact trivial | (intro i j hi hj)))
  rintro m st ⟨i, h0, h1, hd, rfl⟩
  by_cases hil : i < ids.length
  · have c1 := rindex_tc b (gi ids i) (by omega)
    have hm : gi ids i ∈ ids := gi_mem hil
    cases hk : keyOf b.ks (gi ids i) with
    | none =>
      rw [keyI_none hk] at c1
      (simp only [go_sem, ↓reduceIte, Nat.reduceAdd, Nat.reduceSub, Nat.reduceMul, Nat.reduceLT, Nat.reduceLeDiff, Nat.reduceEqDiff, Nat.reduceGT, Int.reduceToNat, Int.reduceBEq, Int.reduceBNe]; try simp (disch := omega) only [wrapI, wrapU, half_sum, toNat_sub1, toNat_add1, Int.toNat_natCast])
      (have dl1 := c1; repeat' (first | with_reducible refine T_seq_drawT (id := 6) Γ_ok drawsAny pl40_6 (by kernel_rfl) (fun K hK => ?_) | with_reducible refine T_last_drawT (id := 6) Γ_ok drawsAny pl40_6 (by kernel_rfl) (fun K hK => ?_) | with_reducible refine T_seq_drawT (id := 11) Γ_ok drawsAny pl40_11 (by kernel_rfl) (fun K hK => ?_) | with_reducible refine T_last_drawT (id := 11) Γ_ok drawsAny pl40_11 (by kernel_rfl) (fun K hK => ?_) | ((refine goR0 _ _ _ _ _ _ _ _ ?_ ?_ ?_ ?_ ?_ ?_ ?_ ?_) <;> (repeat intro hb) <;> first | exact True.intro | refine Lf.mk ?_)))
      rw [decide_eq_false (p := diffP b ids)]
      intro h
      have := h.2 _ hm
      rw [hk] at this
      simp at this
    | some k =>
      obtain ⟨n, n1, n2, n3⟩ := keyI_some hk
      rw [n2] at c1
      (simp only [go_sem, ↓reduceIte, Nat.reduceAdd, Nat.reduceSub, Nat.reduceMul, Nat.reduceLT, Nat.reduceLeDiff, Nat.reduceEqDiff, Nat.reduceGT, Int.reduceToNat, Int.reduceBEq, Int.reduceBNe]; try simp (disch := omega) only [wrapI, wrapU, half_sum, toNat_sub1, toNat_add1, Int.toNat_natCast])
      (have dl1 := c1; repeat' (first | with_reducible refine T_seq_drawT (id := 6) Γ_ok drawsAny pl40_6 (by kernel_rfl) (fun K hK => ?_) | with_reducible refine T_last_drawT (id := 6) Γ_ok drawsAny pl40_6 (by kernel_rfl) (fun K hK => ?_) | with_reducible refine T_seq_drawT (id := 11) Γ_ok drawsAny pl40_11 (by kernel_rfl) (fun K hK => ?_) | with_reducible refine T_last_drawT (id := 11) Γ_ok drawsAny pl40_11 (by kernel_rfl) (fun K hK => ?_) | ((refine goR0 _ _ _ _ _ _ _ _ ?_ ?_ ?_ ?_ ?_ ?_ ?_ ?_) <;> (repeat intro hb) <;> first | exact True.intro | refine Lf.mk ?_)))
      refine T_loopW (fun m st => ∃ (j : Nat), j ≤ i ∧ m + j = i ∧ (∀ q, q < j → gi ids q ≠ gi ids i) ∧
        st = ⟨[.top, ints ids, .optr 0 0 0, .top, .imm (.bool false), .imm (.int .i64 i), .imm (.int .i64 j)] ++ List.replicate 33 .top, [.box 24 (bdL b)]⟩)
        i ⟨_, ?_, 0, by omega, rfl, (by intro q h; omega), rfl⟩ ?_
      · ((try simp only [List.length_append, List.length_cons, List.length_nil, Nat.zero_add]); refine Wk.intro [0] (by decide) (by decide) (by intro o ho; simp at ho ⊢ <;> omega) ?_ ?_ <;> repeat' (first | exact WkVL.nil | refine WkVL.cons ?_ ?_ | exact WkV.top | exact WkV.imm rfl | exact WkV.imm (by simp) | exact WkV.optr rfl | exact WkV.own rfl (by simp) | exact WkV.nil_own (.inl rfl) | exact WkV.map rfl | (refine WkV.free ?_; simp [Free, FreeL] <;> assumption) | (refine WkV.free (fun _ _ => FreeL_nth ?_ _); simp [Free, FreeL]; done) | refine WkV.agg ?_ | refine WkV.tup ?_ | refine WkV.fn ?_ ?_ | exact WkO.dead | exact WkO.raw | refine WkO.ghost ?_ | exact WkO.mpE rfl trivial | refine WkO.box ?_ rfl | refine WkO.arr ?_ | refine And.intro ?_ (And.intro (by first | exact fun h => h | exact fun _ => rfl | exact nofun) ?_) | exact trivial | (intro i j hi hj)))
      rintro m2 st ⟨j, g0, g1, g2, rfl⟩
      (simp only [go_sem, ↓reduceIte, Nat.reduceAdd, Nat.reduceSub, Nat.reduceMul, Nat.reduceLT, Nat.reduceLeDiff, Nat.reduceEqDiff, Nat.reduceGT, Int.reduceToNat, Int.reduceBEq, Int.reduceBNe]; try simp (disch := omega) only [wrapI, wrapU, half_sum, toNat_sub1, toNat_add1, Int.toNat_natCast])
      (repeat' (first | with_reducible refine T_seq_drawT (id := 6) Γ_ok drawsAny pl40_6 (by kernel_rfl) (fun K hK => ?_) | with_reducible refine T_last_drawT (id := 6) Γ_ok drawsAny pl40_6 (by kernel_rfl) (fun K hK => ?_) | with_reducible refine T_seq_drawT (id := 11) Γ_ok drawsAny pl40_11 (by kernel_rfl) (fun K hK => ?_) | with_reducible refine T_last_drawT (id := 11) Γ_ok drawsAny pl40_11 (by kernel_rfl) (fun K hK => ?_) | ((refine goR0 _ _ _ _ _ _ _ _ ?_ ?_ ?_ ?_ ?_ ?_ ?_ ?_) <;> (repeat intro hb) <;> first | exact True.intro | refine Lf.mk ?_)))
      · rw [decide_eq_false (p := diffP b ids)]
        intro h
        exact nodup_gi h.1 (by omega) hil hb
      · refine ⟨i - (j + 1), by omega, _, ?_, j + 1, by omega, by omega, ?_, rfl⟩
        · ((try simp only [List.length_append, List.length_cons, List.length_nil, Nat.zero_add]); refine Wk.intro [0] (by decide) (by decide) (by intro o ho; simp at ho ⊢ <;> omega) ?_ ?_ <;> repeat' (first | (refine WkV.imm ?_; congr 1; omega) | exact WkVL.nil | refine WkVL.cons ?_ ?_ | exact WkV.top | exact WkV.imm rfl | exact WkV.imm (by simp) | exact WkV.optr rfl | exact WkV.own rfl (by simp) | exact WkV.nil_own (.inl rfl) | exact WkV.map rfl | (refine WkV.free ?_; simp [Free, FreeL] <;> assumption) | (refine WkV.free (fun _ _ => FreeL_nth ?_ _); simp [Free, FreeL]; done) | refine WkV.agg ?_ | refine WkV.tup ?_ | refine WkV.fn ?_ ?_ | exact WkO.dead | exact WkO.raw | refine WkO.ghost ?_ | exact WkO.mpE rfl trivial | refine WkO.box ?_ rfl | refine WkO.arr ?_ | refine And.intro ?_ (And.intro (by first | exact fun h => h | exact fun _ => rfl | exact nofun) ?_) | exact trivial | (intro i j hi hj)))
        · intro q hq
          by_cases hqj : q = j
          · subst hqj
            exact hb
          · exact g2 q (by omega)
      · refine ⟨ids.length - (i + 1), by omega, _, ?_, i + 1, by omega, by omega, ?_, rfl⟩
        · ((try simp only [List.length_append, List.length_cons, List.length_nil, Nat.zero_add]); refine Wk.intro [0] (by decide) (by decide) (by intro o ho; simp at ho ⊢ <;> omega) ?_ ?_ <;> repeat' (first | (refine WkV.imm ?_; congr 1; omega) | exact WkVL.nil | refine WkVL.cons ?_ ?_ | exact WkV.top | exact WkV.imm rfl | exact WkV.imm (by simp) | exact WkV.optr rfl | exact WkV.own rfl (by simp) | exact WkV.nil_own (.inl rfl) | exact WkV.map rfl | (refine WkV.free ?_; simp [Free, FreeL] <;> assumption) | (refine WkV.free (fun _ _ => FreeL_nth ?_ _); simp [Free, FreeL]; done) | refine WkV.agg ?_ | refine WkV.tup ?_ | refine WkV.fn ?_ ?_ | exact WkO.dead | exact WkO.raw | refine WkO.ghost ?_ | exact WkO.mpE rfl trivial | refine WkO.box ?_ rfl | refine WkO.arr ?_ | refine And.intro ?_ (And.intro (by first | exact fun h => h | exact fun _ => rfl | exact nofun) ?_) | exact trivial | (intro i j hi hj)))
        · rw [take_gi hil]
          refine ⟨List.nodup_append.2 ⟨hd.1, by simp, ?_⟩, ?_⟩
          · intro a ha c hc hac
            rw [List.mem_singleton] at hc
            subst hc
            subst hac
            obtain ⟨q, q1, q2⟩ := mem_take_gi ha
            exact g2 q (by omega) q2
          · intro id hid
            rcases List.mem_append.1 hid with h | h
            · exact hd.2 id h
            · rw [List.mem_singleton] at h
              subst h
              rw [hk]
              rfl
  · (simp only [go_sem, ↓reduceIte, Nat.reduceAdd, Nat.reduceSub, Nat.reduceMul, Nat.reduceLT, Nat.reduceLeDiff, Nat.reduceEqDiff, Nat.reduceGT, Int.reduceToNat, Int.reduceBEq, Int.reduceBNe]; try simp (disch := omega) only [wrapI, wrapU, half_sum, toNat_sub1, toNat_add1, Int.toNat_natCast])
    (repeat' (first | with_reducible refine T_seq_drawT (id := 6) Γ_ok drawsAny pl40_6 (by kernel_rfl) (fun K hK => ?_) | with_reducible refine T_last_drawT (id := 6) Γ_ok drawsAny pl40_6 (by kernel_rfl) (fun K hK => ?_) | with_reducible refine T_seq_drawT (id := 11) Γ_ok drawsAny pl40_11 (by kernel_rfl) (fun K hK => ?_) | with_reducible refine T_last_drawT (id := 11) Γ_ok drawsAny pl40_11 (by kernel_rfl) (fun K hK => ?_) | ((refine goR0 _ _ _ _ _ _ _ _ ?_ ?_ ?_ ?_ ?_ ?_ ?_ ?_) <;> (repeat intro hb) <;> first | exact True.intro | refine Lf.mk ?_)))
    refine congrArg (fun b => AV.imm (.bool b)) ?_
    rw [List.take_of_length_le (by omega)] at hd
    exact (decide_eq_true hd).symm
end Go.Proofs.YtddcnafocohghaaDoor
namespace Go.Proofs.YtddcnafocohghaaDoor
open Go.Ab
def rhB (s : Int) (l : List Ky) (p q : Nat) : Bool := decide (q - p ≤ 5) && (decide (p = q) || decide ((gk l (q - 1)).x - (gk l p).x ≤ s))
set_option maxRecDepth 100000 in
set_option maxHeartbeats 4000000 in
theorem rhand_tc (b : Bd) (l : List Ky) (p q : Nat) (hpq : p ≤ q) (hq : q ≤ l.length) (hl : l.length ≤ 120) (hx : ∀ i, i < l.length → 0 ≤ (gk l i).x ∧ (gk l i).x ≤ 1000) : Look Tryd.prog 59 [bdA b, kys l, .imm (.int .i64 p), .imm (.int .i64 q)] (.imm (.bool (rhB b.span l p q))) := by
  have x1 := hx p
  have x2 := hx (q - 1)
  refine Look.mk trivial ?_
  by_cases e : p = q
  · subst e
    have ht : decide ((p : Int) = p) = true := decide_eq_true rfl
    (refine TC_of_T Γ_ok Tryd.func59 rfl (by kernel_rfl) ?_; simp only [Tryd.ntmps59, Tryd.results59, List.length_cons, List.length_nil, Nat.reduceSub, Nat.reduceAdd, List.replicate, List.cons_append, List.nil_append])
    (repeat' (first | with_reducible refine T_seq_drawT (id := 1) Γ_ok drawsAny pl59_1 (by kernel_rfl) (fun K hK => ?_) | with_reducible refine T_last_drawT (id := 1) Γ_ok drawsAny pl59_1 (by kernel_rfl) (fun K hK => ?_) | ((refine goR0 _ _ _ _ _ _ _ _ ?_ ?_ ?_ ?_ ?_ ?_ ?_ ?_) <;> (repeat intro hb) <;> first | exact True.intro | refine Lf.mk ?_)))
    all_goals (unfold rhB; simp)
  · (refine TC_of_T Γ_ok Tryd.func59 rfl (by kernel_rfl) ?_; simp only [Tryd.ntmps59, Tryd.results59, List.length_cons, List.length_nil, Nat.reduceSub, Nat.reduceAdd, List.replicate, List.cons_append, List.nil_append])
    (repeat' (first | with_reducible refine T_seq_drawT (id := 1) Γ_ok drawsAny pl59_1 (by kernel_rfl) (fun K hK => ?_) | with_reducible refine T_last_drawT (id := 1) Γ_ok drawsAny pl59_1 (by kernel_rfl) (fun K hK => ?_) | ((refine goR0 _ _ _ _ _ _ _ _ ?_ ?_ ?_ ?_ ?_ ?_ ?_ ?_) <;> (repeat intro hb) <;> first | exact True.intro | refine Lf.mk ?_)))
    all_goals
      refine congrArg (fun b => AV.imm (.bool b)) ?_
      unfold rhB
      rw [decide_eq_false e, show ((p : Int) == (q : Int)) = false by rw [beq_eq_false_iff_ne]; omega, decide_eq_decide.2 (show (q : Int) - p ≤ 5 ↔ q - p ≤ 5 by omega)]
theorem rhB_div {s : Int} {l : List Ky} {k : Nat} (hk : k ≤ l.length) : (rhB s l 0 k && rhB s l k l.length) = divB s l k := by
  unfold rhB divB
  have e1 : (decide (0 = k) || decide ((gk l (k - 1)).x - (gk l 0).x ≤ s)) = spanB s (l.take k) := by
    by_cases h0 : k = 0
    · subst h0; rw [List.take_zero, spanB_nil]; rfl
    · rw [spanB_take (by omega) hk, decide_eq_false (by omega), Bool.false_or]
  have e2 : (decide (k = l.length) || decide ((gk l (l.length - 1)).x - (gk l k).x ≤ s)) = spanB s (l.drop k) := by
    by_cases h0 : k = l.length
    · rw [List.drop_of_length_le (by omega), spanB_nil, decide_eq_true h0, Bool.true_or]
    · rw [spanB_drop (by omega), decide_eq_false h0, Bool.false_or]
  rw [e1, e2, Nat.sub_zero]
  cases decide (k ≤ 5) <;> cases decide (l.length - k ≤ 5) <;> cases spanB s (l.take k) <;> rfl
set_option maxRecDepth 100000 in
set_option maxHeartbeats 4000000 in
theorem rdiv_tc (b : Bd) (l : List Ky) (hl : l.length ≤ 120) (hx : ∀ i, i < l.length → 0 ≤ (gk l i).x ∧ (gk l i).x ≤ 1000) : Look Tryd.prog 42 [bdA b, kys l] (.imm (.int .i64 (divR b.span l))) := by
  refine Look.mk trivial ?_
  (refine TC_of_T Γ_ok Tryd.func42 rfl (by kernel_rfl) ?_; simp only [Tryd.ntmps42, Tryd.results42, List.length_cons, List.length_nil, Nat.reduceSub, Nat.reduceAdd, List.replicate, List.cons_append, List.nil_append])
  (((refine goR0 _ _ _ _ _ _ _ _ ?_ ?_ ?_ ?_ ?_ ?_ ?_ ?_) <;> (repeat intro hb) <;> first | exact True.intro | refine Lf.mk ?_))
  refine T_loopW (fun m st => ∃ k : Int, -1 ≤ k ∧ k ≤ l.length ∧ (m : Int) = k + 1 ∧ (∀ j : Nat, k < j → j ≤ l.length → divB b.span l j = false) ∧
      st = ⟨[.top, kys l, .optr 0 0 0, .top, .imm (.int .i64 0), .imm (.int .i64 k)] ++ List.replicate 19 .top, [.box 24 (bdL b)]⟩)
    (l.length + 1) ⟨_, ?_, l.length, by omega, by omega, by omega, (fun j h1 h2 => by omega), rfl⟩ ?_
  · ((try simp only [List.length_append, List.length_cons, List.length_nil, Nat.zero_add]); refine Wk.intro [0] (by decide) (by decide) (by intro o ho; simp at ho ⊢ <;> omega) ?_ ?_ <;> repeat' (first | exact WkVL.nil | refine WkVL.cons ?_ ?_ | exact WkV.top | exact WkV.imm rfl | exact WkV.imm (by simp) | exact WkV.optr rfl | exact WkV.own rfl (by simp) | exact WkV.nil_own (.inl rfl) | exact WkV.map rfl | (refine WkV.free ?_; simp [Free, FreeL] <;> assumption) | (refine WkV.free (fun _ _ => FreeL_nth ?_ _); simp [Free, FreeL]; done) | refine WkV.agg ?_ | refine WkV.tup ?_ | refine WkV.fn ?_ ?_ | exact WkO.dead | exact WkO.raw | refine WkO.ghost ?_ | exact WkO.mpE rfl trivial | refine WkO.box ?_ rfl | refine WkO.arr ?_ | refine And.intro ?_ (And.intro (by first | exact fun h => h | exact fun _ => rfl | exact nofun) ?_) | exact trivial | (intro i j hi hj)))
  rintro m st ⟨k, h0, h1, h2, h3, rfl⟩
  by_cases hk : 0 ≤ k
  · obtain ⟨n, rfl⟩ := Int.eq_ofNat_of_zero_le hk
    have hn : n ≤ l.length := by omega
    have d1 : Look Tryd.prog 59 [bdA b, kys l, .imm (.int .i64 0), .imm (.int .i64 n)] (.imm (.bool (rhB b.span l 0 n))) := rhand_tc b l 0 n (by omega) hn hl hx
    have d2 := rhand_tc b l n l.length hn (Nat.le_refl _) hl hx
    have hd := rhB_div (s := b.span) hn
    generalize rhB b.span l 0 n = g1 at d1 hd
    generalize rhB b.span l n l.length = g2 at d2 hd
    (simp only [go_sem, ↓reduceIte, Nat.reduceAdd, Nat.reduceSub, Nat.reduceMul, Nat.reduceLT, Nat.reduceLeDiff, Nat.reduceEqDiff, Nat.reduceGT, Int.reduceToNat, Int.reduceBEq, Int.reduceBNe]; try simp (disch := omega) only [wrapI, wrapU, half_sum, toNat_sub1, toNat_add1, Int.toNat_natCast])
    (have dl1 := d1; have dl2 := d2; ((refine goR0 _ _ _ _ _ _ _ _ ?_ ?_ ?_ ?_ ?_ ?_ ?_ ?_) <;> (repeat intro hb) <;> first | exact True.intro | refine Lf.mk ?_))
    · refine congrArg (fun b => AV.imm (.int .i64 b)) ?_
      rw [hb.1, hb.2] at hd
      unfold divR
      rcases divN_cases b.span l l.length with h5 | ⟨j, h5, h6, h7, h8⟩
      · rw [h5.2 n (by omega)] at hd; cases hd
      · rw [h6]
        by_cases h9 : j = n
        · rw [h9]
        · by_cases h10 : j < n
          · rw [h8 n h10 (by omega)] at hd; cases hd
          · rw [h3 j (by omega) h5] at h7; cases h7
    · have hd2 : divB b.span l n = false := by
        rw [← hd]
        cases g1
        · rfl
        · rw [hb rfl]; rfl
      refine ⟨n, by omega, _, ?_, (n : Int) - 1, by omega, by omega, by omega, fun j h5 h6 => ?_, rfl⟩
      · ((try simp only [List.length_append, List.length_cons, List.length_nil, Nat.zero_add]); refine Wk.intro [0] (by decide) (by decide) (by intro o ho; simp at ho ⊢ <;> omega) ?_ ?_ <;> repeat' (first | exact WkVL.nil | refine WkVL.cons ?_ ?_ | exact WkV.top | exact WkV.imm rfl | exact WkV.imm (by simp) | exact WkV.optr rfl | exact WkV.own rfl (by simp) | exact WkV.nil_own (.inl rfl) | exact WkV.map rfl | (refine WkV.free ?_; simp [Free, FreeL] <;> assumption) | (refine WkV.free (fun _ _ => FreeL_nth ?_ _); simp [Free, FreeL]; done) | refine WkV.agg ?_ | refine WkV.tup ?_ | refine WkV.fn ?_ ?_ | exact WkO.dead | exact WkO.raw | refine WkO.ghost ?_ | exact WkO.mpE rfl trivial | refine WkO.box ?_ rfl | refine WkO.arr ?_ | refine And.intro ?_ (And.intro (by first | exact fun h => h | exact fun _ => rfl | exact nofun) ?_) | exact trivial | (intro i j hi hj)))
      · by_cases e2 : j = n
        · rw [e2]; exact hd2
        · exact h3 j (by omega) h6
  · (simp only [go_sem, ↓reduceIte, Nat.reduceAdd, Nat.reduceSub, Nat.reduceMul, Nat.reduceLT, Nat.reduceLeDiff, Nat.reduceEqDiff, Nat.reduceGT, Int.reduceToNat, Int.reduceBEq, Int.reduceBNe]; try simp (disch := omega) only [wrapI, wrapU, half_sum, toNat_sub1, toNat_add1, Int.toNat_natCast])
    (((refine goR0 _ _ _ _ _ _ _ _ ?_ ?_ ?_ ?_ ?_ ?_ ?_ ?_) <;> (repeat intro hb) <;> first | exact True.intro | refine Lf.mk ?_))
    refine congrArg (fun b => AV.imm (.int .i64 b)) ?_
    unfold divR
    rcases divN_cases b.span l l.length with h5 | ⟨j, h5, h6, h7, h8⟩
    · exact h5.1.symm
    · rw [h3 j (by omega) h5] at h7; cases h7
end Go.Proofs.YtddcnafocohghaaDoor
