/-
  MergeOrder: the walk of the law.
-/
import Derived.Test.YthikkiacgmgdhaaQGo
import Derived.Test.YthikkiacgmgdhaaQM32
set_option linter.unusedSimpArgs false
set_option linter.unusedVariables false
namespace Go.Proofs.Ythikkiacgmgdhaa
open Go.Ab

theorem rmrg_len (n : Int) (js : List Jn) : (rmrgR n js).1.length ≤ 15 := by
  unfold rmrgR
  split
  · split
    · exact rmN_len js 15
    · simp
  · simp

theorem gj_app (a b : List Jn) (x : Nat) : gj (a ++ b) x = if x < a.length then gj a x else gj b (x - a.length) := by
  simp only [gj, List.getD_eq_getElem?_getD, List.getElem?_append]
  split <;> rfl
theorem gj_drop (a : List Jn) (i x : Nat) : gj (a.drop i) x = gj a (i + x) := by
  simp only [gj, List.getD_eq_getElem?_getD, List.getElem?_drop]
theorem gj_take (a : List Jn) {i x : Nat} (h : x < i) : gj (a.take i) x = gj a x := by
  simp only [gj, List.getD_eq_getElem?_getD, List.getElem?_take, h, if_true]
theorem cat_turn (js : List Jn) (i : Nat) (hi : i < js.length) (top : Nat → Nat → AV) (x j : Nat) (hx : x < js.length) : catE (js.length - i) (fun x j => catE 0 top (fun x j => jnE js (i + x) j) x j) (fun x j => jnE js x j) x j = jnE (js.drop i ++ js.take i) x j := by
  unfold catE
  by_cases h : x < js.length - i
  · simp only [if_pos h, Nat.not_lt_zero, if_false, Nat.sub_zero]
    unfold jnE
    rw [gj_app, if_pos (by simp; omega), gj_drop]
  · simp only [if_neg h]
    unfold jnE
    rw [gj_app, if_neg (by simp; omega), List.length_drop, gj_take _ (by omega)]
theorem cat_more (js : List Jn) (i : Nat) (top : Nat → Nat → AV) (x j : Nat) (hx : x < js.length + 1) : catE js.length (fun x j => catE 0 top (jnE js) x j) (fun x j => nth (jnL (gj js i)) (x * 2 + j)) x j = jnE (js ++ [gj js i]) x j := by
  unfold catE
  by_cases h : x < js.length
  · simp only [if_pos h, Nat.not_lt_zero, if_false, Nat.sub_zero]
    unfold jnE
    rw [gj_app, if_pos h]
  · simp only [if_neg h]
    unfold jnE
    obtain rfl : x = js.length := by omega
    rw [gj_app, if_neg h, Nat.sub_self, Nat.zero_mul, Nat.zero_add]
    rfl
theorem wkTurn {π : List Nat} {σ : List AObj} {js : List Jn} {i : Nat} (hi : i < js.length) {top : Nat → Nat → AV} {x j : Nat} (hx : x < js.length) : WkV π σ (catE (js.length - i) (fun x j => catE 0 top (fun x j => jnE js (i + x) j) x j) (fun x j => jnE js x j) x j) (jnE (js.drop i ++ js.take i) x j) := by
  rw [cat_turn js i hi top x j hx]
  exact WkV.free (jnE_free _ _ _)
theorem wkMore {π : List Nat} {σ : List AObj} {js : List Jn} {i : Nat} {top : Nat → Nat → AV} {x j : Nat} (hx : x < js.length + 1) : WkV π σ (catE js.length (fun x j => catE 0 top (jnE js) x j) (fun x j => nth (jnL (gj js i)) (x * 2 + j)) x j) (jnE (js ++ [gj js i]) x j) := by
  rw [cat_more js i top x j hx]
  exact WkV.free (jnE_free _ _ _)

set_option maxRecDepth 100000 in
set_option maxHeartbeats 16000000 in
theorem order_law (n : Int) (js : List Jn) (a : Nat) (h : JsOk js) (ha : a < 256) : Look Try.prog 5 [.imm (.int .i64 n), jns js, .imm (.int .u8 a)] (.imm (.bool true)) := by
  have hl := h.1
  refine Look.mk trivial ?_
  by_cases h0 : js.length = 0
  · (refine TC_of_T Γ_ok Try.func5 rfl (by kernel_rfl) ?_; simp only [Try.ntmps5, Try.results5, List.length_cons, List.length_nil, Nat.reduceSub, Nat.reduceAdd, List.replicate, List.cons_append, List.nil_append])
    (have cl1 := head_tc; repeat' (first | with_reducible refine T_seq_drawT (id := 5) Γ_ok drawsAny pl5_5 (by kernel_rfl) (fun K hK => ?_) | with_reducible refine T_last_drawT (id := 5) Γ_ok drawsAny pl5_5 (by kernel_rfl) (fun K hK => ?_) | with_reducible refine T_seq_drawT (id := 6) Γ_ok drawsAny pl5_6 (by kernel_rfl) (fun K hK => ?_) | with_reducible refine T_last_drawT (id := 6) Γ_ok drawsAny pl5_6 (by kernel_rfl) (fun K hK => ?_) | ((refine goL0 _ _ _ _ _ _ _ _ ?_ ?_ ?_ ?_ ?_ ?_ ?_ ?_) <;> (repeat intro hb) <;> first | exact True.intro | refine Lf.mk ?_)))
  by_cases h8 : 8 ≤ js.length
  · (refine TC_of_T Γ_ok Try.func5 rfl (by kernel_rfl) ?_; simp only [Try.ntmps5, Try.results5, List.length_cons, List.length_nil, Nat.reduceSub, Nat.reduceAdd, List.replicate, List.cons_append, List.nil_append])
    (have cl1 := head_tc; repeat' (first | with_reducible refine T_seq_drawT (id := 5) Γ_ok drawsAny pl5_5 (by kernel_rfl) (fun K hK => ?_) | with_reducible refine T_last_drawT (id := 5) Γ_ok drawsAny pl5_5 (by kernel_rfl) (fun K hK => ?_) | with_reducible refine T_seq_drawT (id := 6) Γ_ok drawsAny pl5_6 (by kernel_rfl) (fun K hK => ?_) | with_reducible refine T_last_drawT (id := 6) Γ_ok drawsAny pl5_6 (by kernel_rfl) (fun K hK => ?_) | ((refine goL0 _ _ _ _ _ _ _ _ ?_ ?_ ?_ ?_ ?_ ?_ ?_ ?_) <;> (repeat intro hb) <;> first | exact True.intro | refine Lf.mk ?_)))
  obtain ⟨i, hi, hil⟩ : ∃ i : Nat, Int.tmod (a : Int) (js.length : Int) = (i : Int) ∧ i < js.length := ⟨a % js.length, by rw [← Int.ofNat_tmod], Nat.mod_lt _ (by omega)⟩
  have htl : (js.drop i ++ js.take i).length = js.length := by simp; omega
  have hT : JsOk (js.drop i ++ js.take i) := jsOk_mem h (by omega) fun j hj => by
    rcases List.mem_append.1 hj with h | h
    · exact List.mem_of_mem_drop h
    · exact List.mem_of_mem_take h
  have hM : JsOk (js ++ [gj js i]) := jsOk_mem h (by simp; omega) fun j hj => by
    rcases List.mem_append.1 hj with h | h
    · exact h
    · simp only [List.mem_singleton] at h
      subst h
      simp [gj, hil]
  have c1 := merge_tc n js h
  rw [mrg_eq] at c1
  have c2 := merge_tc n _ hT
  rw [mrg_eq, (turn_same n js i).1] at c2
  have c3 := merge_tc n _ hM
  rw [mrg_eq, (more_same n js i hil (by omega)).1] at c3
  have d1 := liars_tc n js h
  rw [lia_eq] at d1
  have d2 := liars_tc n _ hT
  rw [lia_eq, (turn_same n js i).2] at d2
  have d3 := liars_tc n _ hM
  rw [lia_eq, (more_same n js i hil (by omega)).2] at d3
  have ho := rmrg_len n js
  have hll := rliR_len n js
  generalize rmrgR n js = P at c1 c2 c3 ho
  obtain ⟨o, f⟩ := P
  generalize rliR n js = P at d1 d2 d3 hll
  obtain ⟨l, g⟩ := P
  simp only [] at c1 c2 c3 d1 d2 d3 ho hll
  have s1 := sameT_tc o o (by omega) (by omega)
  rw [decide_eq_true rfl] at s1
  have s2 := ints_tc l l (by omega) (by omega)
  rw [decide_eq_true rfl] at s2
  (refine TC_of_T Γ_ok Try.func5 rfl (by kernel_rfl) ?_; simp only [Try.ntmps5, Try.results5, List.length_cons, List.length_nil, Nat.reduceSub, Nat.reduceAdd, List.replicate, List.cons_append, List.nil_append])
  (have cl1 := head_tc; have cm1 := c1; have sx1 := hi; repeat' (first | with_reducible refine T_seq_drawT (id := 5) Γ_ok drawsAny pl5_5 (by kernel_rfl) (fun K hK => ?_) | with_reducible refine T_last_drawT (id := 5) Γ_ok drawsAny pl5_5 (by kernel_rfl) (fun K hK => ?_) | with_reducible refine T_seq_drawT (id := 6) Γ_ok drawsAny pl5_6 (by kernel_rfl) (fun K hK => ?_) | with_reducible refine T_last_drawT (id := 6) Γ_ok drawsAny pl5_6 (by kernel_rfl) (fun K hK => ?_) | ((refine goL1 _ _ _ _ _ _ _ _ ?_ ?_ ?_ ?_ ?_ ?_ ?_ ?_) <;> (repeat intro hb) <;> first | exact True.intro | refine Lf.mk ?_)))
  refine DCT_last Γ_ok ?_
  (simp only [go_sem, ↓reduceIte, Nat.reduceAdd, Nat.reduceSub, Nat.reduceMul, Nat.reduceLT, Nat.reduceLeDiff, Nat.reduceEqDiff, Nat.reduceGT, Int.reduceToNat, Int.reduceBEq, Int.reduceBNe]; try simp (disch := omega) only [wrapI, wrapU, half_sum, toNat_sub1, toNat_add1, Int.toNat_natCast])
  refine ⟨⟨by omega, ⟨.inr trivial, by omega, .inr trivial⟩, by omega, by omega, .inr trivial, by omega⟩, ?_⟩
  with_reducible refine hK _ ?_
  clear hK K
  try clear hK K
  have e1 : js.length - i + i = js.length := by omega
  rw [e1]
  refine T_wk (st2 := ⟨[.imm (.int .i64 n), jns js, .top, .top, .top, .top, .top, .imm (.bool true), .top, .own 0 0 js.length none, .own 1 0 (js.length + 1) none] ++ List.replicate 120 .top, [.arr 31 2 js.length (jnE (js.drop i ++ js.take i)), .arr 31 2 (js.length + 1) (jnE (js ++ [gj js i]))]⟩) ?_ ?_
  · ((try simp only [List.length_append, List.length_cons, List.length_nil, Nat.zero_add]); refine Wk.intro [1, 3] (by decide) (by decide) (by intro o ho; simp at ho ⊢ <;> omega) ?_ ?_ <;> repeat' (first | (exact wkTurn hil (by assumption)) | (exact wkMore (by assumption)) | exact WkVL.nil | refine WkVL.cons ?_ ?_ | exact WkV.top | exact WkV.imm rfl | exact WkV.imm (by simp) | exact WkV.optr rfl | exact WkV.own rfl (by simp) | exact WkV.nil_own (.inl rfl) | exact WkV.map rfl | (refine WkV.free ?_; simp [Free, FreeL] <;> assumption) | (refine WkV.free (fun _ _ => FreeL_nth ?_ _); simp [Free, FreeL]; done) | refine WkV.agg ?_ | refine WkV.tup ?_ | refine WkV.fn ?_ ?_ | exact WkO.dead | exact WkO.raw | refine WkO.ghost ?_ | exact WkO.mpE rfl trivial | refine WkO.box ?_ rfl | refine WkO.arr ?_ | refine And.intro ?_ (And.intro (by first | exact fun h => h | exact fun _ => rfl | exact nofun) ?_) | exact trivial | (intro i j hi hj)))
  have hml : (js ++ [gj js i]).length = js.length + 1 := by simp
  generalize js.drop i ++ js.take i = T at c2 d2 htl hT
  generalize js ++ [gj js i] = M at c3 d3 hml hM
  rw [← hml, ← htl]
  (simp only [go_sem, ↓reduceIte, Nat.reduceAdd, Nat.reduceSub, Nat.reduceMul, Nat.reduceLT, Nat.reduceLeDiff, Nat.reduceEqDiff, Nat.reduceGT, Int.reduceToNat, Int.reduceBEq, Int.reduceBNe]; try simp (disch := omega) only [wrapI, wrapU, half_sum, toNat_sub1, toNat_add1, Int.toNat_natCast])
  (have dm1 := c1; have dm2 := c2; have dm3 := d1; have dm4 := d2; have cm1 := c3; have cm2 := d3; have dl1 := s1; have dl2 := s2; have sx1 := @beq_self_eq_true Int _ _; repeat' (first | with_reducible refine T_seq_drawT (id := 5) Γ_ok drawsAny pl5_5 (by kernel_rfl) (fun K hK => ?_) | with_reducible refine T_last_drawT (id := 5) Γ_ok drawsAny pl5_5 (by kernel_rfl) (fun K hK => ?_) | with_reducible refine T_seq_drawT (id := 6) Γ_ok drawsAny pl5_6 (by kernel_rfl) (fun K hK => ?_) | with_reducible refine T_last_drawT (id := 6) Γ_ok drawsAny pl5_6 (by kernel_rfl) (fun K hK => ?_) | ((refine goL1 _ _ _ _ _ _ _ _ ?_ ?_ ?_ ?_ ?_ ?_ ?_ ?_) <;> (repeat intro hb) <;> first | exact True.intro | refine Lf.mk ?_)))
end Go.Proofs.Ythikkiacgmgdhaa
