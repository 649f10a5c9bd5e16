/-
  What store.Fold answers.
-/
import Derived.Test.YtnomenmakhielaaDoorQGo
import Derived.Test.YtnomenmakhielaaDoorQS9
import Derived.Test.YtnomenmakhielaaDoorQS5
set_option linter.unusedSimpArgs false
set_option linter.unusedVariables false
namespace Go.Proofs.YtnomenmakhielaaDoor
open Go.Ab

theorem learnR_len (l : List Tk) (t : Tk) : (learnR l t).1.length ≤ 15 := by
  unfold learnR
  split
  · rename_i h
    split
    · split <;> simp
    · rename_i hk; exact (lrn_val h.2 h.1 hk).len
  · simp

set_option maxRecDepth 100000 in
set_option maxHeartbeats 400000 in
theorem bad_tc (k s b s' c n d : Int) : Look Tryd.prog 33 [.agg [.imm (.int .i64 k), .imm (.int .i64 s), .imm (.int .i64 b), .imm (.int .i64 s'), .imm (.int .i64 c), .imm (.int .i64 n), .imm (.int .i64 d)]] (.imm (.bool (!Rcd.ok ⟨k, s, b, ⟨s', c, n, d⟩⟩))) := by
  refine Look.mk trivial ?_
  (refine TC_of_T Γ_ok Tryd.func33 rfl (by kernel_rfl) ?_; simp only [Tryd.ntmps33, Tryd.results33, List.length_cons, List.length_nil, Nat.reduceSub, Nat.reduceAdd, List.replicate, List.cons_append, List.nil_append])
  (have cl1 := fun u1 u2 u3 u4 u5 u6 u7 => valid_e u1 u2 u3 u4 u5 u6 u7; ((refine goR0 _ _ _ _ _ _ _ _ ?_ ?_ ?_ ?_ ?_ ?_ ?_ ?_) <;> (repeat intro hb) <;> first | exact True.intro | refine Lf.mk ?_))

def allOk (l : List Rcd) : Bool := l.all Rcd.ok
theorem allOk_gR {l : List Rcd} {i : Nat} (h : allOk l = true) (hi : i < l.length) : (gR l i).ok = true := by
  unfold allOk at h
  rw [List.all_eq_true] at h
  exact h _ (by simp [gR, hi])

theorem allOk_of {l : List Rcd} (h : ∀ j, j < l.length → (gR l j).ok = true) : allOk l = true := by
  unfold allOk
  rw [List.all_eq_true]
  intro r hr
  obtain ⟨i, hi, rfl⟩ := List.getElem_of_mem hr
  have := h i hi
  simpa [gR, hi] using this

set_option maxRecDepth 100000 in
set_option maxHeartbeats 400000 in
theorem ixf_tc (l : List Rcd) (hl : l.length ≤ 9223372036854775807) : TC Tryd.prog 51 [rcs l, .fn (.func 33) [] []] [] (fun v σ' => ∃ x : Int, v = .imm (.int .i64 x) ∧ σ' = [] ∧ (0 ≤ x ↔ allOk l = false)) := by
  (refine TC_of_T Γ_ok Tryd.func51 rfl (by kernel_rfl) ?_; simp only [Tryd.ntmps51, Tryd.results51, List.length_cons, List.length_nil, Nat.reduceSub, Nat.reduceAdd, List.replicate, List.cons_append, List.nil_append])
  (((refine goR0 _ _ _ _ _ _ _ _ ?_ ?_ ?_ ?_ ?_ ?_ ?_ ?_) <;> (repeat intro hb) <;> first | exact True.intro | refine Lf.mk ?_))
  refine T_loopW (fun m st => ∃ i : Nat, i ≤ l.length ∧ m + i = l.length ∧ (∀ j, j < i → (gR l j).ok = true) ∧ st = ⟨[rcs l, .fn (.func 33) [] [], .top, .top, .imm (.int .i64 0), .top, rcs l, .imm (.int .i64 l.length), .imm (.int .i64 i)] ++ List.replicate 10 .top, []⟩)
    l.length ⟨_, ?_, 0, by omega, rfl, by omega, rfl⟩ ?_
  · ((try simp only [List.length_append, List.length_cons, List.length_nil, Nat.zero_add]); refine Wk.intro [] (by decide) (by decide) (by intro o ho; simp at ho ⊢ <;> omega) ?_ ?_ <;> repeat' (first | exact WkVL.nil | refine WkVL.cons ?_ ?_ | exact WkV.top | exact WkV.imm rfl | exact WkV.imm (by simp) | exact WkV.optr rfl | exact WkV.own rfl (by simp) | exact WkV.nil_own (.inl rfl) | exact WkV.map rfl | (refine WkV.free ?_; simp [Free, FreeL] <;> assumption) | (refine WkV.free (fun _ _ => FreeL_nth ?_ _); simp [Free, FreeL]; done) | refine WkV.agg ?_ | refine WkV.tup ?_ | refine WkV.fn ?_ ?_ | exact WkO.dead | exact WkO.raw | refine WkO.ghost ?_ | exact WkO.mpE rfl trivial | refine WkO.box ?_ rfl | refine WkO.arr ?_ | refine And.intro ?_ (And.intro (by first | exact fun h => h | exact fun _ => rfl | exact nofun) ?_) | exact trivial | (intro i j hi hj)))
  rintro m st ⟨i, h0, h1, h2, rfl⟩
  (simp only [go_sem, ↓reduceIte, Nat.reduceAdd, Nat.reduceSub, Nat.reduceMul, Nat.reduceLT, Nat.reduceLeDiff, Nat.reduceEqDiff, Nat.reduceGT, Int.reduceToNat, Int.reduceBEq, Int.reduceBNe]; try simp (disch := omega) only [wrapI, wrapU, half_sum, toNat_sub1, toNat_add1, Int.toNat_natCast])
  (have cl1 := fun u1 u2 u3 u4 u5 u6 u7 => bad_tc u1 u2 u3 u4 u5 u6 u7; ((refine goR0 _ _ _ _ _ _ _ _ ?_ ?_ ?_ ?_ ?_ ?_ ?_ ?_) <;> (repeat intro hb) <;> first | exact True.intro | refine Lf.mk ?_))
  · refine ⟨i, rfl, ⟨fun _ => ?_, fun _ => by omega⟩⟩
    cases hq : allOk l with
    | false => rfl
    | true => rw [show (gR l i).ok = true from allOk_gR hq (by omega)] at hb; cases hb
  · refine ⟨l.length - (i + 1), by omega, _, ?_, i + 1, by omega, by omega, fun j hj => ?_, rfl⟩
    · ((try simp only [List.length_append, List.length_cons, List.length_nil, Nat.zero_add]); refine Wk.intro [] (by decide) (by decide) (by intro o ho; simp at ho ⊢ <;> omega) ?_ ?_ <;> repeat' (first | (refine WkV.imm ?_; congr 1; omega) | exact WkVL.nil | refine WkVL.cons ?_ ?_ | exact WkV.top | exact WkV.imm rfl | exact WkV.imm (by simp) | exact WkV.optr rfl | exact WkV.own rfl (by simp) | exact WkV.nil_own (.inl rfl) | exact WkV.map rfl | (refine WkV.free ?_; simp [Free, FreeL] <;> assumption) | (refine WkV.free (fun _ _ => FreeL_nth ?_ _); simp [Free, FreeL]; done) | refine WkV.agg ?_ | refine WkV.tup ?_ | refine WkV.fn ?_ ?_ | exact WkO.dead | exact WkO.raw | refine WkO.ghost ?_ | exact WkO.mpE rfl trivial | refine WkO.box ?_ rfl | refine WkO.arr ?_ | refine And.intro ?_ (And.intro (by first | exact fun h => h | exact fun _ => rfl | exact nofun) ?_) | exact trivial | (intro i j hi hj)))
    · by_cases e : j = i
      · subst e; exact hb
      · exact h2 j (by omega)
  · refine ⟨-1, rfl, ⟨fun h => by omega, fun h => ?_⟩⟩
    rw [show allOk l = true from allOk_of fun j hj => h2 j (by omega)] at h
    cases h

set_option maxRecDepth 100000 in
set_option maxHeartbeats 400000 in
theorem contains_tc (l : List Rcd) (hl : l.length ≤ 9223372036854775807) : Look Tryd.prog 32 [rcs l, .fn (.func 33) [] []] (.imm (.bool (!allOk l))) := by
  refine Look.mk trivial ?_
  (refine TC_of_T Γ_ok Tryd.func32 rfl (by kernel_rfl) ?_; simp only [Tryd.ntmps32, Tryd.results32, List.length_cons, List.length_nil, Nat.reduceSub, Nat.reduceAdd, List.replicate, List.cons_append, List.nil_append])
  repeat' (first
    | (with_reducible refine hK _ ?_; clear hK K)
    | (refine callGoal_mk trivial (ixf_tc l hl) ?_; rintro v σ' ⟨x, rfl, rfl, hx⟩; try (simp only [go_sem, ↓reduceIte, Nat.reduceAdd, Nat.reduceSub, Nat.reduceMul, Nat.reduceLT, Nat.reduceLeDiff, Nat.reduceEqDiff, Nat.reduceGT, Int.reduceToNat, Int.reduceBEq, Int.reduceBNe]; try simp (disch := omega) only [wrapI, wrapU, half_sum, toNat_sub1, toNat_add1, Int.toNat_natCast]))
    | ((with_reducible apply DC_call); (focus exact rfl); (focus exact rfl); (focus exact rfl); intro N hN; (simp only [go_sem, ↓reduceIte, Nat.reduceAdd, Nat.reduceSub, Nat.reduceMul, Nat.reduceLT, Nat.reduceLeDiff, Nat.reduceEqDiff, Nat.reduceGT, Int.reduceToNat, Int.reduceBEq, Int.reduceBNe]; try simp (disch := omega) only [wrapI, wrapU, half_sum, toNat_sub1, toNat_add1, Int.toNat_natCast]))
    | ((with_reducible first | refine T_seq_region Γ_ok (fun K hK => ?_) | refine T_last_region Γ_ok (fun K hK => ?_) | refine TO_callN rfl (fun N hN => ?_) | refine DCT_fork Γ_ok (fun K2 hK2 => ?_) | refine DCT_last Γ_ok ?_ | refine DC_ev Γ_ok ?_ | refine TO_ev Γ_ok ?_ | refine retQ_r ?_ | refine retQ_n ?_); (simp only [go_sem, ↓reduceIte, Nat.reduceAdd, Nat.reduceSub, Nat.reduceMul, Nat.reduceLT, Nat.reduceLeDiff, Nat.reduceEqDiff, Nat.reduceGT, Int.reduceToNat, Int.reduceBEq, Int.reduceBNe]; try simp (disch := omega) only [wrapI, wrapU, half_sum, toNat_sub1, toNat_add1, Int.toNat_natCast]))
    | (with_reducible refine hK2 _ ?_ ?_ <;> clear hK2 K2)
    | with_reducible refine gC_false ?_ | with_reducible refine gC_true ?_ | with_reducible refine dCall_true ?_
    | (with_reducible refine hN _ _ ?_; clear hN N)
    | (with_reducible refine hN _ _ (dInl rfl) ?_; clear hN N)
    | ((with_reducible refine hN _ _ (.inr ?_) ?_); (focus (simp only [go_sem, ↓reduceIte, Nat.reduceAdd, Nat.reduceSub, Nat.reduceMul, Nat.reduceLT, Nat.reduceLeDiff, Nat.reduceEqDiff, Nat.reduceGT, Int.reduceToNat, Int.reduceBEq, Int.reduceBNe]; try simp (disch := omega) only [wrapI, wrapU, half_sum, toNat_sub1, toNat_add1, Int.toNat_natCast])); all_goals (try clear hN N))
    | with_reducible refine T_seq ?_ | with_reducible refine T_block ?_ | with_reducible refine T_ret ?_ | with_reducible refine T_exit ?_ | with_reducible refine T_skip ?_ | with_reducible refine T_label ?_
    | with_reducible refine thenQ_n ?_ | with_reducible refine thenQ_e ?_ | with_reducible refine thenQ_r ?_ | with_reducible refine blockQ_n ?_ | with_reducible refine blockQ_e ?_ | with_reducible refine blockQ_r ?_
    | with_reducible refine blockQ_o (by decide) ?_
    | ((with_reducible refine T_cond _ rfl (fun hb => ?_) (fun hb => ?_)) <;> first | (cases hb; done) | (simp only [decide_eq_true_eq, decide_eq_false_iff_not, Bool.and_eq_true, Bool.or_eq_true, Bool.and_eq_false_imp, Bool.or_eq_false_iff, Bool.not_eq_true', Bool.not_eq_false', beq_iff_eq, bne_iff_ne, ne_eq, beq_eq_false_iff_ne, bne_eq_false_iff_eq, Int.not_lt, Int.not_le, ge_iff_le, gt_iff_lt] at hb) | skip)
    | (with_reducible refine And.intro (by first | exact trivial | omega | (intro hg; simp at hg ⊢ <;> omega) | (simp <;> omega)) ?_)
    | assumption | omega)
  congr 2
  cases hq : allOk l with
  | false => rw [hq] at hx; simp at hx ⊢; omega
  | true => rw [hq] at hx; simp at hx ⊢; omega

/-- The deeds' table. -/
@[go_sem, reducible] def deedM : AObj := .mp (.int .i64) [(.int .i64 1, .fn (.func 53) [] []), (.int .i64 2, .fn (.func 56) [] []), (.int .i64 3, .fn (.func 58) [] [])]
set_option maxRecDepth 100000 in
set_option maxHeartbeats 400000 in
theorem deeds_tc : Makes Tryd.prog 35 [] (.map 0) [deedM] := by
  refine ⟨?_, trivial, fun a ha => by simp at ha; subst ha; simp [PlO, PlL, Pl]⟩
  (refine TC_of_T Γ_ok Tryd.func35 rfl (by kernel_rfl) ?_; simp only [Tryd.ntmps35, Tryd.results35, List.length_cons, List.length_nil, Nat.reduceSub, Nat.reduceAdd, List.replicate, List.cons_append, List.nil_append])
  (((refine goR0 _ _ _ _ _ _ _ _ ?_ ?_ ?_ ?_ ?_ ?_ ?_ ?_) <;> (repeat intro hb) <;> first | exact True.intro | refine Lf.mk ?_))
  all_goals rfl

/-- The memory that records lead to, and the error. -/
noncomputable def runM : List Rcd → Mem → Mem × Int
  | [], m => (m, 0)
  | r :: l, m => if (doR m r).2 = 0 then runM l (doR m r).1 else (⟨[], []⟩, (doR m r).2)
noncomputable def foldR (l : List Rcd) : Mem × Int := if l.length ≤ 500 ∧ allOk l = true then runM l ⟨[], []⟩ else (⟨[], []⟩, 1)
end Go.Proofs.YtnomenmakhielaaDoor
