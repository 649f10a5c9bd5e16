/-
  Parts joined: M6 M7 M8 M9 M10.
-/
import Derived.Test.YthikkiacgmgdhaaQGo
import Derived.Test.YthikkiacgmgdhaaQC1
set_option linter.unusedSimpArgs false
set_option linter.unusedVariables false
namespace Go.Proofs.Ythikkiacgmgdhaa
open Go.Ab

set_option maxRecDepth 100000 in
set_option maxHeartbeats 4000000 in
theorem index_tc (l : List Int) (x : Int) (hl : l.length ≤ 9223372036854775807) : TC Try.prog 84 [ints l, .imm (.int .i64 x)] [] (fun v σ' => ∃ k : Int, v = .imm (.int .i64 k) ∧ σ' = [] ∧ (0 ≤ k ↔ hasB l x = true)) := by
  (refine TC_of_T Γ_ok Try.func84 rfl (by kernel_rfl) ?_; simp only [Try.ntmps84, Try.results84, List.length_cons, List.length_nil, Nat.reduceSub, Nat.reduceAdd, List.replicate, List.cons_append, List.nil_append])
  (((refine goR0 _ _ _ _ _ _ _ _ ?_ ?_ ?_ ?_ ?_ ?_ ?_ ?_) <;> (repeat intro hb) <;> first | exact True.intro | refine Lf.mk ?_))
  refine T_loopW (fun m st => ∃ i : Nat, i ≤ l.length ∧ m + i = l.length ∧ hasB l x = hasB (l.drop i) x ∧
      st = ⟨[ints l, .imm (.int .i64 x), .top, .top, .imm (.int .i64 0), .top, .top, .imm (.int .i64 l.length), .imm (.int .i64 i)] ++ List.replicate 10 .top, []⟩)
      l.length ⟨_, ?_, 0, by omega, rfl, rfl, rfl⟩ ?_
  · ((try simp only [List.length_append, List.length_cons, List.length_nil, Nat.zero_add]); refine Wk.intro [] (by decide) (by decide) (by intro o ho; simp at ho ⊢ <;> omega) ?_ ?_ <;> repeat' (first | exact WkVL.nil | refine WkVL.cons ?_ ?_ | exact WkV.top | exact WkV.imm rfl | exact WkV.imm (by simp) | exact WkV.optr rfl | exact WkV.own rfl (by simp) | exact WkV.nil_own (.inl rfl) | exact WkV.map rfl | (refine WkV.free ?_; simp [Free, FreeL] <;> assumption) | (refine WkV.free (fun _ _ => FreeL_nth ?_ _); simp [Free, FreeL]; done) | refine WkV.agg ?_ | refine WkV.tup ?_ | refine WkV.fn ?_ ?_ | exact WkO.dead | exact WkO.raw | refine WkO.ghost ?_ | exact WkO.mpE rfl trivial | refine WkO.box ?_ rfl | refine WkO.arr ?_ | refine And.intro ?_ (And.intro (by first | exact fun h => h | exact fun _ => rfl | exact nofun) ?_) | exact trivial | (intro i j hi hj)))
  rintro m st ⟨i, h0, h1, h2, rfl⟩
  (simp only [go_sem, ↓reduceIte, Nat.reduceAdd, Nat.reduceSub, Nat.reduceMul, Nat.reduceLT, Nat.reduceLeDiff, Nat.reduceEqDiff, Nat.reduceGT, Int.reduceToNat, Int.reduceBEq, Int.reduceBNe]; try simp (disch := omega) only [wrapI, wrapU, half_sum, toNat_sub1, toNat_add1, Int.toNat_natCast])
  (((refine goR0 _ _ _ _ _ _ _ _ ?_ ?_ ?_ ?_ ?_ ?_ ?_ ?_) <;> (repeat intro hb) <;> first | exact True.intro | refine Lf.mk ?_))
  · refine ⟨i, rfl, ⟨fun _ => ?_, fun _ => by omega⟩⟩
    rw [h2, hasB_drop x (by omega)]; simp [hb]
  · refine ⟨l.length - (i + 1), by omega, _, ?_, i + 1, by omega, by omega, ?_, rfl⟩
    · ((try simp only [List.length_append, List.length_cons, List.length_nil, Nat.zero_add]); refine Wk.intro [] (by decide) (by decide) (by intro o ho; simp at ho ⊢ <;> omega) ?_ ?_ <;> repeat' (first | (refine WkV.imm ?_; congr 1; omega) | exact WkVL.nil | refine WkVL.cons ?_ ?_ | exact WkV.top | exact WkV.imm rfl | exact WkV.imm (by simp) | exact WkV.optr rfl | exact WkV.own rfl (by simp) | exact WkV.nil_own (.inl rfl) | exact WkV.map rfl | (refine WkV.free ?_; simp [Free, FreeL] <;> assumption) | (refine WkV.free (fun _ _ => FreeL_nth ?_ _); simp [Free, FreeL]; done) | refine WkV.agg ?_ | refine WkV.tup ?_ | refine WkV.fn ?_ ?_ | exact WkO.dead | exact WkO.raw | refine WkO.ghost ?_ | exact WkO.mpE rfl trivial | refine WkO.box ?_ rfl | refine WkO.arr ?_ | refine And.intro ?_ (And.intro (by first | exact fun h => h | exact fun _ => rfl | exact nofun) ?_) | exact trivial | (intro i j hi hj)))
    · rw [h2, hasB_drop x (by omega)]; simp [Ne.symm hb]
  · refine ⟨-1, rfl, ⟨fun h => by omega, fun h => ?_⟩⟩
    rw [h2, List.drop_of_length_le (by omega)] at h
    cases h

set_option maxRecDepth 100000 in
set_option maxHeartbeats 4000000 in
theorem contains_tc (l : List Int) (x : Int) (hl : l.length ≤ 9223372036854775807) : Look Try.prog 64 [ints l, .imm (.int .i64 x)] (.imm (.bool (hasB l x))) := by
  refine Look.mk trivial ?_
  (refine TC_of_T Γ_ok Try.func64 rfl (by kernel_rfl) ?_; simp only [Try.ntmps64, Try.results64, List.length_cons, List.length_nil, Nat.reduceSub, Nat.reduceAdd, List.replicate, List.cons_append, List.nil_append])
  repeat' (first
    | (with_reducible refine hK _ ?_; clear hK K)
    | (refine callGoal_mk trivial (index_tc l x hl) ?_; rintro v σ' ⟨k, rfl, rfl, hx⟩; try (simp only [go_sem, ↓reduceIte, Nat.reduceAdd, Nat.reduceSub, Nat.reduceMul, Nat.reduceLT, Nat.reduceLeDiff, Nat.reduceEqDiff, Nat.reduceGT, Int.reduceToNat, Int.reduceBEq, Int.reduceBNe]; try simp (disch := omega) only [wrapI, wrapU, half_sum, toNat_sub1, toNat_add1, Int.toNat_natCast]))
    | ((with_reducible apply DC_call); (focus exact rfl); (focus exact rfl); (focus exact rfl); intro N hN; (simp only [go_sem, ↓reduceIte, Nat.reduceAdd, Nat.reduceSub, Nat.reduceMul, Nat.reduceLT, Nat.reduceLeDiff, Nat.reduceEqDiff, Nat.reduceGT, Int.reduceToNat, Int.reduceBEq, Int.reduceBNe]; try simp (disch := omega) only [wrapI, wrapU, half_sum, toNat_sub1, toNat_add1, Int.toNat_natCast]))
    | ((with_reducible first | refine T_seq_region Γ_ok (fun K hK => ?_) | refine T_last_region Γ_ok (fun K hK => ?_) | refine TO_callN rfl (fun N hN => ?_) | refine DCT_fork Γ_ok (fun K2 hK2 => ?_) | refine DCT_last Γ_ok ?_ | refine DC_ev Γ_ok ?_ | refine TO_ev Γ_ok ?_ | refine retQ_r ?_ | refine retQ_n ?_); (simp only [go_sem, ↓reduceIte, Nat.reduceAdd, Nat.reduceSub, Nat.reduceMul, Nat.reduceLT, Nat.reduceLeDiff, Nat.reduceEqDiff, Nat.reduceGT, Int.reduceToNat, Int.reduceBEq, Int.reduceBNe]; try simp (disch := omega) only [wrapI, wrapU, half_sum, toNat_sub1, toNat_add1, Int.toNat_natCast]))
    | (with_reducible refine hK2 _ ?_ ?_ <;> clear hK2 K2)
    | with_reducible refine gC_false ?_ | with_reducible refine gC_true ?_ | with_reducible refine dCall_true ?_
    | (with_reducible refine hN _ _ ?_; clear hN N)
    | (with_reducible refine hN _ _ (dInl rfl) ?_; clear hN N)
    | ((with_reducible refine hN _ _ (.inr ?_) ?_); (focus (simp only [go_sem, ↓reduceIte, Nat.reduceAdd, Nat.reduceSub, Nat.reduceMul, Nat.reduceLT, Nat.reduceLeDiff, Nat.reduceEqDiff, Nat.reduceGT, Int.reduceToNat, Int.reduceBEq, Int.reduceBNe]; try simp (disch := omega) only [wrapI, wrapU, half_sum, toNat_sub1, toNat_add1, Int.toNat_natCast])); all_goals (try clear hN N))
    | with_reducible refine T_seq ?_ | with_reducible refine T_block ?_ | with_reducible refine T_ret ?_ | with_reducible refine T_exit ?_ | with_reducible refine T_skip ?_ | with_reducible refine T_label ?_
    | with_reducible refine thenQ_n ?_ | with_reducible refine thenQ_e ?_ | with_reducible refine thenQ_r ?_ | with_reducible refine blockQ_n ?_ | with_reducible refine blockQ_e ?_ | with_reducible refine blockQ_r ?_
    | with_reducible refine blockQ_o (by decide) ?_
    | ((with_reducible refine T_cond _ rfl (fun hb => ?_) (fun hb => ?_)) <;> first | (cases hb; done) | (simp only [decide_eq_true_eq, decide_eq_false_iff_not, Bool.and_eq_true, Bool.or_eq_true, Bool.and_eq_false_imp, Bool.or_eq_false_iff, Bool.not_eq_true', Bool.not_eq_false', beq_iff_eq, bne_iff_ne, ne_eq, beq_eq_false_iff_ne, bne_eq_false_iff_eq, Int.not_lt, Int.not_le, ge_iff_le, gt_iff_lt] at hb) | skip)
    | (with_reducible refine And.intro (by first | exact trivial | omega | (intro hg; simp at hg ⊢ <;> omega) | (simp <;> omega)) ?_)
    | assumption | omega)
  congr 2
  cases hq : hasB l x with
  | false => rw [hq] at hx; simp at hx ⊢; omega
  | true => rw [hq] at hx; simp at hx ⊢; omega
end Go.Proofs.Ythikkiacgmgdhaa
namespace Go.Proofs.Ythikkiacgmgdhaa
open Go.Ab

/-- Marks: a box of eight cells, told by a function. -/
def mkL (M : Nat → Bool) : List AV := (List.range 8).map fun k => .imm (.bool (M k))
@[go_sem] theorem mkL_length (M : Nat → Bool) : (mkL M).length = 8 := by simp [mkL]
theorem mkL_set (M : Nat → Bool) (k : Nat) (b : Bool) (h : k < 8) : setC (mkL M) k [.imm (.bool b)] = mkL (fun i => if i = k then b else M i) := by
  obtain rfl | rfl | rfl | rfl | rfl | rfl | rfl | rfl : k = 0 ∨ k = 1 ∨ k = 2 ∨ k = 3 ∨ k = 4 ∨ k = 5 ∨ k = 6 ∨ k = 7 := by omega
  all_goals rfl
theorem mkL_upd (M : Nat → Bool) (k : Nat) (b : Bool) (h : k < 8) : List.take k (mkL M) ++ [.imm (.bool b)] ++ List.drop (k + 1) (mkL M) = mkL (fun i => if i = k then b else M i) := mkL_set M k b h
/-- The marks of the first i voters that the others have, too. -/
def mkN (M : Nat → Bool) (a b : List Int) : Nat → Nat → Bool
  | 0, k => M k
  | i + 1, k => if hasB b (gi a i) = true ∧ (k : Int) = gi a i then true else mkN M a b i k

set_option maxRecDepth 100000 in
set_option maxHeartbeats 4000000 in
theorem mark_raw (M : Nat → Bool) (a b : En) (hl : a.v.length ≤ 9223372036854775807) (hb' : b.v.length ≤ 9223372036854775807) (hv : ∀ i, i < a.v.length → 0 ≤ gi a.v i ∧ gi a.v i < 8) :
    TC Try.prog 42 [.optr 0 0 0, enA a, enA b] [.box 90 (mkL M)] (fun v σ' => v = .tup [] ∧ σ' = [.box 90 (mkL (mkN M a.v b.v a.v.length)), .box 27 (enL a), .box 27 (enL b)]) := by
  (refine TC_of_T Γ_ok Try.func42 rfl (by kernel_rfl) ?_; simp only [Try.ntmps42, Try.results42, List.length_cons, List.length_nil, Nat.reduceSub, Nat.reduceAdd, List.replicate, List.cons_append, List.nil_append])
  (((refine goR0 _ _ _ _ _ _ _ _ ?_ ?_ ?_ ?_ ?_ ?_ ?_ ?_) <;> (repeat intro hb) <;> first | exact True.intro | refine Lf.mk ?_))
  · refine T_loopW (fun m st => ∃ i : Nat, i ≤ a.v.length ∧ m + i = a.v.length ∧
      st = ⟨[.optr 0 0 0, enA a, enA b, .top, .optr 1 0 0, .optr 2 0 0, .top, .top, .top, ints a.v, .imm (.int .i64 a.v.length), .imm (.int .i64 i)] ++ List.replicate 12 .top, [.box 90 (mkL (mkN M a.v b.v i)), .box 27 (enL a), .box 27 (enL b)]⟩)
      a.v.length ⟨_, ?_, 0, by omega, rfl, rfl⟩ ?_
    · ((try simp only [List.length_append, List.length_cons, List.length_nil, Nat.zero_add]); refine Wk.intro [0, 1, 2] (by decide) (by decide) (by intro o ho; simp at ho ⊢ <;> omega) ?_ ?_ <;> repeat' (first | exact WkVL.nil | refine WkVL.cons ?_ ?_ | exact WkV.top | exact WkV.imm rfl | exact WkV.imm (by simp) | exact WkV.optr rfl | exact WkV.own rfl (by simp) | exact WkV.nil_own (.inl rfl) | exact WkV.map rfl | (refine WkV.free ?_; simp [Free, FreeL] <;> assumption) | (refine WkV.free (fun _ _ => FreeL_nth ?_ _); simp [Free, FreeL]; done) | refine WkV.agg ?_ | refine WkV.tup ?_ | refine WkV.fn ?_ ?_ | exact WkO.dead | exact WkO.raw | refine WkO.ghost ?_ | exact WkO.mpE rfl trivial | refine WkO.box ?_ rfl | refine WkO.arr ?_ | refine And.intro ?_ (And.intro (by first | exact fun h => h | exact fun _ => rfl | exact nofun) ?_) | exact trivial | (intro i j hi hj)))
    rintro m st ⟨i, h0, h1, rfl⟩
    have hv' : i < a.v.length → 0 ≤ gi a.v i ∧ gi a.v i < 8 := hv i
    (simp only [go_sem, ↓reduceIte, Nat.reduceAdd, Nat.reduceSub, Nat.reduceMul, Nat.reduceLT, Nat.reduceLeDiff, Nat.reduceEqDiff, Nat.reduceGT, Int.reduceToNat, Int.reduceBEq, Int.reduceBNe]; try simp (disch := omega) only [wrapI, wrapU, half_sum, toNat_sub1, toNat_add1, Int.toNat_natCast])
    (have cl1 := fun u1 => contains_tc b.v u1 hb'; ((refine goR0 _ _ _ _ _ _ _ _ ?_ ?_ ?_ ?_ ?_ ?_ ?_ ?_) <;> (repeat intro hb) <;> first | exact True.intro | refine Lf.mk ?_))
    · have hi : i < a.v.length := by omega
      refine ⟨a.v.length - (i + 1), by omega, _, ?_, i + 1, by omega, by omega, rfl⟩
      have e : List.take ((gi a.v i).toNat * 1) (mkL (mkN M a.v b.v i)) ++ [AV.imm (Value.bool true)] ++ List.drop ((gi a.v i).toNat * 1 + 1) (mkL (mkN M a.v b.v i)) = mkL (mkN M a.v b.v (i + 1)) := by
        rw [Nat.mul_one, mkL_upd _ _ _ (by have := hv i hi; omega)]
        congr 1
        funext k
        unfold mkN
        simp only [hb, true_and]
        have := hv i hi
        by_cases h : k = (gi a.v i).toNat
        · rw [if_pos h, if_pos (by omega)]
        · rw [if_neg h, if_neg (by omega)]; cases i <;> rfl
      rw [e]
      ((try simp only [List.length_append, List.length_cons, List.length_nil, Nat.zero_add]); refine Wk.intro [0, 1, 2] (by decide) (by decide) (by intro o ho; simp at ho ⊢ <;> omega) ?_ ?_ <;> repeat' (first | (refine WkV.imm ?_; congr 1; omega) | exact WkVL.nil | refine WkVL.cons ?_ ?_ | exact WkV.top | exact WkV.imm rfl | exact WkV.imm (by simp) | exact WkV.optr rfl | exact WkV.own rfl (by simp) | exact WkV.nil_own (.inl rfl) | exact WkV.map rfl | (refine WkV.free ?_; simp [Free, FreeL] <;> assumption) | (refine WkV.free (fun _ _ => FreeL_nth ?_ _); simp [Free, FreeL]; done) | refine WkV.agg ?_ | refine WkV.tup ?_ | refine WkV.fn ?_ ?_ | exact WkO.dead | exact WkO.raw | refine WkO.ghost ?_ | exact WkO.mpE rfl trivial | refine WkO.box ?_ rfl | refine WkO.arr ?_ | refine And.intro ?_ (And.intro (by first | exact fun h => h | exact fun _ => rfl | exact nofun) ?_) | exact trivial | (intro i j hi hj)))
    · refine ⟨a.v.length - (i + 1), by omega, _, ?_, i + 1, by omega, by omega, rfl⟩
      have e : mkN M a.v b.v (i + 1) = mkN M a.v b.v i := by
        funext k
        rw [mkN]
        simp [hb]
      rw [e]
      ((try simp only [List.length_append, List.length_cons, List.length_nil, Nat.zero_add]); refine Wk.intro [0, 1, 2] (by decide) (by decide) (by intro o ho; simp at ho ⊢ <;> omega) ?_ ?_ <;> repeat' (first | (refine WkV.imm ?_; congr 1; omega) | exact WkVL.nil | refine WkVL.cons ?_ ?_ | exact WkV.top | exact WkV.imm rfl | exact WkV.imm (by simp) | exact WkV.optr rfl | exact WkV.own rfl (by simp) | exact WkV.nil_own (.inl rfl) | exact WkV.map rfl | (refine WkV.free ?_; simp [Free, FreeL] <;> assumption) | (refine WkV.free (fun _ _ => FreeL_nth ?_ _); simp [Free, FreeL]; done) | refine WkV.agg ?_ | refine WkV.tup ?_ | refine WkV.fn ?_ ?_ | exact WkO.dead | exact WkO.raw | refine WkO.ghost ?_ | exact WkO.mpE rfl trivial | refine WkO.box ?_ rfl | refine WkO.arr ?_ | refine And.intro ?_ (And.intro (by first | exact fun h => h | exact fun _ => rfl | exact nofun) ?_) | exact trivial | (intro i j hi hj)))
    · obtain rfl : i = a.v.length := by omega
      rfl

theorem mark_tc (M : Nat → Bool) (a b : En) (hl : a.v.length ≤ 9223372036854775807) (hb' : b.v.length ≤ 9223372036854775807) (hv : ∀ i, i < a.v.length → 0 ≤ gi a.v i ∧ gi a.v i < 8) :
    Turns Try.prog 42 [.optr 0 0 0, enA a, enA b] [.box 90 (mkL M)] (.tup []) [.box 90 (mkL (mkN M a.v b.v a.v.length)), .dead, .dead] := by
  have hp : ∀ M, PlL (mkL M) := fun M => by simp [mkL, PlL, Pl, List.range_succ]
  refine ⟨?_, by simp [VF, VFL], fun a ha => by simp at ha; rcases ha with rfl | rfl; exact PlL.VF _ (hp _); exact trivial⟩
  refine (mark_raw M a b hl hb' hv).weak fun v σ' ⟨hv, hs⟩ => ⟨[0, 1, 2], _, _, by simp [List.range_succ], by simp, by simp [hs], ?_, ?_, rfl, rfl⟩
  · rw [hv]; exact WkV.tup WkVL.nil
  · rw [hs]
    exact ⟨WkO.box (fun ρ w xs _ hx => PlL.any _ (hp _) hx) rfl, fun h => h, WkO.dead, fun h => (nomatch h), WkO.dead, fun h => (nomatch h), trivial⟩
end Go.Proofs.Ythikkiacgmgdhaa
namespace Go.Proofs.Ythikkiacgmgdhaa
open Go.Ab

@[go_sem, reducible] def intO (l : List Int) : AObj := .arr 3 1 l.length (inE l)
@[go_sem, reducible] def ownI (l : List Int) : AV := .own 0 0 l.length none
theorem inE_snoc (l : List Int) (x : Int) {i : Nat} (j : Nat) (hj : j < 1) (h : i < l.length + 1) : catE l.length (inE l) (fun i j => nth [.imm (.int .i64 x)] (i * 1 + j)) i j = inE (l ++ [x]) i j := by
  unfold catE inE gi
  obtain rfl : j = 0 := by omega
  split
  · rename_i h1
    simp [List.getElem?_append_left h1]
  · obtain rfl : i = l.length := by omega
    simp [nth]
/-- The marked desks below i. -/
def mkR (M : Nat → Bool) (i : Nat) : List Int := ((List.range i).filter M).map Int.ofNat
theorem mkR_succ (M : Nat → Bool) (i : Nat) : mkR M (i + 1) = if M i = true then mkR M i ++ [(i : Int)] else mkR M i := by
  unfold mkR
  rw [List.range_succ, List.filter_append, List.map_append]
  by_cases h : M i = true <;> simp [h, List.filter_cons]
theorem mkR_len (M : Nat → Bool) (i : Nat) : (mkR M i).length ≤ i := by
  unfold mkR
  rw [List.length_map]
  exact Nat.le_trans (List.length_filter_le _ _) (by simp)
@[go_sem] theorem mkL_one (M : Nat → Bool) : oneL (mkL M) = true := rfl
theorem mkL_nth (M : Nat → Bool) {k : Nat} (h : k < 8) : nth (mkL M) k = .imm (.bool (M k)) := by
  obtain rfl | rfl | rfl | rfl | rfl | rfl | rfl | rfl : k = 0 ∨ k = 1 ∨ k = 2 ∨ k = 3 ∨ k = 4 ∨ k = 5 ∨ k = 6 ∨ k = 7 := by omega
  all_goals rfl

set_option maxRecDepth 100000 in
set_option maxHeartbeats 4000000 in
theorem list_raw (M : Nat → Bool) : TC Try.prog 43 [.agg (mkL M)] [] (fun v σ' =>
    (v = .imm (.slice none 0 0) ∧ (mkR M 8).length = 0) ∨ ∃ k E', v = .own k 0 (mkR M 8).length none ∧ nthO σ' k = .arr 3 1 (mkR M 8).length E' ∧ ∀ i j, i < (mkR M 8).length → E' i j = inE (mkR M 8) i j) := by
  (refine TC_of_T Γ_ok Try.func43 rfl (by kernel_rfl) ?_; simp only [Try.ntmps43, Try.results43, List.length_cons, List.length_nil, Nat.reduceSub, Nat.reduceAdd, List.replicate, List.cons_append, List.nil_append])
  (((refine goR0 _ _ _ _ _ _ _ _ ?_ ?_ ?_ ?_ ?_ ?_ ?_ ?_) <;> (repeat intro hb) <;> first | exact True.intro | refine Lf.mk ?_))
  refine T_loopW (fun m st => ∃ (k : Nat) (c : List Int), k ≤ 8 ∧ m + k = 8 ∧ c = mkR M k ∧
      st = ⟨[.agg (mkL M), .top, .imm (.slice none 0 0), ownI c, .top, .top, .agg (mkL M), .imm (.int .i64 k)] ++ List.replicate 10 .top, [intO c]⟩)
    8 ⟨_, Wk.trans (Wk.push 3 1 (inE [])) ?_, 0, [], by omega, rfl, rfl, rfl⟩ ?_
  · ((try simp only [List.length_append, List.length_cons, List.length_nil, Nat.zero_add]); refine Wk.intro [1] (by decide) (by decide) (by intro o ho; simp at ho ⊢ <;> omega) ?_ ?_ <;> repeat' (first | exact WkVL.nil | refine WkVL.cons ?_ ?_ | exact WkV.top | exact WkV.imm rfl | exact WkV.imm (by simp) | exact WkV.optr rfl | exact WkV.own rfl (by simp) | exact WkV.nil_own (.inl rfl) | exact WkV.map rfl | (refine WkV.free ?_; simp [Free, FreeL] <;> assumption) | (refine WkV.free (fun _ _ => FreeL_nth ?_ _); simp [Free, FreeL]; done) | refine WkV.agg ?_ | refine WkV.tup ?_ | refine WkV.fn ?_ ?_ | exact WkO.dead | exact WkO.raw | refine WkO.ghost ?_ | exact WkO.mpE rfl trivial | refine WkO.box ?_ rfl | refine WkO.arr ?_ | refine And.intro ?_ (And.intro (by first | exact fun h => h | exact fun _ => rfl | exact nofun) ?_) | exact trivial | (intro i j hi hj)))
  rintro m st ⟨k, c, h1, h2, rfl, rfl⟩
  have hcl := mkR_len M k
  have hsucc := mkR_succ M k
  by_cases h8 : k < 8
  · have hnth : nth (mkL M) (k * 1) = .imm (.bool (M k)) := by rw [Nat.mul_one]; exact mkL_nth M h8
    (simp only [go_sem, ↓reduceIte, Nat.reduceAdd, Nat.reduceSub, Nat.reduceMul, Nat.reduceLT, Nat.reduceLeDiff, Nat.reduceEqDiff, Nat.reduceGT, Int.reduceToNat, Int.reduceBEq, Int.reduceBNe]; try simp (disch := omega) only [wrapI, wrapU, half_sum, toNat_sub1, toNat_add1, Int.toNat_natCast])
    (have sx1 := hnth; have sx2 : (0 : Nat) + 0 = 0 := rfl; ((refine goR2 _ _ _ _ _ _ _ _ ?_ ?_ ?_ ?_ ?_ ?_ ?_ ?_) <;> (repeat intro hb) <;> first | exact True.intro | refine Lf.mk ?_))
    · rw [if_pos hb] at hsucc
      refine ⟨8 - (k + 1), by omega, _, ?_, k + 1, _, by omega, by omega, hsucc.symm, rfl⟩
      ((try simp only [List.length_append, List.length_cons, List.length_nil, Nat.zero_add]); refine Wk.intro [2] (by decide) (by decide) (by intro o ho; simp at ho ⊢ <;> omega) ?_ ?_ <;> repeat' (first | (exact WkV.eqF (inE_snoc _ _ _ hj hi) (inE_free _ _ _)) | exact WkVL.nil | refine WkVL.cons ?_ ?_ | exact WkV.top | exact WkV.imm rfl | exact WkV.imm (by simp) | exact WkV.optr rfl | exact WkV.own rfl (by simp) | exact WkV.nil_own (.inl rfl) | exact WkV.map rfl | (refine WkV.free ?_; simp [Free, FreeL] <;> assumption) | (refine WkV.free (fun _ _ => FreeL_nth ?_ _); simp [Free, FreeL]; done) | refine WkV.agg ?_ | refine WkV.tup ?_ | refine WkV.fn ?_ ?_ | exact WkO.dead | exact WkO.raw | refine WkO.ghost ?_ | exact WkO.mpE rfl trivial | refine WkO.box ?_ rfl | refine WkO.arr ?_ | refine And.intro ?_ (And.intro (by first | exact fun h => h | exact fun _ => rfl | exact nofun) ?_) | exact trivial | (intro i j hi hj)))
    · rw [if_neg (by simp [hb])] at hsucc
      refine ⟨8 - (k + 1), by omega, _, ?_, k + 1, _, by omega, by omega, hsucc.symm, rfl⟩
      ((try simp only [List.length_append, List.length_cons, List.length_nil, Nat.zero_add]); refine Wk.intro [0] (by decide) (by decide) (by intro o ho; simp at ho ⊢ <;> omega) ?_ ?_ <;> repeat' (first | exact WkVL.nil | refine WkVL.cons ?_ ?_ | exact WkV.top | exact WkV.imm rfl | exact WkV.imm (by simp) | exact WkV.optr rfl | exact WkV.own rfl (by simp) | exact WkV.nil_own (.inl rfl) | exact WkV.map rfl | (refine WkV.free ?_; simp [Free, FreeL] <;> assumption) | (refine WkV.free (fun _ _ => FreeL_nth ?_ _); simp [Free, FreeL]; done) | refine WkV.agg ?_ | refine WkV.tup ?_ | refine WkV.fn ?_ ?_ | exact WkO.dead | exact WkO.raw | refine WkO.ghost ?_ | exact WkO.mpE rfl trivial | refine WkO.box ?_ rfl | refine WkO.arr ?_ | refine And.intro ?_ (And.intro (by first | exact fun h => h | exact fun _ => rfl | exact nofun) ?_) | exact trivial | (intro i j hi hj)))
  · obtain rfl : k = 8 := by omega
    (simp only [go_sem, ↓reduceIte, Nat.reduceAdd, Nat.reduceSub, Nat.reduceMul, Nat.reduceLT, Nat.reduceLeDiff, Nat.reduceEqDiff, Nat.reduceGT, Int.reduceToNat, Int.reduceBEq, Int.reduceBNe]; try simp (disch := omega) only [wrapI, wrapU, half_sum, toNat_sub1, toNat_add1, Int.toNat_natCast])
    (((refine goR0 _ _ _ _ _ _ _ _ ?_ ?_ ?_ ?_ ?_ ?_ ?_ ?_) <;> (repeat intro hb) <;> first | exact True.intro | refine Lf.mk ?_))
    exact .inr ⟨0, _, rfl, rfl, fun _ _ _ => rfl⟩

theorem list_tc (M : Nat → Bool) : Makes Try.prog 43 [.agg (mkL M)] (ownI (mkR M 8)) [intO (mkR M 8)] :=
  Makes.lst1 (fun i j => inE_pl _ i j) (list_raw M)
end Go.Proofs.Ythikkiacgmgdhaa
namespace Go.Proofs.Ythikkiacgmgdhaa
open Go.Ab

@[go_sem] theorem mkL_ren (π : List Nat) (n : Nat) (M : Nat → Bool) : renL π n (mkL M) = mkL M := rfl
@[go_sem] theorem mkL_sh (n : Nat) (M : Nat → Bool) : shL n (mkL M) = mkL M := rfl
@[go_sem] theorem mkL_take (M : Nat → Bool) : List.take 8 (mkL M) = mkL M := rfl
@[go_sem] theorem mkL_drop (M : Nat → Bool) : List.drop 0 (mkL M) = mkL M := rfl
theorem risB_range {n : Int} : ∀ {l : Int} {v : List Int}, risB n l v = true → ∀ i, i < v.length → l < gi v i ∧ gi v i < n
  | _, [], _, i, h => by simp at h
  | l, d :: r, h, 0, _ => by
    unfold risB at h
    split at h
    · cases h
    · simp only [gi, List.getD_cons_zero]; omega
  | l, d :: r, h, i + 1, hi => by
    unfold risB at h
    split at h
    · cases h
    · have := risB_range h i (by simpa using hi)
      simp only [gi, List.getD_cons_succ] at this ⊢
      omega
theorem enB_range {n : Int} {x : En} (h : enB n x = true) (hn : n ≤ 8) : ∀ i, i < x.v.length → 0 ≤ gi x.v i ∧ gi x.v i < 8 := fun i hi => by
  unfold enB at h
  simp only [Bool.and_eq_true] at h
  have := risB_range h.2 i hi
  omega

def comR (n : Int) (a b : En) : List Int × Int := if cntB n = true ∧ enB n a = true ∧ enB n b = true then (mkR (mkN (fun _ => false) a.v b.v a.v.length) 8, 0) else ([], 1)

set_option maxRecDepth 100000 in
set_option maxHeartbeats 4000000 in
theorem common_raw (n : Int) (a b : En) (hl : a.v.length ≤ 9223372036854775807) (hb' : b.v.length ≤ 9223372036854775807) : TC Try.prog 23 [.imm (.int .i64 n), enA a, enA b] [] (fun v σ' =>
    (v = .tup [.imm (.slice none 0 0), .imm (.int .i64 (comR n a b).2)] ∧ (comR n a b).1.length = 0) ∨
    ∃ k E', v = .tup [.own k 0 (comR n a b).1.length none, .imm (.int .i64 (comR n a b).2)] ∧ nthO σ' k = .arr 3 1 (comR n a b).1.length E' ∧ ∀ i j, i < (comR n a b).1.length → E' i j = inE (comR n a b).1 i j) := by
  by_cases h : cntB n = true ∧ enB n a = true ∧ enB n b = true
  · have e : comR n a b = (mkR (mkN (fun _ => false) a.v b.v a.v.length) 8, 0) := if_pos h
    have hr := enB_range h.2.1 (by have := h.1; unfold cntB at this; simp at this; omega)
    rw [e]
    have h1 := isCount_tc n
    have h2 := isEntry_tc n a hl
    have h3 := isEntry_tc n b hb'
    rw [show (decide (1 ≤ n) && decide (n ≤ 8)) = cntB n from rfl, h.1] at h1
    rw [h.2.1] at h2
    rw [h.2.2] at h3
    (refine TC_of_T Γ_ok Try.func23 rfl (by kernel_rfl) ?_; simp only [Try.ntmps23, Try.results23, List.length_cons, List.length_nil, Nat.reduceSub, Nat.reduceAdd, List.replicate, List.cons_append, List.nil_append])
    (have cl1 := h1; have dl1 := h2; have dl2 := h3; have ct1 := TurnsAt.mk [2] (mark_tc (fun _k => false) a b hl hb' hr); have cm1 := fun u1 => list_tc u1; ((refine goR0 _ _ _ _ _ _ _ _ ?_ ?_ ?_ ?_ ?_ ?_ ?_ ?_) <;> (repeat intro hb) <;> first | exact True.intro | refine Lf.mk ?_))
    exact .inr ⟨5, _, rfl, rfl, fun _ _ _ => rfl⟩
  · have e : comR n a b = ([], 1) := if_neg h
    rw [e]
    (refine TC_of_T Γ_ok Try.func23 rfl (by kernel_rfl) ?_; simp only [Try.ntmps23, Try.results23, List.length_cons, List.length_nil, Nat.reduceSub, Nat.reduceAdd, List.replicate, List.cons_append, List.nil_append])
    (have cl1 := fun u1 => isCount_tc u1; have dl1 := isEntry_tc n a hl; have dl2 := isEntry_tc n b hb'; ((refine goR0 _ _ _ _ _ _ _ _ ?_ ?_ ?_ ?_ ?_ ?_ ?_ ?_) <;> (repeat intro hb) <;> first | exact True.intro | refine Lf.mk ?_))
    · exact .inl trivial
    · exact absurd ⟨by unfold cntB; simp [hb.1.1], hb.1.2, hb.2⟩ h
theorem common_tc (n : Int) (a b : En) (hl : a.v.length ≤ 9223372036854775807) (hb' : b.v.length ≤ 9223372036854775807) : Makes Try.prog 23 [.imm (.int .i64 n), enA a, enA b] (.tup [ownI (comR n a b).1, .imm (.int .i64 (comR n a b).2)]) [intO (comR n a b).1] :=
  Makes.lst (fun i j => inE_pl _ i j) trivial (common_raw n a b hl hb')
end Go.Proofs.Ythikkiacgmgdhaa
namespace Go.Proofs.Ythikkiacgmgdhaa
open Go.Ab

def botL (a b : List Int) (i : Nat) : List Int := (a.take i).filter (hasB b)
theorem botL_succ (a b : List Int) {i : Nat} (h : i < a.length) : botL a b (i + 1) = if hasB b (gi a i) = true then botL a b i ++ [gi a i] else botL a b i := by
  unfold botL
  rw [List.take_succ_eq_append_getElem h, List.filter_append]
  have : gi a i = a[i] := by simp [gi, List.getD_eq_getElem?_getD, List.getElem?_eq_getElem h]
  rw [this]
  by_cases h : hasB b a[i] = true <;> simp [h, List.filter_cons]
theorem botL_len (a b : List Int) (i : Nat) : (botL a b i).length ≤ i := by
  unfold botL
  exact Nat.le_trans (List.length_filter_le _ _) (by simp; omega)

set_option maxRecDepth 100000 in
set_option maxHeartbeats 4000000 in
theorem both_raw (a b : List Int) (hl : a.length ≤ 1000) (hb' : b.length ≤ 9223372036854775807) : TC Try.prog 45 [ints a, ints b] [] (fun v σ' =>
    (v = .imm (.slice none 0 0) ∧ (botL a b a.length).length = 0) ∨ ∃ k E', v = .own k 0 (botL a b a.length).length none ∧ nthO σ' k = .arr 3 1 (botL a b a.length).length E' ∧ ∀ i j, i < (botL a b a.length).length → E' i j = inE (botL a b a.length) i j) := by
  (refine TC_of_T Γ_ok Try.func45 rfl (by kernel_rfl) ?_; simp only [Try.ntmps45, Try.results45, List.length_cons, List.length_nil, Nat.reduceSub, Nat.reduceAdd, List.replicate, List.cons_append, List.nil_append])
  (((refine goR0 _ _ _ _ _ _ _ _ ?_ ?_ ?_ ?_ ?_ ?_ ?_ ?_) <;> (repeat intro hb) <;> first | exact True.intro | refine Lf.mk ?_))
  refine T_loopW (fun m st => ∃ (k : Nat) (c : List Int), k ≤ a.length ∧ m + k = a.length ∧ c = botL a b k ∧
      st = ⟨[ints a, ints b, .top, .top, .imm (.slice none 0 0), ownI c, .imm (.int .i64 k)] ++ List.replicate 20 .top, [intO c]⟩)
    a.length ⟨_, Wk.trans (Wk.push 3 1 (inE [])) ?_, 0, [], by omega, rfl, rfl, rfl⟩ ?_
  · ((try simp only [List.length_append, List.length_cons, List.length_nil, Nat.zero_add]); refine Wk.intro [0] (by decide) (by decide) (by intro o ho; simp at ho ⊢ <;> omega) ?_ ?_ <;> repeat' (first | exact WkVL.nil | refine WkVL.cons ?_ ?_ | exact WkV.top | exact WkV.imm rfl | exact WkV.imm (by simp) | exact WkV.optr rfl | exact WkV.own rfl (by simp) | exact WkV.nil_own (.inl rfl) | exact WkV.map rfl | (refine WkV.free ?_; simp [Free, FreeL] <;> assumption) | (refine WkV.free (fun _ _ => FreeL_nth ?_ _); simp [Free, FreeL]; done) | refine WkV.agg ?_ | refine WkV.tup ?_ | refine WkV.fn ?_ ?_ | exact WkO.dead | exact WkO.raw | refine WkO.ghost ?_ | exact WkO.mpE rfl trivial | refine WkO.box ?_ rfl | refine WkO.arr ?_ | refine And.intro ?_ (And.intro (by first | exact fun h => h | exact fun _ => rfl | exact nofun) ?_) | exact trivial | (intro i j hi hj)))
  rintro m st ⟨k, c, h1, h2, rfl, rfl⟩
  have hcl := botL_len a b k
  (simp only [go_sem, ↓reduceIte, Nat.reduceAdd, Nat.reduceSub, Nat.reduceMul, Nat.reduceLT, Nat.reduceLeDiff, Nat.reduceEqDiff, Nat.reduceGT, Int.reduceToNat, Int.reduceBEq, Int.reduceBNe]; try simp (disch := omega) only [wrapI, wrapU, half_sum, toNat_sub1, toNat_add1, Int.toNat_natCast])
  (have cl1 := fun u1 => rhas_tc b u1 hb'; ((refine goR0 _ _ _ _ _ _ _ _ ?_ ?_ ?_ ?_ ?_ ?_ ?_ ?_) <;> (repeat intro hb) <;> first | exact True.intro | refine Lf.mk ?_))
  · have hk : k < a.length := by omega
    have hsucc := botL_succ a b hk
    rw [if_pos hb] at hsucc
    refine ⟨a.length - (k + 1), by omega, _, ?_, k + 1, _, by omega, by omega, hsucc.symm, rfl⟩
    ((try simp only [List.length_append, List.length_cons, List.length_nil, Nat.zero_add]); refine Wk.intro [2] (by decide) (by decide) (by intro o ho; simp at ho ⊢ <;> omega) ?_ ?_ <;> repeat' (first | (exact WkV.eqF (inE_snoc _ _ _ hj hi) (inE_free _ _ _)) | exact WkVL.nil | refine WkVL.cons ?_ ?_ | exact WkV.top | exact WkV.imm rfl | exact WkV.imm (by simp) | exact WkV.optr rfl | exact WkV.own rfl (by simp) | exact WkV.nil_own (.inl rfl) | exact WkV.map rfl | (refine WkV.free ?_; simp [Free, FreeL] <;> assumption) | (refine WkV.free (fun _ _ => FreeL_nth ?_ _); simp [Free, FreeL]; done) | refine WkV.agg ?_ | refine WkV.tup ?_ | refine WkV.fn ?_ ?_ | exact WkO.dead | exact WkO.raw | refine WkO.ghost ?_ | exact WkO.mpE rfl trivial | refine WkO.box ?_ rfl | refine WkO.arr ?_ | refine And.intro ?_ (And.intro (by first | exact fun h => h | exact fun _ => rfl | exact nofun) ?_) | exact trivial | (intro i j hi hj)))
  · have hk : k < a.length := by omega
    have hsucc := botL_succ a b hk
    rw [if_neg (by simp [hb])] at hsucc
    refine ⟨a.length - (k + 1), by omega, _, ?_, k + 1, _, by omega, by omega, hsucc.symm, rfl⟩
    ((try simp only [List.length_append, List.length_cons, List.length_nil, Nat.zero_add]); refine Wk.intro [0] (by decide) (by decide) (by intro o ho; simp at ho ⊢ <;> omega) ?_ ?_ <;> repeat' (first | exact WkVL.nil | refine WkVL.cons ?_ ?_ | exact WkV.top | exact WkV.imm rfl | exact WkV.imm (by simp) | exact WkV.optr rfl | exact WkV.own rfl (by simp) | exact WkV.nil_own (.inl rfl) | exact WkV.map rfl | (refine WkV.free ?_; simp [Free, FreeL] <;> assumption) | (refine WkV.free (fun _ _ => FreeL_nth ?_ _); simp [Free, FreeL]; done) | refine WkV.agg ?_ | refine WkV.tup ?_ | refine WkV.fn ?_ ?_ | exact WkO.dead | exact WkO.raw | refine WkO.ghost ?_ | exact WkO.mpE rfl trivial | refine WkO.box ?_ rfl | refine WkO.arr ?_ | refine And.intro ?_ (And.intro (by first | exact fun h => h | exact fun _ => rfl | exact nofun) ?_) | exact trivial | (intro i j hi hj)))
  · obtain rfl : k = a.length := by omega
    exact .inr ⟨0, _, rfl, rfl, fun _ _ _ => rfl⟩
theorem both_tc (a b : List Int) (hl : a.length ≤ 1000) (hb' : b.length ≤ 9223372036854775807) : Makes Try.prog 45 [ints a, ints b] (ownI (botL a b a.length)) [intO (botL a b a.length)] :=
  Makes.lst1 (fun i j => inE_pl _ i j) (both_raw a b hl hb')

set_option maxRecDepth 100000 in
set_option maxHeartbeats 4000000 in
theorem ints_tc (a b : List Int) (hl : a.length ≤ 9223372036854775807) (hb' : b.length ≤ 9223372036854775807) : Look Try.prog 22 [ints a, ints b] (.imm (.bool (decide (a = b)))) := by
  refine Look.mk trivial ?_
  (refine TC_of_T Γ_ok Try.func22 rfl (by kernel_rfl) ?_; simp only [Try.ntmps22, Try.results22, List.length_cons, List.length_nil, Nat.reduceSub, Nat.reduceAdd, List.replicate, List.cons_append, List.nil_append])
  (repeat' (first | with_reducible refine T_seq_drawT (id := 6) Γ_ok drawsAny pl22_6 (by kernel_rfl) (fun K hK => ?_) | with_reducible refine T_last_drawT (id := 6) Γ_ok drawsAny pl22_6 (by kernel_rfl) (fun K hK => ?_) | ((refine goR0 _ _ _ _ _ _ _ _ ?_ ?_ ?_ ?_ ?_ ?_ ?_ ?_) <;> (repeat intro hb) <;> first | exact True.intro | refine Lf.mk ?_)))
  · congr 2
    rw [decide_eq_false]
    intro h; subst h; exact hb rfl
  · have hlen : a.length = b.length := by omega
    refine T_loopW (fun m st => ∃ k : Nat, k ≤ a.length ∧ m + k = a.length ∧ (∀ j, j < k → gi a j = gi b j) ∧
      st = ⟨[ints a, ints b, .top, .top, .imm (.bool false), .imm (.int .i64 k)] ++ List.replicate 20 .top, []⟩)
      a.length ⟨_, ?_, 0, by omega, rfl, fun j hj => by omega, rfl⟩ ?_
    · ((try simp only [List.length_append, List.length_cons, List.length_nil, Nat.zero_add]); refine Wk.intro [] (by decide) (by decide) (by intro o ho; simp at ho ⊢ <;> omega) ?_ ?_ <;> repeat' (first | exact WkVL.nil | refine WkVL.cons ?_ ?_ | exact WkV.top | exact WkV.imm rfl | exact WkV.imm (by simp) | exact WkV.optr rfl | exact WkV.own rfl (by simp) | exact WkV.nil_own (.inl rfl) | exact WkV.map rfl | (refine WkV.free ?_; simp [Free, FreeL] <;> assumption) | (refine WkV.free (fun _ _ => FreeL_nth ?_ _); simp [Free, FreeL]; done) | refine WkV.agg ?_ | refine WkV.tup ?_ | refine WkV.fn ?_ ?_ | exact WkO.dead | exact WkO.raw | refine WkO.ghost ?_ | exact WkO.mpE rfl trivial | refine WkO.box ?_ rfl | refine WkO.arr ?_ | refine And.intro ?_ (And.intro (by first | exact fun h => h | exact fun _ => rfl | exact nofun) ?_) | exact trivial | (intro i j hi hj)))
    rintro m st ⟨k, h1, h2, h3, rfl⟩
    (simp only [go_sem, ↓reduceIte, Nat.reduceAdd, Nat.reduceSub, Nat.reduceMul, Nat.reduceLT, Nat.reduceLeDiff, Nat.reduceEqDiff, Nat.reduceGT, Int.reduceToNat, Int.reduceBEq, Int.reduceBNe]; try simp (disch := omega) only [wrapI, wrapU, half_sum, toNat_sub1, toNat_add1, Int.toNat_natCast])
    (repeat' (first | with_reducible refine T_seq_drawT (id := 6) Γ_ok drawsAny pl22_6 (by kernel_rfl) (fun K hK => ?_) | with_reducible refine T_last_drawT (id := 6) Γ_ok drawsAny pl22_6 (by kernel_rfl) (fun K hK => ?_) | ((refine goR0 _ _ _ _ _ _ _ _ ?_ ?_ ?_ ?_ ?_ ?_ ?_ ?_) <;> (repeat intro hb) <;> first | exact True.intro | refine Lf.mk ?_)))
    · congr 2
      rw [decide_eq_false]
      intro h; subst h; exact hb rfl
    · refine ⟨a.length - (k + 1), by omega, _, ?_, k + 1, by omega, by omega, fun j hj => ?_, rfl⟩
      · ((try simp only [List.length_append, List.length_cons, List.length_nil, Nat.zero_add]); refine Wk.intro [] (by decide) (by decide) (by intro o ho; simp at ho ⊢ <;> omega) ?_ ?_ <;> repeat' (first | (refine WkV.imm ?_; congr 1; omega) | exact WkVL.nil | refine WkVL.cons ?_ ?_ | exact WkV.top | exact WkV.imm rfl | exact WkV.imm (by simp) | exact WkV.optr rfl | exact WkV.own rfl (by simp) | exact WkV.nil_own (.inl rfl) | exact WkV.map rfl | (refine WkV.free ?_; simp [Free, FreeL] <;> assumption) | (refine WkV.free (fun _ _ => FreeL_nth ?_ _); simp [Free, FreeL]; done) | refine WkV.agg ?_ | refine WkV.tup ?_ | refine WkV.fn ?_ ?_ | exact WkO.dead | exact WkO.raw | refine WkO.ghost ?_ | exact WkO.mpE rfl trivial | refine WkO.box ?_ rfl | refine WkO.arr ?_ | refine And.intro ?_ (And.intro (by first | exact fun h => h | exact fun _ => rfl | exact nofun) ?_) | exact trivial | (intro i j hi hj)))
      · by_cases e : j = k
        · subst e; simpa using hb
        · exact h3 j (by omega)
    · congr 2
      rw [decide_eq_true]
      apply List.ext_getElem hlen
      intro j h4 h5
      have := h3 j (by omega)
      simpa [gi, List.getD_eq_getElem?_getD, List.getElem?_eq_getElem h4, List.getElem?_eq_getElem h5] using this

/-- What both Commons answer. -/
def rcomR (n : Int) (a b : En) : List Int × Int := if cntB n = true ∧ enB n a = true ∧ enB n b = true then (botL a.v b.v a.v.length, 0) else ([], 1)
theorem enB_len {n : Int} {x : En} (h : enB n x = true) (hn : n ≤ 8) : x.v.length ≤ 8 := by
  unfold enB at h
  simp only [Bool.and_eq_true] at h
  have key : ∀ (l : Int) (v : List Int), -1 ≤ l → risB n l v = true → (v.length : Int) ≤ 7 - l ∨ v = [] := by
    intro l v
    induction v generalizing l with
    | nil => exact fun _ _ => .inr rfl
    | cons d r ih =>
      intro hl h
      unfold risB at h
      split at h
      · cases h
      · rcases ih d (by omega) h with h1 | h1
        · left; simp; omega
        · subst h1; left; simp; omega
  rcases key (-1) x.v (by omega) h.2 with h1 | h1
  · omega
  · rw [h1]; simp

set_option maxRecDepth 100000 in
set_option maxHeartbeats 4000000 in
theorem rcommon_raw (n : Int) (a b : En) (hl : a.v.length ≤ 9223372036854775807) (hb' : b.v.length ≤ 9223372036854775807) : TC Try.prog 24 [.imm (.int .i64 n), enA a, enA b] [] (fun v σ' =>
    (v = .tup [.imm (.slice none 0 0), .imm (.int .i64 (rcomR n a b).2)] ∧ (rcomR n a b).1.length = 0) ∨
    ∃ k E', v = .tup [.own k 0 (rcomR n a b).1.length none, .imm (.int .i64 (rcomR n a b).2)] ∧ nthO σ' k = .arr 3 1 (rcomR n a b).1.length E' ∧ ∀ i j, i < (rcomR n a b).1.length → E' i j = inE (rcomR n a b).1 i j) := by
  by_cases h : cntB n = true ∧ enB n a = true ∧ enB n b = true
  · have e : rcomR n a b = (botL a.v b.v a.v.length, 0) := if_pos h
    have hn : n ≤ 8 := by have := h.1; unfold cntB at this; simp at this; omega
    have hla := enB_len h.2.1 hn
    rw [e]
    have h1 := rdesks_tc n
    have h2 := rentry_tc n a hl
    have h3 := rentry_tc n b hb'
    rw [h.1] at h1
    rw [h.2.1] at h2
    rw [h.2.2] at h3
    (refine TC_of_T Γ_ok Try.func24 rfl (by kernel_rfl) ?_; simp only [Try.ntmps24, Try.results24, List.length_cons, List.length_nil, Nat.reduceSub, Nat.reduceAdd, List.replicate, List.cons_append, List.nil_append])
    (have cl1 := h1; have dl1 := h2; have dl2 := h3; have cm1 := both_tc a.v b.v (by omega) hb'; ((refine goR0 _ _ _ _ _ _ _ _ ?_ ?_ ?_ ?_ ?_ ?_ ?_ ?_) <;> (repeat intro hb) <;> first | exact True.intro | refine Lf.mk ?_))
    exact .inr ⟨2, _, rfl, rfl, fun _ _ _ => rfl⟩
  · have e : rcomR n a b = ([], 1) := if_neg h
    rw [e]
    (refine TC_of_T Γ_ok Try.func24 rfl (by kernel_rfl) ?_; simp only [Try.ntmps24, Try.results24, List.length_cons, List.length_nil, Nat.reduceSub, Nat.reduceAdd, List.replicate, List.cons_append, List.nil_append])
    (have cl1 := fun u1 => rdesks_tc u1; have dl1 := rentry_tc n a hl; have dl2 := rentry_tc n b hb'; ((refine goR0 _ _ _ _ _ _ _ _ ?_ ?_ ?_ ?_ ?_ ?_ ?_ ?_) <;> (repeat intro hb) <;> first | exact True.intro | refine Lf.mk ?_))
    · exact .inl trivial
    · exact absurd ⟨hb.1.1, hb.1.2, hb.2⟩ h
theorem rcommon_tc (n : Int) (a b : En) (hl : a.v.length ≤ 9223372036854775807) (hb' : b.v.length ≤ 9223372036854775807) : Makes Try.prog 24 [.imm (.int .i64 n), enA a, enA b] (.tup [ownI (rcomR n a b).1, .imm (.int .i64 (rcomR n a b).2)]) [intO (rcomR n a b).1] :=
  Makes.lst (fun i j => inE_pl _ i j) trivial (rcommon_raw n a b hl hb')
end Go.Proofs.Ythikkiacgmgdhaa
