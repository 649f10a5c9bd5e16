/-
  The reference's Fold.
-/
import Derived.Test.YtnomenmakhielaaDoorQGo
import Derived.Test.YtnomenmakhielaaDoorQS31
import Derived.Test.YtnomenmakhielaaDoorQS18
set_option linter.unusedSimpArgs false
set_option linter.unusedVariables false
namespace Go.Proofs.YtnomenmakhielaaDoor
open Go.Ab

theorem rdoR_eq {m : Mem} (h : MemOk m) {r : Rcd} (hr : r.ok = true) : rdoR m r = if (doR m r).2 = 0 then ((doR m r).1, 0) else (m, (doR m r).2) := by
  unfold rdoR
  by_cases hk : r.k = 3
  · rw [if_pos hk]
    obtain ⟨h1, h2, h3⟩ := doR_3 h hr hk
    by_cases c1 : knows m.L r.x.s
    · by_cases c2 : gt m.L (low m.L r.x.s) = r.x
      · have el : learnR m.L r.x = ([], 5) := by unfold learnR; rw [if_pos ⟨h1, h.log⟩, if_pos c1, if_pos c2]
        have ed : doR m r = (m, 0) := by unfold doR; rw [if_neg (by omega), if_neg (by omega), el]; rfl
        rw [el, ed]; rfl
      · have el : learnR m.L r.x = ([], 23) := by unfold learnR; rw [if_pos ⟨h1, h.log⟩, if_pos c1, if_neg c2]
        have ed : (doR m r).2 = 23 := by unfold doR; rw [if_neg (by omega), if_neg (by omega), el]; rfl
        rw [el, ed]; rfl
    · have el : learnR m.L r.x = (lrn m.L r.x, 0) := by unfold learnR; rw [if_pos ⟨h1, h.log⟩, if_neg c1]
      have ed : doR m r = (⟨m.A, lrn m.L r.x⟩, 0) := by unfold doR; rw [if_neg (by omega), if_neg (by omega), el]; rfl
      rw [el, ed]; rfl
  · rw [if_neg hk]
theorem rlearn_turns {m : Mem} (h : MemOk m) {r : Rcd} (hr : r.ok = true) :
    Turns Tryd.prog 46 [.agg [.own 0 0 m.A.length none, .own 1 0 m.L.length none], rcA r] [acO m.A, tkO m.L]
      (.tup [.agg [.own 2 0 (rdoR m r).1.A.length none, .own 3 0 (rdoR m r).1.L.length none], .imm (.int .i64 (rdoR m r).2)]) [.dead, .dead, acO (rdoR m r).1.A, tkO (rdoR m r).1.L] := by
  obtain ⟨hs, hk⟩ := Rcd.ok_spec hr
  have hl := h.len
  have hL := h.log.len
  rcases hk with ⟨hk, _⟩ | ⟨hk, _⟩ | ⟨hk, _⟩
  · exact LearnQ.fin rfl (rlearn1_tc m.A m.L r hk hs (by omega))
  · exact LearnQ.fin rfl (rlearn2_tc m.A m.L r hk hs (by omega))
  · exact LearnQ.fin rfl (rlearn3_tc m.A m.L r hk (by omega))

set_option maxRecDepth 100000 in
set_option maxHeartbeats 2000000 in
theorem rfold_raw (l : List Rcd) (hl : l.length ≤ 9223372036854775807) : TC Tryd.prog 29 [rcs l] [] (FoldQ (foldR l)) := by
  (refine TC_of_T Γ_ok Tryd.func29 rfl (by kernel_rfl) ?_; simp only [Tryd.ntmps29, Tryd.results29, List.length_cons, List.length_nil, Nat.reduceSub, Nat.reduceAdd, List.replicate, List.cons_append, List.nil_append])
  (((refine goR0 _ _ _ _ _ _ _ _ ?_ ?_ ?_ ?_ ?_ ?_ ?_ ?_) <;> (repeat intro hb) <;> first | exact True.intro | refine Lf.mk ?_))
  · have hf : foldR l = (⟨[], []⟩, 1) := by unfold foldR; rw [if_neg (fun h => by omega)]
    exact .inl ⟨by rw [hf], by rw [hf]⟩
  refine T_loopW (fun m st => ∃ i : Nat, i ≤ l.length ∧ m + i = l.length ∧ (∀ j, j < i → (gR l j).ok = true) ∧ st = ⟨[rcs l, .top, .optr 0 0 0, .imm (.int .i64 0), .imm (.int .i64 i)] ++ List.replicate 44 .top, [.box 28 [.imm (.slice none 0 0), .imm (.slice none 0 0)]]⟩)
    l.length ⟨_, ?_, 0, Nat.zero_le _, rfl, fun j hj => by omega, rfl⟩ ?_
  · ((try simp only [List.length_append, List.length_cons, List.length_nil, Nat.zero_add]); refine Wk.intro [0] (by decide) (by decide) (by intro o ho; simp at ho ⊢ <;> omega) ?_ ?_ <;> repeat' (first | exact WkVL.nil | refine WkVL.cons ?_ ?_ | exact WkV.top | exact WkV.imm rfl | exact WkV.imm (by simp) | exact WkV.optr rfl | exact WkV.own rfl (by simp) | exact WkV.nil_own (.inl rfl) | exact WkV.map rfl | (refine WkV.free ?_; simp [Free, FreeL] <;> assumption) | (refine WkV.free (fun _ _ => FreeL_nth ?_ _); simp [Free, FreeL]; done) | refine WkV.agg ?_ | refine WkV.tup ?_ | refine WkV.fn ?_ ?_ | exact WkO.dead | exact WkO.raw | refine WkO.ghost ?_ | exact WkO.mpE rfl trivial | refine WkO.box ?_ rfl | refine WkO.arr ?_ | refine And.intro ?_ (And.intro (by first | exact fun h => h | exact fun _ => rfl | exact nofun) ?_) | exact trivial | (intro i j hi hj)))
  rintro m st ⟨i, h1, h2, h3, rfl⟩
  (simp only [go_sem, ↓reduceIte, Nat.reduceAdd, Nat.reduceSub, Nat.reduceMul, Nat.reduceLT, Nat.reduceLeDiff, Nat.reduceEqDiff, Nat.reduceGT, Int.reduceToNat, Int.reduceBEq, Int.reduceBNe]; try simp (disch := omega) only [wrapI, wrapU, half_sum, toNat_sub1, toNat_add1, Int.toNat_natCast])
  by_cases hlt : i < l.length
  · have hv := rrec_tc (gR l i)
    cases hg : (gR l i).ok with
    | true =>
      rw [hg] at hv
      (have cl1 := hv; ((refine goR0 _ _ _ _ _ _ _ _ ?_ ?_ ?_ ?_ ?_ ?_ ?_ ?_) <;> (repeat intro hb) <;> first | exact True.intro | refine Lf.mk ?_))
      refine ⟨l.length - (i + 1), by omega, _, ?_, i + 1, by omega, by omega, fun j hj => ?_, rfl⟩
      · ((try simp only [List.length_append, List.length_cons, List.length_nil, Nat.zero_add]); refine Wk.intro [0] (by decide) (by decide) (by intro o ho; simp at ho ⊢ <;> omega) ?_ ?_ <;> repeat' (first | exact WkVL.nil | refine WkVL.cons ?_ ?_ | exact WkV.top | exact WkV.imm rfl | exact WkV.imm (by simp) | exact WkV.optr rfl | exact WkV.own rfl (by simp) | exact WkV.nil_own (.inl rfl) | exact WkV.map rfl | (refine WkV.free ?_; simp [Free, FreeL] <;> assumption) | (refine WkV.free (fun _ _ => FreeL_nth ?_ _); simp [Free, FreeL]; done) | refine WkV.agg ?_ | refine WkV.tup ?_ | refine WkV.fn ?_ ?_ | exact WkO.dead | exact WkO.raw | refine WkO.ghost ?_ | exact WkO.mpE rfl trivial | refine WkO.box ?_ rfl | refine WkO.arr ?_ | refine And.intro ?_ (And.intro (by first | exact fun h => h | exact fun _ => rfl | exact nofun) ?_) | exact trivial | (intro i j hi hj)))
      · by_cases hji : j = i
        · rw [hji]; exact hg
        · exact h3 j (by omega)
    | false =>
      rw [hg] at hv
      have hf : foldR l = (⟨[], []⟩, 1) := by
        unfold foldR
        rw [if_neg (fun h => by rw [allOk_gR h.2 hlt] at hg; cases hg)]
      (have cl1 := hv; ((refine goR0 _ _ _ _ _ _ _ _ ?_ ?_ ?_ ?_ ?_ ?_ ?_ ?_) <;> (repeat intro hb) <;> first | exact True.intro | refine Lf.mk ?_))
      exact .inl ⟨by rw [hf], by rw [hf]⟩
  · have hall : allOk l = true := allOk_of fun j hj => h3 j (by omega)
    have hf : foldR l = runM l ⟨[], []⟩ := by unfold foldR; exact if_pos ⟨by omega, hall⟩
    (((refine goR0 _ _ _ _ _ _ _ _ ?_ ?_ ?_ ?_ ?_ ?_ ?_ ?_) <;> (repeat intro hb) <;> first | exact True.intro | refine Lf.mk ?_))
    refine T_loopW (fun m st => ∃ (i : Nat) (M : Mem), i ≤ l.length ∧ m + i = l.length ∧ MemOk M ∧ foldR l = runM (l.drop i) M ∧
        st = ⟨[rcs l, .top, .optr 0 0 0, .imm (.int .i64 0), .top, .top, .optr 1 0 0, .imm (.int .i64 i)] ++ List.replicate 41 .top,
          [.box 28 [.imm (.slice none 0 0), .imm (.slice none 0 0)], .box 28 [.own 2 0 M.A.length none, .own 3 0 M.L.length none], acO M.A, tkO M.L]⟩)
      l.length ⟨_, Wk.trans (Wk.push 35 6 (acE [])) (Wk.trans (Wk.push 33 4 (tkE [])) ?_), 0, ⟨[], []⟩, by omega, rfl, mem0_ok, hf, rfl⟩ ?_
    · ((try simp only [List.length_append, List.length_cons, List.length_nil, Nat.zero_add]); refine Wk.intro [0, 1, 2, 3] (by decide) (by decide) (by intro o ho; simp at ho ⊢ <;> omega) ?_ ?_ <;> repeat' (first | exact WkVL.nil | refine WkVL.cons ?_ ?_ | exact WkV.top | exact WkV.imm rfl | exact WkV.imm (by simp) | exact WkV.optr rfl | exact WkV.own rfl (by simp) | exact WkV.nil_own (.inl rfl) | exact WkV.map rfl | (refine WkV.free ?_; simp [Free, FreeL] <;> assumption) | (refine WkV.free (fun _ _ => FreeL_nth ?_ _); simp [Free, FreeL]; done) | refine WkV.agg ?_ | refine WkV.tup ?_ | refine WkV.fn ?_ ?_ | exact WkO.dead | exact WkO.raw | refine WkO.ghost ?_ | exact WkO.mpE rfl trivial | refine WkO.box ?_ rfl | refine WkO.arr ?_ | refine And.intro ?_ (And.intro (by first | exact fun h => h | exact fun _ => rfl | exact nofun) ?_) | exact trivial | (intro i j hi hj)))
    rintro m st ⟨i, M, h4, h5, h6, h7, rfl⟩
    (simp only [go_sem, ↓reduceIte, Nat.reduceAdd, Nat.reduceSub, Nat.reduceMul, Nat.reduceLT, Nat.reduceLeDiff, Nat.reduceEqDiff, Nat.reduceGT, Int.reduceToNat, Int.reduceBEq, Int.reduceBNe]; try simp (disch := omega) only [wrapI, wrapU, half_sum, toNat_sub1, toNat_add1, Int.toNat_natCast])
    by_cases hlt2 : i < l.length
    · have hro := allOk_gR hall hlt2
      have hd := rlearn_turns h6 hro
      have hok := doR_ok h6 hro
      have hdr := runM_drop hlt2 M
      rw [rdoR_eq h6 hro] at hd
      simp only [rcA, rcL] at hd
      by_cases he : (doR M (gR l i)).2 = 0
      · rw [if_pos he] at hd hdr
        have hok := hok he
        rw [hdr] at h7
        (have ct1 := TurnsAt.mk [2, 3] (hd); repeat' (first | with_reducible refine T_seq_drawT (id := 13) Γ_ok drawsAny pl29_13 (by kernel_rfl) (fun K hK => ?_) | with_reducible refine T_last_drawT (id := 13) Γ_ok drawsAny pl29_13 (by kernel_rfl) (fun K hK => ?_) | ((refine goR0 _ _ _ _ _ _ _ _ ?_ ?_ ?_ ?_ ?_ ?_ ?_ ?_) <;> (repeat intro hb) <;> first | exact True.intro | refine Lf.mk ?_)))
        · refine ⟨l.length - (i + 1), by omega, _, ?_, i + 1, (doR M (gR l i)).1, by omega, by omega, hok, h7, rfl⟩
          first
          | (((try simp only [List.length_append, List.length_cons, List.length_nil, Nat.zero_add]); refine Wk.intro [0, 1, 4, 5] (by decide) (by decide) (by intro o ho; simp at ho ⊢ <;> omega) ?_ ?_ <;> repeat' (first | exact WkVL.nil | refine WkVL.cons ?_ ?_ | exact WkV.top | exact WkV.imm rfl | exact WkV.imm (by simp) | exact WkV.optr rfl | exact WkV.own rfl (by simp) | exact WkV.nil_own (.inl rfl) | exact WkV.map rfl | (refine WkV.free ?_; simp [Free, FreeL] <;> assumption) | (refine WkV.free (fun _ _ => FreeL_nth ?_ _); simp [Free, FreeL]; done) | refine WkV.agg ?_ | refine WkV.tup ?_ | refine WkV.fn ?_ ?_ | exact WkO.dead | exact WkO.raw | refine WkO.ghost ?_ | exact WkO.mpE rfl trivial | refine WkO.box ?_ rfl | refine WkO.arr ?_ | refine And.intro ?_ (And.intro (by first | exact fun h => h | exact fun _ => rfl | exact nofun) ?_) | exact trivial | (intro i j hi hj))); done)
          | (((try simp only [List.length_append, List.length_cons, List.length_nil, Nat.zero_add]); refine Wk.intro [0, 1, 5, 6] (by decide) (by decide) (by intro o ho; simp at ho ⊢ <;> omega) ?_ ?_ <;> repeat' (first | exact WkVL.nil | refine WkVL.cons ?_ ?_ | exact WkV.top | exact WkV.imm rfl | exact WkV.imm (by simp) | exact WkV.optr rfl | exact WkV.own rfl (by simp) | exact WkV.nil_own (.inl rfl) | exact WkV.map rfl | (refine WkV.free ?_; simp [Free, FreeL] <;> assumption) | (refine WkV.free (fun _ _ => FreeL_nth ?_ _); simp [Free, FreeL]; done) | refine WkV.agg ?_ | refine WkV.tup ?_ | refine WkV.fn ?_ ?_ | exact WkO.dead | exact WkO.raw | refine WkO.ghost ?_ | exact WkO.mpE rfl trivial | refine WkO.box ?_ rfl | refine WkO.arr ?_ | refine And.intro ?_ (And.intro (by first | exact fun h => h | exact fun _ => rfl | exact nofun) ?_) | exact trivial | (intro i j hi hj))); done)
        · refine ⟨l.length - (i + 1), by omega, _, ?_, i + 1, (doR M (gR l i)).1, by omega, by omega, hok, h7, rfl⟩
          first
          | (((try simp only [List.length_append, List.length_cons, List.length_nil, Nat.zero_add]); refine Wk.intro [0, 1, 4, 5] (by decide) (by decide) (by intro o ho; simp at ho ⊢ <;> omega) ?_ ?_ <;> repeat' (first | exact WkVL.nil | refine WkVL.cons ?_ ?_ | exact WkV.top | exact WkV.imm rfl | exact WkV.imm (by simp) | exact WkV.optr rfl | exact WkV.own rfl (by simp) | exact WkV.nil_own (.inl rfl) | exact WkV.map rfl | (refine WkV.free ?_; simp [Free, FreeL] <;> assumption) | (refine WkV.free (fun _ _ => FreeL_nth ?_ _); simp [Free, FreeL]; done) | refine WkV.agg ?_ | refine WkV.tup ?_ | refine WkV.fn ?_ ?_ | exact WkO.dead | exact WkO.raw | refine WkO.ghost ?_ | exact WkO.mpE rfl trivial | refine WkO.box ?_ rfl | refine WkO.arr ?_ | refine And.intro ?_ (And.intro (by first | exact fun h => h | exact fun _ => rfl | exact nofun) ?_) | exact trivial | (intro i j hi hj))); done)
          | (((try simp only [List.length_append, List.length_cons, List.length_nil, Nat.zero_add]); refine Wk.intro [0, 1, 5, 6] (by decide) (by decide) (by intro o ho; simp at ho ⊢ <;> omega) ?_ ?_ <;> repeat' (first | exact WkVL.nil | refine WkVL.cons ?_ ?_ | exact WkV.top | exact WkV.imm rfl | exact WkV.imm (by simp) | exact WkV.optr rfl | exact WkV.own rfl (by simp) | exact WkV.nil_own (.inl rfl) | exact WkV.map rfl | (refine WkV.free ?_; simp [Free, FreeL] <;> assumption) | (refine WkV.free (fun _ _ => FreeL_nth ?_ _); simp [Free, FreeL]; done) | refine WkV.agg ?_ | refine WkV.tup ?_ | refine WkV.fn ?_ ?_ | exact WkO.dead | exact WkO.raw | refine WkO.ghost ?_ | exact WkO.mpE rfl trivial | refine WkO.box ?_ rfl | refine WkO.arr ?_ | refine And.intro ?_ (And.intro (by first | exact fun h => h | exact fun _ => rfl | exact nofun) ?_) | exact trivial | (intro i j hi hj))); done)
      · rw [if_neg he] at hd hdr
        have he' : ((doR M (gR l i)).2 != 0) = true := by simpa using he
        (have ct1 := TurnsAt.mk [2, 3] (hd); have sx1 := he'; repeat' (first | with_reducible refine T_seq_drawT (id := 13) Γ_ok drawsAny pl29_13 (by kernel_rfl) (fun K hK => ?_) | with_reducible refine T_last_drawT (id := 13) Γ_ok drawsAny pl29_13 (by kernel_rfl) (fun K hK => ?_) | ((refine goR1 _ _ _ _ _ _ _ _ ?_ ?_ ?_ ?_ ?_ ?_ ?_ ?_) <;> (repeat intro hb) <;> first | exact True.intro | refine Lf.mk ?_)))
        all_goals exact .inl ⟨by rw [h7, hdr], by rw [h7, hdr]⟩
    · rw [List.drop_eq_nil_of_le (by omega)] at h7
      (repeat' (first | with_reducible refine T_seq_drawT (id := 13) Γ_ok drawsAny pl29_13 (by kernel_rfl) (fun K hK => ?_) | with_reducible refine T_last_drawT (id := 13) Γ_ok drawsAny pl29_13 (by kernel_rfl) (fun K hK => ?_) | ((refine goR0 _ _ _ _ _ _ _ _ ?_ ?_ ?_ ?_ ?_ ?_ ?_ ?_) <;> (repeat intro hb) <;> first | exact True.intro | refine Lf.mk ?_)))
      exact .inr ⟨2, 3, by decide, by rw [h7]; rfl, by rw [h7]; rfl, by rw [h7]; rfl⟩
theorem rfold_tc (l : List Rcd) (hl : l.length ≤ 9223372036854775807) : Makes Tryd.prog 29 [rcs l] (memA (foldR l)) [acO (foldR l).1.A, tkO (foldR l).1.L] := FoldQ.makes (rfold_raw l hl)
end Go.Proofs.YtnomenmakhielaaDoor
