/-
  The walk of store.Compact.
-/
import Derived.Test.YtnomenmakhielaaDoorQGo
import Derived.Test.YtnomenmakhielaaDoorQS16
import Derived.Test.YtnomenmakhielaaDoorQL5
set_option linter.unusedSimpArgs false
set_option linter.unusedVariables false
namespace Go.Proofs.YtnomenmakhielaaDoor
open Go.Ab

theorem recoverR_len (d : Dsk) (hl : d.b.length ≤ 9223372036854775807) : (recoverR d).1.length ≤ 9223372036854775807 := by
  have := (wholeN_len d.b).2
  unfold recoverR
  split
  · split
    · simp
    · simp only []; omega
  · simp

set_option maxRecDepth 100000 in
set_option maxHeartbeats 400000 in
theorem compact_tc (d : Dsk) (hb : ByOk d.b) (hl : d.b.length ≤ 9223372036854775807) : Makes Tryd.prog 15 [dsA d] (dskA (compactR d)) (dskO (compactR d)) := by
  refine DQ.makesD ?_
  have hre := recover_tc d hb hl
  have hfo := fold_tc (recoverR d).1 (recoverR_len d hl)
  have hlr := recoverR_len d hl
  by_cases h1 : (recoverR d).2.2 = 0
  · by_cases h2 : (foldR (recoverR d).1).2 = 0
    · have hm := foldR_ok h2
      have e : compactR d = (⟨framesN (fewest (foldR (recoverR d).1).1), ((framesN (fewest (foldR (recoverR d).1).1)).length : Nat)⟩, 0) := by
        unfold compactR; rw [if_neg (by simp [h1]), if_neg (by simp [h2])]
      rw [e]
      generalize hq : recoverR d = q at *
      obtain ⟨l, d', er⟩ := q
      simp only [] at h1 h2 hm hfo hre hlr ⊢
      subst h1
      generalize hq2 : foldR l = q2 at *
      obtain ⟨m, er⟩ := q2
      simp only [] at h2 hm hfo ⊢
      subst h2
      (refine TC_of_T Γ_ok Tryd.func15 rfl (by kernel_rfl) ?_; simp only [Tryd.ntmps15, Tryd.results15, List.length_cons, List.length_nil, Nat.reduceSub, Nat.reduceAdd, List.replicate, List.cons_append, List.nil_append])
      (have cm1 := hre; have cm2 := hfo; ((refine goR0 _ _ _ _ _ _ _ _ ?_ ?_ ?_ ?_ ?_ ?_ ?_ ?_) <;> (repeat intro hb) <;> first | exact True.intro | refine Lf.mk ?_))
      refine T_loopW (fun k st => ∃ (i : Nat) (B : List Nat), i ≤ m.A.length ∧ k + i = m.A.length ∧ B = framesN (fewN 0 (m.A.take i)) ∧ B.length ≤ i * 26 ∧
          st = ⟨[.top, .top, .optr 0 0 0, .imm (.int .i64 0), .top, .top, .top, .optr 1 0 0, .own 4 0 B.length none] ++ List.replicate 24 .top ++ [.own 2 0 m.A.length none, .imm (.int .i64 m.A.length), .imm (.int .i64 i)] ++ List.replicate 50 .top,
            [.box 43 [.imm (.slice none 0 0), .imm (.int .i64 0)], .box 28 [.own 2 0 m.A.length none, .own 3 0 m.L.length none], acO m.A, tkO m.L, byO B]⟩)
        m.A.length ⟨_, Wk.trans (Wk.push 5 1 (byE [])) ?_, 0, [], by omega, rfl, by simp [fewN, framesN], by simp, rfl⟩ ?_
      · ((try simp only [List.length_append, List.length_cons, List.length_nil, Nat.zero_add]); refine Wk.intro [1, 7, 5, 6, 8] (by decide) (by decide) (by intro o ho; simp at ho ⊢ <;> omega) ?_ ?_ <;> repeat' (first | exact WkVL.nil | refine WkVL.cons ?_ ?_ | exact WkV.top | exact WkV.imm rfl | exact WkV.imm (by simp) | exact WkV.optr rfl | exact WkV.own rfl (by simp) | exact WkV.nil_own (.inl rfl) | exact WkV.map rfl | (refine WkV.free ?_; simp [Free, FreeL] <;> assumption) | (refine WkV.free (fun _ _ => FreeL_nth ?_ _); simp [Free, FreeL]; done) | refine WkV.agg ?_ | refine WkV.tup ?_ | refine WkV.fn ?_ ?_ | exact WkO.dead | exact WkO.raw | refine WkO.ghost ?_ | exact WkO.mpE rfl trivial | refine WkO.box ?_ rfl | refine WkO.arr ?_ | refine And.intro ?_ (And.intro (by first | exact fun h => h | exact fun _ => rfl | exact nofun) ?_) | exact trivial | (intro i j hi hj)))
      have hA := hm.len
      rintro k st ⟨i, B, g0, g1, g2, g3, rfl⟩
      (simp only [go_sem, ↓reduceIte, Nat.reduceAdd, Nat.reduceSub, Nat.reduceMul, Nat.reduceLT, Nat.reduceLeDiff, Nat.reduceEqDiff, Nat.reduceGT, Int.reduceToNat, Int.reduceBEq, Int.reduceBNe]; try simp (disch := omega) only [wrapI, wrapU, half_sum, toNat_sub1, toNat_add1, Int.toNat_natCast])
      by_cases hlt : i < m.A.length
      · have hstep : framesN (fewN 0 (m.A.take (i + 1))) = B ++ framesN (fewA i (gA' m.A i)) := by
          have e1 : m.A.take (i + 1) = m.A.take i ++ [gA' m.A i] := by
            rw [List.take_add_one, List.getElem?_eq_getElem hlt]; simp [gA', hlt]
          have e2 : (m.A.take i).length = i := by simp; omega
          rw [e1, fewN_app, framesN_app, e2, ← g2]
          simp [fewN]
        have hok := fewA_ok (i := i) (a := gA' m.A i) (by have := hm.len; omega) (hm.acc i).1 (hm.acc i).2
        by_cases c1 : 0 < (gA' m.A i).v
        · have o1 := hok ⟨2, i + 1, (gA' m.A i).v, (gA' m.A i).x⟩ (by simp [fewA, c1])
          have f1 := frame_tc _ o1
          have l1 := frameN_len o1
          simp only [rcA, rcL] at f1
          by_cases c2 : (gA' m.A i).v < (gA' m.A i).p
          · have o2 := hok ⟨1, i + 1, (gA' m.A i).p, tk0⟩ (by simp [fewA, c2])
            have f2 := frame_tc _ o2
            have l2 := frameN_len o2
            simp only [rcA, rcL, tk0] at f2
            have e3 : framesN (fewA i (gA' m.A i)) = frameN ⟨2, i + 1, (gA' m.A i).v, (gA' m.A i).x⟩ ++ frameN ⟨1, i + 1, (gA' m.A i).p, ⟨0, 0, 0, 0⟩⟩ := by simp [fewA, c1, c2, framesN, tk0]
            rw [e3] at hstep
            rw [tk0] at l2
            generalize frameN ⟨2, i + 1, (gA' m.A i).v, (gA' m.A i).x⟩ = q1 at f1 l1 hstep
            generalize frameN ⟨1, i + 1, (gA' m.A i).p, ⟨0, 0, 0, 0⟩⟩ = q2 at f2 l2 hstep
            (have dm1 := f1; have dm2 := f2; ((refine goR0 _ _ _ _ _ _ _ _ ?_ ?_ ?_ ?_ ?_ ?_ ?_ ?_) <;> (repeat intro hb) <;> first | exact True.intro | refine Lf.mk ?_))
            refine ⟨m.A.length - (i + 1), by omega, _, ?_, i + 1, (B ++ q1) ++ q2, by omega, by omega, by rw [hstep]; simp, by simp; omega, rfl⟩
            ((try simp only [List.length_append, List.length_cons, List.length_nil, Nat.zero_add]); refine Wk.intro [0, 1, 2, 3, 9] (by decide) (by decide) (by intro o ho; simp at ho ⊢ <;> omega) ?_ ?_ <;> repeat' (first | (refine WkO.arr ?_; intro i j hi hj; exact WkV.eqF (byE_app (a := B ++ q1) (b := q2) (fun i j hi hj => byE_app (a := B) (b := q1) (fun _ _ _ _ => rfl) (fun _ _ _ _ => rfl) rfl i j (by simpa using hi) hj) (fun _ _ _ _ => rfl) (by simp) i j (by simpa using hi) hj) trivial) | exact WkVL.nil | refine WkVL.cons ?_ ?_ | exact WkV.top | exact WkV.imm rfl | exact WkV.imm (by simp) | exact WkV.optr rfl | exact WkV.own rfl (by simp) | exact WkV.nil_own (.inl rfl) | exact WkV.map rfl | (refine WkV.free ?_; simp [Free, FreeL] <;> assumption) | (refine WkV.free (fun _ _ => FreeL_nth ?_ _); simp [Free, FreeL]; done) | refine WkV.agg ?_ | refine WkV.tup ?_ | refine WkV.fn ?_ ?_ | exact WkO.dead | exact WkO.raw | refine WkO.ghost ?_ | exact WkO.mpE rfl trivial | refine WkO.box ?_ rfl | refine WkO.arr ?_ | refine And.intro ?_ (And.intro (by first | exact fun h => h | exact fun _ => rfl | exact nofun) ?_) | exact trivial | (intro i j hi hj)))
          · have e3 : framesN (fewA i (gA' m.A i)) = frameN ⟨2, i + 1, (gA' m.A i).v, (gA' m.A i).x⟩ := by simp [fewA, c1, c2, framesN]
            rw [e3] at hstep
            generalize frameN ⟨2, i + 1, (gA' m.A i).v, (gA' m.A i).x⟩ = q1 at f1 l1 hstep
            (have cm1 := f1; ((refine goR0 _ _ _ _ _ _ _ _ ?_ ?_ ?_ ?_ ?_ ?_ ?_ ?_) <;> (repeat intro hb) <;> first | exact True.intro | refine Lf.mk ?_))
            refine ⟨m.A.length - (i + 1), by omega, _, ?_, i + 1, B ++ q1, by omega, by omega, hstep.symm, by simp; omega, rfl⟩
            ((try simp only [List.length_append, List.length_cons, List.length_nil, Nat.zero_add]); refine Wk.intro [0, 1, 2, 3, 7] (by decide) (by decide) (by intro o ho; simp at ho ⊢ <;> omega) ?_ ?_ <;> repeat' (first | (refine WkO.arr ?_; intro i j hi hj; exact WkV.eqF (byE_app (a := B) (b := q1) (fun _ _ _ _ => rfl) (fun _ _ _ _ => rfl) rfl i j (by simpa using hi) hj) trivial) | exact WkVL.nil | refine WkVL.cons ?_ ?_ | exact WkV.top | exact WkV.imm rfl | exact WkV.imm (by simp) | exact WkV.optr rfl | exact WkV.own rfl (by simp) | exact WkV.nil_own (.inl rfl) | exact WkV.map rfl | (refine WkV.free ?_; simp [Free, FreeL] <;> assumption) | (refine WkV.free (fun _ _ => FreeL_nth ?_ _); simp [Free, FreeL]; done) | refine WkV.agg ?_ | refine WkV.tup ?_ | refine WkV.fn ?_ ?_ | exact WkO.dead | exact WkO.raw | refine WkO.ghost ?_ | exact WkO.mpE rfl trivial | refine WkO.box ?_ rfl | refine WkO.arr ?_ | refine And.intro ?_ (And.intro (by first | exact fun h => h | exact fun _ => rfl | exact nofun) ?_) | exact trivial | (intro i j hi hj)))
        · by_cases c2 : (gA' m.A i).v < (gA' m.A i).p
          · have o2 := hok ⟨1, i + 1, (gA' m.A i).p, tk0⟩ (by simp [fewA, c2])
            have f2 := frame_tc _ o2
            have l2 := frameN_len o2
            simp only [rcA, rcL, tk0] at f2
            have e3 : framesN (fewA i (gA' m.A i)) = frameN ⟨1, i + 1, (gA' m.A i).p, ⟨0, 0, 0, 0⟩⟩ := by simp [fewA, c1, c2, framesN, tk0]
            rw [e3] at hstep
            rw [tk0] at l2
            generalize frameN ⟨1, i + 1, (gA' m.A i).p, ⟨0, 0, 0, 0⟩⟩ = q2 at f2 l2 hstep
            (have cm1 := f2; ((refine goR0 _ _ _ _ _ _ _ _ ?_ ?_ ?_ ?_ ?_ ?_ ?_ ?_) <;> (repeat intro hb) <;> first | exact True.intro | refine Lf.mk ?_))
            refine ⟨m.A.length - (i + 1), by omega, _, ?_, i + 1, B ++ q2, by omega, by omega, hstep.symm, by simp; omega, rfl⟩
            ((try simp only [List.length_append, List.length_cons, List.length_nil, Nat.zero_add]); refine Wk.intro [0, 1, 2, 3, 7] (by decide) (by decide) (by intro o ho; simp at ho ⊢ <;> omega) ?_ ?_ <;> repeat' (first | (refine WkO.arr ?_; intro i j hi hj; exact WkV.eqF (byE_app (a := B) (b := q2) (fun _ _ _ _ => rfl) (fun _ _ _ _ => rfl) rfl i j (by simpa using hi) hj) trivial) | exact WkVL.nil | refine WkVL.cons ?_ ?_ | exact WkV.top | exact WkV.imm rfl | exact WkV.imm (by simp) | exact WkV.optr rfl | exact WkV.own rfl (by simp) | exact WkV.nil_own (.inl rfl) | exact WkV.map rfl | (refine WkV.free ?_; simp [Free, FreeL] <;> assumption) | (refine WkV.free (fun _ _ => FreeL_nth ?_ _); simp [Free, FreeL]; done) | refine WkV.agg ?_ | refine WkV.tup ?_ | refine WkV.fn ?_ ?_ | exact WkO.dead | exact WkO.raw | refine WkO.ghost ?_ | exact WkO.mpE rfl trivial | refine WkO.box ?_ rfl | refine WkO.arr ?_ | refine And.intro ?_ (And.intro (by first | exact fun h => h | exact fun _ => rfl | exact nofun) ?_) | exact trivial | (intro i j hi hj)))
          · have e3 : framesN (fewA i (gA' m.A i)) = [] := by simp [fewA, c1, c2, framesN]
            rw [e3] at hstep
            (((refine goR0 _ _ _ _ _ _ _ _ ?_ ?_ ?_ ?_ ?_ ?_ ?_ ?_) <;> (repeat intro hb) <;> first | exact True.intro | refine Lf.mk ?_))
            refine ⟨m.A.length - (i + 1), by omega, _, ?_, i + 1, B, by omega, by omega, by rw [hstep]; simp, by omega, rfl⟩
            ((try simp only [List.length_append, List.length_cons, List.length_nil, Nat.zero_add]); refine Wk.intro [0, 1, 2, 3, 4] (by decide) (by decide) (by intro o ho; simp at ho ⊢ <;> omega) ?_ ?_ <;> repeat' (first | exact WkVL.nil | refine WkVL.cons ?_ ?_ | exact WkV.top | exact WkV.imm rfl | exact WkV.imm (by simp) | exact WkV.optr rfl | exact WkV.own rfl (by simp) | exact WkV.nil_own (.inl rfl) | exact WkV.map rfl | (refine WkV.free ?_; simp [Free, FreeL] <;> assumption) | (refine WkV.free (fun _ _ => FreeL_nth ?_ _); simp [Free, FreeL]; done) | refine WkV.agg ?_ | refine WkV.tup ?_ | refine WkV.fn ?_ ?_ | exact WkO.dead | exact WkO.raw | refine WkO.ghost ?_ | exact WkO.mpE rfl trivial | refine WkO.box ?_ rfl | refine WkO.arr ?_ | refine And.intro ?_ (And.intro (by first | exact fun h => h | exact fun _ => rfl | exact nofun) ?_) | exact trivial | (intro i j hi hj)))
      · have hB : B = framesN (fewN 0 m.A) := by rw [g2, List.take_of_length_le (by omega)]
        have hL := hm.log
        have hLl := hL.len
        (((refine goR0 _ _ _ _ _ _ _ _ ?_ ?_ ?_ ?_ ?_ ?_ ?_ ?_) <;> (repeat intro hb) <;> first | exact True.intro | refine Lf.mk ?_))
        refine T_loopW (fun k st => ∃ (i : Nat) (D : List Nat), i ≤ m.L.length ∧ k + i = m.L.length ∧ D = B ++ framesN (fewT (m.L.take i)) ∧ D.length ≤ 390 + i * 13 ∧
            st = ⟨[.top, .top, .optr 0 0 0, .imm (.int .i64 0), .top, .top, .top, .top, .own 2 0 D.length none] ++ List.replicate 59 .top ++ [.own 1 0 m.L.length none, .imm (.int .i64 m.L.length), .imm (.int .i64 i)] ++ List.replicate 15 .top,
              [.box 43 [.imm (.slice none 0 0), .imm (.int .i64 0)], tkO m.L, byO D]⟩)
          m.L.length ⟨_, ?_, 0, B, by omega, rfl, by simp [fewT, framesN], by omega, rfl⟩ ?_
        · ((try simp only [List.length_append, List.length_cons, List.length_nil, Nat.zero_add]); refine Wk.intro [0, 3, 4] (by decide) (by decide) (by intro o ho; simp at ho ⊢ <;> omega) ?_ ?_ <;> repeat' (first | exact WkVL.nil | refine WkVL.cons ?_ ?_ | exact WkV.top | exact WkV.imm rfl | exact WkV.imm (by simp) | exact WkV.optr rfl | exact WkV.own rfl (by simp) | exact WkV.nil_own (.inl rfl) | exact WkV.map rfl | (refine WkV.free ?_; simp [Free, FreeL] <;> assumption) | (refine WkV.free (fun _ _ => FreeL_nth ?_ _); simp [Free, FreeL]; done) | refine WkV.agg ?_ | refine WkV.tup ?_ | refine WkV.fn ?_ ?_ | exact WkO.dead | exact WkO.raw | refine WkO.ghost ?_ | exact WkO.mpE rfl trivial | refine WkO.box ?_ rfl | refine WkO.arr ?_ | refine And.intro ?_ (And.intro (by first | exact fun h => h | exact fun _ => rfl | exact nofun) ?_) | exact trivial | (intro i j hi hj)))
        rintro k st ⟨i', D, u0, u1, u2, u3, rfl⟩
        (simp only [go_sem, ↓reduceIte, Nat.reduceAdd, Nat.reduceSub, Nat.reduceMul, Nat.reduceLT, Nat.reduceLeDiff, Nat.reduceEqDiff, Nat.reduceGT, Int.reduceToNat, Int.reduceBEq, Int.reduceBNe]; try simp (disch := omega) only [wrapI, wrapU, half_sum, toNat_sub1, toNat_add1, Int.toNat_natCast])
        by_cases hlt2 : i' < m.L.length
        · have o3 : Rcd.ok ⟨3, (gt m.L i').s, 0, gt m.L i'⟩ = true := by
            have h := hL.1 i' hlt2
            have hs := h.sec
            unfold OkT at h
            unfold Rcd.ok
            simp only []
            rw [if_neg (by omega), if_neg (by decide), if_neg (by decide), if_pos trivial, h]
            simp
          have f3 := frame_tc _ o3
          have l3 := frameN_len o3
          simp only [rcA, rcL] at f3
          have hst : framesN (fewT (m.L.take (i' + 1))) = framesN (fewT (m.L.take i')) ++ frameN ⟨3, (gt m.L i').s, 0, gt m.L i'⟩ := by
            have e1 : m.L.take (i' + 1) = m.L.take i' ++ [gt m.L i'] := by
              rw [List.take_add_one, List.getElem?_eq_getElem hlt2]; simp [gt, hlt2]
            rw [e1, fewT, List.map_append, framesN_app, fewT]
            simp [framesN]
          generalize frameN ⟨3, (gt m.L i').s, 0, gt m.L i'⟩ = q3 at f3 l3 hst
          (have cm1 := f3; ((refine goR0 _ _ _ _ _ _ _ _ ?_ ?_ ?_ ?_ ?_ ?_ ?_ ?_) <;> (repeat intro hb) <;> first | exact True.intro | refine Lf.mk ?_))
          refine ⟨m.L.length - (i' + 1), by omega, _, ?_, i' + 1, D ++ q3, by omega, by omega, by rw [hst, u2]; simp, by simp; omega, rfl⟩
          ((try simp only [List.length_append, List.length_cons, List.length_nil, Nat.zero_add]); refine Wk.intro [0, 1, 5] (by decide) (by decide) (by intro o ho; simp at ho ⊢ <;> omega) ?_ ?_ <;> repeat' (first | (refine WkO.arr ?_; intro i j hi hj; exact WkV.eqF (byE_app (a := D) (b := q3) (fun _ _ _ _ => rfl) (fun _ _ _ _ => rfl) rfl i j (by simpa using hi) hj) trivial) | exact WkVL.nil | refine WkVL.cons ?_ ?_ | exact WkV.top | exact WkV.imm rfl | exact WkV.imm (by simp) | exact WkV.optr rfl | exact WkV.own rfl (by simp) | exact WkV.nil_own (.inl rfl) | exact WkV.map rfl | (refine WkV.free ?_; simp [Free, FreeL] <;> assumption) | (refine WkV.free (fun _ _ => FreeL_nth ?_ _); simp [Free, FreeL]; done) | refine WkV.agg ?_ | refine WkV.tup ?_ | refine WkV.fn ?_ ?_ | exact WkO.dead | exact WkO.raw | refine WkO.ghost ?_ | exact WkO.mpE rfl trivial | refine WkO.box ?_ rfl | refine WkO.arr ?_ | refine And.intro ?_ (And.intro (by first | exact fun h => h | exact fun _ => rfl | exact nofun) ?_) | exact trivial | (intro i j hi hj)))
        · have hD : D = framesN (fewest m) := by rw [u2, hB, List.take_of_length_le (by omega), fewest, framesN_app]
          rw [← hD]
          (((refine goR0 _ _ _ _ _ _ _ _ ?_ ?_ ?_ ?_ ?_ ?_ ?_ ?_) <;> (repeat intro hb) <;> first | exact True.intro | refine Lf.mk ?_))
          all_goals exact .inr ⟨2, rfl, rfl⟩
    · have e : compactR d = (⟨[], 0⟩, (foldR (recoverR d).1).2) := by
        unfold compactR; rw [if_neg (by simp [h1]), if_pos h2]
      rw [e]
      generalize hq : recoverR d = q at *
      obtain ⟨l, d', er⟩ := q
      simp only [] at h1 h2 hfo hre hlr ⊢
      subst h1
      have h2' : ((foldR l).2 != 0) = true := by simpa using h2
      (refine TC_of_T Γ_ok Tryd.func15 rfl (by kernel_rfl) ?_; simp only [Tryd.ntmps15, Tryd.results15, List.length_cons, List.length_nil, Nat.reduceSub, Nat.reduceAdd, List.replicate, List.cons_append, List.nil_append])
      (have cm1 := hre; have cm2 := hfo; have sx1 := h2'; ((refine goR1 _ _ _ _ _ _ _ _ ?_ ?_ ?_ ?_ ?_ ?_ ?_ ?_) <;> (repeat intro hb) <;> first | exact True.intro | refine Lf.mk ?_))
      all_goals exact .inl ⟨rfl, rfl⟩
  · have e : compactR d = (⟨[], 0⟩, (recoverR d).2.2) := by unfold compactR; rw [if_pos h1]
    rw [e]
    have h1' : ((recoverR d).2.2 != 0) = true := by simpa using h1
    (refine TC_of_T Γ_ok Tryd.func15 rfl (by kernel_rfl) ?_; simp only [Tryd.ntmps15, Tryd.results15, List.length_cons, List.length_nil, Nat.reduceSub, Nat.reduceAdd, List.replicate, List.cons_append, List.nil_append])
    (have cm1 := hre; have sx1 := h1'; ((refine goR1 _ _ _ _ _ _ _ _ ?_ ?_ ?_ ?_ ?_ ?_ ?_ ?_) <;> (repeat intro hb) <;> first | exact True.intro | refine Lf.mk ?_))
    all_goals exact .inl ⟨rfl, rfl⟩
end Go.Proofs.YtnomenmakhielaaDoor
