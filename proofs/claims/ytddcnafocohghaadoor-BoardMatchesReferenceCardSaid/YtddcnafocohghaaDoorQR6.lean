/-
  The reference's Hands.
-/
import Derived.Test.YtddcnafocohghaaDoorQGo
import Derived.Test.YtddcnafocohghaaDoorQGo2
import Derived.Test.YtddcnafocohghaaDoorQS3
import Derived.Test.YtddcnafocohghaaDoorQS1
set_option linter.unusedSimpArgs false
set_option linter.unusedVariables false
namespace Go.Proofs.YtddcnafocohghaaDoor
open Go.Ab
set_option maxRecDepth 100000 in
set_option maxHeartbeats 4000000 in
theorem rhands_bad (b : Bd) (ids : List Int) (hl : b.ks.length ≤ 9223372036854775807) (h : bdB b = false) : TC Tryd.prog 18 [bdA b, ints ids] [] (fun u _ => u = .tup [.imm (.slice none 0 0), .imm (.slice none 0 0), .imm (.int .i64 1)]) := by
  have c2 := rvalid_b b hl
  rw [h] at c2
  (refine TC_of_T Γ_ok Tryd.func18 rfl (by kernel_rfl) ?_; simp only [Tryd.ntmps18, Tryd.results18, List.length_cons, List.length_nil, Nat.reduceSub, Nat.reduceAdd, List.replicate, List.cons_append, List.nil_append])
  (have dl1 := c2; ((refine goB0 _ _ _ _ _ _ _ _ ?_ ?_ ?_ ?_ ?_ ?_ ?_ ?_) <;> (repeat intro hb) <;> first | exact True.intro | refine Lf.mk ?_))
theorem take_id {l : List Ky} {i : Nat} (h : i < l.length) : (l.take (i + 1)).map (·.id) = (l.take i).map (·.id) ++ [(gk l i).id] := by
  rw [take_gk h, List.map_append]; rfl
set_option maxRecDepth 100000 in
set_option maxHeartbeats 4000000 in
theorem rhands_raw (b : Bd) (ids : List Int) (hl : b.ks.length ≤ 9223372036854775807) (hi : ids.length ≤ 9223372036854775807) : TC Tryd.prog 18 [bdA b, ints ids] [] (fun u σ' =>
    (u = .tup [.imm (.slice none 0 0), .imm (.slice none 0 0), .imm (.int .i64 (handsR b ids).2.2)] ∧ (handsR b ids).1.length = 0 ∧ (handsR b ids).2.1.length = 0) ∨
    ∃ p q, p ≠ q ∧ p < σ'.length ∧ q < σ'.length ∧ u = .tup [.own p 0 (handsR b ids).1.length none, .own q 0 (handsR b ids).2.1.length none, .imm (.int .i64 (handsR b ids).2.2)] ∧ nthO σ' p = intO (handsR b ids).1 ∧ nthO σ' q = intO (handsR b ids).2.1) := by
  have c2 := rvalid_b b hl
  unfold handsR
  by_cases hb : bdB b = true
  · rw [hb] at c2
    have hg := bdB_iff.1 hb
    have hl2 := hg.len
    have c3 := rdiff_tc b ids hg hi
    by_cases hd : diffP b ids
    · rw [if_pos ⟨hb, hd⟩]
      rw [decide_eq_true hd] at c3
      have hol := ordK_le hg ids
      have hil := ordK_len hg hd
      have c4 := rord_tc b ids hg hd (by omega)
      have hx : ∀ i, i < (ordK b ids).length → 0 ≤ (gk (ordK b ids) i).x ∧ (gk (ordK b ids) i).x ≤ 1000 := fun i h => by
        have := hg.one _ (ordK_mem.1 (gk_mem h)).1
        exact ⟨this.2.2.1, this.2.2.2.1⟩
      have c5 := rdiv_tc b (ordK b ids) hol hx
      have hdv : -1 ≤ divR b.span (ordK b ids) ∧ divR b.span (ordK b ids) ≤ (ordK b ids).length := by
        unfold divR
        rcases divN_cases b.span (ordK b ids) (ordK b ids).length with h5 | ⟨j, h5, h6, h7, h8⟩
        · rw [h5.1]; omega
        · rw [h6]; omega
      generalize hol' : ordK b ids = o at *
      generalize divR b.span o = d at *
      by_cases hn : d < 0
      · rw [if_pos hn]
        (refine TC_of_T Γ_ok Tryd.func18 rfl (by kernel_rfl) ?_; simp only [Tryd.ntmps18, Tryd.results18, List.length_cons, List.length_nil, Nat.reduceSub, Nat.reduceAdd, List.replicate, List.cons_append, List.nil_append])
        (have dl1 := c2; have dl2 := c3; have dm1 := c4; have dl3 := c5; ((refine goR0 _ _ _ _ _ _ _ _ ?_ ?_ ?_ ?_ ?_ ?_ ?_ ?_) <;> (repeat intro hb) <;> first | exact True.intro | refine Lf.mk ?_))
        exact .inl trivial
      · rw [if_neg hn]
        obtain ⟨n, rfl⟩ := Int.eq_ofNat_of_zero_le (show 0 ≤ d by omega)
        simp only [Int.ofNat_eq_natCast, Int.toNat_natCast] at *
        (refine TC_of_T Γ_ok Tryd.func18 rfl (by kernel_rfl) ?_; simp only [Tryd.ntmps18, Tryd.results18, List.length_cons, List.length_nil, Nat.reduceSub, Nat.reduceAdd, List.replicate, List.cons_append, List.nil_append])
        (have dl1 := c2; have dl2 := c3; have dm1 := c4; have dl3 := c5; ((refine goR0 _ _ _ _ _ _ _ _ ?_ ?_ ?_ ?_ ?_ ?_ ?_ ?_) <;> (repeat intro hb) <;> first | exact True.intro | refine Lf.mk ?_))
        refine T_loopW (fun m st => ∃ (i : Nat) (A B : List Int), i ≤ o.length ∧ m + i = o.length ∧ A = (o.take (min i n)).map (·.id) ∧ B = ((o.take i).drop n).map (·.id) ∧
            st = ⟨[.top, .top, .optr 0 0 0, .top, .imm (.slice none 0 0), .imm (.slice none 0 0), .imm (.int .i64 0), .own 1 0 o.length none, .imm (.int .i64 n), .own 2 0 A.length none, .own 3 0 B.length none, .imm (.int .i64 i)] ++ List.replicate 44 .top,
              [.box 24 (bdL b), .arr 43 9 o.length (kyE o), intO A, intO B]⟩)
          o.length ⟨_, Wk.trans (Wk.push 3 1 (inE [])) (Wk.trans (Wk.push 3 1 (inE [])) ?_), 0, [], [], by omega, rfl, by simp, by simp, rfl⟩ ?_
        · ((try simp only [List.length_append, List.length_cons, List.length_nil, Nat.zero_add]); refine Wk.intro [0, 1, 2, 3] (by decide) (by decide) (by intro o ho; simp at ho ⊢ <;> omega) ?_ ?_ <;> repeat' (first | exact WkVL.nil | refine WkVL.cons ?_ ?_ | exact WkV.top | exact WkV.imm rfl | exact WkV.imm (by simp) | exact WkV.optr rfl | exact WkV.own rfl (by simp) | exact WkV.nil_own (.inl rfl) | exact WkV.map rfl | (refine WkV.free ?_; simp [Free, FreeL] <;> assumption) | (refine WkV.free (fun _ _ => FreeL_nth ?_ _); simp [Free, FreeL]; done) | refine WkV.agg ?_ | refine WkV.tup ?_ | refine WkV.fn ?_ ?_ | exact WkO.dead | exact WkO.raw | refine WkO.ghost ?_ | exact WkO.mpE rfl trivial | refine WkO.box ?_ rfl | refine WkO.arr ?_ | refine And.intro ?_ (And.intro (by first | exact fun h => h | exact fun _ => rfl | exact nofun) ?_) | exact trivial | (intro i j hi hj)))
        rintro m st ⟨i, A, B, h0, h1, h2, h3, rfl⟩
        have hnl : n ≤ o.length := by omega
        by_cases hio : i < o.length
        · have hs1 := fun p q => in_snoc A (gk o i).id (i := p) (j := q)
          have hs2 := fun p q => in_snoc B (gk o i).id (i := p) (j := q)
          have hAl : A.length ≤ i := by rw [h2, List.length_map, List.length_take]; omega
          have hBl : B.length ≤ i := by rw [h3, List.length_map, List.length_drop, List.length_take]; omega
          (simp only [go_sem, ↓reduceIte, Nat.reduceAdd, Nat.reduceSub, Nat.reduceMul, Nat.reduceLT, Nat.reduceLeDiff, Nat.reduceEqDiff, Nat.reduceGT, Int.reduceToNat, Int.reduceBEq, Int.reduceBNe]; try simp (disch := omega) only [wrapI, wrapU, half_sum, toNat_sub1, toNat_add1, Int.toNat_natCast])
          (((refine goR0 _ _ _ _ _ _ _ _ ?_ ?_ ?_ ?_ ?_ ?_ ?_ ?_) <;> (repeat intro hb) <;> first | exact True.intro | refine Lf.mk ?_))
          · refine ⟨o.length - (i + 1), by omega, _, ?_, i + 1, A ++ [(gk o i).id], B, by omega, by omega, ?_, ?_, rfl⟩
            · ((try simp only [List.length_append, List.length_cons, List.length_nil, Nat.zero_add]); refine Wk.intro [0, 1, 5, 3] (by decide) (by decide) (by intro o ho; simp at ho ⊢ <;> omega) ?_ ?_ <;> repeat' (first | (refine WkV.imm ?_; congr 1; omega) | (exact WkV.eqF (hs1 _ _ (by simpa using hi) hj) (by simp)) | exact WkVL.nil | refine WkVL.cons ?_ ?_ | exact WkV.top | exact WkV.imm rfl | exact WkV.imm (by simp) | exact WkV.optr rfl | exact WkV.own rfl (by simp) | exact WkV.nil_own (.inl rfl) | exact WkV.map rfl | (refine WkV.free ?_; simp [Free, FreeL] <;> assumption) | (refine WkV.free (fun _ _ => FreeL_nth ?_ _); simp [Free, FreeL]; done) | refine WkV.agg ?_ | refine WkV.tup ?_ | refine WkV.fn ?_ ?_ | exact WkO.dead | exact WkO.raw | refine WkO.ghost ?_ | exact WkO.mpE rfl trivial | refine WkO.box ?_ rfl | refine WkO.arr ?_ | refine And.intro ?_ (And.intro (by first | exact fun h => h | exact fun _ => rfl | exact nofun) ?_) | exact trivial | (intro i j hi hj)))
            · rw [h2, Nat.min_eq_left (by omega), Nat.min_eq_left (by omega), take_id hio]
            · rw [h3, List.drop_of_length_le (by rw [List.length_take]; omega), List.drop_of_length_le (by rw [List.length_take]; omega)]
          · refine ⟨o.length - (i + 1), by omega, _, ?_, i + 1, A, B ++ [(gk o i).id], by omega, by omega, ?_, ?_, rfl⟩
            · ((try simp only [List.length_append, List.length_cons, List.length_nil, Nat.zero_add]); refine Wk.intro [0, 1, 2, 5] (by decide) (by decide) (by intro o ho; simp at ho ⊢ <;> omega) ?_ ?_ <;> repeat' (first | (refine WkV.imm ?_; congr 1; omega) | (exact WkV.eqF (hs2 _ _ (by simpa using hi) hj) (by simp)) | exact WkVL.nil | refine WkVL.cons ?_ ?_ | exact WkV.top | exact WkV.imm rfl | exact WkV.imm (by simp) | exact WkV.optr rfl | exact WkV.own rfl (by simp) | exact WkV.nil_own (.inl rfl) | exact WkV.map rfl | (refine WkV.free ?_; simp [Free, FreeL] <;> assumption) | (refine WkV.free (fun _ _ => FreeL_nth ?_ _); simp [Free, FreeL]; done) | refine WkV.agg ?_ | refine WkV.tup ?_ | refine WkV.fn ?_ ?_ | exact WkO.dead | exact WkO.raw | refine WkO.ghost ?_ | exact WkO.mpE rfl trivial | refine WkO.box ?_ rfl | refine WkO.arr ?_ | refine And.intro ?_ (And.intro (by first | exact fun h => h | exact fun _ => rfl | exact nofun) ?_) | exact trivial | (intro i j hi hj)))
            · rw [h2, Nat.min_eq_right (by omega), Nat.min_eq_right (by omega)]
            · rw [h3, take_gk hio, List.drop_append_of_le_length (by rw [List.length_take]; omega), List.map_append]
              rfl
        · have hie : i = o.length := by omega
          subst hie
          rw [Nat.min_eq_right hnl] at h2
          rw [List.take_length] at h3
          rw [← h2, ← h3]
          (simp only [go_sem, ↓reduceIte, Nat.reduceAdd, Nat.reduceSub, Nat.reduceMul, Nat.reduceLT, Nat.reduceLeDiff, Nat.reduceEqDiff, Nat.reduceGT, Int.reduceToNat, Int.reduceBEq, Int.reduceBNe]; try simp (disch := omega) only [wrapI, wrapU, half_sum, toNat_sub1, toNat_add1, Int.toNat_natCast])
          (((refine goR0 _ _ _ _ _ _ _ _ ?_ ?_ ?_ ?_ ?_ ?_ ?_ ?_) <;> (repeat intro hb) <;> first | exact True.intro | refine Lf.mk ?_))
          exact .inr ⟨2, 3, by decide, by simp, by simp, rfl, rfl, rfl⟩
    · rw [if_neg fun h => hd h.2]
      rw [decide_eq_false hd] at c3
      (refine TC_of_T Γ_ok Tryd.func18 rfl (by kernel_rfl) ?_; simp only [Tryd.ntmps18, Tryd.results18, List.length_cons, List.length_nil, Nat.reduceSub, Nat.reduceAdd, List.replicate, List.cons_append, List.nil_append])
      (have dl1 := c2; have dl2 := c3; ((refine goR0 _ _ _ _ _ _ _ _ ?_ ?_ ?_ ?_ ?_ ?_ ?_ ?_) <;> (repeat intro hb) <;> first | exact True.intro | refine Lf.mk ?_))
      exact .inl trivial
  · rw [if_neg fun h => hb h.1]
    rw [Bool.not_eq_true] at hb
    exact (rhands_bad b ids hl hb).mono fun u σ' h => .inl ⟨h, rfl, rfl⟩
theorem rhands_tc (b : Bd) (ids : List Int) (hl : b.ks.length ≤ 9223372036854775807) (hi : ids.length ≤ 9223372036854775807) : Makes Tryd.prog 18 [bdA b, ints ids] (.tup [.own 0 0 (handsR b ids).1.length none, .own 1 0 (handsR b ids).2.1.length none, .imm (.int .i64 (handsR b ids).2.2)]) [intO (handsR b ids).1, intO (handsR b ids).2.1] := by
  refine Makes.gen [(3, 1), (3, 1)] (by simp [VF, VFL]) (fun a ha => ?_) ((rhands_raw b ids hl hi).mono fun v σ' hq => ?_)
  · simp only [List.mem_cons, List.not_mem_nil, or_false] at ha
    rcases ha with rfl | rfl <;> exact fun i j => inE_pl _ i j
  · rcases hq with ⟨rfl, h1, h2⟩ | ⟨p, q, hpq, hp, hq, rfl, h1, h2⟩
    · have n0 : nthO (σ' ++ List.map (fun p => AObj.arr p.1 p.2 0 fun _ _ => AV.top) [(3, 1), (3, 1)]) σ'.length = .arr 3 1 0 fun _ _ => .top := nthO_of_get (by simp)
      have n1 : nthO (σ' ++ List.map (fun p => AObj.arr p.1 p.2 0 fun _ _ => AV.top) [(3, 1), (3, 1)]) (σ'.length + 1) = .arr 3 1 0 fun _ _ => .top := nthO_of_get (by simp)
      refine ⟨[σ'.length, σ'.length + 1], by simp, by simp, ?_, ?_⟩
      · rw [h1, h2]
        exact WkV.tup (WkVL.cons (WkV.nil_own (.inl rfl)) (WkVL.cons (WkV.nil_own (.inl rfl)) (WkVL.cons (WkV.imm rfl) WkVL.nil)))
      · refine ⟨?_, fun _ => by rw [n0]; rfl, ?_, fun _ => by rw [n1]; rfl, trivial⟩
        · rw [n0]; exact nil_wk h1
        · rw [n1]; exact nil_wk h2
    · have n0 : nthO (σ' ++ List.map (fun p => AObj.arr p.1 p.2 0 fun _ _ => AV.top) [(3, 1), (3, 1)]) p = intO (handsR b ids).1 := by rw [nthO_left hp, h1]
      have n1 : nthO (σ' ++ List.map (fun p => AObj.arr p.1 p.2 0 fun _ _ => AV.top) [(3, 1), (3, 1)]) q = intO (handsR b ids).2.1 := by rw [nthO_left hq, h2]
      refine ⟨[p, q], by simp [hpq], by simp; omega, ?_, ?_⟩
      · exact WkV.tup (WkVL.cons (WkV.own rfl (by simp)) (WkVL.cons (WkV.own rfl (by simp)) (WkVL.cons (WkV.imm rfl) WkVL.nil)))
      · refine ⟨?_, fun _ => by rw [n0]; rfl, ?_, fun _ => by rw [n1]; rfl, trivial⟩
        · rw [n0]; exact intO_wk _
        · rw [n1]; exact intO_wk _
end Go.Proofs.YtddcnafocohghaaDoor
