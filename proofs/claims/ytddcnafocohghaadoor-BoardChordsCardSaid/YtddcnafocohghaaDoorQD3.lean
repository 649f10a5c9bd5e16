/-
  BoardChords: the walk of the law.
-/
import Derived.Test.YtddcnafocohghaaDoorQGo
import Derived.Test.YtddcnafocohghaaDoorQC4
import Derived.Test.YtddcnafocohghaaDoorQP6
set_option linter.unusedSimpArgs false
set_option linter.unusedVariables false
namespace Go.Proofs.YtddcnafocohghaaDoor
open Go.Ab
theorem find_pair {b : Bd} (hb : bdB b = true) (vs : List P6) (i : Nat) : (findR b (gv vs i)).2 = 0 ∧ vOk (gv vs i) = true ∧ (findR b (gv vs i)).1 = findL b (gv vs i) ∨ (findR b (gv vs i)).2 = 1 ∧ vOk (gv vs i) = false := by
  unfold findR
  by_cases h : vOk (gv vs i) = true
  · rw [if_pos ⟨hb, h⟩]; exact .inl ⟨rfl, h, rfl⟩
  · rw [if_neg fun h2 => h h2.2]; exact .inr ⟨rfl, by simpa using h⟩
def bad (e : Int) (b : Bd) (vs : List P6) (ids : List Int) : Prop := (e = 4 → ∃ i, i < vs.length ∧ vOk (gv vs i) = true ∧ findL b (gv vs i) = []) ∧ (e = 20 → ¬ fitsP b vs ids)
set_option maxRecDepth 100000 in
set_option maxHeartbeats 4000000 in
theorem chords_law (b : Bd) (vs : List P6) (ids : List Int) (hl : b.ks.length ≤ 9223372036854775807) (hv : vs.length * 48 ≤ 140737488351232) (hi : ids.length ≤ 9223372036854775807) : Look Tryd.prog 6 [bdA b, vts vs, ints ids] (.imm (.bool true)) := by
  have c1 := chord_tc b vs hl hv
  have c2 := valid_tc b hl
  refine Look.mk trivial ?_
  by_cases hb : bdB b = true
  · have hbd := hb
    have hg := bdB_iff.1 hb
    rw [hb] at c2
    have c3 := fits_tc b vs ids hb hi (by omega)
    by_cases he : (chordR b vs).2 = 0
    · obtain ⟨l, h1, ho, hf, hfirst⟩ := chordR_get he
      rw [h1] at c1
      simp only [] at c1
      have hlen := hf.2.1
      have c4 := fits_tc b vs l hb (by omega) (by omega)
      rw [decide_eq_true hf] at c4
      have c5 := less_tc ids l hi (by omega)
      have hx : fitsP b vs ids → lexB ids l = false := fun h => by
        rcases hfirst ids h with e | e
        · rw [e]; exact lexB_irr ids
        · exact lexB_asym e
      have hx2 : decide (fitsP b vs ids) = true → lexB ids l = false := fun h => hx (of_decide_eq_true h)
      generalize decide (fitsP b vs ids) = g1 at c3 hx2
      generalize lexB ids l = g2 at c5 hx2
      clear hx hfirst hf
      (refine TC_of_T Γ_ok Tryd.func6 rfl (by kernel_rfl) ?_; simp only [Tryd.ntmps6, Tryd.results6, List.length_cons, List.length_nil, Nat.reduceSub, Nat.reduceAdd, List.replicate, List.cons_append, List.nil_append])
      (have cl1 := head_tc; have cm1 := c1; have dl1 := c2; have dl2 := c4; have dl3 := c3; have dl4 := c5; repeat' (first | with_reducible refine T_seq_drawT (id := 12) Γ_ok drawsAny pl6_12 (by kernel_rfl) (fun K hK => ?_) | with_reducible refine T_last_drawT (id := 12) Γ_ok drawsAny pl6_12 (by kernel_rfl) (fun K hK => ?_) | ((refine goR0 _ _ _ _ _ _ _ _ ?_ ?_ ?_ ?_ ?_ ?_ ?_ ?_) <;> (repeat intro hb) <;> first | exact True.intro | refine Lf.mk ?_)))
      cases g1 with
      | false => rfl
      | true => rw [hx2 rfl]; rfl
    · have hce : ∃ e : Int, chordR b vs = ([], e) ∧ (e = 1 ∨ e = 4 ∨ e = 2 ∨ e = 20) ∧ bad e b vs ids := by
        rcases chordR_cases hb vs with ⟨l, h, _⟩ | ⟨h, h1, h2⟩ | ⟨h, h1⟩ | ⟨h, h1, h2⟩ | ⟨h, h1⟩
        · rw [h] at he; exact absurd rfl he
        · exact ⟨20, h, by omega, fun h3 => by omega, fun _ => h2 ids⟩
        · exact ⟨1, h, by omega, fun h3 => by omega, fun h3 => by omega⟩
        · refine ⟨4, h, by omega, fun _ => ?_, fun h3 => by omega⟩
          have h3 : ∃ v ∈ vs, findL b v = [] := by
            refine Classical.byContradiction fun hn => h2 fun v hv2 e => hn ⟨v, hv2, e⟩
          obtain ⟨v, hm, h4⟩ := h3
          obtain ⟨i, hi2, rfl⟩ := List.mem_iff_getElem.1 hm
          have e : gv vs i = vs[i] := by simp [gv, hi2]
          exact ⟨i, hi2, by rw [e]; exact h1 _ hm, by rw [e]; exact h4⟩
        · exact ⟨2, h, by omega, fun h3 => by omega, fun h3 => by omega⟩
      obtain ⟨e, hce1, hce2, hbd4, hbd20⟩ := hce
      rw [hce1] at c1
      simp only [] at c1
      rw [hce1] at he
      simp only [] at he
      have hx2 : e = 20 → decide (fitsP b vs ids) = false := fun h => decide_eq_false (hbd20 h)
      generalize decide (fitsP b vs ids) = g1 at c3 hx2
      clear hbd20 hce1
      (refine TC_of_T Γ_ok Tryd.func6 rfl (by kernel_rfl) ?_; simp only [Tryd.ntmps6, Tryd.results6, List.length_cons, List.length_nil, Nat.reduceSub, Nat.reduceAdd, List.replicate, List.cons_append, List.nil_append])
      (have cl1 := head_tc; have cm1 := c1; have dl1 := c2; repeat' (first | with_reducible refine T_seq_drawT (id := 12) Γ_ok drawsAny pl6_12 (by kernel_rfl) (fun K hK => ?_) | with_reducible refine T_last_drawT (id := 12) Γ_ok drawsAny pl6_12 (by kernel_rfl) (fun K hK => ?_) | ((refine goR0 _ _ _ _ _ _ _ _ ?_ ?_ ?_ ?_ ?_ ?_ ?_ ?_) <;> (repeat intro hb) <;> first | exact True.intro | refine Lf.mk ?_)))
      · exact absurd hb he
      · clear hbd4; exfalso; omega
      refine T_loopW (fun m st => ∃ i : Nat, i ≤ vs.length ∧ m + i = vs.length ∧ (e = 4 → ∀ j, j < i → ¬ (vOk (gv vs j) = true ∧ findL b (gv vs j) = [])) ∧
          st = ⟨[.top, vts vs, ints ids, .optr 0 0 0, .top, .top, .imm (.bool false), .imm (.bool true), .top, .imm (.int .i64 e), .imm (.int .i64 i)] ++ List.replicate 97 .top, [.box 24 (bdL b)]⟩)
        vs.length ⟨_, ?_, 0, by omega, rfl, fun _ j hj => by omega, rfl⟩ ?_
      · ((try simp only [List.length_append, List.length_cons, List.length_nil, Nat.zero_add]); refine Wk.intro [0] (by decide) (by decide) (by intro o ho; simp at ho ⊢ <;> omega) ?_ ?_ <;> repeat' (first | exact WkVL.nil | refine WkVL.cons ?_ ?_ | exact WkV.top | exact WkV.imm rfl | exact WkV.imm (by simp) | exact WkV.optr rfl | exact WkV.own rfl (by simp) | exact WkV.nil_own (.inl rfl) | exact WkV.map rfl | (refine WkV.free ?_; simp [Free, FreeL] <;> assumption) | (refine WkV.free (fun _ _ => FreeL_nth ?_ _); simp [Free, FreeL]; done) | refine WkV.agg ?_ | refine WkV.tup ?_ | refine WkV.fn ?_ ?_ | exact WkO.dead | exact WkO.raw | refine WkO.ghost ?_ | exact WkO.mpE rfl trivial | refine WkO.box ?_ rfl | refine WkO.arr ?_ | refine And.intro ?_ (And.intro (by first | exact fun h => h | exact fun _ => rfl | exact nofun) ?_) | exact trivial | (intro i j hi hj)))
      rintro m st ⟨i, h0, h1, h2, rfl⟩
      by_cases hi2 : i < vs.length
      · have c4 := find_tc b (gv vs i) hl
        have h5 := find_pair hbd vs i
        have h6 : (findR b (gv vs i)).1.length = 0 → (findR b (gv vs i)).2 = 0 → vOk (gv vs i) = true ∧ findL b (gv vs i) = [] := fun p q => by
          rcases h5 with ⟨_, r1, r2⟩ | ⟨r1, _⟩
          · exact ⟨r1, by rw [← r2]; exact List.length_eq_zero_iff.1 p⟩
          · rw [q] at r1; cases r1
        have h7 : vOk (gv vs i) = true → findL b (gv vs i) = [] → (findR b (gv vs i)).1.length = 0 ∧ (findR b (gv vs i)).2 = 0 := fun p q => by
          rcases h5 with ⟨r0, r1, r2⟩ | ⟨_, r1⟩
          · rw [r2, q]; exact ⟨rfl, r0⟩
          · rw [p] at r1; cases r1
        clear h5
        generalize (findR b (gv vs i)).1 = x at c4 h6 h7
        generalize (findR b (gv vs i)).2 = f at c4 h6 h7
        (simp only [go_sem, ↓reduceIte, Nat.reduceAdd, Nat.reduceSub, Nat.reduceMul, Nat.reduceLT, Nat.reduceLeDiff, Nat.reduceEqDiff, Nat.reduceGT, Int.reduceToNat, Int.reduceBEq, Int.reduceBNe]; try simp (disch := omega) only [wrapI, wrapU, half_sum, toNat_sub1, toNat_add1, Int.toNat_natCast])
        (have cm1 := c4; repeat' (first | with_reducible refine T_seq_drawT (id := 12) Γ_ok drawsAny pl6_12 (by kernel_rfl) (fun K hK => ?_) | with_reducible refine T_last_drawT (id := 12) Γ_ok drawsAny pl6_12 (by kernel_rfl) (fun K hK => ?_) | ((refine goR0 _ _ _ _ _ _ _ _ ?_ ?_ ?_ ?_ ?_ ?_ ?_ ?_) <;> (repeat intro hb) <;> first | exact True.intro | refine Lf.mk ?_)))
        refine ⟨vs.length - (i + 1), by omega, _, ?_, i + 1, by omega, by omega, fun p j hj => ?_, rfl⟩
        · ((try simp only [List.length_append, List.length_cons, List.length_nil, Nat.zero_add]); refine Wk.intro [0] (by decide) (by decide) (by intro o ho; simp at ho ⊢ <;> omega) ?_ ?_ <;> repeat' (first | (refine WkV.imm ?_; congr 1; omega) | exact WkVL.nil | refine WkVL.cons ?_ ?_ | exact WkV.top | exact WkV.imm rfl | exact WkV.imm (by simp) | exact WkV.optr rfl | exact WkV.own rfl (by simp) | exact WkV.nil_own (.inl rfl) | exact WkV.map rfl | (refine WkV.free ?_; simp [Free, FreeL] <;> assumption) | (refine WkV.free (fun _ _ => FreeL_nth ?_ _); simp [Free, FreeL]; done) | refine WkV.agg ?_ | refine WkV.tup ?_ | refine WkV.fn ?_ ?_ | exact WkO.dead | exact WkO.raw | refine WkO.ghost ?_ | exact WkO.mpE rfl trivial | refine WkO.box ?_ rfl | refine WkO.arr ?_ | refine And.intro ?_ (And.intro (by first | exact fun h => h | exact fun _ => rfl | exact nofun) ?_) | exact trivial | (intro i j hi hj)))
        · by_cases ej : j = i
          · rintro ⟨q1, q2⟩
            subst ej
            have := h7 q1 q2
            omega
          · exact h2 p j (by omega)
      · have hne : e ≠ 4 := fun p => by
          obtain ⟨j, j1, j2, j3⟩ := hbd4 p
          exact h2 p j (by omega) ⟨j2, j3⟩
        have hneB : (e != 4) = true := by simpa using hne
        (simp only [go_sem, ↓reduceIte, Nat.reduceAdd, Nat.reduceSub, Nat.reduceMul, Nat.reduceLT, Nat.reduceLeDiff, Nat.reduceEqDiff, Nat.reduceGT, Int.reduceToNat, Int.reduceBEq, Int.reduceBNe]; try simp (disch := omega) only [wrapI, wrapU, half_sum, toNat_sub1, toNat_add1, Int.toNat_natCast])
        (have dl1 := c3; have sx1 := hneB; have sx2 : (0 : Nat) + 0 = 0 := rfl; repeat' (first | with_reducible refine T_seq_drawT (id := 12) Γ_ok drawsAny pl6_12 (by kernel_rfl) (fun K hK => ?_) | with_reducible refine T_last_drawT (id := 12) Γ_ok drawsAny pl6_12 (by kernel_rfl) (fun K hK => ?_) | ((refine goR2 _ _ _ _ _ _ _ _ ?_ ?_ ?_ ?_ ?_ ?_ ?_ ?_) <;> (repeat intro hb) <;> first | exact True.intro | refine Lf.mk ?_)))
        refine congrArg (fun b => AV.imm (.bool b)) ?_
        by_cases e20 : e = 20
        · rw [hx2 e20]; simp
        · simp [e20]
  · rw [Bool.not_eq_true] at hb
    rw [hb] at c2
    (refine TC_of_T Γ_ok Tryd.func6 rfl (by kernel_rfl) ?_; simp only [Tryd.ntmps6, Tryd.results6, List.length_cons, List.length_nil, Nat.reduceSub, Nat.reduceAdd, List.replicate, List.cons_append, List.nil_append])
    (have cl1 := head_tc; have cm1 := c1; have dl1 := c2; repeat' (first | with_reducible refine T_seq_drawT (id := 12) Γ_ok drawsAny pl6_12 (by kernel_rfl) (fun K hK => ?_) | with_reducible refine T_last_drawT (id := 12) Γ_ok drawsAny pl6_12 (by kernel_rfl) (fun K hK => ?_) | ((refine goR0 _ _ _ _ _ _ _ _ ?_ ?_ ?_ ?_ ?_ ?_ ?_ ?_) <;> (repeat intro hb) <;> first | exact True.intro | refine Lf.mk ?_)))
end Go.Proofs.YtddcnafocohghaaDoor
