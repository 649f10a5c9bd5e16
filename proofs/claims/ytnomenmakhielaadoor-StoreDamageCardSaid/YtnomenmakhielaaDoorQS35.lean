/-
  The law's valid and written; what is appended.
-/
import Derived.Test.YtnomenmakhielaaDoorQGo
import Derived.Test.YtnomenmakhielaaDoorQS34
import Derived.Test.YtnomenmakhielaaDoorQP1
set_option linter.unusedSimpArgs false
set_option linter.unusedVariables false
namespace Go.Proofs.YtnomenmakhielaaDoor
open Go.Ab

theorem frameN_ok {r : Rcd} (h : r.ok = true) : ByOk (frameN r) := sealN_ok (bodyN_ok h).1 (by have := (bodyN_ok h).2; omega)
theorem framesN_ok {l : List Rcd} (h : allOk l = true) : ByOk (framesN l) := by
  intro x hx
  unfold framesN at hx
  rw [List.mem_flatMap] at hx
  obtain ⟨r, hr, hx⟩ := hx
  exact frameN_ok ((List.all_eq_true.1 h) r hr) x hx
theorem append_step {l : List Rcd} {r : Rcd} {s : Int} (h : allOk l = true) (hr : r.ok = true) (hl : l.length < 500) (hs : 0 ≤ s ∧ s ≤ (framesN l).length) : appendR ⟨framesN l, s⟩ r = (⟨framesN l ++ frameN r, s⟩, 0) := by
  have h1 := framesN_len h
  have h2 := frameN_len hr
  have h3 := wholeN_all h
  unfold appendR
  rw [if_pos ⟨by unfold soundB; simp only [Bool.and_eq_true, decide_eq_true_eq]; omega, hr⟩]
  simp only [h3]
  rw [if_neg (by omega), if_neg (by rw [List.length_append]; omega)]
theorem sync_frames {b : List Nat} {s : Int} (h : soundB ⟨b, s⟩ = true) : syncR ⟨b, s⟩ = (⟨b, b.length⟩, 0) := by unfold syncR; rw [if_pos h]; simp

set_option maxRecDepth 100000 in
set_option maxHeartbeats 400000 in
theorem lvalid_tc (l : List Rcd) (hl : l.length ≤ 9223372036854775807) : Look Tryd.prog 18 [rcs l] (.imm (.bool (decide (l.length ≤ 40 ∧ allOk l = true)))) := by
  refine Look.mk trivial ?_
  (refine TC_of_T Γ_ok Tryd.func18 rfl (by kernel_rfl) ?_; simp only [Tryd.ntmps18, Tryd.results18, List.length_cons, List.length_nil, Nat.reduceSub, Nat.reduceAdd, List.replicate, List.cons_append, List.nil_append])
  (((refine goR0 _ _ _ _ _ _ _ _ ?_ ?_ ?_ ?_ ?_ ?_ ?_ ?_) <;> (repeat intro hb) <;> first | exact True.intro | refine Lf.mk ?_))
  · rw [decide_eq_false (fun h => by omega)]
  refine T_loopW (fun m st => ∃ i : Nat, i ≤ l.length ∧ m + i = l.length ∧ (∀ j, j < i → (gR l j).ok = true) ∧ st = ⟨[rcs l, .top, .imm (.bool false), .imm (.int .i64 i)] ++ List.replicate 15 .top, []⟩)
    l.length ⟨_, ?_, 0, Nat.zero_le _, rfl, fun j hj => by omega, rfl⟩ ?_
  · ((try simp only [List.length_append, List.length_cons, List.length_nil, Nat.zero_add]); refine Wk.intro [] (by decide) (by decide) (by intro o ho; simp at ho ⊢ <;> omega) ?_ ?_ <;> repeat' (first | exact WkVL.nil | refine WkVL.cons ?_ ?_ | exact WkV.top | exact WkV.imm rfl | exact WkV.imm (by simp) | exact WkV.optr rfl | exact WkV.own rfl (by simp) | exact WkV.nil_own (.inl rfl) | exact WkV.map rfl | (refine WkV.free ?_; simp [Free, FreeL] <;> assumption) | (refine WkV.free (fun _ _ => FreeL_nth ?_ _); simp [Free, FreeL]; done) | refine WkV.agg ?_ | refine WkV.tup ?_ | refine WkV.fn ?_ ?_ | exact WkO.dead | exact WkO.raw | refine WkO.ghost ?_ | exact WkO.mpE rfl trivial | refine WkO.box ?_ rfl | refine WkO.arr ?_ | refine And.intro ?_ (And.intro (by first | exact fun h => h | exact fun _ => rfl | exact nofun) ?_) | exact trivial | (intro i j hi hj)))
  rintro m st ⟨i, h1, h2, h3, rfl⟩
  (simp only [go_sem, ↓reduceIte, Nat.reduceAdd, Nat.reduceSub, Nat.reduceMul, Nat.reduceLT, Nat.reduceLeDiff, Nat.reduceEqDiff, Nat.reduceGT, Int.reduceToNat, Int.reduceBEq, Int.reduceBNe]; try simp (disch := omega) only [wrapI, wrapU, half_sum, toNat_sub1, toNat_add1, Int.toNat_natCast])
  by_cases hlt : i < l.length
  · have hv := rrec_tc (gR l i)
    cases hg : (gR l i).ok with
    | true =>
      rw [hg] at hv
      (have cl1 := hv; ((refine goR0 _ _ _ _ _ _ _ _ ?_ ?_ ?_ ?_ ?_ ?_ ?_ ?_) <;> (repeat intro hb) <;> first | exact True.intro | refine Lf.mk ?_))
      refine ⟨l.length - (i + 1), by omega, _, ?_, i + 1, by omega, by omega, fun j hj => ?_, rfl⟩
      · ((try simp only [List.length_append, List.length_cons, List.length_nil, Nat.zero_add]); refine Wk.intro [] (by decide) (by decide) (by intro o ho; simp at ho ⊢ <;> omega) ?_ ?_ <;> repeat' (first | exact WkVL.nil | refine WkVL.cons ?_ ?_ | exact WkV.top | exact WkV.imm rfl | exact WkV.imm (by simp) | exact WkV.optr rfl | exact WkV.own rfl (by simp) | exact WkV.nil_own (.inl rfl) | exact WkV.map rfl | (refine WkV.free ?_; simp [Free, FreeL] <;> assumption) | (refine WkV.free (fun _ _ => FreeL_nth ?_ _); simp [Free, FreeL]; done) | refine WkV.agg ?_ | refine WkV.tup ?_ | refine WkV.fn ?_ ?_ | exact WkO.dead | exact WkO.raw | refine WkO.ghost ?_ | exact WkO.mpE rfl trivial | refine WkO.box ?_ rfl | refine WkO.arr ?_ | refine And.intro ?_ (And.intro (by first | exact fun h => h | exact fun _ => rfl | exact nofun) ?_) | exact trivial | (intro i j hi hj)))
      · by_cases hji : j = i
        · rw [hji]; exact hg
        · exact h3 j (by omega)
    | false =>
      rw [hg] at hv
      (have cl1 := hv; ((refine goR0 _ _ _ _ _ _ _ _ ?_ ?_ ?_ ?_ ?_ ?_ ?_ ?_) <;> (repeat intro hb) <;> first | exact True.intro | refine Lf.mk ?_))
      rw [decide_eq_false (fun h => by rw [allOk_gR h.2 hlt] at hg; cases hg)]
  · (((refine goR0 _ _ _ _ _ _ _ _ ?_ ?_ ?_ ?_ ?_ ?_ ?_ ?_) <;> (repeat intro hb) <;> first | exact True.intro | refine Lf.mk ?_))
    rw [decide_eq_true ⟨by omega, allOk_of fun j hj => h3 j (by omega)⟩]

def synN (l : List Rcd) (c : Int) (i : Nat) : Nat := if 0 ≤ c ∧ c < i then (framesN (l.take c.toNat)).length else 0
theorem synN_le (l : List Rcd) (c : Int) (i : Nat) : synN l c i ≤ (framesN (l.take i)).length := by
  unfold synN
  split
  · have e : l.take i = l.take c.toNat ++ (l.drop c.toNat).take (i - c.toNat) := by
      conv => lhs; rw [show i = c.toNat + (i - c.toNat) by omega, List.take_add]
    rw [e, framesN_app, List.length_append]; omega
  · omega
theorem synN_step (l : List Rcd) (c : Int) (i : Nat) : synN l c (i + 1) = if c = i then (framesN (l.take i)).length else synN l c i := by
  unfold synN
  by_cases h : c = i
  · rw [if_pos h, if_pos (by omega), h]; simp
  · rw [if_neg h]
    by_cases h2 : 0 ≤ c ∧ c < i
    · rw [if_pos h2, if_pos (by omega)]
    · rw [if_neg h2, if_neg (by omega)]

set_option maxRecDepth 100000 in
set_option maxHeartbeats 4000000 in
theorem written_raw (l : List Rcd) (c : Int) (ho : allOk l = true) (hl : l.length ≤ 40) :
    TC Tryd.prog 19 [rcs l, .imm (.int .i64 c)] [] (DQ (framesN l) (fun x => .tup [.agg [x, .imm (.int .i64 (synN l c (l.length + 1) : Nat))], .imm (.bool true)])) := by
  (refine TC_of_T Γ_ok Tryd.func19 rfl (by kernel_rfl) ?_; simp only [Tryd.ntmps19, Tryd.results19, List.length_cons, List.length_nil, Nat.reduceSub, Nat.reduceAdd, List.replicate, List.cons_append, List.nil_append])
  (((refine goR0 _ _ _ _ _ _ _ _ ?_ ?_ ?_ ?_ ?_ ?_ ?_ ?_) <;> (repeat intro hb) <;> first | exact True.intro | refine Lf.mk ?_))
  refine T_loopW (fun m st => ∃ (i : Nat), i ≤ l.length + 1 ∧ m + i = l.length + 1 ∧
      st = ⟨[rcs l, .imm (.int .i64 c), .top, .top, .optr 0 0 0, .imm (.bool false), .optr 1 0 0, .imm (.int .i64 i)] ++ List.replicate 40 .top,
        [.box 43 [.imm (.slice none 0 0), .imm (.int .i64 0)], .box 43 [.own 2 0 (framesN (l.take i)).length none, .imm (.int .i64 (synN l c i : Nat))], byO (framesN (l.take i))]⟩)
    (l.length + 1) ⟨_, Wk.trans (Wk.push 5 1 (byE [])) ?_, 0, by omega, rfl, rfl⟩ ?_
  · have e0 : synN l c 0 = 0 := by unfold synN; rw [if_neg (by omega)]
    rw [e0]
    ((try simp only [List.length_append, List.length_cons, List.length_nil, Nat.zero_add]); refine Wk.intro [0, 1, 2] (by decide) (by decide) (by intro o ho; simp at ho ⊢ <;> omega) ?_ ?_ <;> repeat' (first | exact WkVL.nil | refine WkVL.cons ?_ ?_ | exact WkV.top | exact WkV.imm rfl | exact WkV.imm (by simp) | exact WkV.optr rfl | exact WkV.own rfl (by simp) | exact WkV.nil_own (.inl rfl) | exact WkV.map rfl | (refine WkV.free ?_; simp [Free, FreeL] <;> assumption) | (refine WkV.free (fun _ _ => FreeL_nth ?_ _); simp [Free, FreeL]; done) | refine WkV.agg ?_ | refine WkV.tup ?_ | refine WkV.fn ?_ ?_ | exact WkO.dead | exact WkO.raw | refine WkO.ghost ?_ | exact WkO.mpE rfl trivial | refine WkO.box ?_ rfl | refine WkO.arr ?_ | refine And.intro ?_ (And.intro (by first | exact fun h => h | exact fun _ => rfl | exact nofun) ?_) | exact trivial | (intro i j hi hj)))
  rintro m st ⟨i, h1, h2, rfl⟩
  (simp only [go_sem, ↓reduceIte, Nat.reduceAdd, Nat.reduceSub, Nat.reduceMul, Nat.reduceLT, Nat.reduceLeDiff, Nat.reduceEqDiff, Nat.reduceGT, Int.reduceToNat, Int.reduceBEq, Int.reduceBNe]; try simp (disch := omega) only [wrapI, wrapU, half_sum, toNat_sub1, toNat_add1, Int.toNat_natCast])
  have hot := allOk_take ho i
  have hbt := framesN_ok hot
  have hlt' := framesN_len hot
  have htl : (l.take i).length ≤ 40 := by simp; omega
  have hsy := synN_le l c i
  have hss := synN_step l c i
  by_cases hle : i ≤ l.length
  · have hsn : soundB ⟨framesN (l.take i), (synN l c i : Nat)⟩ = true := by unfold soundB; simp only [Bool.and_eq_true, decide_eq_true_eq]; omega
    have hsync := sync_tc ⟨framesN (l.take i), (synN l c i : Nat)⟩ (by simp only []; omega)
    rw [sync_frames hsn] at hsync
    by_cases hlt : i < l.length
    · have hro := allOk_gR ho hlt
      have hst := frames_step hlt
      have hB' : framesN (l.take (i + 1)) = framesN (l.take i) ++ frameN (gR l i) := hst
      by_cases hc : c = i
      · rw [if_pos hc] at hss
        have hap := append_tc ⟨framesN (l.take i), ((framesN (l.take i)).length : Nat)⟩ (gR l i) hbt (by simp only []; omega)
        rw [append_step hot hro (by omega) (by omega), ← hst] at hap
        simp only [rcA, rcL] at hap
        subst hc
        generalize hA : framesN (l.take (i + 1)) = B' at *
        generalize framesN (l.take i) = B at *
        (have cm1 := hsync; have cm2 := hap; have sx1 := @beq_self_eq_true Int _ _; repeat' (first | with_reducible refine T_seq_drawT (id := 11) Γ_ok drawsAny pl19_11 (by kernel_rfl) (fun K hK => ?_) | with_reducible refine T_last_drawT (id := 11) Γ_ok drawsAny pl19_11 (by kernel_rfl) (fun K hK => ?_) | ((refine goR1 _ _ _ _ _ _ _ _ ?_ ?_ ?_ ?_ ?_ ?_ ?_ ?_) <;> (repeat intro hb) <;> first | exact True.intro | refine Lf.mk ?_)))
        all_goals refine ⟨l.length + 1 - (i + 1), by omega, _, ?_, i + 1, by omega, by omega, rfl⟩
        all_goals rw [hA, hss]
        · ((try simp only [List.length_append, List.length_cons, List.length_nil, Nat.zero_add]); refine Wk.intro [0, 1, 5] (by decide) (by decide) (by intro o ho; simp at ho ⊢ <;> omega) ?_ ?_ <;> repeat' (first | exact WkVL.nil | refine WkVL.cons ?_ ?_ | exact WkV.top | exact WkV.imm rfl | exact WkV.imm (by simp) | exact WkV.optr rfl | exact WkV.own rfl (by simp) | exact WkV.nil_own (.inl rfl) | exact WkV.map rfl | (refine WkV.free ?_; simp [Free, FreeL] <;> assumption) | (refine WkV.free (fun _ _ => FreeL_nth ?_ _); simp [Free, FreeL]; done) | refine WkV.agg ?_ | refine WkV.tup ?_ | refine WkV.fn ?_ ?_ | exact WkO.dead | exact WkO.raw | refine WkO.ghost ?_ | exact WkO.mpE rfl trivial | refine WkO.box ?_ rfl | refine WkO.arr ?_ | refine And.intro ?_ (And.intro (by first | exact fun h => h | exact fun _ => rfl | exact nofun) ?_) | exact trivial | (intro i j hi hj)))
        · ((try simp only [List.length_append, List.length_cons, List.length_nil, Nat.zero_add]); refine Wk.intro [0, 1, 6] (by decide) (by decide) (by intro o ho; simp at ho ⊢ <;> omega) ?_ ?_ <;> repeat' (first | exact WkVL.nil | refine WkVL.cons ?_ ?_ | exact WkV.top | exact WkV.imm rfl | exact WkV.imm (by simp) | exact WkV.optr rfl | exact WkV.own rfl (by simp) | exact WkV.nil_own (.inl rfl) | exact WkV.map rfl | (refine WkV.free ?_; simp [Free, FreeL] <;> assumption) | (refine WkV.free (fun _ _ => FreeL_nth ?_ _); simp [Free, FreeL]; done) | refine WkV.agg ?_ | refine WkV.tup ?_ | refine WkV.fn ?_ ?_ | exact WkO.dead | exact WkO.raw | refine WkO.ghost ?_ | exact WkO.mpE rfl trivial | refine WkO.box ?_ rfl | refine WkO.arr ?_ | refine And.intro ?_ (And.intro (by first | exact fun h => h | exact fun _ => rfl | exact nofun) ?_) | exact trivial | (intro i j hi hj)))
      · rw [if_neg hc] at hss
        have hc' : (c == (i : Int)) = false := by simpa using hc
        have hap := append_tc ⟨framesN (l.take i), (synN l c i : Nat)⟩ (gR l i) hbt (by simp only []; omega)
        rw [append_step hot hro (by omega) (by omega), ← hst] at hap
        simp only [rcA, rcL] at hap
        generalize hA : framesN (l.take (i + 1)) = B' at *
        generalize framesN (l.take i) = B at *
        generalize synN l c i = s at *
        (have cm1 := hap; have sx1 := hc'; repeat' (first | with_reducible refine T_seq_drawT (id := 11) Γ_ok drawsAny pl19_11 (by kernel_rfl) (fun K hK => ?_) | with_reducible refine T_last_drawT (id := 11) Γ_ok drawsAny pl19_11 (by kernel_rfl) (fun K hK => ?_) | ((refine goR1 _ _ _ _ _ _ _ _ ?_ ?_ ?_ ?_ ?_ ?_ ?_ ?_) <;> (repeat intro hb) <;> first | exact True.intro | refine Lf.mk ?_)))
        all_goals refine ⟨l.length + 1 - (i + 1), by omega, _, ?_, i + 1, by omega, by omega, rfl⟩
        all_goals rw [hA, hss]
        · ((try simp only [List.length_append, List.length_cons, List.length_nil, Nat.zero_add]); refine Wk.intro [0, 1, 3] (by decide) (by decide) (by intro o ho; simp at ho ⊢ <;> omega) ?_ ?_ <;> repeat' (first | exact WkVL.nil | refine WkVL.cons ?_ ?_ | exact WkV.top | exact WkV.imm rfl | exact WkV.imm (by simp) | exact WkV.optr rfl | exact WkV.own rfl (by simp) | exact WkV.nil_own (.inl rfl) | exact WkV.map rfl | (refine WkV.free ?_; simp [Free, FreeL] <;> assumption) | (refine WkV.free (fun _ _ => FreeL_nth ?_ _); simp [Free, FreeL]; done) | refine WkV.agg ?_ | refine WkV.tup ?_ | refine WkV.fn ?_ ?_ | exact WkO.dead | exact WkO.raw | refine WkO.ghost ?_ | exact WkO.mpE rfl trivial | refine WkO.box ?_ rfl | refine WkO.arr ?_ | refine And.intro ?_ (And.intro (by first | exact fun h => h | exact fun _ => rfl | exact nofun) ?_) | exact trivial | (intro i j hi hj)))
        · ((try simp only [List.length_append, List.length_cons, List.length_nil, Nat.zero_add]); refine Wk.intro [0, 1, 4] (by decide) (by decide) (by intro o ho; simp at ho ⊢ <;> omega) ?_ ?_ <;> repeat' (first | exact WkVL.nil | refine WkVL.cons ?_ ?_ | exact WkV.top | exact WkV.imm rfl | exact WkV.imm (by simp) | exact WkV.optr rfl | exact WkV.own rfl (by simp) | exact WkV.nil_own (.inl rfl) | exact WkV.map rfl | (refine WkV.free ?_; simp [Free, FreeL] <;> assumption) | (refine WkV.free (fun _ _ => FreeL_nth ?_ _); simp [Free, FreeL]; done) | refine WkV.agg ?_ | refine WkV.tup ?_ | refine WkV.fn ?_ ?_ | exact WkO.dead | exact WkO.raw | refine WkO.ghost ?_ | exact WkO.mpE rfl trivial | refine WkO.box ?_ rfl | refine WkO.arr ?_ | refine And.intro ?_ (And.intro (by first | exact fun h => h | exact fun _ => rfl | exact nofun) ?_) | exact trivial | (intro i j hi hj)))
    · have hA : framesN (l.take (i + 1)) = framesN (l.take i) := by rw [List.take_of_length_le (by omega), List.take_of_length_le (by omega)]
      by_cases hc : c = i
      · rw [if_pos hc] at hss
        subst hc
        generalize framesN (l.take i) = B at *
        (have cm1 := hsync; have sx1 := @beq_self_eq_true Int _ _; repeat' (first | with_reducible refine T_seq_drawT (id := 11) Γ_ok drawsAny pl19_11 (by kernel_rfl) (fun K hK => ?_) | with_reducible refine T_last_drawT (id := 11) Γ_ok drawsAny pl19_11 (by kernel_rfl) (fun K hK => ?_) | ((refine goR1 _ _ _ _ _ _ _ _ ?_ ?_ ?_ ?_ ?_ ?_ ?_ ?_) <;> (repeat intro hb) <;> first | exact True.intro | refine Lf.mk ?_)))
        all_goals refine ⟨l.length + 1 - (i + 1), by omega, _, ?_, i + 1, by omega, by omega, rfl⟩
        all_goals rw [hA, hss]
        ((try simp only [List.length_append, List.length_cons, List.length_nil, Nat.zero_add]); refine Wk.intro [0, 1, 3] (by decide) (by decide) (by intro o ho; simp at ho ⊢ <;> omega) ?_ ?_ <;> repeat' (first | exact WkVL.nil | refine WkVL.cons ?_ ?_ | exact WkV.top | exact WkV.imm rfl | exact WkV.imm (by simp) | exact WkV.optr rfl | exact WkV.own rfl (by simp) | exact WkV.nil_own (.inl rfl) | exact WkV.map rfl | (refine WkV.free ?_; simp [Free, FreeL] <;> assumption) | (refine WkV.free (fun _ _ => FreeL_nth ?_ _); simp [Free, FreeL]; done) | refine WkV.agg ?_ | refine WkV.tup ?_ | refine WkV.fn ?_ ?_ | exact WkO.dead | exact WkO.raw | refine WkO.ghost ?_ | exact WkO.mpE rfl trivial | refine WkO.box ?_ rfl | refine WkO.arr ?_ | refine And.intro ?_ (And.intro (by first | exact fun h => h | exact fun _ => rfl | exact nofun) ?_) | exact trivial | (intro i j hi hj)))
      · rw [if_neg hc] at hss
        have hc' : (c == (i : Int)) = false := by simpa using hc
        generalize synN l c i = s at *
        (have sx1 := hc'; repeat' (first | with_reducible refine T_seq_drawT (id := 11) Γ_ok drawsAny pl19_11 (by kernel_rfl) (fun K hK => ?_) | with_reducible refine T_last_drawT (id := 11) Γ_ok drawsAny pl19_11 (by kernel_rfl) (fun K hK => ?_) | ((refine goR1 _ _ _ _ _ _ _ _ ?_ ?_ ?_ ?_ ?_ ?_ ?_ ?_) <;> (repeat intro hb) <;> first | exact True.intro | refine Lf.mk ?_)))
        all_goals refine ⟨l.length + 1 - (i + 1), by omega, _, ?_, i + 1, by omega, by omega, rfl⟩
        all_goals rw [hA, hss]
        ((try simp only [List.length_append, List.length_cons, List.length_nil, Nat.zero_add]); refine Wk.intro [0, 1, 2] (by decide) (by decide) (by intro o ho; simp at ho ⊢ <;> omega) ?_ ?_ <;> repeat' (first | exact WkVL.nil | refine WkVL.cons ?_ ?_ | exact WkV.top | exact WkV.imm rfl | exact WkV.imm (by simp) | exact WkV.optr rfl | exact WkV.own rfl (by simp) | exact WkV.nil_own (.inl rfl) | exact WkV.map rfl | (refine WkV.free ?_; simp [Free, FreeL] <;> assumption) | (refine WkV.free (fun _ _ => FreeL_nth ?_ _); simp [Free, FreeL]; done) | refine WkV.agg ?_ | refine WkV.tup ?_ | refine WkV.fn ?_ ?_ | exact WkO.dead | exact WkO.raw | refine WkO.ghost ?_ | exact WkO.mpE rfl trivial | refine WkO.box ?_ rfl | refine WkO.arr ?_ | refine And.intro ?_ (And.intro (by first | exact fun h => h | exact fun _ => rfl | exact nofun) ?_) | exact trivial | (intro i j hi hj)))
  · have hi : i = l.length + 1 := by omega
    have e1 : l.take i = l := List.take_of_length_le (by omega)
    rw [e1, hi]
    (repeat' (first | with_reducible refine T_seq_drawT (id := 11) Γ_ok drawsAny pl19_11 (by kernel_rfl) (fun K hK => ?_) | with_reducible refine T_last_drawT (id := 11) Γ_ok drawsAny pl19_11 (by kernel_rfl) (fun K hK => ?_) | ((refine goR0 _ _ _ _ _ _ _ _ ?_ ?_ ?_ ?_ ?_ ?_ ?_ ?_) <;> (repeat intro hb) <;> first | exact True.intro | refine Lf.mk ?_)))
    exact .inr ⟨2, rfl, rfl⟩
theorem written_tc (l : List Rcd) (c : Int) (ho : allOk l = true) (hl : l.length ≤ 40) :
    Makes Tryd.prog 19 [rcs l, .imm (.int .i64 c)] (.tup [.agg [ownB (framesN l), .imm (.int .i64 (synN l c (l.length + 1) : Nat))], .imm (.bool true)]) [byO (framesN l)] :=
  DQ.makes (mk := fun x => .tup [.agg [x, .imm (.int .i64 (synN l c (l.length + 1) : Nat))], .imm (.bool true)]) (by simp [VF, VFL]) (fun π σ x hx => WkV.tup (WkVL.cons (WkV.agg (WkVL.cons hx (WkVL.cons (WkV.imm rfl) WkVL.nil))) (WkVL.cons (WkV.imm rfl) WkVL.nil))) (written_raw l c ho hl)
end Go.Proofs.YtnomenmakhielaaDoor
