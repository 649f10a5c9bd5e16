/-
  The reference's Frames and Fewest.
-/
import Derived.Test.YtnomenmakhielaaDoorQGo
import Derived.Test.YtnomenmakhielaaDoorQS18
import Derived.Test.YtnomenmakhielaaDoorQS30
import Derived.Test.YtnomenmakhielaaDoorQL5
set_option linter.unusedSimpArgs false
set_option linter.unusedVariables false
namespace Go.Proofs.YtnomenmakhielaaDoor
open Go.Ab

theorem frames_step {l : List Rcd} {i : Nat} (h : i < l.length) : framesN (l.take (i + 1)) = framesN (l.take i) ++ frameN (gR l i) := by
  rw [gR_take h, framesN_app]; simp [framesN]

set_option maxRecDepth 100000 in
set_option maxHeartbeats 1000000 in
theorem rframes_raw (l : List Rcd) (ho : allOk l = true) (hl : l.length ≤ 1000) : TC Tryd.prog 47 [rcs l] [] (fun v σ' => (v = .imm (.slice none 0 0) ∧ (framesN l).length = 0) ∨ ∃ k E', v = .own k 0 (framesN l).length none ∧ nthO σ' k = .arr 5 1 (framesN l).length E' ∧ ∀ i j, i < (framesN l).length → j < 1 → E' i j = byE (framesN l) i j) := by
  (refine TC_of_T Γ_ok Tryd.func47 rfl (by kernel_rfl) ?_; simp only [Tryd.ntmps47, Tryd.results47, List.length_cons, List.length_nil, Nat.reduceSub, Nat.reduceAdd, List.replicate, List.cons_append, List.nil_append])
  (((refine goR0 _ _ _ _ _ _ _ _ ?_ ?_ ?_ ?_ ?_ ?_ ?_ ?_) <;> (repeat intro hb) <;> first | exact True.intro | refine Lf.mk ?_))
  refine T_loopW (fun m st => ∃ (i : Nat) (B : List Nat), i ≤ l.length ∧ m + i = l.length ∧ B = framesN (l.take i) ∧ B.length ≤ i * 13 ∧ st = ⟨[rcs l, .top, .imm (.slice none 0 0), .own 0 0 B.length none, .imm (.int .i64 i)] ++ List.replicate 14 .top, [byO B]⟩)
    l.length ⟨_, Wk.trans (Wk.push 5 1 (byE [])) ?_, 0, [], Nat.zero_le _, rfl, by simp [framesN], by simp, rfl⟩ ?_
  · ((try simp only [List.length_append, List.length_cons, List.length_nil, Nat.zero_add]); refine Wk.intro [0] (by decide) (by decide) (by intro o ho; simp at ho ⊢ <;> omega) ?_ ?_ <;> repeat' (first | exact WkVL.nil | refine WkVL.cons ?_ ?_ | exact WkV.top | exact WkV.imm rfl | exact WkV.imm (by simp) | exact WkV.optr rfl | exact WkV.own rfl (by simp) | exact WkV.nil_own (.inl rfl) | exact WkV.map rfl | (refine WkV.free ?_; simp [Free, FreeL] <;> assumption) | (refine WkV.free (fun _ _ => FreeL_nth ?_ _); simp [Free, FreeL]; done) | refine WkV.agg ?_ | refine WkV.tup ?_ | refine WkV.fn ?_ ?_ | exact WkO.dead | exact WkO.raw | refine WkO.ghost ?_ | exact WkO.mpE rfl trivial | refine WkO.box ?_ rfl | refine WkO.arr ?_ | refine And.intro ?_ (And.intro (by first | exact fun h => h | exact fun _ => rfl | exact nofun) ?_) | exact trivial | (intro i j hi hj)))
  rintro m st ⟨i, B, h1, h2, h3, h4, rfl⟩
  (simp only [go_sem, ↓reduceIte, Nat.reduceAdd, Nat.reduceSub, Nat.reduceMul, Nat.reduceLT, Nat.reduceLeDiff, Nat.reduceEqDiff, Nat.reduceGT, Int.reduceToNat, Int.reduceBEq, Int.reduceBNe]; try simp (disch := omega) only [wrapI, wrapU, half_sum, toNat_sub1, toNat_add1, Int.toNat_natCast])
  by_cases hlt : i < l.length
  · have hr := allOk_gR ho hlt
    have hf := rframe_tc (gR l i) hr
    have hfl := frameN_len hr
    have hst := frames_step hlt
    simp only [rcA, rcL] at hf
    generalize frameN (gR l i) = f at *
    (have cm1 := hf; ((refine goR0 _ _ _ _ _ _ _ _ ?_ ?_ ?_ ?_ ?_ ?_ ?_ ?_) <;> (repeat intro hb) <;> first | exact True.intro | refine Lf.mk ?_))
    refine ⟨l.length - (i + 1), by omega, _, ?_, i + 1, B ++ f, by omega, by omega, by rw [hst, h3], by simp; omega, rfl⟩
    ((try simp only [List.length_append, List.length_cons, List.length_nil, Nat.zero_add]); refine Wk.intro [2] (by decide) (by decide) (by intro o ho; simp at ho ⊢ <;> omega) ?_ ?_ <;> repeat' (first | (refine WkO.arr ?_; intro i j hi hj; exact WkV.eqF (byE_app (a := B) (b := f) (fun _ _ _ _ => rfl) (fun _ _ _ _ => rfl) rfl i j (by simpa using hi) hj) trivial) | exact WkVL.nil | refine WkVL.cons ?_ ?_ | exact WkV.top | exact WkV.imm rfl | exact WkV.imm (by simp) | exact WkV.optr rfl | exact WkV.own rfl (by simp) | exact WkV.nil_own (.inl rfl) | exact WkV.map rfl | (refine WkV.free ?_; simp [Free, FreeL] <;> assumption) | (refine WkV.free (fun _ _ => FreeL_nth ?_ _); simp [Free, FreeL]; done) | refine WkV.agg ?_ | refine WkV.tup ?_ | refine WkV.fn ?_ ?_ | exact WkO.dead | exact WkO.raw | refine WkO.ghost ?_ | exact WkO.mpE rfl trivial | refine WkO.box ?_ rfl | refine WkO.arr ?_ | refine And.intro ?_ (And.intro (by first | exact fun h => h | exact fun _ => rfl | exact nofun) ?_) | exact trivial | (intro i j hi hj)))
  · rw [List.take_of_length_le (by omega)] at h3
    subst h3
    (((refine goR0 _ _ _ _ _ _ _ _ ?_ ?_ ?_ ?_ ?_ ?_ ?_ ?_) <;> (repeat intro hb) <;> first | exact True.intro | refine Lf.mk ?_))
    exact .inr ⟨0, _, rfl, rfl, fun _ _ _ _ => rfl⟩
theorem rframes_tc (l : List Rcd) (ho : allOk l = true) (hl : l.length ≤ 1000) : Makes Tryd.prog 47 [rcs l] (ownB (framesN l)) [byO (framesN l)] := Makes.lst1J (byE_pl _) (rframes_raw l ho hl)

theorem rc_snoc2 (l : List Rcd) (x y : Rcd) {i j : Nat} (h : i < l.length + 1 + 1) (hj : j < 7) : catE (l.length + 1) (catE l.length (rcE l) (fun i j => nth (rcL x) (i * 7 + j))) (fun i j => nth (rcL y) (i * 7 + j)) i j = rcE (l ++ [x] ++ [y]) i j := by
  have h2 := rc_snoc (l ++ [x]) y (i := i) (j := j) (by simpa using h) hj
  rw [← h2]
  unfold catE
  simp only [List.length_append, List.length_cons, List.length_nil, Nat.zero_add]
  split
  · rename_i h3
    have h4 := rc_snoc l x (i := i) (j := j) h3 hj
    unfold catE at h4
    exact h4
  · rfl
theorem fewN_step {A : List Acc} {i : Nat} (h : i < A.length) : fewN 0 (A.take (i + 1)) = fewN 0 (A.take i) ++ fewA i (gA' A i) := by
  have e1 : A.take (i + 1) = A.take i ++ [gA' A i] := by
    rw [List.take_add_one, List.getElem?_eq_getElem h]; simp [gA', h]
  have e2 : (A.take i).length = i := by simp; omega
  rw [e1, fewN_app, e2]
  simp [fewN]
theorem fewT_step {L : List Tk} {i : Nat} (h : i < L.length) : fewT (L.take (i + 1)) = fewT (L.take i) ++ [⟨3, (gt L i).s, 0, gt L i⟩] := by
  have e1 : L.take (i + 1) = L.take i ++ [gt L i] := by
    rw [List.take_add_one, List.getElem?_eq_getElem h]; simp [gt, h]
  rw [e1, fewT, List.map_append]; rfl

set_option maxRecDepth 100000 in
set_option maxHeartbeats 2000000 in
theorem rfewest_raw (m : Mem) (hA : m.A.length ≤ 1000) (hL : m.L.length ≤ 1000) : TC Tryd.prog 48 [memV m] [] (fun v σ' => (v = .imm (.slice none 0 0) ∧ (fewest m).length = 0) ∨ ∃ k E', v = .own k 0 (fewest m).length none ∧ nthO σ' k = .arr 39 7 (fewest m).length E' ∧ ∀ i j, i < (fewest m).length → j < 7 → E' i j = rcE (fewest m) i j) := by
  (refine TC_of_T Γ_ok Tryd.func48 rfl (by kernel_rfl) ?_; simp only [Tryd.ntmps48, Tryd.results48, List.length_cons, List.length_nil, Nat.reduceSub, Nat.reduceAdd, List.replicate, List.cons_append, List.nil_append])
  (((refine goR0 _ _ _ _ _ _ _ _ ?_ ?_ ?_ ?_ ?_ ?_ ?_ ?_) <;> (repeat intro hb) <;> first | exact True.intro | refine Lf.mk ?_))
  refine T_loopW (fun k st => ∃ (i : Nat) (R : List Rcd), i ≤ m.A.length ∧ k + i = m.A.length ∧ R = fewN 0 (m.A.take i) ∧ R.length ≤ i * 2 ∧
      st = ⟨[.top, .optr 0 0 0, .imm (.slice none 0 0), .own 1 0 R.length none, .imm (.int .i64 i)] ++ List.replicate 63 .top, [.box 28 [acs m.A, tks m.L], rcO R]⟩)
    m.A.length ⟨_, Wk.trans (Wk.push 39 7 (rcE [])) ?_, 0, [], Nat.zero_le _, rfl, by simp [fewN], by simp, rfl⟩ ?_
  · ((try simp only [List.length_append, List.length_cons, List.length_nil, Nat.zero_add]); refine Wk.intro [0, 1] (by decide) (by decide) (by intro o ho; simp at ho ⊢ <;> omega) ?_ ?_ <;> repeat' (first | exact WkVL.nil | refine WkVL.cons ?_ ?_ | exact WkV.top | exact WkV.imm rfl | exact WkV.imm (by simp) | exact WkV.optr rfl | exact WkV.own rfl (by simp) | exact WkV.nil_own (.inl rfl) | exact WkV.map rfl | (refine WkV.free ?_; simp [Free, FreeL] <;> assumption) | (refine WkV.free (fun _ _ => FreeL_nth ?_ _); simp [Free, FreeL]; done) | refine WkV.agg ?_ | refine WkV.tup ?_ | refine WkV.fn ?_ ?_ | exact WkO.dead | exact WkO.raw | refine WkO.ghost ?_ | exact WkO.mpE rfl trivial | refine WkO.box ?_ rfl | refine WkO.arr ?_ | refine And.intro ?_ (And.intro (by first | exact fun h => h | exact fun _ => rfl | exact nofun) ?_) | exact trivial | (intro i j hi hj)))
  rintro k st ⟨p, R, h1, h2, h3, h4, rfl⟩
  (simp only [go_sem, ↓reduceIte, Nat.reduceAdd, Nat.reduceSub, Nat.reduceMul, Nat.reduceLT, Nat.reduceLeDiff, Nat.reduceEqDiff, Nat.reduceGT, Int.reduceToNat, Int.reduceBEq, Int.reduceBNe]; try simp (disch := omega) only [wrapI, wrapU, half_sum, toNat_sub1, toNat_add1, Int.toNat_natCast])
  by_cases hlt : p < m.A.length
  · have hst := fewN_step hlt
    by_cases c1 : 0 < (gA' m.A p).v
    · by_cases c2 : (gA' m.A p).v < (gA' m.A p).p
      · have e3 : fewA p (gA' m.A p) = [⟨2, p + 1, (gA' m.A p).v, (gA' m.A p).x⟩] ++ [⟨1, p + 1, (gA' m.A p).p, tk0⟩] := by simp [fewA, c1, c2]
        rw [e3, ← h3] at hst
        (repeat' (first | with_reducible refine T_seq_drawT (id := 13) Γ_ok drawsAny pl48_13 (by kernel_rfl) (fun K hK => ?_) | with_reducible refine T_last_drawT (id := 13) Γ_ok drawsAny pl48_13 (by kernel_rfl) (fun K hK => ?_) | ((refine goR0 _ _ _ _ _ _ _ _ ?_ ?_ ?_ ?_ ?_ ?_ ?_ ?_) <;> (repeat intro hb) <;> first | exact True.intro | refine Lf.mk ?_)))
        refine ⟨m.A.length - (p + 1), by omega, _, ?_, p + 1, R ++ [⟨2, p + 1, (gA' m.A p).v, (gA' m.A p).x⟩] ++ [⟨1, p + 1, (gA' m.A p).p, tk0⟩], by omega, by omega, by rw [hst, List.append_assoc], by simp; omega, rfl⟩
        ((try simp only [List.length_append, List.length_cons, List.length_nil, Nat.zero_add]); refine Wk.intro [0, 6] (by decide) (by decide) (by intro o ho; simp at ho ⊢ <;> omega) ?_ ?_ <;> repeat' (first | exact WkV.eqF (rc_snoc2 R ⟨2, p + 1, (gA' m.A p).v, (gA' m.A p).x⟩ ⟨1, p + 1, (gA' m.A p).p, tk0⟩ (by simpa using hi) hj) (rcE_free _ _ _) | exact WkVL.nil | refine WkVL.cons ?_ ?_ | exact WkV.top | exact WkV.imm rfl | exact WkV.imm (by simp) | exact WkV.optr rfl | exact WkV.own rfl (by simp) | exact WkV.nil_own (.inl rfl) | exact WkV.map rfl | (refine WkV.free ?_; simp [Free, FreeL] <;> assumption) | (refine WkV.free (fun _ _ => FreeL_nth ?_ _); simp [Free, FreeL]; done) | refine WkV.agg ?_ | refine WkV.tup ?_ | refine WkV.fn ?_ ?_ | exact WkO.dead | exact WkO.raw | refine WkO.ghost ?_ | exact WkO.mpE rfl trivial | refine WkO.box ?_ rfl | refine WkO.arr ?_ | refine And.intro ?_ (And.intro (by first | exact fun h => h | exact fun _ => rfl | exact nofun) ?_) | exact trivial | (intro i j hi hj)))
      · have e3 : fewA p (gA' m.A p) = [⟨2, p + 1, (gA' m.A p).v, (gA' m.A p).x⟩] := by simp [fewA, c1, c2]
        rw [e3, ← h3] at hst
        (repeat' (first | with_reducible refine T_seq_drawT (id := 13) Γ_ok drawsAny pl48_13 (by kernel_rfl) (fun K hK => ?_) | with_reducible refine T_last_drawT (id := 13) Γ_ok drawsAny pl48_13 (by kernel_rfl) (fun K hK => ?_) | ((refine goR0 _ _ _ _ _ _ _ _ ?_ ?_ ?_ ?_ ?_ ?_ ?_ ?_) <;> (repeat intro hb) <;> first | exact True.intro | refine Lf.mk ?_)))
        refine ⟨m.A.length - (p + 1), by omega, _, ?_, p + 1, R ++ [⟨2, p + 1, (gA' m.A p).v, (gA' m.A p).x⟩], by omega, by omega, hst.symm, by simp; omega, rfl⟩
        ((try simp only [List.length_append, List.length_cons, List.length_nil, Nat.zero_add]); refine Wk.intro [0, 4] (by decide) (by decide) (by intro o ho; simp at ho ⊢ <;> omega) ?_ ?_ <;> repeat' (first | exact WkV.eqF (rc_snoc R ⟨2, p + 1, (gA' m.A p).v, (gA' m.A p).x⟩ (by simpa using hi) hj) (rcE_free _ _ _) | exact WkVL.nil | refine WkVL.cons ?_ ?_ | exact WkV.top | exact WkV.imm rfl | exact WkV.imm (by simp) | exact WkV.optr rfl | exact WkV.own rfl (by simp) | exact WkV.nil_own (.inl rfl) | exact WkV.map rfl | (refine WkV.free ?_; simp [Free, FreeL] <;> assumption) | (refine WkV.free (fun _ _ => FreeL_nth ?_ _); simp [Free, FreeL]; done) | refine WkV.agg ?_ | refine WkV.tup ?_ | refine WkV.fn ?_ ?_ | exact WkO.dead | exact WkO.raw | refine WkO.ghost ?_ | exact WkO.mpE rfl trivial | refine WkO.box ?_ rfl | refine WkO.arr ?_ | refine And.intro ?_ (And.intro (by first | exact fun h => h | exact fun _ => rfl | exact nofun) ?_) | exact trivial | (intro i j hi hj)))
    · by_cases c2 : (gA' m.A p).v < (gA' m.A p).p
      · have e3 : fewA p (gA' m.A p) = [⟨1, p + 1, (gA' m.A p).p, tk0⟩] := by simp [fewA, c1, c2]
        rw [e3, ← h3] at hst
        (repeat' (first | with_reducible refine T_seq_drawT (id := 13) Γ_ok drawsAny pl48_13 (by kernel_rfl) (fun K hK => ?_) | with_reducible refine T_last_drawT (id := 13) Γ_ok drawsAny pl48_13 (by kernel_rfl) (fun K hK => ?_) | ((refine goR0 _ _ _ _ _ _ _ _ ?_ ?_ ?_ ?_ ?_ ?_ ?_ ?_) <;> (repeat intro hb) <;> first | exact True.intro | refine Lf.mk ?_)))
        refine ⟨m.A.length - (p + 1), by omega, _, ?_, p + 1, R ++ [⟨1, p + 1, (gA' m.A p).p, tk0⟩], by omega, by omega, hst.symm, by simp; omega, rfl⟩
        ((try simp only [List.length_append, List.length_cons, List.length_nil, Nat.zero_add]); refine Wk.intro [0, 4] (by decide) (by decide) (by intro o ho; simp at ho ⊢ <;> omega) ?_ ?_ <;> repeat' (first | exact WkV.eqF (rc_snoc R ⟨1, p + 1, (gA' m.A p).p, tk0⟩ (by simpa using hi) hj) (rcE_free _ _ _) | exact WkVL.nil | refine WkVL.cons ?_ ?_ | exact WkV.top | exact WkV.imm rfl | exact WkV.imm (by simp) | exact WkV.optr rfl | exact WkV.own rfl (by simp) | exact WkV.nil_own (.inl rfl) | exact WkV.map rfl | (refine WkV.free ?_; simp [Free, FreeL] <;> assumption) | (refine WkV.free (fun _ _ => FreeL_nth ?_ _); simp [Free, FreeL]; done) | refine WkV.agg ?_ | refine WkV.tup ?_ | refine WkV.fn ?_ ?_ | exact WkO.dead | exact WkO.raw | refine WkO.ghost ?_ | exact WkO.mpE rfl trivial | refine WkO.box ?_ rfl | refine WkO.arr ?_ | refine And.intro ?_ (And.intro (by first | exact fun h => h | exact fun _ => rfl | exact nofun) ?_) | exact trivial | (intro i j hi hj)))
      · have e3 : fewA p (gA' m.A p) = [] := by simp [fewA, c1, c2]
        rw [e3, ← h3, List.append_nil] at hst
        (repeat' (first | with_reducible refine T_seq_drawT (id := 13) Γ_ok drawsAny pl48_13 (by kernel_rfl) (fun K hK => ?_) | with_reducible refine T_last_drawT (id := 13) Γ_ok drawsAny pl48_13 (by kernel_rfl) (fun K hK => ?_) | ((refine goR0 _ _ _ _ _ _ _ _ ?_ ?_ ?_ ?_ ?_ ?_ ?_ ?_) <;> (repeat intro hb) <;> first | exact True.intro | refine Lf.mk ?_)))
        refine ⟨m.A.length - (p + 1), by omega, _, ?_, p + 1, R, by omega, by omega, hst.symm, by omega, rfl⟩
        ((try simp only [List.length_append, List.length_cons, List.length_nil, Nat.zero_add]); refine Wk.intro [0, 1] (by decide) (by decide) (by intro o ho; simp at ho ⊢ <;> omega) ?_ ?_ <;> repeat' (first | exact WkVL.nil | refine WkVL.cons ?_ ?_ | exact WkV.top | exact WkV.imm rfl | exact WkV.imm (by simp) | exact WkV.optr rfl | exact WkV.own rfl (by simp) | exact WkV.nil_own (.inl rfl) | exact WkV.map rfl | (refine WkV.free ?_; simp [Free, FreeL] <;> assumption) | (refine WkV.free (fun _ _ => FreeL_nth ?_ _); simp [Free, FreeL]; done) | refine WkV.agg ?_ | refine WkV.tup ?_ | refine WkV.fn ?_ ?_ | exact WkO.dead | exact WkO.raw | refine WkO.ghost ?_ | exact WkO.mpE rfl trivial | refine WkO.box ?_ rfl | refine WkO.arr ?_ | refine And.intro ?_ (And.intro (by first | exact fun h => h | exact fun _ => rfl | exact nofun) ?_) | exact trivial | (intro i j hi hj)))
  · rw [List.take_of_length_le (by omega)] at h3
    (repeat' (first | with_reducible refine T_seq_drawT (id := 13) Γ_ok drawsAny pl48_13 (by kernel_rfl) (fun K hK => ?_) | with_reducible refine T_last_drawT (id := 13) Γ_ok drawsAny pl48_13 (by kernel_rfl) (fun K hK => ?_) | ((refine goR0 _ _ _ _ _ _ _ _ ?_ ?_ ?_ ?_ ?_ ?_ ?_ ?_) <;> (repeat intro hb) <;> first | exact True.intro | refine Lf.mk ?_)))
    refine T_loopW (fun k st => ∃ (i : Nat) (D : List Rcd), i ≤ m.L.length ∧ k + i = m.L.length ∧ D = fewN 0 m.A ++ fewT (m.L.take i) ∧ D.length ≤ 2000 + i ∧
        st = ⟨[.top, .optr 0 0 0, .imm (.slice none 0 0), .own 1 0 D.length none, .top, .top, .imm (.int .i64 i)] ++ List.replicate 61 .top, [.box 28 [acs m.A, tks m.L], rcO D]⟩)
      m.L.length ⟨_, ?_, 0, R, Nat.zero_le _, rfl, by rw [h3]; simp [fewT], by omega, rfl⟩ ?_
    · ((try simp only [List.length_append, List.length_cons, List.length_nil, Nat.zero_add]); refine Wk.intro [0, 1] (by decide) (by decide) (by intro o ho; simp at ho ⊢ <;> omega) ?_ ?_ <;> repeat' (first | exact WkVL.nil | refine WkVL.cons ?_ ?_ | exact WkV.top | exact WkV.imm rfl | exact WkV.imm (by simp) | exact WkV.optr rfl | exact WkV.own rfl (by simp) | exact WkV.nil_own (.inl rfl) | exact WkV.map rfl | (refine WkV.free ?_; simp [Free, FreeL] <;> assumption) | (refine WkV.free (fun _ _ => FreeL_nth ?_ _); simp [Free, FreeL]; done) | refine WkV.agg ?_ | refine WkV.tup ?_ | refine WkV.fn ?_ ?_ | exact WkO.dead | exact WkO.raw | refine WkO.ghost ?_ | exact WkO.mpE rfl trivial | refine WkO.box ?_ rfl | refine WkO.arr ?_ | refine And.intro ?_ (And.intro (by first | exact fun h => h | exact fun _ => rfl | exact nofun) ?_) | exact trivial | (intro i j hi hj)))
    rintro k st ⟨i', D, h5, h6, h7, h8, rfl⟩
    (simp only [go_sem, ↓reduceIte, Nat.reduceAdd, Nat.reduceSub, Nat.reduceMul, Nat.reduceLT, Nat.reduceLeDiff, Nat.reduceEqDiff, Nat.reduceGT, Int.reduceToNat, Int.reduceBEq, Int.reduceBNe]; try simp (disch := omega) only [wrapI, wrapU, half_sum, toNat_sub1, toNat_add1, Int.toNat_natCast])
    by_cases hlt2 : i' < m.L.length
    · have hst := fewT_step hlt2
      (repeat' (first | with_reducible refine T_seq_drawT (id := 13) Γ_ok drawsAny pl48_13 (by kernel_rfl) (fun K hK => ?_) | with_reducible refine T_last_drawT (id := 13) Γ_ok drawsAny pl48_13 (by kernel_rfl) (fun K hK => ?_) | ((refine goR0 _ _ _ _ _ _ _ _ ?_ ?_ ?_ ?_ ?_ ?_ ?_ ?_) <;> (repeat intro hb) <;> first | exact True.intro | refine Lf.mk ?_)))
      refine ⟨m.L.length - (i' + 1), by omega, _, ?_, i' + 1, D ++ [⟨3, (gt m.L i').s, 0, gt m.L i'⟩], by omega, by omega, by rw [hst, h7]; simp, by simp; omega, rfl⟩
      ((try simp only [List.length_append, List.length_cons, List.length_nil, Nat.zero_add]); refine Wk.intro [0, 2] (by decide) (by decide) (by intro o ho; simp at ho ⊢ <;> omega) ?_ ?_ <;> repeat' (first | exact WkV.eqF (rc_snoc D ⟨3, (gt m.L i').s, 0, gt m.L i'⟩ (by simpa using hi) hj) (rcE_free _ _ _) | exact WkVL.nil | refine WkVL.cons ?_ ?_ | exact WkV.top | exact WkV.imm rfl | exact WkV.imm (by simp) | exact WkV.optr rfl | exact WkV.own rfl (by simp) | exact WkV.nil_own (.inl rfl) | exact WkV.map rfl | (refine WkV.free ?_; simp [Free, FreeL] <;> assumption) | (refine WkV.free (fun _ _ => FreeL_nth ?_ _); simp [Free, FreeL]; done) | refine WkV.agg ?_ | refine WkV.tup ?_ | refine WkV.fn ?_ ?_ | exact WkO.dead | exact WkO.raw | refine WkO.ghost ?_ | exact WkO.mpE rfl trivial | refine WkO.box ?_ rfl | refine WkO.arr ?_ | refine And.intro ?_ (And.intro (by first | exact fun h => h | exact fun _ => rfl | exact nofun) ?_) | exact trivial | (intro i j hi hj)))
    · rw [List.take_of_length_le (by omega)] at h7
      rw [show fewest m = D from h7.symm]
      (repeat' (first | with_reducible refine T_seq_drawT (id := 13) Γ_ok drawsAny pl48_13 (by kernel_rfl) (fun K hK => ?_) | with_reducible refine T_last_drawT (id := 13) Γ_ok drawsAny pl48_13 (by kernel_rfl) (fun K hK => ?_) | ((refine goR0 _ _ _ _ _ _ _ _ ?_ ?_ ?_ ?_ ?_ ?_ ?_ ?_) <;> (repeat intro hb) <;> first | exact True.intro | refine Lf.mk ?_)))
      exact .inr ⟨1, _, rfl, rfl, fun _ _ _ _ => rfl⟩
theorem rfewest_tc (m : Mem) (hA : m.A.length ≤ 1000) (hL : m.L.length ≤ 1000) : Makes Tryd.prog 48 [memV m] (ownR (fewest m)) [rcO (fewest m)] := Makes.lst1J (rcE_pl _) (rfewest_raw m hA hL)
end Go.Proofs.YtnomenmakhielaaDoor
