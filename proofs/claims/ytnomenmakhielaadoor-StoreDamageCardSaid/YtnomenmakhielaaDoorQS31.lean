/-
  The reference's way to learn a record.
-/
import Derived.Test.YtnomenmakhielaaDoorQGo
import Derived.Test.YtnomenmakhielaaDoorQS16
import Derived.Test.YtnomenmakhielaaDoorQW16
set_option linter.unusedSimpArgs false
set_option linter.unusedVariables false
namespace Go.Proofs.YtnomenmakhielaaDoor
open Go.Ab

theorem rprepare_e (p v s c n e d b : Int) : Look Tryd.prog 67 [.agg [.imm (.int .i64 p), .imm (.int .i64 v), .imm (.int .i64 s), .imm (.int .i64 c), .imm (.int .i64 n), .imm (.int .i64 e)], .imm (.int .i64 d), .imm (.int .i64 b)]
    (.tup [accA (prepR ⟨p, v, ⟨s, c, n, e⟩⟩ d b).1, proA (prepR ⟨p, v, ⟨s, c, n, e⟩⟩ d b).2.1, .imm (.int .i64 (prepR ⟨p, v, ⟨s, c, n, e⟩⟩ d b).2.2)]) := rprepare_tc ⟨p, v, ⟨s, c, n, e⟩⟩ d b
theorem raccept_e (p v s c n e d b s' c' n' e' : Int) : Look Tryd.prog 68 [.agg [.imm (.int .i64 p), .imm (.int .i64 v), .imm (.int .i64 s), .imm (.int .i64 c), .imm (.int .i64 n), .imm (.int .i64 e)], .imm (.int .i64 d), .imm (.int .i64 b), .agg [.imm (.int .i64 s'), .imm (.int .i64 c'), .imm (.int .i64 n'), .imm (.int .i64 e')]]
    (.tup [accA (accR ⟨p, v, ⟨s, c, n, e⟩⟩ d b ⟨s', c', n', e'⟩).1, votA (accR ⟨p, v, ⟨s, c, n, e⟩⟩ d b ⟨s', c', n', e'⟩).2.1, .imm (.int .i64 (accR ⟨p, v, ⟨s, c, n, e⟩⟩ d b ⟨s', c', n', e'⟩).2.2)]) := raccept_tc ⟨p, v, ⟨s, c, n, e⟩⟩ d b ⟨s', c', n', e'⟩

theorem rlearn_tc' (l : List Tk) (t : Tk) (hl : l.length ≤ 9223372036854775807) : Makes Tryd.prog 66 [tks l, tkA t] (.tup [ownT (learnR l t).1, .imm (.int .i64 (learnR l t).2)]) [tkO (learnR l t).1] := by have := rlearn_tc l t hl; rwa [rlearnR_eq] at this
/-- What the reference makes of a memory and a record: where there is an error, the memory is as it was. -/
noncomputable def rdoR (m : Mem) (r : Rcd) : Mem × Int :=
  if r.k = 3 then (if (learnR m.L r.x).2 = 23 then (m, 23) else if (learnR m.L r.x).2 = 0 then (⟨m.A, (learnR m.L r.x).1⟩, 0) else (m, 0))
  else if (doR m r).2 = 0 then ((doR m r).1, 0) else (m, (doR m r).2)
def LearnQ (q : Mem × Int) (v : AV) (σ' : List AObj) : Prop :=
  ∃ a b E, a ≠ b ∧ v = .tup [.agg [.own a 0 q.1.A.length none, .own b 0 q.1.L.length none], .imm (.int .i64 q.2)] ∧ nthO σ' a = .arr 35 6 q.1.A.length E ∧ nthO σ' b = tkO q.1.L ∧ ∀ i j, i < q.1.A.length → j < 6 → E i j = acE q.1.A i j
theorem LearnQ.fin {q : Mem × Int} {f : FuncId} {args : List AV} {σ : List AObj} (hσ : σ.length = 2) (h : TC Tryd.prog f args σ (LearnQ q)) :
    Turns Tryd.prog f args σ (.tup [.agg [.own 2 0 q.1.A.length none, .own 3 0 q.1.L.length none], .imm (.int .i64 q.2)]) [.dead, .dead, acO q.1.A, tkO q.1.L] := by
  refine ⟨h.weakM fun v σ' ⟨a, b, E, hab, hv, ha, hb, hE⟩ => ?_, by simp [VF, VFL], fun x hx => by simp at hx; rcases hx with rfl | rfl | rfl <;> simp [VFO]⟩
  have la := nthO_lt ha (by simp)
  have lb := nthO_lt hb (by simp)
  subst hv
  refine ⟨[0, 1, a, b], _, _, by rw [hσ]; rfl, ?_, by simp; omega, WkV.tup (WkVL.cons (WkV.agg (WkVL.cons (WkV.own rfl (by simp)) (WkVL.cons (WkV.own rfl (by simp)) WkVL.nil))) (WkVL.cons (WkV.imm rfl) WkVL.nil)), ?_, rfl, rfl⟩
  · have : Nat.beq b a = false := by
      cases h : Nat.beq b a with
      | false => rfl
      | true => exact absurd (Nat.eq_of_beq_eq_true h).symm hab
    simp [dupB, liveAt, AObj.alive, this]
  · simp only [WkOL, ha, hb]
    exact ⟨WkO.dead, nofun, WkO.dead, nofun, WkO.arr fun i j hi hj => WkV.eqF (hE i j hi hj) (acE_free _ _ _), fun _ => rfl, WkO.arr fun i j _ _ => WkV.free (tkE_free _ _ _), fun _ => rfl, trivial⟩

set_option maxRecDepth 100000 in
set_option maxHeartbeats 1000000 in
theorem rlearn3_tc (A : List Acc) (L : List Tk) (r : Rcd) (hk : r.k = 3) (hL : L.length ≤ 9223372036854775807) :
    TC Tryd.prog 46 [.agg [.own 0 0 A.length none, .own 1 0 L.length none], rcA r] [acO A, tkO L] (LearnQ (rdoR ⟨A, L⟩ r)) := by
  obtain ⟨k, s, b, ⟨s', c, n, d⟩⟩ := r
  simp only [] at hk
  subst hk
  have hle := rlearn_tc' L ⟨s', c, n, d⟩ hL
  have e3 : rdoR ⟨A, L⟩ ⟨3, s, b, ⟨s', c, n, d⟩⟩ = if (learnR L ⟨s', c, n, d⟩).2 = 23 then (⟨A, L⟩, 23) else if (learnR L ⟨s', c, n, d⟩).2 = 0 then (⟨A, (learnR L ⟨s', c, n, d⟩).1⟩, 0) else (⟨A, L⟩, 0) := by unfold rdoR; rw [if_pos rfl]
  rw [e3]
  generalize learnR L ⟨s', c, n, d⟩ = q at hle
  obtain ⟨L', e⟩ := q
  simp only []
  by_cases h1 : e = 23
  · subst h1
    rw [if_pos rfl]
    (refine TC_of_T Γ_ok Tryd.func46 rfl (by kernel_rfl) ?_; simp only [Tryd.ntmps46, Tryd.results46, List.length_cons, List.length_nil, Nat.reduceSub, Nat.reduceAdd, List.replicate, List.cons_append, List.nil_append])
    (have cm1 := hle; repeat' (first | with_reducible refine T_seq_drawT (id := 14) Γ_ok drawsAny pl46_14 (by kernel_rfl) (fun K hK => ?_) | with_reducible refine T_last_drawT (id := 14) Γ_ok drawsAny pl46_14 (by kernel_rfl) (fun K hK => ?_) | with_reducible refine T_seq_drawT (id := 15) Γ_ok drawsAny pl46_15 (by kernel_rfl) (fun K hK => ?_) | with_reducible refine T_last_drawT (id := 15) Γ_ok drawsAny pl46_15 (by kernel_rfl) (fun K hK => ?_) | ((refine goR0 _ _ _ _ _ _ _ _ ?_ ?_ ?_ ?_ ?_ ?_ ?_ ?_) <;> (repeat intro hb) <;> first | exact True.intro | refine Lf.mk ?_)))
    all_goals exact ⟨0, 1, _, by decide, rfl, rfl, rfl, fun _ _ _ _ => rfl⟩
  · rw [if_neg h1]
    by_cases h2 : e = 0
    · subst h2
      rw [if_pos rfl]
      (refine TC_of_T Γ_ok Tryd.func46 rfl (by kernel_rfl) ?_; simp only [Tryd.ntmps46, Tryd.results46, List.length_cons, List.length_nil, Nat.reduceSub, Nat.reduceAdd, List.replicate, List.cons_append, List.nil_append])
      (have cm1 := hle; repeat' (first | with_reducible refine T_seq_drawT (id := 14) Γ_ok drawsAny pl46_14 (by kernel_rfl) (fun K hK => ?_) | with_reducible refine T_last_drawT (id := 14) Γ_ok drawsAny pl46_14 (by kernel_rfl) (fun K hK => ?_) | with_reducible refine T_seq_drawT (id := 15) Γ_ok drawsAny pl46_15 (by kernel_rfl) (fun K hK => ?_) | with_reducible refine T_last_drawT (id := 15) Γ_ok drawsAny pl46_15 (by kernel_rfl) (fun K hK => ?_) | ((refine goR0 _ _ _ _ _ _ _ _ ?_ ?_ ?_ ?_ ?_ ?_ ?_ ?_) <;> (repeat intro hb) <;> first | exact True.intro | refine Lf.mk ?_)))
      all_goals exact ⟨0, 5, _, by decide, rfl, rfl, rfl, fun _ _ _ _ => rfl⟩
    · rw [if_neg h2]
      (refine TC_of_T Γ_ok Tryd.func46 rfl (by kernel_rfl) ?_; simp only [Tryd.ntmps46, Tryd.results46, List.length_cons, List.length_nil, Nat.reduceSub, Nat.reduceAdd, List.replicate, List.cons_append, List.nil_append])
      (have cm1 := hle; repeat' (first | with_reducible refine T_seq_drawT (id := 14) Γ_ok drawsAny pl46_14 (by kernel_rfl) (fun K hK => ?_) | with_reducible refine T_last_drawT (id := 14) Γ_ok drawsAny pl46_14 (by kernel_rfl) (fun K hK => ?_) | with_reducible refine T_seq_drawT (id := 15) Γ_ok drawsAny pl46_15 (by kernel_rfl) (fun K hK => ?_) | with_reducible refine T_last_drawT (id := 15) Γ_ok drawsAny pl46_15 (by kernel_rfl) (fun K hK => ?_) | ((refine goR0 _ _ _ _ _ _ _ _ ?_ ?_ ?_ ?_ ?_ ?_ ?_ ?_) <;> (repeat intro hb) <;> first | exact True.intro | refine Lf.mk ?_)))
      all_goals exact ⟨0, 1, _, by decide, rfl, rfl, rfl, fun _ _ _ _ => rfl⟩

set_option maxRecDepth 100000 in
set_option maxHeartbeats 1000000 in
theorem rlearn1_tc (A : List Acc) (L : List Tk) (r : Rcd) (hk : r.k = 1) (hs : 1 ≤ r.s ∧ r.s < 16) (hA : A.length ≤ 1000) :
    TC Tryd.prog 46 [.agg [.own 0 0 A.length none, .own 1 0 L.length none], rcA r] [acO A, tkO L] (LearnQ (rdoR ⟨A, L⟩ r)) := by
  obtain ⟨k, s, b, ⟨s', c, n, d⟩⟩ := r
  simp only [] at hk hs
  subst hk
  obtain ⟨s, rfl⟩ : ∃ q : Nat, s = q := ⟨s.toNat, by omega⟩
  have e3 : rdoR ⟨A, L⟩ ⟨1, s, b, ⟨s', c, n, d⟩⟩ = if (prepR (gA' (grow A s) (s - 1)) 0 b).2.2 = 0 then (⟨(grow A s).set (s - 1) (prepR (gA' (grow A s) (s - 1)) 0 b).1, L⟩, 0) else (⟨A, L⟩, (prepR (gA' (grow A s) (s - 1)) 0 b).2.2) := by
    have ed : doR ⟨A, L⟩ ⟨1, s, b, ⟨s', c, n, d⟩⟩ = (⟨(grow A s).set (s - 1) (prepR (gA' (grow A s) (s - 1)) 0 b).1, L⟩, (prepR (gA' (grow A s) (s - 1)) 0 b).2.2) := by unfold doR; exact if_pos rfl
    unfold rdoR; rw [if_neg (by simp), ed]
  rw [e3]
  clear e3
  (refine TC_of_T Γ_ok Tryd.func46 rfl (by kernel_rfl) ?_; simp only [Tryd.ntmps46, Tryd.results46, List.length_cons, List.length_nil, Nat.reduceSub, Nat.reduceAdd, List.replicate, List.cons_append, List.nil_append])
  (repeat' (first | with_reducible refine T_seq_drawT (id := 14) Γ_ok drawsAny pl46_14 (by kernel_rfl) (fun K hK => ?_) | with_reducible refine T_last_drawT (id := 14) Γ_ok drawsAny pl46_14 (by kernel_rfl) (fun K hK => ?_) | with_reducible refine T_seq_drawT (id := 15) Γ_ok drawsAny pl46_15 (by kernel_rfl) (fun K hK => ?_) | with_reducible refine T_last_drawT (id := 15) Γ_ok drawsAny pl46_15 (by kernel_rfl) (fun K hK => ?_) | ((refine goR0 _ _ _ _ _ _ _ _ ?_ ?_ ?_ ?_ ?_ ?_ ?_ ?_) <;> (repeat intro hb) <;> first | exact True.intro | refine Lf.mk ?_)))
  refine T_loopW (fun m st => ∃ k : Nat, k ≤ s - A.length ∧ m + k = s - A.length ∧ st = ⟨[.top, .top, .optr 2 0 0, .optr 3 0 0, .optr 4 0 0, .imm (.int .i64 0), .top, .top, .own 5 0 (grow A (A.length + k)).length none] ++ List.replicate 79 .top,
      [acO A, tkO L, .box 28 [.own 0 0 A.length none, .own 1 0 L.length none], .box 39 (rcL ⟨1, s, b, ⟨s', c, n, d⟩⟩), .box 28 [.imm (.slice none 0 0), .imm (.slice none 0 0)], acO (grow A (A.length + k))]⟩)
    (s - A.length) ⟨_, ?_, 0, by omega, by omega, rfl⟩ ?_
  · rw [Nat.add_zero, show grow A A.length = A by simp [grow]]
    ((try simp only [List.length_append, List.length_cons, List.length_nil, Nat.zero_add]); refine Wk.intro [0, 1, 2, 3, 4, 6] (by decide) (by decide) (by intro o ho; simp at ho ⊢ <;> omega) ?_ ?_ <;> repeat' (first | exact WkV.eqF (by simp [catE]) (acE_free _ _ _) | exact WkVL.nil | refine WkVL.cons ?_ ?_ | exact WkV.top | exact WkV.imm rfl | exact WkV.imm (by simp) | exact WkV.optr rfl | exact WkV.own rfl (by simp) | exact WkV.nil_own (.inl rfl) | exact WkV.map rfl | (refine WkV.free ?_; simp [Free, FreeL] <;> assumption) | (refine WkV.free (fun _ _ => FreeL_nth ?_ _); simp [Free, FreeL]; done) | refine WkV.agg ?_ | refine WkV.tup ?_ | refine WkV.fn ?_ ?_ | exact WkO.dead | exact WkO.raw | refine WkO.ghost ?_ | exact WkO.mpE rfl trivial | refine WkO.box ?_ rfl | refine WkO.arr ?_ | refine And.intro ?_ (And.intro (by first | exact fun h => h | exact fun _ => rfl | exact nofun) ?_) | exact trivial | (intro i j hi hj)))
  rintro m st ⟨k, g1, g2, rfl⟩
  have hlen : (grow A (A.length + k)).length = A.length + k := by rw [grow_len]; omega
  (simp only [go_sem, ↓reduceIte, Nat.reduceAdd, Nat.reduceSub, Nat.reduceMul, Nat.reduceLT, Nat.reduceLeDiff, Nat.reduceEqDiff, Nat.reduceGT, Int.reduceToNat, Int.reduceBEq, Int.reduceBNe]; try simp (disch := omega) only [wrapI, wrapU, half_sum, toNat_sub1, toNat_add1, Int.toNat_natCast])
  by_cases hk : k < s - A.length
  · (((refine goR0 _ _ _ _ _ _ _ _ ?_ ?_ ?_ ?_ ?_ ?_ ?_ ?_) <;> (repeat intro hb) <;> first | exact True.intro | refine Lf.mk ?_))
    · refine ⟨s - A.length - (k + 1), by omega, _, ?_, k + 1, by omega, by omega, rfl⟩
      have e : grow A (A.length + (k + 1)) = grow A (A.length + k) ++ [ac0] := by
        unfold grow
        rw [show A.length + (k + 1) - A.length = k + 1 by omega, show A.length + k - A.length = k by omega, List.replicate_succ', List.append_assoc]
      rw [e]
      generalize grow A (A.length + k) = B
      ((try simp only [List.length_append, List.length_cons, List.length_nil, Nat.zero_add]); refine Wk.intro [0, 1, 2, 3, 4, 7] (by decide) (by decide) (by intro o ho; simp at ho ⊢ <;> omega) ?_ ?_ <;> repeat' (first | exact WkV.eqF (ac_snoc B ac0 (by simpa using hi) hj) (acE_free _ _ _) | exact WkVL.nil | refine WkVL.cons ?_ ?_ | exact WkV.top | exact WkV.imm rfl | exact WkV.imm (by simp) | exact WkV.optr rfl | exact WkV.own rfl (by simp) | exact WkV.nil_own (.inl rfl) | exact WkV.map rfl | (refine WkV.free ?_; simp [Free, FreeL] <;> assumption) | (refine WkV.free (fun _ _ => FreeL_nth ?_ _); simp [Free, FreeL]; done) | refine WkV.agg ?_ | refine WkV.tup ?_ | refine WkV.fn ?_ ?_ | exact WkO.dead | exact WkO.raw | refine WkO.ghost ?_ | exact WkO.mpE rfl trivial | refine WkO.box ?_ rfl | refine WkO.arr ?_ | refine And.intro ?_ (And.intro (by first | exact fun h => h | exact fun _ => rfl | exact nofun) ?_) | exact trivial | (intro i j hi hj)))
  · have e : grow A (A.length + k) = grow A s := by unfold grow; rw [show A.length + k - A.length = s - A.length by omega]
    rw [e] at hlen ⊢
    have hge : s ≤ (grow A s).length := by rw [grow_len]; omega
    have hlt : s - 1 < (grow A s).length := by omega
    clear hlen e
    generalize grow A s = B at *
    have hp := rprepare_e (gA' B (s - 1)).p (gA' B (s - 1)).v (gA' B (s - 1)).x.s (gA' B (s - 1)).x.c (gA' B (s - 1)).x.n (gA' B (s - 1)).x.d 0 b
    rw [show (⟨(gA' B (s - 1)).p, (gA' B (s - 1)).v, ⟨(gA' B (s - 1)).x.s, (gA' B (s - 1)).x.c, (gA' B (s - 1)).x.n, (gA' B (s - 1)).x.d⟩⟩ : Acc) = gA' B (s - 1) from rfl] at hp
    generalize prepR (gA' B (s - 1)) 0 b = q at *
    by_cases hz : q.2.2 = 0
    · rw [if_pos hz]
      (have cl1 := hp; repeat' (first | with_reducible refine T_seq_drawT (id := 14) Γ_ok drawsAny pl46_14 (by kernel_rfl) (fun K hK => ?_) | with_reducible refine T_last_drawT (id := 14) Γ_ok drawsAny pl46_14 (by kernel_rfl) (fun K hK => ?_) | with_reducible refine T_seq_drawT (id := 15) Γ_ok drawsAny pl46_15 (by kernel_rfl) (fun K hK => ?_) | with_reducible refine T_last_drawT (id := 15) Γ_ok drawsAny pl46_15 (by kernel_rfl) (fun K hK => ?_) | ((refine goR0 _ _ _ _ _ _ _ _ ?_ ?_ ?_ ?_ ?_ ?_ ?_ ?_) <;> (repeat intro hb) <;> first | exact True.intro | refine Lf.mk ?_)))
      all_goals exact ⟨5, 1, _, by decide, by (try simp only [List.length_set]) <;> rfl, by (try simp only [List.length_set]) <;> rfl, rfl, fun i j hi hj => ac_set B (s - 1) q.1 hlt (by simpa using hi) hj⟩
    · rw [if_neg hz]
      (have cl1 := hp; repeat' (first | with_reducible refine T_seq_drawT (id := 14) Γ_ok drawsAny pl46_14 (by kernel_rfl) (fun K hK => ?_) | with_reducible refine T_last_drawT (id := 14) Γ_ok drawsAny pl46_14 (by kernel_rfl) (fun K hK => ?_) | with_reducible refine T_seq_drawT (id := 15) Γ_ok drawsAny pl46_15 (by kernel_rfl) (fun K hK => ?_) | with_reducible refine T_last_drawT (id := 15) Γ_ok drawsAny pl46_15 (by kernel_rfl) (fun K hK => ?_) | ((refine goR0 _ _ _ _ _ _ _ _ ?_ ?_ ?_ ?_ ?_ ?_ ?_ ?_) <;> (repeat intro hb) <;> first | exact True.intro | refine Lf.mk ?_)))
      all_goals exact ⟨0, 1, _, by decide, rfl, rfl, rfl, fun _ _ _ _ => rfl⟩
set_option maxRecDepth 100000 in
set_option maxHeartbeats 1000000 in
theorem rlearn2_tc (A : List Acc) (L : List Tk) (r : Rcd) (hk : r.k = 2) (hs : 1 ≤ r.s ∧ r.s < 16) (hA : A.length ≤ 1000) :
    TC Tryd.prog 46 [.agg [.own 0 0 A.length none, .own 1 0 L.length none], rcA r] [acO A, tkO L] (LearnQ (rdoR ⟨A, L⟩ r)) := by
  obtain ⟨k, s, b, ⟨s', c, n, d⟩⟩ := r
  simp only [] at hk hs
  subst hk
  obtain ⟨s, rfl⟩ : ∃ q : Nat, s = q := ⟨s.toNat, by omega⟩
  have e3 : rdoR ⟨A, L⟩ ⟨2, s, b, ⟨s', c, n, d⟩⟩ = if (accR (gA' (grow A s) (s - 1)) 0 b ⟨s', c, n, d⟩).2.2 = 0 then (⟨(grow A s).set (s - 1) (accR (gA' (grow A s) (s - 1)) 0 b ⟨s', c, n, d⟩).1, L⟩, 0) else (⟨A, L⟩, (accR (gA' (grow A s) (s - 1)) 0 b ⟨s', c, n, d⟩).2.2) := by
    have ed : doR ⟨A, L⟩ ⟨2, s, b, ⟨s', c, n, d⟩⟩ = (⟨(grow A s).set (s - 1) (accR (gA' (grow A s) (s - 1)) 0 b ⟨s', c, n, d⟩).1, L⟩, (accR (gA' (grow A s) (s - 1)) 0 b ⟨s', c, n, d⟩).2.2) := by unfold doR; rw [if_neg (by simp)]; exact if_pos rfl
    unfold rdoR; rw [if_neg (by simp), ed]
  rw [e3]
  clear e3
  (refine TC_of_T Γ_ok Tryd.func46 rfl (by kernel_rfl) ?_; simp only [Tryd.ntmps46, Tryd.results46, List.length_cons, List.length_nil, Nat.reduceSub, Nat.reduceAdd, List.replicate, List.cons_append, List.nil_append])
  (repeat' (first | with_reducible refine T_seq_drawT (id := 14) Γ_ok drawsAny pl46_14 (by kernel_rfl) (fun K hK => ?_) | with_reducible refine T_last_drawT (id := 14) Γ_ok drawsAny pl46_14 (by kernel_rfl) (fun K hK => ?_) | with_reducible refine T_seq_drawT (id := 15) Γ_ok drawsAny pl46_15 (by kernel_rfl) (fun K hK => ?_) | with_reducible refine T_last_drawT (id := 15) Γ_ok drawsAny pl46_15 (by kernel_rfl) (fun K hK => ?_) | ((refine goR0 _ _ _ _ _ _ _ _ ?_ ?_ ?_ ?_ ?_ ?_ ?_ ?_) <;> (repeat intro hb) <;> first | exact True.intro | refine Lf.mk ?_)))
  refine T_loopW (fun m st => ∃ k : Nat, k ≤ s - A.length ∧ m + k = s - A.length ∧ st = ⟨[.top, .top, .optr 2 0 0, .optr 3 0 0, .optr 4 0 0, .imm (.int .i64 0), .top, .top, .own 5 0 (grow A (A.length + k)).length none] ++ List.replicate 79 .top,
      [acO A, tkO L, .box 28 [.own 0 0 A.length none, .own 1 0 L.length none], .box 39 (rcL ⟨2, s, b, ⟨s', c, n, d⟩⟩), .box 28 [.imm (.slice none 0 0), .imm (.slice none 0 0)], acO (grow A (A.length + k))]⟩)
    (s - A.length) ⟨_, ?_, 0, by omega, by omega, rfl⟩ ?_
  · rw [Nat.add_zero, show grow A A.length = A by simp [grow]]
    ((try simp only [List.length_append, List.length_cons, List.length_nil, Nat.zero_add]); refine Wk.intro [0, 1, 2, 3, 4, 6] (by decide) (by decide) (by intro o ho; simp at ho ⊢ <;> omega) ?_ ?_ <;> repeat' (first | exact WkV.eqF (by simp [catE]) (acE_free _ _ _) | exact WkVL.nil | refine WkVL.cons ?_ ?_ | exact WkV.top | exact WkV.imm rfl | exact WkV.imm (by simp) | exact WkV.optr rfl | exact WkV.own rfl (by simp) | exact WkV.nil_own (.inl rfl) | exact WkV.map rfl | (refine WkV.free ?_; simp [Free, FreeL] <;> assumption) | (refine WkV.free (fun _ _ => FreeL_nth ?_ _); simp [Free, FreeL]; done) | refine WkV.agg ?_ | refine WkV.tup ?_ | refine WkV.fn ?_ ?_ | exact WkO.dead | exact WkO.raw | refine WkO.ghost ?_ | exact WkO.mpE rfl trivial | refine WkO.box ?_ rfl | refine WkO.arr ?_ | refine And.intro ?_ (And.intro (by first | exact fun h => h | exact fun _ => rfl | exact nofun) ?_) | exact trivial | (intro i j hi hj)))
  rintro m st ⟨k, g1, g2, rfl⟩
  have hlen : (grow A (A.length + k)).length = A.length + k := by rw [grow_len]; omega
  (simp only [go_sem, ↓reduceIte, Nat.reduceAdd, Nat.reduceSub, Nat.reduceMul, Nat.reduceLT, Nat.reduceLeDiff, Nat.reduceEqDiff, Nat.reduceGT, Int.reduceToNat, Int.reduceBEq, Int.reduceBNe]; try simp (disch := omega) only [wrapI, wrapU, half_sum, toNat_sub1, toNat_add1, Int.toNat_natCast])
  by_cases hk : k < s - A.length
  · (((refine goR0 _ _ _ _ _ _ _ _ ?_ ?_ ?_ ?_ ?_ ?_ ?_ ?_) <;> (repeat intro hb) <;> first | exact True.intro | refine Lf.mk ?_))
    · refine ⟨s - A.length - (k + 1), by omega, _, ?_, k + 1, by omega, by omega, rfl⟩
      have e : grow A (A.length + (k + 1)) = grow A (A.length + k) ++ [ac0] := by
        unfold grow
        rw [show A.length + (k + 1) - A.length = k + 1 by omega, show A.length + k - A.length = k by omega, List.replicate_succ', List.append_assoc]
      rw [e]
      generalize grow A (A.length + k) = B
      ((try simp only [List.length_append, List.length_cons, List.length_nil, Nat.zero_add]); refine Wk.intro [0, 1, 2, 3, 4, 7] (by decide) (by decide) (by intro o ho; simp at ho ⊢ <;> omega) ?_ ?_ <;> repeat' (first | exact WkV.eqF (ac_snoc B ac0 (by simpa using hi) hj) (acE_free _ _ _) | exact WkVL.nil | refine WkVL.cons ?_ ?_ | exact WkV.top | exact WkV.imm rfl | exact WkV.imm (by simp) | exact WkV.optr rfl | exact WkV.own rfl (by simp) | exact WkV.nil_own (.inl rfl) | exact WkV.map rfl | (refine WkV.free ?_; simp [Free, FreeL] <;> assumption) | (refine WkV.free (fun _ _ => FreeL_nth ?_ _); simp [Free, FreeL]; done) | refine WkV.agg ?_ | refine WkV.tup ?_ | refine WkV.fn ?_ ?_ | exact WkO.dead | exact WkO.raw | refine WkO.ghost ?_ | exact WkO.mpE rfl trivial | refine WkO.box ?_ rfl | refine WkO.arr ?_ | refine And.intro ?_ (And.intro (by first | exact fun h => h | exact fun _ => rfl | exact nofun) ?_) | exact trivial | (intro i j hi hj)))
  · have e : grow A (A.length + k) = grow A s := by unfold grow; rw [show A.length + k - A.length = s - A.length by omega]
    rw [e] at hlen ⊢
    have hge : s ≤ (grow A s).length := by rw [grow_len]; omega
    have hlt : s - 1 < (grow A s).length := by omega
    clear hlen e
    generalize grow A s = B at *
    have hp := raccept_e (gA' B (s - 1)).p (gA' B (s - 1)).v (gA' B (s - 1)).x.s (gA' B (s - 1)).x.c (gA' B (s - 1)).x.n (gA' B (s - 1)).x.d 0 b s' c n d
    rw [show (⟨(gA' B (s - 1)).p, (gA' B (s - 1)).v, ⟨(gA' B (s - 1)).x.s, (gA' B (s - 1)).x.c, (gA' B (s - 1)).x.n, (gA' B (s - 1)).x.d⟩⟩ : Acc) = gA' B (s - 1) from rfl] at hp
    generalize accR (gA' B (s - 1)) 0 b ⟨s', c, n, d⟩ = q at *
    by_cases hz : q.2.2 = 0
    · rw [if_pos hz]
      (have cl1 := hp; repeat' (first | with_reducible refine T_seq_drawT (id := 14) Γ_ok drawsAny pl46_14 (by kernel_rfl) (fun K hK => ?_) | with_reducible refine T_last_drawT (id := 14) Γ_ok drawsAny pl46_14 (by kernel_rfl) (fun K hK => ?_) | with_reducible refine T_seq_drawT (id := 15) Γ_ok drawsAny pl46_15 (by kernel_rfl) (fun K hK => ?_) | with_reducible refine T_last_drawT (id := 15) Γ_ok drawsAny pl46_15 (by kernel_rfl) (fun K hK => ?_) | ((refine goR0 _ _ _ _ _ _ _ _ ?_ ?_ ?_ ?_ ?_ ?_ ?_ ?_) <;> (repeat intro hb) <;> first | exact True.intro | refine Lf.mk ?_)))
      all_goals exact ⟨5, 1, _, by decide, by (try simp only [List.length_set]) <;> rfl, by (try simp only [List.length_set]) <;> rfl, rfl, fun i j hi hj => ac_set B (s - 1) q.1 hlt (by simpa using hi) hj⟩
    · rw [if_neg hz]
      (have cl1 := hp; repeat' (first | with_reducible refine T_seq_drawT (id := 14) Γ_ok drawsAny pl46_14 (by kernel_rfl) (fun K hK => ?_) | with_reducible refine T_last_drawT (id := 14) Γ_ok drawsAny pl46_14 (by kernel_rfl) (fun K hK => ?_) | with_reducible refine T_seq_drawT (id := 15) Γ_ok drawsAny pl46_15 (by kernel_rfl) (fun K hK => ?_) | with_reducible refine T_last_drawT (id := 15) Γ_ok drawsAny pl46_15 (by kernel_rfl) (fun K hK => ?_) | ((refine goR0 _ _ _ _ _ _ _ _ ?_ ?_ ?_ ?_ ?_ ?_ ?_ ?_) <;> (repeat intro hb) <;> first | exact True.intro | refine Lf.mk ?_)))
      all_goals exact ⟨0, 1, _, by decide, rfl, rfl, rfl, fun _ _ _ _ => rfl⟩
end Go.Proofs.YtnomenmakhielaaDoor
