/-
  The reference's Recover, Append.
-/
import Derived.Test.YtnomenmakhielaaDoorQGo
import Derived.Test.YtnomenmakhielaaDoorQS22
set_option linter.unusedSimpArgs false
set_option linter.unusedVariables false
namespace Go.Proofs.YtnomenmakhielaaDoor
open Go.Ab

def RcvE (q : List Rcd × Dsk × Int) (v : AV) (σ' : List AObj) : Prop :=
  (v = .tup [.imm (.slice none 0 0), .agg [.imm (.slice none 0 0), .imm (.int .i64 q.2.1.s)], .imm (.int .i64 q.2.2)] ∧ q.1 = [] ∧ q.2.1.b = []) ∨
  (∃ a b E, a ≠ b ∧ v = .tup [.own a 0 q.1.length none, .agg [.own b 0 q.2.1.b.length none, .imm (.int .i64 q.2.1.s)], .imm (.int .i64 q.2.2)] ∧ nthO σ' a = rcO q.1 ∧ nthO σ' b = .arr 5 1 q.2.1.b.length E ∧ ∀ i j, i < q.2.1.b.length → j < 1 → E i j = byE q.2.1.b i j)
theorem RcvE.makes {q : List Rcd × Dsk × Int} {f : FuncId} {args : List AV} (h : TC Tryd.prog f args [] (RcvE q)) : Makes Tryd.prog f args (rcvA q) (rcvO q) := by
  refine Makes.gen [(39, 7), (5, 1)] (by simp [VF, VFL]) (fun a ha => by simp at ha; rcases ha with rfl | rfl <;> simp [PlO]) (h.mono fun v σ' hq => ?_)
  rcases hq with ⟨rfl, h1, h2⟩ | ⟨a, b, E, hab, rfl, ha, hb, hE⟩
  · simp only [rcvA, rcvO, h1, h2]
    refine ⟨[σ'.length, σ'.length + 1], by simp, by simp, WkV.tup (WkVL.cons (WkV.nil_own (.inl rfl)) (WkVL.cons (WkV.agg (WkVL.cons (WkV.nil_own (.inl rfl)) (WkVL.cons (WkV.imm rfl) WkVL.nil))) (WkVL.cons (WkV.imm rfl) WkVL.nil))), ?_⟩
    have e1 : nthO (σ' ++ [AObj.arr 39 7 0 fun _ _ => .top, AObj.arr 5 1 0 fun _ _ => .top]) σ'.length = AObj.arr 39 7 0 fun _ _ => .top := nthO_at _ _ _
    have e2 : nthO (σ' ++ [AObj.arr 39 7 0 fun _ _ => .top, AObj.arr 5 1 0 fun _ _ => .top]) (σ'.length + 1) = AObj.arr 5 1 0 fun _ _ => .top := by
      have := nthO_at (σ' ++ [AObj.arr 39 7 0 fun _ _ => .top]) (AObj.arr 5 1 0 fun _ _ => .top) []
      simpa using this
    simp only [List.map_cons, List.map_nil, WkOL, e1, e2]
    exact ⟨WkO.arr fun i j hi _ => by simp at hi, fun _ => rfl, WkO.arr fun i j hi _ => by simp at hi, fun _ => rfl, trivial⟩
  · have la := nthO_lt ha (by simp)
    have lb := nthO_lt hb (by simp)
    refine ⟨[a, b], by simpa using hab, by simp; omega, WkV.tup (WkVL.cons (WkV.own rfl (by simp)) (WkVL.cons (WkV.agg (WkVL.cons (WkV.own rfl (by simp)) (WkVL.cons (WkV.imm rfl) WkVL.nil))) (WkVL.cons (WkV.imm rfl) WkVL.nil))), ?_⟩
    simp only [WkOL, nthO_app la, nthO_app lb, ha, hb]
    exact ⟨WkO.arr fun i j _ _ => WkV.free (rcE_free _ _ _), fun _ => rfl, WkO.arr fun i j hi hj => WkV.eqF (hE i j hi hj) trivial, fun _ => rfl, trivial⟩

set_option maxRecDepth 100000 in
set_option maxHeartbeats 400000 in
theorem rrecover_tc (d : Dsk) (hb : ByOk d.b) (hl : d.b.length ≤ 9223372036854775807) : Makes Tryd.prog 28 [dsA d] (rcvA (recoverR d)) (rcvO (recoverR d)) := by
  refine RcvE.makes ?_
  have hs := rdisk_tc d hl
  cases h : soundB d with
  | true =>
    have hsp := sound_spec h
    have hw := wholeN_len d.b
    have hwh := rwhole_tc d.b hb (by omega)
    rw [h] at hs
    by_cases h5 : (wholeN d.b).1.length > 500
    · have e : recoverR d = ([], ⟨[], 0⟩, 2) := by unfold recoverR; rw [if_pos h, if_pos h5]
      rw [e]
      (refine TC_of_T Γ_ok Tryd.func28 rfl (by kernel_rfl) ?_; simp only [Tryd.ntmps28, Tryd.results28, List.length_cons, List.length_nil, Nat.reduceSub, Nat.reduceAdd, List.replicate, List.cons_append, List.nil_append])
      (have cl1 := hs; have cm1 := hwh; ((refine goR0 _ _ _ _ _ _ _ _ ?_ ?_ ?_ ?_ ?_ ?_ ?_ ?_) <;> (repeat intro hb) <;> first | exact True.intro | refine Lf.mk ?_))
      exact .inl ⟨rfl, rfl, rfl⟩
    · have e : recoverR d = ((wholeN d.b).1, ⟨d.b.take (wholeN d.b).2, ((wholeN d.b).2 : Nat)⟩, 0) := by unfold recoverR; rw [if_pos h, if_neg h5]
      have hn : (d.b.take (wholeN d.b).2).length = (wholeN d.b).2 := by simp; omega
      rw [e]
      (refine TC_of_T Γ_ok Tryd.func28 rfl (by kernel_rfl) ?_; simp only [Tryd.ntmps28, Tryd.results28, List.length_cons, List.length_nil, Nat.reduceSub, Nat.reduceAdd, List.replicate, List.cons_append, List.nil_append])
      (have cl1 := hs; have cm1 := hwh; ((refine goR0 _ _ _ _ _ _ _ _ ?_ ?_ ?_ ?_ ?_ ?_ ?_ ?_) <;> (repeat intro hb) <;> first | exact True.intro | refine Lf.mk ?_))
      all_goals exact .inr ⟨2, 4, _, by decide, (by first | (rw [hn]; done) | (rw [hn]; rfl)), rfl, (by first | (rw [hn]; done) | (rw [hn]; rfl)), fun i j hi _ => by rw [hn] at hi; simp [catE, byE, gb8, hi]⟩
  | false =>
    have e : recoverR d = ([], ⟨[], 0⟩, 1) := by unfold recoverR; rw [if_neg (by rw [h]; simp)]
    rw [h] at hs
    rw [e]
    (refine TC_of_T Γ_ok Tryd.func28 rfl (by kernel_rfl) ?_; simp only [Tryd.ntmps28, Tryd.results28, List.length_cons, List.length_nil, Nat.reduceSub, Nat.reduceAdd, List.replicate, List.cons_append, List.nil_append])
    (have cl1 := hs; ((refine goR0 _ _ _ _ _ _ _ _ ?_ ?_ ?_ ?_ ?_ ?_ ?_ ?_) <;> (repeat intro hb) <;> first | exact True.intro | refine Lf.mk ?_))
    exact .inl ⟨rfl, rfl, rfl⟩

set_option maxRecDepth 100000 in
set_option maxHeartbeats 400000 in
theorem rappend_tc (d : Dsk) (r : Rcd) (hb : ByOk d.b) (hl : d.b.length ≤ 9223372036854775807) : Makes Tryd.prog 23 [dsA d, rcA r] (dskA (appendR d r)) (dskO (appendR d r)) := by
  refine DE.makesD ?_
  have hs := rdisk_tc d hl
  have hv := rrec_tc r
  by_cases h : soundB d = true ∧ r.ok = true
  · have hsp := sound_spec h.1
    have hw := wholeN_len d.b
    have hwh := rwhole_tc d.b hb (by omega)
    have hfr := rframe_tc r h.2
    have hfl := frameN_len h.2
    rw [h.1] at hs
    rw [h.2] at hv
    by_cases h1 : (wholeN d.b).2 < d.b.length
    · have e : appendR d r = (⟨[], 0⟩, 8) := by unfold appendR; rw [if_pos h, if_pos h1]
      rw [e]
      (refine TC_of_T Γ_ok Tryd.func23 rfl (by kernel_rfl) ?_; simp only [Tryd.ntmps23, Tryd.results23, List.length_cons, List.length_nil, Nat.reduceSub, Nat.reduceAdd, List.replicate, List.cons_append, List.nil_append])
      (have cl1 := hs; have cl2 := hv; have cm1 := hwh; have cm2 := hfr; repeat' (first | with_reducible refine T_seq_drawT (id := 8) Γ_ok drawsAny pl23_8 (by kernel_rfl) (fun K hK => ?_) | with_reducible refine T_last_drawT (id := 8) Γ_ok drawsAny pl23_8 (by kernel_rfl) (fun K hK => ?_) | ((refine goR0 _ _ _ _ _ _ _ _ ?_ ?_ ?_ ?_ ?_ ?_ ?_ ?_) <;> (repeat intro hb) <;> first | exact True.intro | refine Lf.mk ?_)))
      all_goals exact .inl ⟨rfl, rfl⟩
    · by_cases h2 : 500 ≤ (wholeN d.b).1.length ∨ 100000 < (d.b ++ frameN r).length
      · have e : appendR d r = (⟨[], 0⟩, 2) := by unfold appendR; rw [if_pos h, if_neg h1, if_pos h2]
        rw [List.length_append] at h2
        rw [e]
        (refine TC_of_T Γ_ok Tryd.func23 rfl (by kernel_rfl) ?_; simp only [Tryd.ntmps23, Tryd.results23, List.length_cons, List.length_nil, Nat.reduceSub, Nat.reduceAdd, List.replicate, List.cons_append, List.nil_append])
        (have cl1 := hs; have cl2 := hv; have cm1 := hwh; have cm2 := hfr; repeat' (first | with_reducible refine T_seq_drawT (id := 8) Γ_ok drawsAny pl23_8 (by kernel_rfl) (fun K hK => ?_) | with_reducible refine T_last_drawT (id := 8) Γ_ok drawsAny pl23_8 (by kernel_rfl) (fun K hK => ?_) | ((refine goR0 _ _ _ _ _ _ _ _ ?_ ?_ ?_ ?_ ?_ ?_ ?_ ?_) <;> (repeat intro hb) <;> first | exact True.intro | refine Lf.mk ?_)))
        all_goals exact .inl ⟨rfl, rfl⟩
      · have e : appendR d r = (⟨d.b ++ frameN r, d.s⟩, 0) := by unfold appendR; rw [if_pos h, if_neg h1, if_neg h2]
        rw [List.length_append] at h2
        rw [e]
        (refine TC_of_T Γ_ok Tryd.func23 rfl (by kernel_rfl) ?_; simp only [Tryd.ntmps23, Tryd.results23, List.length_cons, List.length_nil, Nat.reduceSub, Nat.reduceAdd, List.replicate, List.cons_append, List.nil_append])
        (have cl1 := hs; have cl2 := hv; have cm1 := hwh; have cm2 := hfr; repeat' (first | with_reducible refine T_seq_drawT (id := 8) Γ_ok drawsAny pl23_8 (by kernel_rfl) (fun K hK => ?_) | with_reducible refine T_last_drawT (id := 8) Γ_ok drawsAny pl23_8 (by kernel_rfl) (fun K hK => ?_) | ((refine goR0 _ _ _ _ _ _ _ _ ?_ ?_ ?_ ?_ ?_ ?_ ?_ ?_) <;> (repeat intro hb) <;> first | exact True.intro | refine Lf.mk ?_)))
        all_goals exact .inr ⟨6, _, by rw [List.length_append]; rfl, by rw [List.length_append]; rfl, fun i j hi hj => byE_app (a := d.b) (b := frameN r) (fun i j _ _ => by simp [catE]) (fun _ _ _ _ => rfl) rfl i j (by simpa using hi) hj⟩
  · have e : appendR d r = (⟨[], 0⟩, 1) := if_neg h
    rw [e]
    cases g1 : soundB d with
    | false =>
      rw [g1] at hs
      (refine TC_of_T Γ_ok Tryd.func23 rfl (by kernel_rfl) ?_; simp only [Tryd.ntmps23, Tryd.results23, List.length_cons, List.length_nil, Nat.reduceSub, Nat.reduceAdd, List.replicate, List.cons_append, List.nil_append])
      (have cl1 := hs; have cl2 := hv; repeat' (first | with_reducible refine T_seq_drawT (id := 8) Γ_ok drawsAny pl23_8 (by kernel_rfl) (fun K hK => ?_) | with_reducible refine T_last_drawT (id := 8) Γ_ok drawsAny pl23_8 (by kernel_rfl) (fun K hK => ?_) | ((refine goR0 _ _ _ _ _ _ _ _ ?_ ?_ ?_ ?_ ?_ ?_ ?_ ?_) <;> (repeat intro hb) <;> first | exact True.intro | refine Lf.mk ?_)))
      all_goals exact .inl ⟨rfl, rfl⟩
    | true =>
      have g2 : r.ok = false := by
        cases hq : r.ok with
        | false => rfl
        | true => exact absurd ⟨g1, hq⟩ h
      rw [g1] at hs
      rw [g2] at hv
      (refine TC_of_T Γ_ok Tryd.func23 rfl (by kernel_rfl) ?_; simp only [Tryd.ntmps23, Tryd.results23, List.length_cons, List.length_nil, Nat.reduceSub, Nat.reduceAdd, List.replicate, List.cons_append, List.nil_append])
      (have cl1 := hs; have cl2 := hv; repeat' (first | with_reducible refine T_seq_drawT (id := 8) Γ_ok drawsAny pl23_8 (by kernel_rfl) (fun K hK => ?_) | with_reducible refine T_last_drawT (id := 8) Γ_ok drawsAny pl23_8 (by kernel_rfl) (fun K hK => ?_) | ((refine goR0 _ _ _ _ _ _ _ _ ?_ ?_ ?_ ?_ ?_ ?_ ?_ ?_) <;> (repeat intro hb) <;> first | exact True.intro | refine Lf.mk ?_)))
      all_goals exact .inl ⟨rfl, rfl⟩
end Go.Proofs.YtnomenmakhielaaDoor
