/-
  The reference's Sync, Crash.
-/
import Derived.Test.YtnomenmakhielaaDoorQGo
import Derived.Test.YtnomenmakhielaaDoorQS21
set_option linter.unusedSimpArgs false
set_option linter.unusedVariables false
namespace Go.Proofs.YtnomenmakhielaaDoor
open Go.Ab

/-- An answer that holds a slice of bytes, which are told one by one. -/
def DE (b : List Nat) (mk : AV → AV) (v : AV) (σ' : List AObj) : Prop :=
  (v = mk (.imm (.slice none 0 0)) ∧ b = []) ∨ ∃ k E, v = mk (.own k 0 b.length none) ∧ nthO σ' k = .arr 5 1 b.length E ∧ ∀ i j, i < b.length → j < 1 → E i j = byE b i j
theorem DE.makesD {b : List Nat} {s e : Int} {f : FuncId} {args : List AV} (h : TC Tryd.prog f args [] (DE b (mkD s e))) :
    Makes Tryd.prog f args (.tup [.agg [.own 0 0 b.length none, .imm (.int .i64 s)], .imm (.int .i64 e)]) [byO b] := by
  refine Makes.gen [(5, 1)] (by simp [VF, VFL]) (fun a ha => by simp only [List.mem_singleton] at ha; subst ha; exact byE_pl b) (h.mono fun v σ' hq => ?_)
  have hw : ∀ π σ x, WkV π σ x (.own 0 0 b.length none) → WkV π σ (mkD s e x) (mkD s e (.own 0 0 b.length none)) := fun π σ x hx => WkV.tup (WkVL.cons (WkV.agg (WkVL.cons hx (WkVL.cons (WkV.imm rfl) WkVL.nil))) (WkVL.cons (WkV.imm rfl) WkVL.nil))
  rcases hq with ⟨rfl, rfl⟩ | ⟨k, E, rfl, hk, hE⟩
  · refine ⟨[σ'.length], by simp, by simp, hw _ _ _ (WkV.nil_own (.inl rfl)), ?_⟩
    have e1 : nthO (σ' ++ [AObj.arr 5 1 0 fun _ _ => .top]) σ'.length = AObj.arr 5 1 0 fun _ _ => .top := nthO_at _ _ _
    simp only [List.map_cons, List.map_nil, WkOL, e1]
    exact ⟨WkO.arr fun i j hi _ => by simp at hi, fun _ => rfl, trivial⟩
  · have la := nthO_lt hk (by simp)
    refine ⟨[k], by simp, by simp; omega, hw _ _ _ (WkV.own rfl (by simp)), ?_⟩
    simp only [WkOL, nthO_app la, hk]
    exact ⟨WkO.arr fun i j hi hj => WkV.eqF (hE i j hi hj) trivial, fun _ => rfl, trivial⟩

set_option maxRecDepth 100000 in
set_option maxHeartbeats 400000 in
theorem rsync_tc (d : Dsk) (hl : d.b.length ≤ 9223372036854775807) : Makes Tryd.prog 25 [dsA d] (dskA (syncR d)) (dskO (syncR d)) := by
  refine DE.makesD ?_
  have hs := rdisk_tc d hl
  cases h : soundB d with
  | true =>
    have hsp := sound_spec h
    have e : syncR d = (⟨d.b, d.b.length⟩, 0) := by unfold syncR; rw [if_pos h, List.take_length]
    rw [h] at hs
    rw [e]
    (refine TC_of_T Γ_ok Tryd.func25 rfl (by kernel_rfl) ?_; simp only [Tryd.ntmps25, Tryd.results25, List.length_cons, List.length_nil, Nat.reduceSub, Nat.reduceAdd, List.replicate, List.cons_append, List.nil_append])
    (have cl1 := hs; repeat' (first | with_reducible refine T_seq_drawT (id := 4) Γ_ok drawsAny pl25_4 (by kernel_rfl) (fun K hK => ?_) | with_reducible refine T_last_drawT (id := 4) Γ_ok drawsAny pl25_4 (by kernel_rfl) (fun K hK => ?_) | ((refine goR0 _ _ _ _ _ _ _ _ ?_ ?_ ?_ ?_ ?_ ?_ ?_ ?_) <;> (repeat intro hb) <;> first | exact True.intro | refine Lf.mk ?_)))
    exact .inr ⟨2, _, rfl, rfl, fun i j _ _ => by simp [catE]⟩
  | false =>
    have e : syncR d = (⟨[], 0⟩, 1) := by unfold syncR; rw [if_neg (by rw [h]; simp)]
    rw [h] at hs
    rw [e]
    (refine TC_of_T Γ_ok Tryd.func25 rfl (by kernel_rfl) ?_; simp only [Tryd.ntmps25, Tryd.results25, List.length_cons, List.length_nil, Nat.reduceSub, Nat.reduceAdd, List.replicate, List.cons_append, List.nil_append])
    (have cl1 := hs; repeat' (first | with_reducible refine T_seq_drawT (id := 4) Γ_ok drawsAny pl25_4 (by kernel_rfl) (fun K hK => ?_) | with_reducible refine T_last_drawT (id := 4) Γ_ok drawsAny pl25_4 (by kernel_rfl) (fun K hK => ?_) | ((refine goR0 _ _ _ _ _ _ _ _ ?_ ?_ ?_ ?_ ?_ ?_ ?_ ?_) <;> (repeat intro hb) <;> first | exact True.intro | refine Lf.mk ?_)))
    exact .inl ⟨rfl, rfl⟩
set_option maxRecDepth 100000 in
set_option maxHeartbeats 400000 in
theorem rcrash_tc (d : Dsk) (keep : Int) (hl : d.b.length ≤ 9223372036854775807) : Makes Tryd.prog 27 [dsA d, .imm (.int .i64 keep)] (dskA (crashR d keep)) (dskO (crashR d keep)) := by
  refine DE.makesD ?_
  have hs := rdisk_tc d hl
  by_cases h : soundB d = true ∧ 0 ≤ keep
  · have hsp := sound_spec h.1
    obtain ⟨b, s⟩ := d
    simp only [] at hsp hl
    obtain ⟨s, rfl⟩ : ∃ q : Nat, s = q := ⟨s.toNat, by omega⟩
    obtain ⟨keep, rfl⟩ : ∃ q : Nat, keep = q := ⟨keep.toNat, by omega⟩
    have e : crashR ⟨b, s⟩ keep = (⟨b.take (s + min keep (b.length - s)), (s + min keep (b.length - s) : Nat)⟩, 0) := by unfold crashR; rw [if_pos h]; simp
    rw [h.1] at hs
    rw [e]
    (refine TC_of_T Γ_ok Tryd.func27 rfl (by kernel_rfl) ?_; simp only [Tryd.ntmps27, Tryd.results27, List.length_cons, List.length_nil, Nat.reduceSub, Nat.reduceAdd, List.replicate, List.cons_append, List.nil_append])
    have hm : ((s : Int) + if (b.length : Int) - s < keep then (b.length : Int) - s else keep) = ((s + min keep (b.length - s) : Nat) : Int) := by split <;> omega
    have hle : s + min keep (b.length - s) ≤ b.length := by omega
    generalize s + min keep (b.length - s) = n at hm hle ⊢
    have hn : (b.take n).length = n := by simp; omega
    (have cl1 := hs; have sx1 := hm; ((refine goR1 _ _ _ _ _ _ _ _ ?_ ?_ ?_ ?_ ?_ ?_ ?_ ?_) <;> (repeat intro hb) <;> first | exact True.intro | refine Lf.mk ?_))
    exact .inr ⟨3, _, by rw [hn]; rfl, by rw [hn]; rfl, fun i j hi _ => by rw [hn] at hi; simp [catE, byE, gb8, hi]⟩
  · have e : crashR d keep = (⟨[], 0⟩, 1) := if_neg h
    rw [e]
    cases h2 : soundB d with
    | true =>
      rw [h2] at hs h
      have h3 : decide (keep < 0) = true := decide_eq_true (by simp at h; omega)
      (refine TC_of_T Γ_ok Tryd.func27 rfl (by kernel_rfl) ?_; simp only [Tryd.ntmps27, Tryd.results27, List.length_cons, List.length_nil, Nat.reduceSub, Nat.reduceAdd, List.replicate, List.cons_append, List.nil_append])
      (have cl1 := hs; have sx1 := h3; ((refine goR1 _ _ _ _ _ _ _ _ ?_ ?_ ?_ ?_ ?_ ?_ ?_ ?_) <;> (repeat intro hb) <;> first | exact True.intro | refine Lf.mk ?_))
      exact .inl ⟨rfl, rfl⟩
    | false =>
      rw [h2] at hs
      (refine TC_of_T Γ_ok Tryd.func27 rfl (by kernel_rfl) ?_; simp only [Tryd.ntmps27, Tryd.results27, List.length_cons, List.length_nil, Nat.reduceSub, Nat.reduceAdd, List.replicate, List.cons_append, List.nil_append])
      (have cl1 := hs; ((refine goR0 _ _ _ _ _ _ _ _ ?_ ?_ ?_ ?_ ?_ ?_ ?_ ?_) <;> (repeat intro hb) <;> first | exact True.intro | refine Lf.mk ?_))
      exact .inl ⟨rfl, rfl⟩
end Go.Proofs.YtnomenmakhielaaDoor
