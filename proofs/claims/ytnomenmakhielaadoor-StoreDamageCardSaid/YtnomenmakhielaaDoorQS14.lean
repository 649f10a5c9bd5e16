/-
  What store.kept, Sync, Crash answer.
-/
import Derived.Test.YtnomenmakhielaaDoorQGo
import Derived.Test.YtnomenmakhielaaDoorQS13
set_option linter.unusedSimpArgs false
set_option linter.unusedVariables false
namespace Go.Proofs.YtnomenmakhielaaDoor
open Go.Ab

/-- An answer that holds a slice of bytes, which may be nil. -/
def DQ (b : List Nat) (mk : AV → AV) (v : AV) (σ' : List AObj) : Prop :=
  (v = mk (.imm (.slice none 0 0)) ∧ b = []) ∨ ∃ k, v = mk (.own k 0 b.length none) ∧ nthO σ' k = byO b
theorem DQ.makes {b : List Nat} {mk : AV → AV} {f : FuncId} {args : List AV} (hv : VF (mk (.own 0 0 b.length none))) (hw : ∀ π σ x, WkV π σ x (.own 0 0 b.length none) → WkV π σ (mk x) (mk (.own 0 0 b.length none))) (h : TC Tryd.prog f args [] (DQ b mk)) :
    Makes Tryd.prog f args (mk (.own 0 0 b.length none)) [byO b] := by
  refine Makes.gen [(5, 1)] hv (fun a ha => by simp only [List.mem_singleton] at ha; subst ha; exact byE_pl b) (h.mono fun v σ' hq => ?_)
  rcases hq with ⟨rfl, rfl⟩ | ⟨k, rfl, hk⟩
  · refine ⟨[σ'.length], by simp, by simp, hw _ _ _ (WkV.nil_own (.inl rfl)), ?_⟩
    have e1 : nthO (σ' ++ [AObj.arr 5 1 0 fun _ _ => .top]) σ'.length = AObj.arr 5 1 0 fun _ _ => .top := nthO_at _ _ _
    simp only [List.map_cons, List.map_nil, WkOL, e1]
    exact ⟨WkO.arr fun i j hi _ => by simp at hi, fun _ => rfl, trivial⟩
  · have la := nthO_lt hk (by simp)
    refine ⟨[k], by simp, by simp; omega, hw _ _ _ (WkV.own rfl (by simp)), ?_⟩
    simp only [WkOL, nthO_app la, hk]
    exact ⟨WkO.arr fun i j _ _ => WkV.free trivial, fun _ => rfl, trivial⟩
def mkD (s e : Int) (x : AV) : AV := .tup [.agg [x, .imm (.int .i64 s)], .imm (.int .i64 e)]
theorem DQ.makesD {b : List Nat} {s e : Int} {f : FuncId} {args : List AV} (h : TC Tryd.prog f args [] (DQ b (mkD s e))) :
    Makes Tryd.prog f args (.tup [.agg [.own 0 0 b.length none, .imm (.int .i64 s)], .imm (.int .i64 e)]) [byO b] :=
  DQ.makes (mk := mkD s e) (by simp [mkD, VF, VFL]) (fun π σ x hx => WkV.tup (WkVL.cons (WkV.agg (WkVL.cons hx (WkVL.cons (WkV.imm rfl) WkVL.nil))) (WkVL.cons (WkV.imm rfl) WkVL.nil))) h

set_option maxRecDepth 100000 in
set_option maxHeartbeats 400000 in
theorem kept_tc (d : Dsk) (n : Nat) (hn : n ≤ d.b.length) (hl : d.b.length ≤ 200000) : Makes Tryd.prog 41 [dsA d, .imm (.int .i64 n)] (.agg [ownB (d.b.take n), .imm (.int .i64 n)]) [byO (d.b.take n)] := by
  refine DQ.makes (mk := fun x => .agg [x, .imm (.int .i64 n)]) (by simp [VF, VFL]) (fun π σ x hx => WkV.agg (WkVL.cons hx (WkVL.cons (WkV.imm rfl) WkVL.nil))) ?_
  have hc := bclone_tc (d.b.take n) (by simp; omega)
  have hlen : (d.b.take n).length = n := by simp; omega
  have hv1 := byE_sub d.b 0 n
  simp only [bys, ownB, byO, hlen] at hc
  (refine TC_of_T Γ_ok Tryd.func41 rfl (by kernel_rfl) ?_; simp only [Tryd.ntmps41, Tryd.results41, List.length_cons, List.length_nil, Nat.reduceSub, Nat.reduceAdd, List.replicate, List.cons_append, List.nil_append])
  (have cm1 := hc; ((refine goR0 _ _ _ _ _ _ _ _ ?_ ?_ ?_ ?_ ?_ ?_ ?_ ?_) <;> (repeat intro hb) <;> first | exact True.intro | refine Lf.mk ?_))
  exact .inr ⟨2, by rw [hlen], by simp only [nthO, byO, hlen]⟩

def syncR (d : Dsk) : Dsk × Int := if soundB d = true then (⟨d.b.take d.b.length, d.b.length⟩, 0) else (⟨[], 0⟩, 1)
def crashR (d : Dsk) (keep : Int) : Dsk × Int :=
  if soundB d = true ∧ 0 ≤ keep then (⟨d.b.take (d.s.toNat + min keep.toNat (d.b.length - d.s.toNat)), (d.s.toNat + min keep.toNat (d.b.length - d.s.toNat) : Nat)⟩, 0) else (⟨[], 0⟩, 1)
theorem sound_spec {d : Dsk} (h : soundB d = true) : d.b.length ≤ 100000 ∧ 0 ≤ d.s ∧ d.s ≤ d.b.length := by
  unfold soundB at h
  simp only [Bool.and_eq_true, decide_eq_true_eq] at h
  omega
@[go_sem, reducible] def dskA (q : Dsk × Int) : AV := .tup [.agg [.own 0 0 q.1.b.length none, .imm (.int .i64 q.1.s)], .imm (.int .i64 q.2)]
@[go_sem, reducible] def dskO (q : Dsk × Int) : List AObj := [byO q.1.b]

set_option maxRecDepth 100000 in
set_option maxHeartbeats 400000 in
theorem sync_tc (d : Dsk) (hl : d.b.length ≤ 9223372036854775807) : Makes Tryd.prog 24 [dsA d] (dskA (syncR d)) (dskO (syncR d)) := by
  refine DQ.makesD ?_
  have hs := sound_tc d hl
  by_cases h : soundB d = true
  · have e : syncR d = (⟨d.b.take d.b.length, d.b.length⟩, 0) := if_pos h
    have hk := kept_tc d d.b.length (Nat.le_refl _) (by have := sound_spec h; omega)
    rw [h] at hs
    rw [e]
    (refine TC_of_T Γ_ok Tryd.func24 rfl (by kernel_rfl) ?_; simp only [Tryd.ntmps24, Tryd.results24, List.length_cons, List.length_nil, Nat.reduceSub, Nat.reduceAdd, List.replicate, List.cons_append, List.nil_append])
    (have cl1 := hs; have cm1 := hk; ((refine goR0 _ _ _ _ _ _ _ _ ?_ ?_ ?_ ?_ ?_ ?_ ?_ ?_) <;> (repeat intro hb) <;> first | exact True.intro | refine Lf.mk ?_))
    exact .inr ⟨2, rfl, rfl⟩
  · have e : syncR d = (⟨[], 0⟩, 1) := if_neg h
    rw [show soundB d = false by simpa using h] at hs
    rw [e]
    (refine TC_of_T Γ_ok Tryd.func24 rfl (by kernel_rfl) ?_; simp only [Tryd.ntmps24, Tryd.results24, List.length_cons, List.length_nil, Nat.reduceSub, Nat.reduceAdd, List.replicate, List.cons_append, List.nil_append])
    (have cl1 := hs; ((refine goR0 _ _ _ _ _ _ _ _ ?_ ?_ ?_ ?_ ?_ ?_ ?_ ?_) <;> (repeat intro hb) <;> first | exact True.intro | refine Lf.mk ?_))
    exact .inl ⟨rfl, rfl⟩

set_option maxRecDepth 100000 in
set_option maxHeartbeats 400000 in
theorem crash_tc (d : Dsk) (keep : Int) (hl : d.b.length ≤ 9223372036854775807) : Makes Tryd.prog 26 [dsA d, .imm (.int .i64 keep)] (dskA (crashR d keep)) (dskO (crashR d keep)) := by
  refine DQ.makesD ?_
  have hs := sound_tc d hl
  by_cases h : soundB d = true ∧ 0 ≤ keep
  · have hsp := sound_spec h.1
    obtain ⟨b, s⟩ := d
    simp only [] at hsp hl
    obtain ⟨s, rfl⟩ : ∃ q : Nat, s = q := ⟨s.toNat, by omega⟩
    obtain ⟨keep, rfl⟩ : ∃ q : Nat, keep = q := ⟨keep.toNat, by omega⟩
    have hk := kept_tc ⟨b, s⟩ (s + min keep (b.length - s)) (by simp only; omega) (by simp only; omega)
    have e : crashR ⟨b, s⟩ keep = (⟨b.take (s + min keep (b.length - s)), (s + min keep (b.length - s) : Nat)⟩, 0) := by unfold crashR; rw [if_pos h]; simp
    rw [h.1] at hs
    rw [e]
    (refine TC_of_T Γ_ok Tryd.func26 rfl (by kernel_rfl) ?_; simp only [Tryd.ntmps26, Tryd.results26, List.length_cons, List.length_nil, Nat.reduceSub, Nat.reduceAdd, List.replicate, List.cons_append, List.nil_append])
    have hm : ((s : Int) + if (b.length : Int) - s < keep then (b.length : Int) - s else keep) = ((s + min keep (b.length - s) : Nat) : Int) := by split <;> omega
    (have cl1 := hs; have cm1 := hk; have sx1 := hm; ((refine goR1 _ _ _ _ _ _ _ _ ?_ ?_ ?_ ?_ ?_ ?_ ?_ ?_) <;> (repeat intro hb) <;> first | exact True.intro | refine Lf.mk ?_))
    exact .inr ⟨2, rfl, rfl⟩
  · have e : crashR d keep = (⟨[], 0⟩, 1) := if_neg h
    rw [e]
    cases h2 : soundB d with
    | true =>
      rw [h2] at hs h
      have h3 : decide (keep < 0) = true := decide_eq_true (by simp at h; omega)
      (refine TC_of_T Γ_ok Tryd.func26 rfl (by kernel_rfl) ?_; simp only [Tryd.ntmps26, Tryd.results26, List.length_cons, List.length_nil, Nat.reduceSub, Nat.reduceAdd, List.replicate, List.cons_append, List.nil_append])
      (have cl1 := hs; have sx1 := h3; ((refine goR1 _ _ _ _ _ _ _ _ ?_ ?_ ?_ ?_ ?_ ?_ ?_ ?_) <;> (repeat intro hb) <;> first | exact True.intro | refine Lf.mk ?_))
      exact .inl ⟨rfl, rfl⟩
    | false =>
      rw [h2] at hs
      (refine TC_of_T Γ_ok Tryd.func26 rfl (by kernel_rfl) ?_; simp only [Tryd.ntmps26, Tryd.results26, List.length_cons, List.length_nil, Nat.reduceSub, Nat.reduceAdd, List.replicate, List.cons_append, List.nil_append])
      (have cl1 := hs; ((refine goR0 _ _ _ _ _ _ _ _ ?_ ?_ ?_ ?_ ?_ ?_ ?_ ?_) <;> (repeat intro hb) <;> first | exact True.intro | refine Lf.mk ?_))
      exact .inl ⟨rfl, rfl⟩
end Go.Proofs.YtnomenmakhielaaDoor
