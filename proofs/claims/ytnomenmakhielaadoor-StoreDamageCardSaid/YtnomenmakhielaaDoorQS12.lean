/-
  The contract of store.Fold; small functions on disks.
-/
import Derived.Test.YtnomenmakhielaaDoorQGo
import Derived.Test.YtnomenmakhielaaDoorQS11
set_option linter.unusedSimpArgs false
set_option linter.unusedVariables false
namespace Go.Proofs.YtnomenmakhielaaDoor
open Go.Ab

theorem nthO_app {σ τ : List AObj} {k : Nat} (h : k < σ.length) : nthO (σ ++ τ) k = nthO σ k := by
  induction σ generalizing k with
  | nil => simp at h
  | cons x σ ih => cases k with
    | zero => rfl
    | succ k => simpa [nthO] using ih (by simpa using h)
theorem nthO_at (σ : List AObj) (a : AObj) (τ : List AObj) : nthO (σ ++ a :: τ) σ.length = a := by
  induction σ with
  | nil => rfl
  | cons x σ ih => simpa [nthO] using ih
theorem nthO_lt {σ : List AObj} {k : Nat} {a : AObj} (h : nthO σ k = a) (hd : a ≠ .dead) : k < σ.length := (List.getElem?_eq_some_iff.1 (nthO_get h hd)).1
theorem FoldQ.makes {q : Mem × Int} {f : FuncId} {args : List AV} (h : TC Tryd.prog f args [] (FoldQ q)) :
    Makes Tryd.prog f args (.tup [.agg [.own 0 0 q.1.A.length none, .own 1 0 q.1.L.length none], .imm (.int .i64 q.2)]) [acO q.1.A, tkO q.1.L] := by
  refine Makes.gen [(35, 6), (33, 4)] (by simp [VF, VFL]) (fun a ha => by simp at ha; rcases ha with rfl | rfl <;> simp [PlO]) (h.mono fun v σ' hq => ?_)
  rcases hq with ⟨rfl, hq⟩ | ⟨a, b, hab, rfl, ha, hb⟩
  · rw [hq]
    refine ⟨[σ'.length, σ'.length + 1], by simp, by simp, WkV.tup (WkVL.cons (WkV.agg (WkVL.cons (WkV.nil_own (.inl rfl)) (WkVL.cons (WkV.nil_own (.inl rfl)) WkVL.nil))) (WkVL.cons (WkV.imm rfl) WkVL.nil)), ?_⟩
    have e1 : nthO (σ' ++ [AObj.arr 35 6 0 fun _ _ => .top, AObj.arr 33 4 0 fun _ _ => .top]) σ'.length = AObj.arr 35 6 0 fun _ _ => .top := nthO_at _ _ _
    have e2 : nthO (σ' ++ [AObj.arr 35 6 0 fun _ _ => .top, AObj.arr 33 4 0 fun _ _ => .top]) (σ'.length + 1) = AObj.arr 33 4 0 fun _ _ => .top := by
      have := nthO_at (σ' ++ [AObj.arr 35 6 0 fun _ _ => .top]) (AObj.arr 33 4 0 fun _ _ => .top) []
      simpa using this
    simp only [List.map_cons, List.map_nil, WkOL, e1, e2]
    exact ⟨WkO.arr fun i j hi _ => by omega, fun _ => rfl, WkO.arr fun i j hi _ => by omega, fun _ => rfl, trivial⟩
  · have la := nthO_lt ha (by simp)
    have lb := nthO_lt hb (by simp)
    refine ⟨[a, b], by simpa using hab, by simp; omega, WkV.tup (WkVL.cons (WkV.agg (WkVL.cons (WkV.own rfl (by simp)) (WkVL.cons (WkV.own rfl (by simp)) WkVL.nil))) (WkVL.cons (WkV.imm rfl) WkVL.nil)), ?_⟩
    simp only [WkOL, nthO_app la, nthO_app lb, ha, hb]
    exact ⟨WkO.arr fun i j _ _ => WkV.free (acE_free _ _ _), fun _ => rfl, WkO.arr fun i j _ _ => WkV.free (tkE_free _ _ _), fun _ => rfl, trivial⟩
@[go_sem, reducible] def memA (q : Mem × Int) : AV := .tup [.agg [.own 0 0 q.1.A.length none, .own 1 0 q.1.L.length none], .imm (.int .i64 q.2)]
theorem fold_tc (l : List Rcd) (hl : l.length ≤ 9223372036854775807) : Makes Tryd.prog 12 [rcs l] (memA (foldR l)) [acO (foldR l).1.A, tkO (foldR l).1.L] := FoldQ.makes (fold_raw l hl)

/-- A disk. -/
structure Dsk where
  b : List Nat
  s : Int
@[go_sem, reducible] def dsA (d : Dsk) : AV := .agg [bys d.b, .imm (.int .i64 d.s)]
def soundB (d : Dsk) : Bool := decide (d.b.length ≤ 100000) && decide (0 ≤ d.s) && decide (d.s ≤ d.b.length)

set_option maxRecDepth 100000 in
set_option maxHeartbeats 400000 in
theorem sound_tc (d : Dsk) (hl : d.b.length ≤ 9223372036854775807) : Look Tryd.prog 39 [dsA d] (.imm (.bool (soundB d))) := by
  refine Look.mk trivial ?_
  (refine TC_of_T Γ_ok Tryd.func39 rfl (by kernel_rfl) ?_; simp only [Tryd.ntmps39, Tryd.results39, List.length_cons, List.length_nil, Nat.reduceSub, Nat.reduceAdd, List.replicate, List.cons_append, List.nil_append])
  (((refine goR0 _ _ _ _ _ _ _ _ ?_ ?_ ?_ ?_ ?_ ?_ ?_ ?_) <;> (repeat intro hb) <;> first | exact True.intro | refine Lf.mk ?_))
  congr 2
  simp [soundB, Bool.and_assoc]
  rw [show decide ((d.b.length : Int) ≤ 100000) = decide (d.b.length ≤ 100000) from decide_eq_decide.2 (by omega)]

set_option maxRecDepth 100000 in
set_option maxHeartbeats 400000 in
theorem bclone_nil (c : Nat) : TC Tryd.prog 62 [.imm (.slice none 0 c)] [] (fun v σ' => v = .imm (.slice none 0 0) ∧ σ' = []) := by
  (refine TC_of_T Γ_ok Tryd.func62 rfl (by kernel_rfl) ?_; simp only [Tryd.ntmps62, Tryd.results62, List.length_cons, List.length_nil, Nat.reduceSub, Nat.reduceAdd, List.replicate, List.cons_append, List.nil_append])
  (((refine goR0 _ _ _ _ _ _ _ _ ?_ ?_ ?_ ?_ ?_ ?_ ?_ ?_) <;> (repeat intro hb) <;> first | exact True.intro | refine Lf.mk ?_))
  all_goals simp
set_option maxRecDepth 100000 in
set_option maxHeartbeats 400000 in
theorem bclone_emp (a : Addr) (c : Nat) : TC Tryd.prog 62 [.imm (.slice (some a) 0 c)] [] (fun v σ' => ∃ o g, v = .own 1 0 0 none ∧ σ' = [o, .arr 5 1 0 g]) := by
  (refine TC_of_T Γ_ok Tryd.func62 rfl (by kernel_rfl) ?_; simp only [Tryd.ntmps62, Tryd.results62, List.length_cons, List.length_nil, Nat.reduceSub, Nat.reduceAdd, List.replicate, List.cons_append, List.nil_append])
  (((refine goR0 _ _ _ _ _ _ _ _ ?_ ?_ ?_ ?_ ?_ ?_ ?_ ?_) <;> (repeat intro hb) <;> first | exact True.intro | refine Lf.mk ?_))
  all_goals exact ⟨_, _, rfl⟩
set_option maxRecDepth 100000 in
set_option maxHeartbeats 400000 in
theorem bclone_pos (n : Nat) (E : Nat → Nat → AV) (hl : n ≤ 1000000000) (h0 : 0 < n) : TC Tryd.prog 62 [.view n 1 E] [] (fun v σ' => ∃ o, v = .own 1 0 n none ∧ σ' = [o, .arr 5 1 n E]) := by
  (refine TC_of_T Γ_ok Tryd.func62 rfl (by kernel_rfl) ?_; simp only [Tryd.ntmps62, Tryd.results62, List.length_cons, List.length_nil, Nat.reduceSub, Nat.reduceAdd, List.replicate, List.cons_append, List.nil_append])
  (((refine goR0 _ _ _ _ _ _ _ _ ?_ ?_ ?_ ?_ ?_ ?_ ?_ ?_) <;> (repeat intro hb) <;> first | exact True.intro | refine Lf.mk ?_))
  all_goals exact ⟨_, rfl⟩
theorem bclone_tc (l : List Nat) (hl : l.length ≤ 1000000000) : Makes Tryd.prog 62 [bys l] (ownB l) [byO l] := by
  refine Makes.lst1J (byE_pl l) (TC_view_cases (us1 := []) (us2 := []) (fun h0 a c => ?_) (fun h0 c => ?_) (fun h0 => ?_))
  · exact (bclone_emp a c).mono fun v σ' ⟨o, g, hv, hs⟩ => .inr ⟨1, g, by rw [hv, h0], by rw [hs, h0]; rfl, fun i j hi _ => by omega⟩
  · exact (bclone_nil c).mono fun v σ' ⟨hv, hs⟩ => .inl ⟨hv, h0⟩
  · exact (bclone_pos l.length (byE l) hl h0).mono fun v σ' ⟨o, hv, hs⟩ => .inr ⟨1, _, hv, by rw [hs]; rfl, fun _ _ _ _ => rfl⟩
end Go.Proofs.YtnomenmakhielaaDoor
