/-
 Parts joined: V8e V8f.
-/
import Derived.Test.YtonmienclploaaaGreatDoorQGo
import Derived.Test.YtonmienclploaaaGreatDoorQU6
set_option linter.unusedSimpArgs false
set_option linter.unusedVariables false
namespace Go.Proofs.YtonmienclploaaaGreatDoor
open Go.Ab
def ofdL (o : Og) (v : P6) (k : Nat) : List Int := ((o.ps.take k).filter (fun x => ohB o x v)).map (·.id)
theorem ofdL_s {o : Og} {v : P6} {k : Nat} (h : k < o.ps.length) : ofdL o v (k + 1) = ofdL o v k ++ (if ohB o (gP o.ps k) v = true then [(gP o.ps k).id] else []) := by
 unfold ofdL
 rw [List.take_add_one, List.getElem?_eq_getElem h, List.filter_append, List.map_append]
 have e : gP o.ps k = o.ps[k] := by simp [gP, h]
 rw [e]
 cases hq : ohB o o.ps[k] v <;> simp [List.filter, hq]
theorem ofdL_len (o : Og) (v : P6) (k : Nat) : (ofdL o v k).length ≤ k := by
 unfold ofdL
 rw [List.length_map]
 exact Nat.le_trans (List.length_filter_le _ _) (by simp; omega)
set_option maxRecDepth 100000 in
set_option maxHeartbeats 4000000 in
theorem ofind_raw (o : Og) (v : P6) (hl : o.ps.length ≤ 1000000) (h1 : ogB o = true) (h2 : vOk v = true) : TC Tryz.prog 168 [ogA o,p6A v] [] (fun u σ' => 
  (u = .tup [.imm (.slice none 0 0), .imm (.int .i64 0)] ∧ (ofdL o v o.ps.length).length = 0) ∨
  ∃ k E',u = .tup [.own k 0 (ofdL o v o.ps.length).length none,.imm (.int .i64 0)] ∧ nthO σ' k = .arr 3 1 (ofdL o v o.ps.length).length E' ∧ ∀ i j,i < (ofdL o v o.ps.length).length → j < 1 → E' i j = itE (ofdL o v o.ps.length) i j) := by
 have c1 := ovalid_tc o (by omega)
 have c2 := valid_v v
 rw [h1] at c1
 rw [h2] at c2
 (refine TC_of_T Γ_ok Tryz.func168 rfl (by kernel_rfl) ?_;simp only [Tryz.ntmps168,Tryz.results168,List.length_cons,List.length_nil,Nat.reduceSub,Nat.reduceAdd,List.replicate,List.cons_append,List.nil_append])
 (have cl1 := c1;have cl2 := c2;((refine goR0 _ _ _ _ _ _ _ _ ?_ ?_ ?_ ?_ ?_ ?_ ?_ ?_)<;>(repeat intro hb)<;>first|exact True.intro|refine Lf.mk ?_))
 refine T_loopW (fun m st=>∃ i : Nat,i ≤ o.ps.length ∧ m + i = o.ps.length ∧ st = ⟨[.top,.top,.optr 0 0 0,.optr 1 0 0,.top,.top,.own 2 0 (ofdL o v i).length none] ++ List.replicate 11 .top ++ [pps o.ps,.imm (.int .i64 o.ps.length),.imm (.int .i64 i)] ++ List.replicate 14 .top,[.box 49 (ogL o),.box 34 (p6L v),itO (ofdL o v i)]⟩)
  o.ps.length ⟨_, Wk.trans (Wk.push 3 1 (itE [])) ?_, 0, by omega, rfl, rfl⟩ ?_
 ·((try refine sgl ?_);exact wkI [0,1,2])
 rintro m st ⟨i, g0, g1, rfl⟩
 by_cases hi : i < o.ps.length
 ·have c3 := ohas_tc o (gP o.ps i) v
  have hs := ofdL_s (v := v) hi
  have hlen := ofdL_len o v i
  have hsn := fun p q => it_snoc (ofdL o v i) (gP o.ps i).id (i := p) (j := q)
  cases hq : ohB o (gP o.ps i) v with
  | true =>
   rw [hq] at c3
   rw [hq, if_pos rfl] at hs
   rw [← hs] at hsn
   have hl2 : (ofdL o v (i + 1)).length = (ofdL o v i).length + 1 := by rw [hs]; simp
   refine sgo ?_
   (have cl1 := c3;((refine goR0 _ _ _ _ _ _ _ _ ?_ ?_ ?_ ?_ ?_ ?_ ?_ ?_)<;>(repeat intro hb)<;>first|exact True.intro|refine Lf.mk ?_))
   refine ⟨o.ps.length - (i + 1), by omega, _, ?_, i + 1, by omega, by omega, rfl⟩
   rw [hl2]
   ((try refine sgl ?_);refine Wk.intro [0,1,5] (by decide) (by decide) wkH ?_ ?_ <;> repeat' (first|(exact WkV.eqF (hsn _ _ hi hj) (by simp))|refine WkVL.cons ?_ ?_|exact wkT|refine WkV.agg ?_|refine WkV.tup ?_|refine WkV.fn ?_ ?_|exact WkO.dead|exact WkO.raw|refine WkO.ghost ?_|exact WkO.mpE rfl trivial|refine WkO.box ?_ rfl|refine WkO.arr ?_|refine And.intro ?_ (And.intro aF ?_)|exact trivial|(intro i j hi hj)))
  | false =>
   rw [hq] at c3
   rw [hq, if_neg (by simp), List.append_nil] at hs
   refine sgo ?_
   (have cl1 := c3;((refine goR0 _ _ _ _ _ _ _ _ ?_ ?_ ?_ ?_ ?_ ?_ ?_ ?_)<;>(repeat intro hb)<;>first|exact True.intro|refine Lf.mk ?_))
   refine ⟨o.ps.length - (i + 1), by omega, _, ?_, i + 1, by omega, by omega, rfl⟩
   rw [hs]
   ((try refine sgl ?_);exact wkI [0,1,2])
 ·obtain rfl : i = o.ps.length := by omega
  refine sgo ?_
  (((refine goR0 _ _ _ _ _ _ _ _ ?_ ?_ ?_ ?_ ?_ ?_ ?_ ?_)<;>(repeat intro hb)<;>first|exact True.intro|refine Lf.mk ?_))
  exact .inr ⟨2, _, rfl, rfl, fun _ _ _ _ => rfl⟩
theorem ofind_tc (o : Og) (v : P6) (hl : o.ps.length ≤ 1000000) (h1 : ogB o = true) (h2 : vOk v = true) : Makes Tryz.prog 168 [ogA o,p6A v] (.tup [.own 0 0 (ofdL o v o.ps.length).length none,.imm (.int .i64 0)]) [itO (ofdL o v o.ps.length)] :=
 Makes.lstJ (itE_pl _) trivial (ofind_raw o v hl h1 h2)
end Go.Proofs.YtonmienclploaaaGreatDoor
namespace Go.Proofs.YtonmienclploaaaGreatDoor
open Go.Ab
theorem ogB_iff {o : Og} : ogB o = true ↔ (∀ i,i < o.ps.length → ppB o.ps i = true) ∧ o.ps.length ≤ 120 ∧ (0 ≤ o.sup ∧ o.sup ≤ 1000000) ∧ 0 ≤ o.tol ∧ o.tol ≤ 50000 := by
 unfold ogB
 simp only [Bool.and_eq_true, decide_eq_true_eq]
 refine and_congr ⟨fun h i hi => ?_, fun h => ?_⟩ Iff.rfl
 ·have := (fstF_spec (f := fun i => !ppB o.ps i) (d := o.ps.length) (i := 0)).2.2.1 i (by omega) (by omega)
  simpa using this
 ·have q := fstF_spec (f := fun i => !ppB o.ps i) (d := o.ps.length) (i := 0)
  by_cases e : fstF (fun i => !ppB o.ps i) 0 o.ps.length = o.ps.length
  ·exact e
  ·have := q.2.2.2 (by omega)
   rw [h _ (by omega)] at this
   cases this
def PpOk (x : Pp) : Prop := pOk x.p = true ∧ (0 ≤ x.wind ∧ x.wind ≤ 1000) ∧ (0 ≤ x.sag ∧ x.sag ≤ 100000000) ∧ 0 ≤ x.warm ∧ x.warm ≤ 100000000
theorem pp_ok {o : Og} (h : ogB o = true) {i : Nat} (hi : i < o.ps.length) : PpOk (gP o.ps i) := by
 obtain ⟨_, _, h3, h4, h5, h6⟩ := ppB_iff.1 ((ogB_iff.1 h).1 i hi)
 exact ⟨h3, h4, h5, h6⟩
theorem pip_ok {o : Og} (h : ogB o = true) (n : Int) : PpOk (pipR o.ps n).1 := by
 unfold pipR
 split
 ·rename_i hi; exact pp_ok h hi
 ·exact ⟨by decide, by decide, by decide, by decide⟩
def szB (lo hi : Int) : Bool := decide (-100000000000000 ≤ lo) && (decide (lo ≤ hi) && decide (hi ≤ 100000000000000))
set_option maxRecDepth 100000 in
set_option maxHeartbeats 4000000 in
theorem szvalid_tc (lo hi : Int) : Look Tryz.prog 66 [.agg [.imm (.int .i64 lo),.imm (.int .i64 hi)]] (.imm (.bool (szB lo hi))) := by
 refine Look.mk trivial ?_
 unfold szB
 (refine TC_of_T Γ_ok Tryz.func66 rfl (by kernel_rfl) ?_;simp only [Tryz.ntmps66,Tryz.results66,List.length_cons,List.length_nil,Nat.reduceSub,Nat.reduceAdd,List.replicate,List.cons_append,List.nil_append])
 (((refine goR0 _ _ _ _ _ _ _ _ ?_ ?_ ?_ ?_ ?_ ?_ ?_ ?_)<;>(repeat intro hb)<;>first|exact True.intro|refine Lf.mk ?_))
 all_goals (congr 2; try grind)
def witR (lo hi a b : Int) : Int × Int := if szB lo hi = true ∧ a ≤ b then (surelyI lo hi a b, 0) else (0, 1)
set_option maxRecDepth 100000 in
set_option maxHeartbeats 4000000 in
theorem within_sz (lo hi a b : Int) : Look Tryz.prog 44 [.agg [.imm (.int .i64 lo),.imm (.int .i64 hi)],.imm (.int .i64 a),.imm (.int .i64 b)] (.tup [.imm (.int .i64 (witR lo hi a b).1),.imm (.int .i64 (witR lo hi a b).2)]) := by
 have h1 := szvalid_tc lo hi
 have h2 := surely_tc lo hi a b
 unfold witR
 by_cases h : szB lo hi = true ∧ a ≤ b
 ·rw [if_pos h]
  rw [h.1] at h1
  have hq := h.2
  refine Look.mk (by simp [Pl, PlL]) ?_
  (refine TC_of_T Γ_ok Tryz.func44 rfl (by kernel_rfl) ?_;simp only [Tryz.ntmps44,Tryz.results44,List.length_cons,List.length_nil,Nat.reduceSub,Nat.reduceAdd,List.replicate,List.cons_append,List.nil_append])
  (have cl1 := h1;have cl2 := h2;((refine goR0 _ _ _ _ _ _ _ _ ?_ ?_ ?_ ?_ ?_ ?_ ?_ ?_)<;>(repeat intro hb)<;>first|exact True.intro|refine Lf.mk ?_))
 ·rw [if_neg h]
  refine Look.mk (by simp [Pl, PlL]) ?_
  (refine TC_of_T Γ_ok Tryz.func44 rfl (by kernel_rfl) ?_;simp only [Tryz.ntmps44,Tryz.results44,List.length_cons,List.length_nil,Nat.reduceSub,Nat.reduceAdd,List.replicate,List.cons_append,List.nil_append])
  (have cl1 := h1;have cl2 := h2;((refine goR0 _ _ _ _ _ _ _ _ ?_ ?_ ?_ ?_ ?_ ?_ ?_ ?_)<;>(repeat intro hb)<;>first|exact True.intro|refine Lf.mk ?_))
  all_goals (first | exact absurd hb h | exact absurd ⟨hb.1, hb.2⟩ h)
set_option maxRecDepth 100000 in
set_option maxHeartbeats 4000000 in
theorem moved_tc (lo hi n : Int) (h1 : -1000000000000000 ≤ lo ∧ lo ≤ 1000000000000000) (h2 : -1000000000000000 ≤ hi ∧ hi ≤ 1000000000000000) (h3 : -1000000000000000 ≤ n ∧ n ≤ 1000000000000000) : Look Tryz.prog 169 [.agg [.imm (.int .i64 lo),.imm (.int .i64 hi)],.imm (.int .i64 n)] (.agg [.imm (.int .i64 (lo + n)),.imm (.int .i64 (hi + n))]) := by
 refine Look.mk (by simp [Pl, PlL]) ?_
 (refine TC_of_T Γ_ok Tryz.func169 rfl (by kernel_rfl) ?_;simp only [Tryz.ntmps169,Tryz.results169,List.length_cons,List.length_nil,Nat.reduceSub,Nat.reduceAdd,List.replicate,List.cons_append,List.nil_append])
 (((refine goR0 _ _ _ _ _ _ _ _ ?_ ?_ ?_ ?_ ?_ ?_ ?_ ?_)<;>(repeat intro hb)<;>first|exact True.intro|refine Lf.mk ?_))
@[go_sem,reducible] def sdA (o : Og) (ids : List Int) (n : Int) : AV := .agg [pps o.ps,.imm (.int .i64 o.sup),.imm (.int .i64 o.tol),its ids,.imm (.int .i64 n)]
def shR (x : Pp) (n w : Int) : Int := x.warm * w - x.sag * n
set_option maxRecDepth 100000 in
set_option maxHeartbeats 4000000 in
theorem shift_tc (o : Og) (ids : List Int) (x : Pp) (n w : Int) (hx : PpOk x) (hn : 0 ≤ n ∧ n ≤ 1000000) (hw : -100 ≤ w ∧ w ≤ 100) : Look Tryz.prog 64 [sdA o ids n,ppA x,.imm (.int .i64 w)] (.imm (.int .i64 (shR x n w))) := by
 obtain ⟨_, _, h1, h2⟩ := hx
 have e1 : IntKind.i64.wrap (x.warm * w) = x.warm * w := by
  have a1 := Int.mul_le_mul_of_nonneg_left hw.2 h2.1
  have a2 := Int.mul_le_mul_of_nonneg_left hw.1 h2.1
  exact wrapI (by omega) (by omega)
 have e2 : IntKind.i64.wrap (x.sag * n) = x.sag * n := by
  have a1 := Int.mul_le_mul_of_nonneg_left hn.2 h1.1
  have a2 := Int.mul_nonneg h1.1 hn.1
  exact wrapI (by omega) (by omega)
 have e3 : IntKind.i64.wrap (x.warm * w - x.sag * n) = x.warm * w - x.sag * n := by
  have a1 := Int.mul_le_mul_of_nonneg_left hw.2 h2.1
  have a2 := Int.mul_le_mul_of_nonneg_left hw.1 h2.1
  have a3 := Int.mul_le_mul_of_nonneg_left hn.2 h1.1
  have a4 := Int.mul_nonneg h1.1 hn.1
  exact wrapI (by omega) (by omega)
 refine Look.mk trivial ?_
 unfold shR
 (refine TC_of_T Γ_ok Tryz.func64 rfl (by kernel_rfl) ?_;simp only [Tryz.ntmps64,Tryz.results64,List.length_cons,List.length_nil,Nat.reduceSub,Nat.reduceAdd,List.replicate,List.cons_append,List.nil_append])
 (have sx1 := e1;have sx2 := e2;have sx3 := e3;have sx4:=sx0;((obtain ⟨sx5,sx6,sx7,sx8,sx9⟩:=sx0_5;refine goR9 _ _ _ _ _ _ _ _ ?_ ?_ ?_ ?_ ?_ ?_ ?_ ?_)<;>(repeat intro hb)<;>first|exact True.intro|refine Lf.mk ?_))
def demK (l : List Pp) (ids : List Int) : Nat → Int
 | 0 => 0
 | k + 1 => demK l ids k + (if (pipR l (gL ids k)).2 = true then (pipR l (gL ids k)).1.wind else 0)
theorem demK_bd {o : Og} (h : ogB o = true) (ids : List Int) : ∀ k : Nat,0 ≤ demK o.ps ids k ∧ demK o.ps ids k ≤ 1000 * k
 | 0 => by simp [demK]
 | k + 1 => by
  have h1 := demK_bd h ids k
  have h2 := (pip_ok h (gL ids k)).2.1
  rw [demK]
  split <;> omega
def lacR (o : Og) (ids : List Int) : Int := if demK o.ps ids ids.length - o.sup > 0 then demK o.ps ids ids.length - o.sup else 0
end Go.Proofs.YtonmienclploaaaGreatDoor
