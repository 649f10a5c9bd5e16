/-
 Parts joined: F1 F2 F3.
-/
import Derived.Test.YtonmienclploaaaGreatDoorQGo3
import Derived.Test.YtonmienclploaaaGreatDoorQU6
import Derived.Test.YtonmienclploaaaGreatDoorQGo
set_option linter.unusedSimpArgs false
set_option linter.unusedVariables false
namespace Go.Proofs.YtonmienclploaaaGreatDoor
open Go.Ab
def zP : P6 := ⟨0, 0, 0, 0, 0, 0⟩
def mulP (p q : P6) : P6 × Int := if pOk p = true ∧ pOk q = true then (if pOk (p.add q) = true then (p.add q,0) else (zP,3)) else (zP,1)
def divP (p q : P6) : P6 × Int := if pOk p = true ∧ pOk q = true then (if pOk (p.sub q) = true then (p.sub q,0) else (zP,3)) else (zP,1)
theorem sub_is (p q : P6) : p.sub q = ⟨p.a + -q.a, p.b + -q.b, p.c + -q.c, p.d + -q.d, p.e + -q.e, p.f + -q.f⟩ := by
 simp only [P6.sub, P6.map2, Int.sub_eq_add_neg]
theorem pOk_iff {p : P6} : pOk p = true ↔ (-576 ≤ p.a ∧ p.a ≤ 576) ∧ (-576 ≤ p.b ∧ p.b ≤ 576) ∧ (-576 ≤ p.c ∧ p.c ≤ 576) ∧ (-576 ≤ p.d ∧ p.d ≤ 576) ∧ (-576 ≤ p.e ∧ p.e ≤ 576) ∧ (-576 ≤ p.f ∧ p.f ≤ 576) := by
 unfold pOk P6.all inB
 simp only [Bool.and_eq_true, decide_eq_true_eq]
 omega
set_option maxRecDepth 100000 in
set_option maxHeartbeats 4000000 in
theorem comb1_tc (p q : P6) : Look Tryz.prog 103 [p6A p,p6A q,.imm (.int .i64 1)] (.tup [p6A (mulP p q).1,.imm (.int .i64 (mulP p q).2)]) := by
 refine Look.mk (by simp [Pl, PlL]) ?_
 have c1 := valid_p p
 have c2 := valid_p q
 generalize hR : mulP p q = R
 unfold mulP at hR
 have m1 : ∀ x : Int, 1 * x = x := Int.one_mul
 by_cases hpq : pOk p = true ∧ pOk q = true
 ·have hp := pOk_iff.1 hpq.1
  have hq := pOk_iff.1 hpq.2
  rw [hpq.1] at c1
  rw [hpq.2] at c2
  rw [if_pos hpq] at hR
  have c3 := valid_p (p.add q)
  by_cases hs : pOk (p.add q) = true
  ·rw [if_pos hs] at hR
   rw [hs] at c3
   simp only [P6.add, P6.map2] at c3 hR
   subst hR
   (refine TC_of_T Γ_ok Tryz.func103 rfl (by kernel_rfl) ?_;simp only [Tryz.ntmps103,Tryz.results103,List.length_cons,List.length_nil,Nat.reduceSub,Nat.reduceAdd,List.replicate,List.cons_append,List.nil_append])
   (have dl1 := c1;have dl2 := c2;have sx1:=sx0;((refine goU1 _ _ _ _ _ _ _ _ _ _ _ _ ?_ ?_ ?_ ?_ ?_ ?_ ?_ ?_ ?_ ?_ ?_ ?_)<;>(repeat intro hb)<;>first|exact True.intro|refine Lf.mk ?_))
   refine T_rounds 7 ?_
   (have dl1 := c3;have sx1 := m1;((refine goU1 _ _ _ _ _ _ _ _ _ _ _ _ ?_ ?_ ?_ ?_ ?_ ?_ ?_ ?_ ?_ ?_ ?_ ?_)<;>(repeat intro hb)<;>first|exact True.intro|refine Lf.mk ?_))
  ·rw [if_neg hs] at hR
   rw [Bool.not_eq_true] at hs
   rw [hs] at c3
   simp only [P6.add, P6.map2] at c3 hR
   subst hR
   simp only [zP]
   (refine TC_of_T Γ_ok Tryz.func103 rfl (by kernel_rfl) ?_;simp only [Tryz.ntmps103,Tryz.results103,List.length_cons,List.length_nil,Nat.reduceSub,Nat.reduceAdd,List.replicate,List.cons_append,List.nil_append])
   (have dl1 := c1;have dl2 := c2;have sx1:=sx0;((refine goU1 _ _ _ _ _ _ _ _ _ _ _ _ ?_ ?_ ?_ ?_ ?_ ?_ ?_ ?_ ?_ ?_ ?_ ?_)<;>(repeat intro hb)<;>first|exact True.intro|refine Lf.mk ?_))
   refine T_rounds 7 ?_
   (have dl1 := c3;have sx1 := m1;((refine goU1 _ _ _ _ _ _ _ _ _ _ _ _ ?_ ?_ ?_ ?_ ?_ ?_ ?_ ?_ ?_ ?_ ?_ ?_)<;>(repeat intro hb)<;>first|exact True.intro|refine Lf.mk ?_))
 ·rw [if_neg hpq] at hR
  subst hR
  simp only [zP]
  (refine TC_of_T Γ_ok Tryz.func103 rfl (by kernel_rfl) ?_;simp only [Tryz.ntmps103,Tryz.results103,List.length_cons,List.length_nil,Nat.reduceSub,Nat.reduceAdd,List.replicate,List.cons_append,List.nil_append])
  (have dl1 := c1;have dl2 := c2;have sx1:=sx0;((refine goU1 _ _ _ _ _ _ _ _ _ _ _ _ ?_ ?_ ?_ ?_ ?_ ?_ ?_ ?_ ?_ ?_ ?_ ?_)<;>(repeat intro hb)<;>first|exact True.intro|refine Lf.mk ?_))
  exact absurd hb hpq
set_option maxRecDepth 100000 in
set_option maxHeartbeats 4000000 in
theorem comb2_tc (p q : P6) : Look Tryz.prog 103 [p6A p,p6A q,.imm (.int .i64 (-1))] (.tup [p6A (divP p q).1,.imm (.int .i64 (divP p q).2)]) := by
 refine Look.mk (by simp [Pl, PlL]) ?_
 have c1 := valid_p p
 have c2 := valid_p q
 generalize hR : divP p q = R
 unfold divP at hR
 rw [sub_is] at hR
 have m1 : ∀ x : Int, -1 * x = -x := fun x => by omega
 by_cases hpq : pOk p = true ∧ pOk q = true
 ·have hp := pOk_iff.1 hpq.1
  have hq := pOk_iff.1 hpq.2
  rw [hpq.1] at c1
  rw [hpq.2] at c2
  rw [if_pos hpq] at hR
  have c3 := valid_p ⟨p.a + -q.a, p.b + -q.b, p.c + -q.c, p.d + -q.d, p.e + -q.e, p.f + -q.f⟩
  by_cases hs : pOk ⟨p.a + -q.a, p.b + -q.b, p.c + -q.c, p.d + -q.d, p.e + -q.e, p.f + -q.f⟩ = true
  ·rw [if_pos hs] at hR
   rw [hs] at c3
   subst hR
   (refine TC_of_T Γ_ok Tryz.func103 rfl (by kernel_rfl) ?_;simp only [Tryz.ntmps103,Tryz.results103,List.length_cons,List.length_nil,Nat.reduceSub,Nat.reduceAdd,List.replicate,List.cons_append,List.nil_append])
   (have dl1 := c1;have dl2 := c2;have sx1:=sx0;((refine goU1 _ _ _ _ _ _ _ _ _ _ _ _ ?_ ?_ ?_ ?_ ?_ ?_ ?_ ?_ ?_ ?_ ?_ ?_)<;>(repeat intro hb)<;>first|exact True.intro|refine Lf.mk ?_))
   refine T_rounds 7 ?_
   (have dl1 := c3;have sx1 := m1;((refine goU1 _ _ _ _ _ _ _ _ _ _ _ _ ?_ ?_ ?_ ?_ ?_ ?_ ?_ ?_ ?_ ?_ ?_ ?_)<;>(repeat intro hb)<;>first|exact True.intro|refine Lf.mk ?_))
  ·rw [if_neg hs] at hR
   rw [Bool.not_eq_true] at hs
   rw [hs] at c3
   subst hR
   simp only [zP]
   (refine TC_of_T Γ_ok Tryz.func103 rfl (by kernel_rfl) ?_;simp only [Tryz.ntmps103,Tryz.results103,List.length_cons,List.length_nil,Nat.reduceSub,Nat.reduceAdd,List.replicate,List.cons_append,List.nil_append])
   (have dl1 := c1;have dl2 := c2;have sx1:=sx0;((refine goU1 _ _ _ _ _ _ _ _ _ _ _ _ ?_ ?_ ?_ ?_ ?_ ?_ ?_ ?_ ?_ ?_ ?_ ?_)<;>(repeat intro hb)<;>first|exact True.intro|refine Lf.mk ?_))
   refine T_rounds 7 ?_
   (have dl1 := c3;have sx1 := m1;((refine goU1 _ _ _ _ _ _ _ _ _ _ _ _ ?_ ?_ ?_ ?_ ?_ ?_ ?_ ?_ ?_ ?_ ?_ ?_)<;>(repeat intro hb)<;>first|exact True.intro|refine Lf.mk ?_))
 ·rw [if_neg hpq] at hR
  subst hR
  simp only [zP]
  (refine TC_of_T Γ_ok Tryz.func103 rfl (by kernel_rfl) ?_;simp only [Tryz.ntmps103,Tryz.results103,List.length_cons,List.length_nil,Nat.reduceSub,Nat.reduceAdd,List.replicate,List.cons_append,List.nil_append])
  (have dl1 := c1;have dl2 := c2;have sx1:=sx0;((refine goU1 _ _ _ _ _ _ _ _ _ _ _ _ ?_ ?_ ?_ ?_ ?_ ?_ ?_ ?_ ?_ ?_ ?_ ?_)<;>(repeat intro hb)<;>first|exact True.intro|refine Lf.mk ?_))
  exact absurd hb hpq
set_option maxRecDepth 100000 in
set_option maxHeartbeats 4000000 in
theorem pmul_tc (p q : P6) : Look Tryz.prog 69 [p6A p,p6A q] (.tup [p6A (mulP p q).1,.imm (.int .i64 (mulP p q).2)]) := by
 refine Look.mk (by simp [Pl, PlL]) ?_
 have c1 := comb1_tc p q
 generalize mulP p q = R at *
 (refine TC_of_T Γ_ok Tryz.func69 rfl (by kernel_rfl) ?_;simp only [Tryz.ntmps69,Tryz.results69,List.length_cons,List.length_nil,Nat.reduceSub,Nat.reduceAdd,List.replicate,List.cons_append,List.nil_append])
 (have dl1 := c1;have sx1:=sx0;((refine goU1 _ _ _ _ _ _ _ _ _ _ _ _ ?_ ?_ ?_ ?_ ?_ ?_ ?_ ?_ ?_ ?_ ?_ ?_)<;>(repeat intro hb)<;>first|exact True.intro|refine Lf.mk ?_))
set_option maxRecDepth 100000 in
set_option maxHeartbeats 4000000 in
theorem pdiv_tc (p q : P6) : Look Tryz.prog 185 [p6A p,p6A q] (.tup [p6A (divP p q).1,.imm (.int .i64 (divP p q).2)]) := by
 refine Look.mk (by simp [Pl, PlL]) ?_
 have c1 := comb2_tc p q
 generalize divP p q = R at *
 (refine TC_of_T Γ_ok Tryz.func185 rfl (by kernel_rfl) ?_;simp only [Tryz.ntmps185,Tryz.results185,List.length_cons,List.length_nil,Nat.reduceSub,Nat.reduceAdd,List.replicate,List.cons_append,List.nil_append])
 (have dl1 := c1;have sx1:=sx0;((refine goU1 _ _ _ _ _ _ _ _ _ _ _ _ ?_ ?_ ?_ ?_ ?_ ?_ ?_ ?_ ?_ ?_ ?_ ?_)<;>(repeat intro hb)<;>first|exact True.intro|refine Lf.mk ?_))
end Go.Proofs.YtonmienclploaaaGreatDoor
namespace Go.Proofs.YtonmienclploaaaGreatDoor
open Go.Ab
structure Nk where
 op : List P6
 fr : List P6
 span : Int
 tol : Int
@[go_sem, reducible] def nkL (n : Nk) : List AV := [vts n.op, vts n.fr, .imm (.int .i64 n.span), .imm (.int .i64 n.tol)]
@[go_sem, reducible] def nkA (n : Nk) : AV := .agg (nkL n)
def frP (l : List P6) (i : Nat) : P6 := if 0 < i then gV l (i - 1) else zP
def frBad (l : List P6) (i : Nat) : Bool := !(decide ((cmR (gV l i) (frP l i)).2 = 0) && decide (0 < (cmR (gV l i) (frP l i)).1))
def wdB (q p : P6) : Bool := !(decide ((mulP q p).2 = 0))
def opBad (n : Nk) (i : Nat) : Bool := !(pOk (gV n.op i)) || anyV (wdB (gV n.op i)) n.fr
def nkS (n : Nk) : Bool := decide (0 < n.op.length) && decide (n.op.length ≤ 8) && decide (n.fr.length ≤ 36) && decide (0 ≤ n.span) && decide (n.span ≤ 36) && decide (0 ≤ n.tol) && decide (n.tol ≤ 50000)
def nkB (n : Nk) : Bool := nkS n && (decide (fstF (frBad n.fr) 0 n.fr.length = n.fr.length) && decide (fstF (opBad n) 0 n.op.length = n.op.length))
theorem nkS_iff {n : Nk} : nkS n = true ↔ 0 < n.op.length ∧ n.op.length ≤ 8 ∧ n.fr.length ≤ 36 ∧ 0 ≤ n.span ∧ n.span ≤ 36 ∧ 0 ≤ n.tol ∧ n.tol ≤ 50000 := by
 unfold nkS
 simp only [Bool.and_eq_true, decide_eq_true_eq]
 omega
@[go_sem, reducible] def wdF (q : P6) : AV := .fn (.func 101) [] [.rptr 6 (nth (p6L q))]
set_option maxRecDepth 100000 in
set_option maxHeartbeats 4000000 in
theorem wide_tc (q p : P6) : Look Tryz.prog 101 [p6A p, .rptr 6 (nth (p6L q))] (.imm (.bool (wdB q p))) := by
 have h := pmul_tc q p
 unfold wdB
 generalize (mulP q p).1 = a at h
 generalize (mulP q p).2 = e at h ⊢
 refine Look.mk trivial ?_
 (refine TC_of_T Γ_ok Tryz.func101 rfl (by kernel_rfl) ?_;simp only [Tryz.ntmps101,Tryz.results101,List.length_cons,List.length_nil,Nat.reduceSub,Nat.reduceAdd,List.replicate,List.cons_append,List.nil_append])
 (have cl1 := h;((refine goR0 _ _ _ _ _ _ _ _ ?_ ?_ ?_ ?_ ?_ ?_ ?_ ?_)<;>(repeat intro hb)<;>first|exact True.intro|refine Lf.mk ?_))
 all_goals (congr 2; try grind)
set_option maxRecDepth 100000 in
set_option maxHeartbeats 4000000 in
theorem idxW_tc (q : P6) (l : List P6) (hl : l.length ≤ 1000000) :
  Look Tryz.prog 121 [vts l,wdF q] (.imm (.int .i64 (if fstF (fun i => wdB q (gV l i)) 0 l.length < l.length then (fstF (fun i => wdB q (gV l i)) 0 l.length : Int) else -1))) := by
 refine Look.mk trivial ?_
 generalize hr : fstF (fun i => wdB q (gV l i)) 0 l.length = r
 (refine TC_of_T Γ_ok Tryz.func121 rfl (by kernel_rfl) ?_;simp only [Tryz.ntmps121,Tryz.results121,List.length_cons,List.length_nil,Nat.reduceSub,Nat.reduceAdd,List.replicate,List.cons_append,List.nil_append])
 (((refine goR0 _ _ _ _ _ _ _ _ ?_ ?_ ?_ ?_ ?_ ?_ ?_ ?_)<;>(repeat intro hb)<;>first|exact True.intro|refine Lf.mk ?_))
 refine T_loopW (fun m st=>∃ i : Nat,i ≤ l.length ∧ m + i = l.length ∧ fstF (fun i=>wdB q (gV l i)) i (l.length - i) = r ∧ st = ⟨[vts l,wdF q,.top,.top,.imm (.int .i64 0),.top,vts l,.imm (.int .i64 l.length),.imm (.int .i64 i)] ++ List.replicate 10 .top,[]⟩)
  l.length ⟨_, ?_, 0, by omega, rfl, hr, rfl⟩ ?_
 ·((try refine sgl ?_);exact wkI [])
 rintro m st ⟨i, g0, g1, g2, rfl⟩
 refine sgo ?_
 by_cases hi : i < l.length
 ·have h1 := wide_tc q (gV l i)
  cases hg : wdB q (gV l i) with
  | true =>
   rw [hg] at h1
   rw [fstF_yes hg (by omega)] at g2
   subst g2
   (have cl1 := h1;((refine goR0 _ _ _ _ _ _ _ _ ?_ ?_ ?_ ?_ ?_ ?_ ?_ ?_)<;>(repeat intro hb)<;>first|exact True.intro|refine Lf.mk ?_))
   rw [if_pos hi] at *
  | false =>
   rw [hg] at h1
   rw [show l.length - i = l.length - (i + 1) + 1 by omega, fstF_no hg] at g2
   (have cl1 := h1;((refine goR0 _ _ _ _ _ _ _ _ ?_ ?_ ?_ ?_ ?_ ?_ ?_ ?_)<;>(repeat intro hb)<;>first|exact True.intro|refine Lf.mk ?_))
   refine ⟨l.length - (i + 1), by omega, _, ?_, i + 1, by omega, by omega, g2, rfl⟩
   ((try refine sgl ?_);exact wkI [])
 ·have : r = l.length := by
   rw [show l.length - i = 0 by omega, fstF] at g2
   omega
  (((refine goR0 _ _ _ _ _ _ _ _ ?_ ?_ ?_ ?_ ?_ ?_ ?_ ?_)<;>(repeat intro hb)<;>first|exact True.intro|refine Lf.mk ?_))
  rw [if_neg (by omega)]
set_option maxRecDepth 100000 in
set_option maxHeartbeats 4000000 in
theorem anyW_tc (q : P6) (l : List P6) (hl : l.length ≤ 1000000) : Look Tryz.prog 102 [vts l,wdF q] (.imm (.bool (anyV (wdB q) l))) := by
 have h := idxW_tc q l hl
 unfold anyV
 generalize fstF (fun i => wdB q (gV l i)) 0 l.length = r at h ⊢
 refine Look.mk trivial ?_
 by_cases hr : r < l.length
 ·rw [if_pos hr] at h
  rw [decide_eq_true hr]
  (refine TC_of_T Γ_ok Tryz.func102 rfl (by kernel_rfl) ?_;simp only [Tryz.ntmps102,Tryz.results102,List.length_cons,List.length_nil,Nat.reduceSub,Nat.reduceAdd,List.replicate,List.cons_append,List.nil_append])
  (have cl1 := h;((refine goR0 _ _ _ _ _ _ _ _ ?_ ?_ ?_ ?_ ?_ ?_ ?_ ?_)<;>(repeat intro hb)<;>first|exact True.intro|refine Lf.mk ?_))
  simp
 ·rw [if_neg hr] at h
  rw [decide_eq_false hr]
  (refine TC_of_T Γ_ok Tryz.func102 rfl (by kernel_rfl) ?_;simp only [Tryz.ntmps102,Tryz.results102,List.length_cons,List.length_nil,Nat.reduceSub,Nat.reduceAdd,List.replicate,List.cons_append,List.nil_append])
  (have cl1 := h;((refine goR0 _ _ _ _ _ _ _ _ ?_ ?_ ?_ ?_ ?_ ?_ ?_ ?_)<;>(repeat intro hb)<;>first|exact True.intro|refine Lf.mk ?_))
  simp
end Go.Proofs.YtonmienclploaaaGreatDoor
namespace Go.Proofs.YtonmienclploaaaGreatDoor
open Go.Ab
set_option maxRecDepth 100000 in
set_option maxHeartbeats 4000000 in
theorem fvalid_tc (n : Nk) (h1 : n.op.length ≤ 9223372036854775807) (h2 : n.fr.length ≤ 1000000) : Look Tryz.prog 67 [nkA n] (.imm (.bool (nkB n))) := by
 refine Look.mk trivial ?_
 unfold nkB
 by_cases hs : nkS n = true
 ·have hk := nkS_iff.1 hs
  rw [hs, Bool.true_and]
  generalize hr : fstF (frBad n.fr) 0 n.fr.length = r
  have d1 : ((n.op.length : Int) == 0) = false := beq_eq_false_iff_ne.2 (by omega)
  have d2 : decide ((n.op.length : Int) > 8) = false := decide_eq_false (by omega)
  have d3 : decide ((n.fr.length : Int) > 36) = false := decide_eq_false (by omega)
  have d4 : decide (n.span < 0) = false := decide_eq_false (by omega)
  have d5 : decide (n.span > 36) = false := decide_eq_false (by omega)
  have d6 : decide (n.tol < 0) = false := decide_eq_false (by omega)
  have d7 : decide (n.tol > 50000) = false := decide_eq_false (by omega)
  (refine TC_of_T Γ_ok Tryz.func67 rfl (by kernel_rfl) ?_;simp only [Tryz.ntmps67,Tryz.results67,List.length_cons,List.length_nil,Nat.reduceSub,Nat.reduceAdd,List.replicate,List.cons_append,List.nil_append])
  (have sx1 := d1;have sx2 := d2;have sx3 := d3;have sx4 := d4;have sx5 := d5;have sx6 := d6;have sx7 := d7;obtain ⟨sx8,sx9⟩:=sx0_2;((refine goR9 _ _ _ _ _ _ _ _ ?_ ?_ ?_ ?_ ?_ ?_ ?_ ?_)<;>(repeat intro hb)<;>first|exact True.intro|refine Lf.mk ?_))
  refine T_loopW (fun m st=>∃ i : Nat,i ≤ n.fr.length ∧ m + i = n.fr.length ∧ fstF (frBad n.fr) i (n.fr.length - i) = r ∧ st = ⟨[.top,.optr 0 0 0] ++ List.replicate 46 .top ++ [vts n.fr,.imm (.int .i64 n.fr.length),.imm (.int .i64 i)] ++ List.replicate 43 .top,[.box 52 (nkL n)]⟩)
   n.fr.length ⟨_, ?_, 0, by omega, rfl, hr, rfl⟩ ?_
  ·((try refine sgl ?_);exact wkI [0])
  rintro m st ⟨i, g0, g1, g2, rfl⟩
  by_cases hi : i < n.fr.length
  ·have c := pcmp_v (gV n.fr i) (frP n.fr i)
   have hbd : frBad n.fr i = !(decide ((cmR (gV n.fr i) (frP n.fr i)).2 = 0) && decide (0 < (cmR (gV n.fr i) (frP n.fr i)).1)) := rfl
   generalize (cmR (gV n.fr i) (frP n.fr i)).1 = ca at c hbd
   generalize (cmR (gV n.fr i) (frP n.fr i)).2 = ce at c hbd
   by_cases h0 : 0 < i
   ·unfold frP at c
    rw [if_pos h0] at c
    have e0 : decide ((i : Int) > 0) = true := decide_eq_true (by omega)
    refine sgo ?_
    (have cl1 := c;have sx1 := e0;have sx2:=sx0;((obtain ⟨sx3,sx4,sx5,sx6,sx7,sx8,sx9⟩:=sx0_7;refine goR9 _ _ _ _ _ _ _ _ ?_ ?_ ?_ ?_ ?_ ?_ ?_ ?_)<;>(repeat intro hb)<;>first|exact True.intro|refine Lf.mk ?_))
    ·rw [fstF_yes (by rw [hbd]; simp; omega) (by omega)] at g2
     rw [decide_eq_false (show ¬ r = n.fr.length by omega), Bool.false_and]
    ·rw [show n.fr.length - i = n.fr.length - (i + 1) + 1 by omega, fstF_no (by rw [hbd]; simp; omega)] at g2
     refine ⟨n.fr.length - (i + 1), by omega, _, ?_, i + 1, by omega, by omega, g2, rfl⟩
     ((try refine sgl ?_);exact wkI [0])
   ·unfold frP at c
    rw [if_neg h0] at c
    have e0 : decide ((i : Int) > 0) = false := decide_eq_false (by omega)
    refine sgo ?_
    (have cl1 := c;have sx1 := e0;have sx2:=sx0;((obtain ⟨sx3,sx4,sx5,sx6,sx7,sx8,sx9⟩:=sx0_7;refine goR9 _ _ _ _ _ _ _ _ ?_ ?_ ?_ ?_ ?_ ?_ ?_ ?_)<;>(repeat intro hb)<;>first|exact True.intro|refine Lf.mk ?_))
    ·rw [fstF_yes (by rw [hbd]; simp; omega) (by omega)] at g2
     rw [decide_eq_false (show ¬ r = n.fr.length by omega), Bool.false_and]
    ·rw [show n.fr.length - i = n.fr.length - (i + 1) + 1 by omega, fstF_no (by rw [hbd]; simp; omega)] at g2
     refine ⟨n.fr.length - (i + 1), by omega, _, ?_, i + 1, by omega, by omega, g2, rfl⟩
     ((try refine sgl ?_);exact wkI [0])
  ·rw [show n.fr.length - i = 0 by omega, fstF] at g2
   rw [decide_eq_true (show r = n.fr.length by omega), Bool.true_and]
   clear hr g2
   generalize hr : fstF (opBad n) 0 n.op.length = r
   refine sgo ?_
   (((refine goR0 _ _ _ _ _ _ _ _ ?_ ?_ ?_ ?_ ?_ ?_ ?_ ?_)<;>(repeat intro hb)<;>first|exact True.intro|refine Lf.mk ?_))
   refine T_loopW (fun m st=>∃ i : Nat,i ≤ n.op.length ∧ m + i = n.op.length ∧ fstF (opBad n) i (n.op.length - i) = r ∧ st = ⟨[.top,.optr 0 0 0] ++ List.replicate 75 .top ++ [vts n.op,.imm (.int .i64 n.op.length),.imm (.int .i64 i)] ++ List.replicate 14 .top,[.box 52 (nkL n)]⟩)
    n.op.length ⟨_, ?_, 0, by omega, rfl, hr, rfl⟩ ?_
   ·((try refine sgl ?_);exact wkI [0])
   rintro m st ⟨i, g0, g1, g2, rfl⟩
   by_cases hi : i < n.op.length
   ·have c1 := valid_p (gV n.op i)
    have c2 := anyW_tc (gV n.op i) n.fr h2
    have hbd : opBad n i = (!(pOk (gV n.op i)) || anyV (wdB (gV n.op i)) n.fr) := rfl
    generalize pOk (gV n.op i) = a at c1 hbd
    generalize anyV (wdB (gV n.op i)) n.fr = b at c2 hbd
    refine sgo ?_
    (have cl1 := c1;have cl2 := c2;((refine goR0 _ _ _ _ _ _ _ _ ?_ ?_ ?_ ?_ ?_ ?_ ?_ ?_)<;>(repeat intro hb)<;>first|exact True.intro|refine Lf.mk ?_))
    ·rw [fstF_yes (by rw [hbd]; rcases hb with h | h <;> simp [h]) (by omega)] at g2
     rw [decide_eq_false (show ¬ r = n.op.length by omega)]
    ·rw [show n.op.length - i = n.op.length - (i + 1) + 1 by omega, fstF_no (by rw [hbd]; simp [hb])] at g2
     refine ⟨n.op.length - (i + 1), by omega, _, ?_, i + 1, by omega, by omega, g2, rfl⟩
     ((try refine sgl ?_);exact wkI [0])
   ·rw [show n.op.length - i = 0 by omega, fstF] at g2
    rw [decide_eq_true (show r = n.op.length by omega)]
    refine sgo ?_
    (((refine goR0 _ _ _ _ _ _ _ _ ?_ ?_ ?_ ?_ ?_ ?_ ?_ ?_)<;>(repeat intro hb)<;>first|exact True.intro|refine Lf.mk ?_))
 ·rw [Bool.not_eq_true] at hs
  rw [hs, Bool.false_and]
  have hq : ¬ (nkS n = true) := by rw [hs]; simp
  rw [nkS_iff] at hq
  (refine TC_of_T Γ_ok Tryz.func67 rfl (by kernel_rfl) ?_;simp only [Tryz.ntmps67,Tryz.results67,List.length_cons,List.length_nil,Nat.reduceSub,Nat.reduceAdd,List.replicate,List.cons_append,List.nil_append])
  (((refine goR0 _ _ _ _ _ _ _ _ ?_ ?_ ?_ ?_ ?_ ?_ ?_ ?_)<;>(repeat intro hb)<;>first|exact True.intro|refine Lf.mk ?_))
def exB (n : Nk) (s f : Int) : Bool := decide (0 ≤ s) && (decide (s < n.op.length) && (decide (0 ≤ f) && decide (f ≤ n.fr.length)))
@[go_sem, reducible] def ftA (s f : Int) : AV := .agg [.imm (.int .i64 s), .imm (.int .i64 f)]
set_option maxRecDepth 100000 in
set_option maxHeartbeats 4000000 in
theorem exists_tc (n : Nk) (s f : Int) (h1 : n.op.length ≤ 1000000) (h2 : n.fr.length ≤ 1000000) : Look Tryz.prog 68 [nkA n,ftA s f] (.imm (.bool (exB n s f))) := by
 refine Look.mk trivial ?_
 unfold exB
 (refine TC_of_T Γ_ok Tryz.func68 rfl (by kernel_rfl) ?_;simp only [Tryz.ntmps68,Tryz.results68,List.length_cons,List.length_nil,Nat.reduceSub,Nat.reduceAdd,List.replicate,List.cons_append,List.nil_append])
 (((refine goR0 _ _ _ _ _ _ _ _ ?_ ?_ ?_ ?_ ?_ ?_ ?_ ?_)<;>(repeat intro hb)<;>first|exact True.intro|refine Lf.mk ?_))
 all_goals (congr 2; try grind)
def sndF (n : Nk) (s f : Int) : P6 × Int := if nkB n = true ∧ exB n s f = true then (if f = 0 then (gV n.op s.toNat,0) else mulP (gV n.op s.toNat) (gV n.fr (f - 1).toNat)) else (zP,1)
set_option maxRecDepth 100000 in
set_option maxHeartbeats 4000000 in
theorem fsound_tc (n : Nk) (s f : Int) (h1 : n.op.length ≤ 1000000) (h2 : n.fr.length ≤ 1000000) : Look Tryz.prog 45 [nkA n,ftA s f] (.tup [p6A (sndF n s f).1,.imm (.int .i64 (sndF n s f).2)]) := by
 have c1 := fvalid_tc n (by omega) h2
 have c2 := exists_tc n s f h1 h2
 generalize hR : sndF n s f = R
 unfold sndF at hR
 refine Look.mk (by simp [Pl, PlL]) ?_
 by_cases h : nkB n = true ∧ exB n s f = true
 ·rw [if_pos h] at hR
  rw [h.1] at c1
  rw [h.2] at c2
  have hx := h.2
  unfold exB at hx
  simp only [Bool.and_eq_true, decide_eq_true_eq] at hx
  by_cases hf : f = 0
  ·rw [if_pos hf] at hR
   subst hR
   subst hf
   have e1 : (s == s) = true := by simp
   (refine TC_of_T Γ_ok Tryz.func45 rfl (by kernel_rfl) ?_;simp only [Tryz.ntmps45,Tryz.results45,List.length_cons,List.length_nil,Nat.reduceSub,Nat.reduceAdd,List.replicate,List.cons_append,List.nil_append])
   (have cl1 := c1;have cl2 := c2;have sx1 := e1;have sx2:=sx0;repeat' (first|with_reducible refine T_seq_drawT (id := 5) Γ_ok drawsAny pl45_5 (by kernel_rfl) (fun K hK=>?_)|with_reducible refine T_last_drawT (id := 5) Γ_ok drawsAny pl45_5 (by kernel_rfl) (fun K hK=>?_)|((obtain ⟨sx3,sx4,sx5,sx6,sx7,sx8,sx9⟩:=sx0_7;refine goR9 _ _ _ _ _ _ _ _ ?_ ?_ ?_ ?_ ?_ ?_ ?_ ?_)<;>(repeat intro hb)<;>first|exact True.intro|refine Lf.mk ?_)))
  ·rw [if_neg hf] at hR
   subst hR
   have e1 : (f == 0) = false := by simpa using hf
   have c3 := pmul_tc (gV n.op s.toNat) (gV n.fr (f - 1).toNat)
   generalize mulP (gV n.op s.toNat) (gV n.fr (f - 1).toNat) = R at *
   (refine TC_of_T Γ_ok Tryz.func45 rfl (by kernel_rfl) ?_;simp only [Tryz.ntmps45,Tryz.results45,List.length_cons,List.length_nil,Nat.reduceSub,Nat.reduceAdd,List.replicate,List.cons_append,List.nil_append])
   (have cl1 := c1;have cl2 := c2;have cl3 := c3;have sx1 := e1;have sx2:=sx0;repeat' (first|with_reducible refine T_seq_drawT (id := 5) Γ_ok drawsAny pl45_5 (by kernel_rfl) (fun K hK=>?_)|with_reducible refine T_last_drawT (id := 5) Γ_ok drawsAny pl45_5 (by kernel_rfl) (fun K hK=>?_)|((obtain ⟨sx3,sx4,sx5,sx6,sx7,sx8,sx9⟩:=sx0_7;refine goR9 _ _ _ _ _ _ _ _ ?_ ?_ ?_ ?_ ?_ ?_ ?_ ?_)<;>(repeat intro hb)<;>first|exact True.intro|refine Lf.mk ?_)))
 ·rw [if_neg h] at hR
  subst hR
  simp only [zP]
  (refine TC_of_T Γ_ok Tryz.func45 rfl (by kernel_rfl) ?_;simp only [Tryz.ntmps45,Tryz.results45,List.length_cons,List.length_nil,Nat.reduceSub,Nat.reduceAdd,List.replicate,List.cons_append,List.nil_append])
  (have cl1 := c1;have cl2 := c2;repeat' (first|with_reducible refine T_seq_drawT (id := 5) Γ_ok drawsAny pl45_5 (by kernel_rfl) (fun K hK=>?_)|with_reducible refine T_last_drawT (id := 5) Γ_ok drawsAny pl45_5 (by kernel_rfl) (fun K hK=>?_)|((refine goR0 _ _ _ _ _ _ _ _ ?_ ?_ ?_ ?_ ?_ ?_ ?_ ?_)<;>(repeat intro hb)<;>first|exact True.intro|refine Lf.mk ?_)))
  all_goals exact absurd (by assumption) h
end Go.Proofs.YtonmienclploaaaGreatDoor
