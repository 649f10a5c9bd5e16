/-
 Parts joined: V8a V8b V8c V8d.
-/
import Derived.Test.YtonmienclploaaaGreatDoorQGo
import Derived.Test.YtonmienclploaaaGreatDoorQU5
set_option linter.unusedSimpArgs false
set_option linter.unusedVariables false
namespace Go.Proofs.YtonmienclploaaaGreatDoor
open Go.Ab
structure Pp where
 id : Int
 p : P6
 wind : Int
 sag : Int
 warm : Int
structure Og where
 ps : List Pp
 sup : Int
 tol : Int
def pp0 : Pp := ⟨0, ⟨0, 0, 0, 0, 0, 0⟩, 0, 0, 0⟩
def gP (l : List Pp) (i : Nat) : Pp := l.getD i pp0
@[go_sem,reducible] def ppL (x : Pp) : List AV := [.imm (.int .i64 x.id),.imm (.int .i64 x.p.a),.imm (.int .i64 x.p.b),.imm (.int .i64 x.p.c),.imm (.int .i64 x.p.d),.imm (.int .i64 x.p.e),.imm (.int .i64 x.p.f),.imm (.int .i64 x.wind),.imm (.int .i64 x.sag),.imm (.int .i64 x.warm)]
def ppE (l : List Pp) (i j : Nat) : AV := nth (ppL (gP l i)) j
@[go_sem] theorem ppE_0 (l : List Pp) (i : Nat) : ppE l i 0 = .imm (.int .i64 (gP l i).id) := rfl
@[go_sem] theorem ppE_1 (l : List Pp) (i : Nat) : ppE l i 1 = .imm (.int .i64 (gP l i).p.a) := rfl
@[go_sem] theorem ppE_2 (l : List Pp) (i : Nat) : ppE l i 2 = .imm (.int .i64 (gP l i).p.b) := rfl
@[go_sem] theorem ppE_3 (l : List Pp) (i : Nat) : ppE l i 3 = .imm (.int .i64 (gP l i).p.c) := rfl
@[go_sem] theorem ppE_4 (l : List Pp) (i : Nat) : ppE l i 4 = .imm (.int .i64 (gP l i).p.d) := rfl
@[go_sem] theorem ppE_5 (l : List Pp) (i : Nat) : ppE l i 5 = .imm (.int .i64 (gP l i).p.e) := rfl
@[go_sem] theorem ppE_6 (l : List Pp) (i : Nat) : ppE l i 6 = .imm (.int .i64 (gP l i).p.f) := rfl
@[go_sem] theorem ppE_7 (l : List Pp) (i : Nat) : ppE l i 7 = .imm (.int .i64 (gP l i).wind) := rfl
@[go_sem] theorem ppE_8 (l : List Pp) (i : Nat) : ppE l i 8 = .imm (.int .i64 (gP l i).sag) := rfl
@[go_sem] theorem ppE_9 (l : List Pp) (i : Nat) : ppE l i 9 = .imm (.int .i64 (gP l i).warm) := rfl
theorem FreeL_pp (x : Pp) : FreeL (ppL x) := by simp [FreeL, Free]
@[simp] theorem ppE_free (l : List Pp) (i j : Nat) : Free (ppE l i j) := FreeL_nth (FreeL_pp _) _
@[go_sem, reducible] def pps (l : List Pp) : AV := .view l.length 10 (ppE l)
@[go_sem, reducible] def ogL (o : Og) : List AV := [pps o.ps, .imm (.int .i64 o.sup), .imm (.int .i64 o.tol)]
@[go_sem, reducible] def ogA (o : Og) : AV := .agg (ogL o)
set_option maxRecDepth 100000 in
set_option maxHeartbeats 4000000 in
theorem owithin_tc (n a b : Int) : Look Tryz.prog 119 [.imm (.int .i64 n),.imm (.int .i64 a),.imm (.int .i64 b)] (.imm (.bool (decide (a ≤ n) && decide (n ≤ b)))) := by
 refine Look.mk trivial ?_
 (refine TC_of_T Γ_ok Tryz.func119 rfl (by kernel_rfl) ?_;simp only [Tryz.ntmps119,Tryz.results119,List.length_cons,List.length_nil,Nat.reduceSub,Nat.reduceAdd,List.replicate,List.cons_append,List.nil_append])
 (((refine goR0 _ _ _ _ _ _ _ _ ?_ ?_ ?_ ?_ ?_ ?_ ?_ ?_)<;>(repeat intro hb)<;>first|exact True.intro|refine Lf.mk ?_))
 all_goals (congr 2; try grind)
set_option maxRecDepth 100000 in
set_option maxHeartbeats 4000000 in
theorem warmth_tc (n : Int) : Look Tryz.prog 97 [.imm (.int .i64 n)] (.imm (.bool (decide (-100 ≤ n) && decide (n ≤ 100)))) := by
 refine Look.mk trivial ?_
 (refine TC_of_T Γ_ok Tryz.func97 rfl (by kernel_rfl) ?_;simp only [Tryz.ntmps97,Tryz.results97,List.length_cons,List.length_nil,Nat.reduceSub,Nat.reduceAdd,List.replicate,List.cons_append,List.nil_append])
 (have cl1 := owithin_tc n (-100) 100;((refine goR0 _ _ _ _ _ _ _ _ ?_ ?_ ?_ ?_ ?_ ?_ ?_ ?_)<;>(repeat intro hb)<;>first|exact True.intro|refine Lf.mk ?_))
set_option maxRecDepth 100000 in
set_option maxHeartbeats 4000000 in
theorem equalI_tc (a b : List Int) (ha : a.length ≤ 1000000) (hb' : b.length ≤ 1000000) (h : a = b) : Look Tryz.prog 20 [its a,its b] (.imm (.bool true)) := by
 subst h
 refine Look.mk trivial ?_
 have d1 : ((a.length : Int) != a.length) = false := by simp
 have d2 : ∀ x : Int, (x != x) = false := fun x => by simp
 (refine TC_of_T Γ_ok Tryz.func20 rfl (by kernel_rfl) ?_;simp only [Tryz.ntmps20,Tryz.results20,List.length_cons,List.length_nil,Nat.reduceSub,Nat.reduceAdd,List.replicate,List.cons_append,List.nil_append])
 (have sx1 := d1;have sx2:=sx0;((obtain ⟨sx3,sx4,sx5,sx6,sx7,sx8,sx9⟩:=sx0_7;refine goR9 _ _ _ _ _ _ _ _ ?_ ?_ ?_ ?_ ?_ ?_ ?_ ?_)<;>(repeat intro hb)<;>first|exact True.intro|refine Lf.mk ?_))
 refine T_loopW (fun m st=>∃ i : Nat,i ≤ a.length ∧ m + i = a.length ∧ st = ⟨[its a,its a,.top,.top,.top] ++ List.replicate 6 .top ++ [its a,.imm (.int .i64 a.length),.imm (.int .i64 i)] ++ List.replicate 12 .top,[]⟩)
  a.length ⟨_, ?_, 0, by omega, rfl, rfl⟩ ?_
 ·((try refine sgl ?_);exact wkI [])
 rintro m st ⟨i, g0, g1, rfl⟩
 refine sgo ?_
 by_cases hi : i < a.length
 ·(have sx1 := d2;have sx2:=sx0;repeat' (first|with_reducible refine T_seq_drawT (id := 6) Γ_ok drawsAny pl20_6 (by kernel_rfl) (fun K hK=>?_)|with_reducible refine T_last_drawT (id := 6) Γ_ok drawsAny pl20_6 (by kernel_rfl) (fun K hK=>?_)|((obtain ⟨sx3,sx4,sx5,sx6,sx7,sx8,sx9⟩:=sx0_7;refine goR9 _ _ _ _ _ _ _ _ ?_ ?_ ?_ ?_ ?_ ?_ ?_ ?_)<;>(repeat intro hb)<;>first|exact True.intro|refine Lf.mk ?_)))
  refine ⟨a.length - (i + 1), by omega, _, ?_, i + 1, by omega, by omega, rfl⟩
  ((try refine sgl ?_);exact wkI [])
 ·(((refine goR0 _ _ _ _ _ _ _ _ ?_ ?_ ?_ ?_ ?_ ?_ ?_ ?_)<;>(repeat intro hb)<;>first|exact True.intro|refine Lf.mk ?_))
end Go.Proofs.YtonmienclploaaaGreatDoor
namespace Go.Proofs.YtonmienclploaaaGreatDoor
open Go.Ab
def idP (l : List Pp) : Nat → Int
 | 0 => 0
 | k + 1 => (gP l k).id
def ppB (l : List Pp) (i : Nat) : Bool := decide (idP l i < (gP l i).id) && (decide ((gP l i).id ≤ 1000) && (pOk (gP l i).p && ((decide (0 ≤ (gP l i).wind) && decide ((gP l i).wind ≤ 1000)) && ((decide (0 ≤ (gP l i).sag) && decide ((gP l i).sag ≤ 100000000)) && (decide (0 ≤ (gP l i).warm) && decide ((gP l i).warm ≤ 100000000))))))
def ogB (o : Og) : Bool := decide (fstF (fun i=>!ppB o.ps i) 0 o.ps.length = o.ps.length) && (decide (o.ps.length ≤ 120) && ((decide (0 ≤ o.sup) && decide (o.sup ≤ 1000000)) && (decide (0 ≤ o.tol) && decide (o.tol ≤ 50000))))
theorem ppB_iff {l : List Pp} {i : Nat} : ppB l i = true ↔ idP l i < (gP l i).id ∧ (gP l i).id ≤ 1000 ∧ pOk (gP l i).p = true ∧ (0 ≤ (gP l i).wind ∧ (gP l i).wind ≤ 1000) ∧ (0 ≤ (gP l i).sag ∧ (gP l i).sag ≤ 100000000) ∧ 0 ≤ (gP l i).warm ∧ (gP l i).warm ≤ 100000000 := by
 unfold ppB
 simp only [Bool.and_eq_true, decide_eq_true_eq]
set_option maxRecDepth 100000 in
set_option maxHeartbeats 4000000 in
theorem ovalid_tc (o : Og) (hl : o.ps.length ≤ 9223372036854775807) : Look Tryz.prog 96 [ogA o] (.imm (.bool (ogB o))) := by
 refine Look.mk trivial ?_
 unfold ogB
 generalize hr : fstF (fun i => !ppB o.ps i) 0 o.ps.length = r
 (refine TC_of_T Γ_ok Tryz.func96 rfl (by kernel_rfl) ?_;simp only [Tryz.ntmps96,Tryz.results96,List.length_cons,List.length_nil,Nat.reduceSub,Nat.reduceAdd,List.replicate,List.cons_append,List.nil_append])
 (((refine goR0 _ _ _ _ _ _ _ _ ?_ ?_ ?_ ?_ ?_ ?_ ?_ ?_)<;>(repeat intro hb)<;>first|exact True.intro|refine Lf.mk ?_))
 refine T_loopW (fun m st=>∃ i : Nat,i ≤ o.ps.length ∧ m + i = o.ps.length ∧ fstF (fun i=>!ppB o.ps i) i (o.ps.length - i) = r ∧ st = ⟨[.top,.optr 0 0 0,.top,.imm (.int .i64 (idP o.ps i)),.top,.top,.top,pps o.ps,.imm (.int .i64 o.ps.length),.imm (.int .i64 i)] ++ List.replicate 53 .top,[.box 49 (ogL o)]⟩)
  o.ps.length ⟨_, ?_, 0, by omega, rfl, hr, rfl⟩ ?_
 ·((try refine sgl ?_);exact wkI [0])
 rintro m st ⟨i, g0, g1, g2, rfl⟩
 have hid : idP o.ps (i + 1) = (gP o.ps i).id := rfl
 have hpb := ppB_iff (l := o.ps) (i := i)
 generalize idP o.ps i = il at hpb
 refine sgo ?_
 by_cases hi : i < o.ps.length
 ·have c1 := valid_p (gP o.ps i).p
  have c2 := owithin_tc (gP o.ps i).wind 0 1000
  have c3 := owithin_tc (gP o.ps i).sag 0 100000000
  have c4 := owithin_tc (gP o.ps i).warm 0 100000000
  (have cl1 := c1;have dl1 := c2;have dl2 := c3;have dl3 := c4;((refine goR0 _ _ _ _ _ _ _ _ ?_ ?_ ?_ ?_ ?_ ?_ ?_ ?_)<;>(repeat intro hb)<;>first|exact True.intro|refine Lf.mk ?_))
  ·have hpf : ppB o.ps i = false := by
    rw [Bool.eq_false_iff]
    intro h
    obtain ⟨q1, q2, q3, q4, q5, q6⟩ := hpb.1 h
    rw [q3] at hb
    rcases hb with ((((h | h) | h) | h) | h) | h <;> first | omega | cases h
   rw [fstF_yes (by rw [hpf]; rfl) (by omega)] at g2
   rw [decide_eq_false (show ¬ r = o.ps.length by omega), Bool.false_and]
  ·have hpt : ppB o.ps i = true := hpb.2 ⟨hb.1.1.1.1.1, hb.1.1.1.1.2, hb.1.1.1.2, hb.1.1.2, hb.1.2, hb.2⟩
   rw [show o.ps.length - i = o.ps.length - (i + 1) + 1 by omega, fstF_no (by rw [hpt]; rfl)] at g2
   refine ⟨o.ps.length - (i + 1), by omega, _, ?_, i + 1, by omega, by omega, g2, rfl⟩
   rw [hid]
   ((try refine sgl ?_);exact wkI [0])
 ·(have dl1 := owithin_tc o.sup 0 1000000;have dl2 := owithin_tc o.tol 0 50000;((refine goR0 _ _ _ _ _ _ _ _ ?_ ?_ ?_ ?_ ?_ ?_ ?_ ?_)<;>(repeat intro hb)<;>first|exact True.intro|refine Lf.mk ?_))
  rw [show o.ps.length - i = 0 by omega, fstF] at g2
  rw [decide_eq_true (show r = o.ps.length by omega), Bool.true_and, Bool.and_assoc]
  congr 3
  rw [decide_eq_decide]
  omega
end Go.Proofs.YtonmienclploaaaGreatDoor
namespace Go.Proofs.YtonmienclploaaaGreatDoor
open Go.Ab
@[go_sem, reducible] def ppA (x : Pp) : AV := .agg (ppL x)
def ohB (o : Og) (x : Pp) (v : P6) : Bool := decide ((nearI x.p (ofR v).1 o.tol).1 = 1)
set_option maxRecDepth 100000 in
set_option maxHeartbeats 4000000 in
theorem ohas_tc (o : Og) (x : Pp) (v : P6) : Look Tryz.prog 170 [ogA o, ppA x, p6A v] (.imm (.bool (ohB o x v))) := by
 have h0 := of_tc v
 unfold ohB
 generalize (ofR v).1 = q at h0 ⊢
 have h1 := near_tc x.p q o.tol
 generalize (nearI x.p q o.tol).1 = a at h1 ⊢
 refine Look.mk trivial ?_
 (refine TC_of_T Γ_ok Tryz.func170 rfl (by kernel_rfl) ?_;simp only [Tryz.ntmps170,Tryz.results170,List.length_cons,List.length_nil,Nat.reduceSub,Nat.reduceAdd,List.replicate,List.cons_append,List.nil_append])
 (have cl1 := h0;have cl2 := h1;((refine goR0 _ _ _ _ _ _ _ _ ?_ ?_ ?_ ?_ ?_ ?_ ?_ ?_)<;>(repeat intro hb)<;>first|exact True.intro|refine Lf.mk ?_))
 all_goals (congr 2; try grind)
@[go_sem, reducible] def idF (n : Int) : AV := .fn (.func 100) [] [.rptr 1 (nth [.imm (.int .i64 n)])]
set_option maxRecDepth 100000 in
set_option maxHeartbeats 4000000 in
theorem isid_tc (x : Pp) (n : Int) : Look Tryz.prog 100 [ppA x,.rptr 1 (nth [.imm (.int .i64 n)])] (.imm (.bool (x.id == n))) := by
 refine Look.mk trivial ?_
 (refine TC_of_T Γ_ok Tryz.func100 rfl (by kernel_rfl) ?_;simp only [Tryz.ntmps100,Tryz.results100,List.length_cons,List.length_nil,Nat.reduceSub,Nat.reduceAdd,List.replicate,List.cons_append,List.nil_append])
 (((refine goR0 _ _ _ _ _ _ _ _ ?_ ?_ ?_ ?_ ?_ ?_ ?_ ?_)<;>(repeat intro hb)<;>first|exact True.intro|refine Lf.mk ?_))
def ixP (l : List Pp) (n : Int) : Nat := fstF (fun i => (gP l i).id == n) 0 l.length
set_option maxRecDepth 100000 in
set_option maxHeartbeats 4000000 in
theorem idxP_tc (n : Int) (l : List Pp) (hl : l.length ≤ 9223372036854775807) :
  Look Tryz.prog 99 [pps l, idF n] (.imm (.int .i64 (if ixP l n < l.length then (ixP l n : Int) else -1))) := by
 refine Look.mk trivial ?_
 unfold ixP
 generalize hr : fstF (fun i => (gP l i).id == n) 0 l.length = r
 (refine TC_of_T Γ_ok Tryz.func99 rfl (by kernel_rfl) ?_;simp only [Tryz.ntmps99,Tryz.results99,List.length_cons,List.length_nil,Nat.reduceSub,Nat.reduceAdd,List.replicate,List.cons_append,List.nil_append])
 (((refine goR0 _ _ _ _ _ _ _ _ ?_ ?_ ?_ ?_ ?_ ?_ ?_ ?_)<;>(repeat intro hb)<;>first|exact True.intro|refine Lf.mk ?_))
 refine T_loopW (fun m st=>∃ i : Nat,i ≤ l.length ∧ m + i = l.length ∧ fstF (fun i=>(gP l i).id == n) i (l.length - i) = r ∧ st = ⟨[pps l,idF n,.top,.top,.imm (.int .i64 0),.top,pps l,.imm (.int .i64 l.length),.imm (.int .i64 i)] ++ List.replicate 10 .top,[]⟩)
  l.length ⟨_, ?_, 0, by omega, rfl, hr, rfl⟩ ?_
 ·((try refine sgl ?_);exact wkI [])
 rintro m st ⟨i, g0, g1, g2, rfl⟩
 refine sgo ?_
 by_cases hi : i < l.length
 ·have h1 := isid_tc (gP l i) n
  cases hg : ((gP l i).id == n) with
  | true =>
   rw [hg] at h1
   rw [fstF_yes hg (by omega)] at g2
   subst g2
   (have cl1 := h1;((refine goR0 _ _ _ _ _ _ _ _ ?_ ?_ ?_ ?_ ?_ ?_ ?_ ?_)<;>(repeat intro hb)<;>first|exact True.intro|refine Lf.mk ?_))
   rw [if_pos hi] at *
  | false =>
   rw [hg] at h1
   rw [show l.length - i = l.length - (i + 1) + 1 by omega, fstF_no hg] at g2
   (have cl1 := h1;((refine goR0 _ _ _ _ _ _ _ _ ?_ ?_ ?_ ?_ ?_ ?_ ?_ ?_)<;>(repeat intro hb)<;>first|exact True.intro|refine Lf.mk ?_))
   refine ⟨l.length - (i + 1), by omega, _, ?_, i + 1, by omega, by omega, g2, rfl⟩
   ((try refine sgl ?_);exact wkI [])
 ·have : r = l.length := by
   rw [show l.length - i = 0 by omega, fstF] at g2
   omega
  (((refine goR0 _ _ _ _ _ _ _ _ ?_ ?_ ?_ ?_ ?_ ?_ ?_ ?_)<;>(repeat intro hb)<;>first|exact True.intro|refine Lf.mk ?_))
  rw [if_neg (by omega)]
end Go.Proofs.YtonmienclploaaaGreatDoor
namespace Go.Proofs.YtonmienclploaaaGreatDoor
open Go.Ab
def pipR (l : List Pp) (n : Int) : Pp × Bool := if ixP l n < l.length then (gP l (ixP l n), true) else (pp0, false)
set_option maxRecDepth 100000 in
set_option maxHeartbeats 4000000 in
theorem pipe_tc (o : Og) (n : Int) (hl : o.ps.length ≤ 9223372036854775807) : Look Tryz.prog 63 [ogA o,.imm (.int .i64 n)] (.tup [ppA (pipR o.ps n).1,.imm (.bool (pipR o.ps n).2)]) := by
 have h := idxP_tc n o.ps hl
 refine Look.mk (by simp [Pl, PlL]) ?_
 unfold pipR
 generalize ixP o.ps n = r at h ⊢
 by_cases hr : r < o.ps.length
 ·rw [if_pos hr] at h ⊢
  (refine TC_of_T Γ_ok Tryz.func63 rfl (by kernel_rfl) ?_;simp only [Tryz.ntmps63,Tryz.results63,List.length_cons,List.length_nil,Nat.reduceSub,Nat.reduceAdd,List.replicate,List.cons_append,List.nil_append])
  (have cl1 := h;((refine goR0 _ _ _ _ _ _ _ _ ?_ ?_ ?_ ?_ ?_ ?_ ?_ ?_)<;>(repeat intro hb)<;>first|exact True.intro|refine Lf.mk ?_))
 ·rw [if_neg hr] at h ⊢
  (refine TC_of_T Γ_ok Tryz.func63 rfl (by kernel_rfl) ?_;simp only [Tryz.ntmps63,Tryz.results63,List.length_cons,List.length_nil,Nat.reduceSub,Nat.reduceAdd,List.replicate,List.cons_append,List.nil_append])
  (have cl1 := h;((refine goR0 _ _ _ _ _ _ _ _ ?_ ?_ ?_ ?_ ?_ ?_ ?_ ?_)<;>(repeat intro hb)<;>first|exact True.intro|refine Lf.mk ?_))
  all_goals (first | rfl | done)
end Go.Proofs.YtonmienclploaaaGreatDoor
