/-
 Parts joined: F4 F5.
-/
import Derived.Test.YtonmienclploaaaGreatDoorQGo
import Derived.Test.YtonmienclploaaaGreatDoorQW1
import Derived.Test.YtonmienclploaaaGreatDoorQGo3
set_option linter.unusedSimpArgs false
set_option linter.unusedVariables false
namespace Go.Proofs.YtonmienclploaaaGreatDoor
open Go.Ab
structure Ft where
 s : Int
 f : Int
def ft0 : Ft := ⟨0, 0⟩
def gF (l : List Ft) (i : Nat) : Ft := l.getD i ft0
@[go_sem, reducible] def ftL (x : Ft) : List AV := [.imm (.int .i64 x.s), .imm (.int .i64 x.f)]
def ftE (l : List Ft) (i j : Nat) : AV := nth (ftL (gF l i)) j
@[go_sem] theorem ftE_0 (l : List Ft) (i : Nat) : ftE l i 0 = .imm (.int .i64 (gF l i).s) := rfl
@[go_sem] theorem ftE_1 (l : List Ft) (i : Nat) : ftE l i 1 = .imm (.int .i64 (gF l i).f) := rfl
@[simp] theorem ftE_pl (l : List Ft) (i j : Nat) : Pl (ftE l i j) := by rcases j with _ | _ | j <;> trivial
@[simp] theorem ftE_free (l : List Ft) (i j : Nat) : Free (ftE l i j) := Pl.free _ (ftE_pl l i j)
@[go_sem, reducible] def fts (l : List Ft) : AV := .view l.length 2 (ftE l)
@[go_sem, reducible] def ftO (l : List Ft) : AObj := .arr 114 2 l.length (ftE l)
theorem ft_snoc (l : List Ft) (x : Ft) {i j : Nat} (h : i < l.length + 1) (hj : j < 2) : catE l.length (ftE l) (fun i j => nth (ftL x) (i * 2 + j)) i j = ftE (l ++ [x]) i j := by
 unfold catE ftE gF
 split
 ·rename_i h1; simp [List.getElem?_append_left h1]
 ·obtain rfl : i = l.length := by omega
  simp
def nrO (n : Nk) (v : P6) (s : Nat) : Bool := decide ((nearI (ofR v).1 (gV n.op s) n.tol).1 = 1)
def nrF (n : Nk) (v : P6) (s k : Nat) : Bool := decide ((nearI (ofR v).1 (mulP (gV n.op s) (gV n.fr k)).1 n.tol).1 = 1)
def fdF (n : Nk) (v : P6) (s : Nat) : Nat → List Ft
 | 0 => if nrO n v s = true then [⟨(s : Int), 0⟩] else []
 | k + 1 => fdF n v s k ++ (if nrF n v s k = true then [⟨(s : Int), (k : Int) + 1⟩] else [])
def fdS (n : Nk) (v : P6) : Nat → List Ft
 | 0 => []
 | s + 1 => fdS n v s ++ fdF n v s n.fr.length
theorem fdF_len (n : Nk) (v : P6) (s : Nat) : ∀ k, (fdF n v s k).length ≤ k + 1
 | 0 => by unfold fdF; split <;> simp
 | k + 1 => by
  have := fdF_len n v s k
  unfold fdF; rw [List.length_append]; split <;> simp <;> omega
theorem fdS_len (n : Nk) (v : P6) (h : n.fr.length ≤ 36) : ∀ s, (fdS n v s).length ≤ 37 * s
 | 0 => by simp [fdS]
 | s + 1 => by
  have := fdS_len n v h s
  have := fdF_len n v s n.fr.length
  unfold fdS; rw [List.length_append]; omega
theorem nkB_iff {n : Nk} : nkB n = true ↔ nkS n = true ∧ (∀ i,i < n.fr.length → frBad n.fr i = false) ∧ ∀ i,i < n.op.length → opBad n i = false := by
 unfold nkB
 have key : ∀ (f : Nat → Bool) (d : Nat), fstF f 0 d = d ↔ ∀ i, i < d → f i = false := fun f d => by
  have q := fstF_spec (f := f) (d := d) (i := 0)
  refine ⟨fun h i hi => q.2.2.1 i (by omega) (by omega), fun h => ?_⟩
  by_cases e : fstF f 0 d = d
  ·exact e
  ·have := q.2.2.2 (by omega)
   rw [h _ (by omega)] at this
   cases this
 simp only [Bool.and_eq_true, decide_eq_true_eq, key]
set_option maxRecDepth 100000 in
set_option maxHeartbeats 8000000 in
theorem ffind_raw (n : Nk) (v : P6) (hn : nkB n = true) (hv : vOk v = true) : TC Tryz.prog 176 [nkA n,p6A v] [] (fun u σ' =>
  (u = .tup [.imm (.slice none 0 0), .imm (.int .i64 0)] ∧ (fdS n v n.op.length).length = 0) ∨
  ∃ k E',u = .tup [.own k 0 (fdS n v n.op.length).length none,.imm (.int .i64 0)] ∧ nthO σ' k = .arr 114 2 (fdS n v n.op.length).length E' ∧ ∀ i j,i < (fdS n v n.op.length).length → j < 2 → E' i j = ftE (fdS n v n.op.length) i j) := by
 have hs := nkS_iff.1 (nkB_iff.1 hn).1
 have c0 := of_tc v
 have c1 := fvalid_tc n (by omega) (by omega)
 rw [hn] at c1
 have ho : (ofR v).2 = 0 := by unfold ofR; rw [if_pos hv]
 rw [ho] at c0
 (refine TC_of_T Γ_ok Tryz.func176 rfl (by kernel_rfl) ?_;simp only [Tryz.ntmps176,Tryz.results176,List.length_cons,List.length_nil,Nat.reduceSub,Nat.reduceAdd,List.replicate,List.cons_append,List.nil_append])
 (have cl1 := c0;have cl2 := c1;((refine goR0 _ _ _ _ _ _ _ _ ?_ ?_ ?_ ?_ ?_ ?_ ?_ ?_)<;>(repeat intro hb)<;>first|exact True.intro|refine Lf.mk ?_))
 refine T_loopW (fun m st=>∃ s : Nat,s ≤ n.op.length ∧ m + s = n.op.length ∧ st = ⟨[.top,.top,.optr 0 0 0,.optr 1 0 0,.top,.top,.optr 2 0 0,.top,.own 3 0 (fdS n v s).length none] ++ List.replicate 23 .top ++ [vts n.op,.imm (.int .i64 n.op.length),.imm (.int .i64 s)] ++ List.replicate 53 .top,
   [.box 52 (nkL n), .box 34 (p6L v), .box 23 (p6L (ofR v).1), ftO (fdS n v s)]⟩)
  n.op.length ⟨_, Wk.trans (Wk.push 114 2 (ftE [])) ?_, 0, by omega, rfl, rfl⟩ ?_
 ·((try refine sgl ?_);exact wkI [0,1,2,3])
 rintro m st ⟨s, g0, g1, rfl⟩
 have hls := fdS_len n v (by omega) s
 by_cases hi : s < n.op.length
 ·have c2 := near_tc (ofR v).1 (gV n.op s) n.tol
  have hno : nrO n v s = decide ((nearI (ofR v).1 (gV n.op s) n.tol).1 = 1) := rfl
  generalize (nearI (ofR v).1 (gV n.op s) n.tol).1 = a at c2 hno
  generalize (nearI (ofR v).1 (gV n.op s) n.tol).2 = e at c2
  have hl0 := fdF_len n v s 0
  have h0 : fdF n v s 0 = if nrO n v s = true then [⟨(s : Int), 0⟩] else [] := rfl
  refine sgo ?_
  (have cl1 := c2;((refine goR0 _ _ _ _ _ _ _ _ ?_ ?_ ?_ ?_ ?_ ?_ ?_ ?_)<;>(repeat intro hb)<;>first|exact True.intro|refine Lf.mk ?_))
  all_goals
   refine T_loopW (fun m2 st=>∃ (k : Nat) (M : List Ft),k ≤ n.fr.length ∧ m2 + k = n.fr.length ∧ M = fdS n v s ++ fdF n v s k ∧ st = ⟨[.top,.top,.optr 0 0 0,.optr 1 0 0,.top,.top,.optr 2 0 0,.top,.own 3 0 M.length none,.imm (.int .i64 s),.optr 4 0 0] ++ List.replicate 21 .top ++ [vts n.op,.imm (.int .i64 n.op.length),.imm (.int .i64 s)] ++ List.replicate 20 .top ++ [vts n.fr,.imm (.int .i64 n.fr.length),.imm (.int .i64 k)] ++ List.replicate 30 .top,
     [.box 52 (nkL n), .box 34 (p6L v), .box 23 (p6L (ofR v).1), ftO M, .box 23 (p6L (gV n.op s))]⟩)
    n.fr.length ⟨_, ?_, 0, if a = 1 then fdS n v s ++ [⟨(s : Int), 0⟩] else fdS n v s, by omega, rfl, ?_, rfl⟩ ?_
   ·have hsn := fun p q => ft_snoc (fdS n v s) ⟨(s : Int), 0⟩ (i := p) (j := q)
    first
     | (rw [if_pos hb];simp only [ftO,List.length_append,List.length_cons,List.length_nil,Nat.zero_add];((try refine sgl ?_);refine Wk.intro [0,1,2,6,4] (by decide) (by decide) wkH ?_ ?_ <;> repeat' (first|(exact WkV.eqF (hsn _ _ (by simpa using hi) hj) (by simp))|refine WkVL.cons ?_ ?_|exact wkT|refine WkV.agg ?_|refine WkV.tup ?_|refine WkV.fn ?_ ?_|exact WkO.dead|exact WkO.raw|refine WkO.ghost ?_|exact WkO.mpE rfl trivial|refine WkO.box ?_ rfl|refine WkO.arr ?_|refine And.intro ?_ (And.intro aF ?_)|exact trivial|(intro i j hi hj))))
     | (rw [if_neg hb];((try refine sgl ?_);exact wkI [0,1,2,3,4]))
   ·rw [h0, hno]
    first
     | (rw [if_pos hb, if_pos (decide_eq_true hb)]; done)
     | (rw [if_neg hb, if_neg (by simpa using hb), List.append_nil]; done)
   rintro m2 st ⟨k, M, f0, f1, hM, rfl⟩
   have hlM : M.length ≤ 340 := by
    have := fdF_len n v s k
    rw [hM, List.length_append]
    omega
   by_cases hk : k < n.fr.length
   ·have c3 := pmul_tc (gV n.op s) (gV n.fr k)
    have c4 := near_tc (ofR v).1 (mulP (gV n.op s) (gV n.fr k)).1 n.tol
    have hnf : nrF n v s k = decide ((nearI (ofR v).1 (mulP (gV n.op s) (gV n.fr k)).1 n.tol).1 = 1) := rfl
    generalize (mulP (gV n.op s) (gV n.fr k)).2 = pe at c3
    generalize (mulP (gV n.op s) (gV n.fr k)).1 = pp at c3 c4 hnf
    generalize (nearI (ofR v).1 pp n.tol).1 = b at c4 hnf
    generalize (nearI (ofR v).1 pp n.tol).2 = e4 at c4
    have hM2 : fdS n v s ++ fdF n v s (k + 1) = M ++ (if nrF n v s k = true then [⟨(s : Int),(k : Int) + 1⟩] else []) := by rw [fdF,← List.append_assoc,← hM]
    have hsn := fun p q => ft_snoc M ⟨(s : Int), (k : Int) + 1⟩ (i := p) (j := q)
    refine sgo ?_
    (have cl1 := c3;have cl2 := c4;((refine goR0 _ _ _ _ _ _ _ _ ?_ ?_ ?_ ?_ ?_ ?_ ?_ ?_)<;>(repeat intro hb)<;>first|exact True.intro|refine Lf.mk ?_))
    ·refine ⟨n.fr.length - (k + 1),by omega,_,?_,k + 1,M ++ [⟨(s : Int),(k : Int) + 1⟩],by omega,by omega,by rw [hM2,hnf,if_pos (decide_eq_true hb)],rfl⟩
     ((try refine sgl ?_);refine Wk.intro [0,1,2,8,4] (by decide) (by decide) wkH ?_ ?_ <;> repeat' (first|(exact WkV.eqF (hsn _ _ (by simpa using hi) hj) (by simp))|refine WkVL.cons ?_ ?_|exact wkT|refine WkV.agg ?_|refine WkV.tup ?_|refine WkV.fn ?_ ?_|exact WkO.dead|exact WkO.raw|refine WkO.ghost ?_|exact WkO.mpE rfl trivial|refine WkO.box ?_ rfl|refine WkO.arr ?_|refine And.intro ?_ (And.intro aF ?_)|exact trivial|(intro i j hi hj)))
    ·refine ⟨n.fr.length - (k + 1),by omega,_,?_,k + 1,M,by omega,by omega,by rw [hM2,hnf,if_neg (by simpa using hb),List.append_nil],rfl⟩
     ((try refine sgl ?_);exact wkI [0,1,2,3,4])
   ·obtain rfl : k = n.fr.length := by omega
    have hM3 : M = fdS n v (s + 1) := hM
    refine sgo ?_
    (((refine goR0 _ _ _ _ _ _ _ _ ?_ ?_ ?_ ?_ ?_ ?_ ?_ ?_)<;>(repeat intro hb)<;>first|exact True.intro|refine Lf.mk ?_))
    refine ⟨n.op.length - (s + 1), by omega, _, ?_, s + 1, by omega, by omega, rfl⟩
    rw [← hM3]
    ((try refine sgl ?_);exact wkI [0,1,2,3])
 ·obtain rfl : s = n.op.length := by omega
  refine sgo ?_
  (((refine goR0 _ _ _ _ _ _ _ _ ?_ ?_ ?_ ?_ ?_ ?_ ?_ ?_)<;>(repeat intro hb)<;>first|exact True.intro|refine Lf.mk ?_))
  exact .inr ⟨3, _, rfl, rfl, fun _ _ _ _ => rfl⟩
theorem ffind_tc (n : Nk) (v : P6) (hn : nkB n = true) (hv : vOk v = true) : Makes Tryz.prog 176 [nkA n,p6A v] (.tup [.own 0 0 (fdS n v n.op.length).length none,.imm (.int .i64 0)]) [ftO (fdS n v n.op.length)] :=
 Makes.lstJ (ftE_pl _) trivial (ffind_raw n v hn hv)
end Go.Proofs.YtonmienclploaaaGreatDoor
namespace Go.Proofs.YtonmienclploaaaGreatDoor
open Go.Ab
def clB (sp : Int) (a b : Ft) : Bool := decide (a.s = b.s ∨ 0 < a.f ∧ 0 < b.f ∧ (sp < a.f - b.f ∨ sp < b.f - a.f))
def hldB (sp : Int) (l : List Ft) : Bool := decide (∀ i, i < l.length → ∀ j, j < i → clB sp (gF l i) (gF l j) = false)
def FtOk (l : List Ft) : Prop := ∀ i, i < l.length → 0 ≤ (gF l i).f ∧ (gF l i).f ≤ 1000
set_option maxRecDepth 100000 in
set_option maxHeartbeats 8000000 in
theorem held_tc (sp : Int) (l : List Ft) (hl : l.length ≤ 1000000) (ho : FtOk l) : Look Tryz.prog 72 [.imm (.int .i64 sp),fts l] (.imm (.bool (hldB sp l))) := by
 refine Look.mk trivial ?_
 (refine TC_of_T Γ_ok Tryz.func72 rfl (by kernel_rfl) ?_;simp only [Tryz.ntmps72,Tryz.results72,List.length_cons,List.length_nil,Nat.reduceSub,Nat.reduceAdd,List.replicate,List.cons_append,List.nil_append])
 (have sx1:=sx0;((refine goU1 _ _ _ _ _ _ _ _ _ _ _ _ ?_ ?_ ?_ ?_ ?_ ?_ ?_ ?_ ?_ ?_ ?_ ?_)<;>(repeat intro hb)<;>first|exact True.intro|refine Lf.mk ?_))
 refine T_loopW (fun m st=>∃ i : Nat,i ≤ l.length ∧ m + i = l.length ∧ (∀ k,k < i → ∀ j,j < k → clB sp (gF l k) (gF l j) = false) ∧ st = ⟨[.imm (.int .i64 sp),fts l,.top,.top,.top,.imm (.bool true)] ++ List.replicate 4 .top ++ [fts l,.imm (.int .i64 l.length),.imm (.int .i64 i)] ++ List.replicate 45 .top,[]⟩)
  l.length ⟨_, ?_, 0, by omega, rfl, fun k hk => by omega, rfl⟩ ?_
 ·((try refine sgl ?_);exact wkI [])
 rintro m st ⟨i, g0, g1, g2, rfl⟩
 by_cases hi : i < l.length
 ·have hx := ho i hi
  refine sgo ?_
  (have sx1:=sx0;((refine goU1 _ _ _ _ _ _ _ _ _ _ _ _ ?_ ?_ ?_ ?_ ?_ ?_ ?_ ?_ ?_ ?_ ?_ ?_)<;>(repeat intro hb)<;>first|exact True.intro|refine Lf.mk ?_))
  refine T_loopW (fun m2 st=>∃ j : Nat,j ≤ i ∧ m2 + j = i ∧ (∀ k,k < j → clB sp (gF l i) (gF l k) = false) ∧ st = ⟨[.imm (.int .i64 sp),fts l,.top,.top,.top,.imm (.bool true),.imm (.int .i64 i),.optr 0 0 0,.top,.top,fts l,.imm (.int .i64 l.length),.imm (.int .i64 i)] ++ List.replicate 6 .top ++ [.view i 2 (ftE l),.imm (.int .i64 i),.imm (.int .i64 j)] ++ List.replicate 36 .top,[.box 114 (ftL (gF l i))]⟩)
   i ⟨_, ?_, 0, by omega, rfl, fun k hk => by omega, rfl⟩ ?_
  ·((try refine sgl ?_);exact wkI [0])
  rintro m2 st ⟨j, f0, f1, f2, rfl⟩
  by_cases hj : j < i
  ·have hy := ho j (by omega)
   have hcl : clB sp (gF l i) (gF l j) = decide ((gF l i).s = (gF l j).s ∨ 0 < (gF l i).f ∧ 0 < (gF l j).f ∧ (sp < (gF l i).f - (gF l j).f ∨ sp < (gF l j).f - (gF l i).f)) := rfl
   cases hc : clB sp (gF l i) (gF l j) with
   | true =>
    have e : hldB sp l = false := decide_eq_false fun h => by rw [h i hi j hj] at hc; cases hc
    rw [e]
    rw [hc, eq_comm, decide_eq_true_eq] at hcl
    refine sgo ?_
    (have sx1:=sx0;((refine goU1 _ _ _ _ _ _ _ _ _ _ _ _ ?_ ?_ ?_ ?_ ?_ ?_ ?_ ?_ ?_ ?_ ?_ ?_)<;>(repeat intro hb)<;>first|exact True.intro|refine Lf.mk ?_))
   | false =>
    rw [hc, eq_comm, decide_eq_false_iff_not] at hcl
    refine sgo ?_
    (have sx1:=sx0;((refine goU1 _ _ _ _ _ _ _ _ _ _ _ _ ?_ ?_ ?_ ?_ ?_ ?_ ?_ ?_ ?_ ?_ ?_ ?_)<;>(repeat intro hb)<;>first|exact True.intro|refine Lf.mk ?_))
    refine ⟨i - (j + 1), by omega, _, ?_, j + 1, by omega, by omega, fun k hk => ?_, rfl⟩
    ·((try refine sgl ?_);exact wkI [0])
    ·by_cases e : k = j
     ·rw [e]; exact hc
     ·exact f2 k (by omega)
  ·obtain rfl : j = i := by omega
   refine sgo ?_
   (have sx1:=sx0;((refine goU1 _ _ _ _ _ _ _ _ _ _ _ _ ?_ ?_ ?_ ?_ ?_ ?_ ?_ ?_ ?_ ?_ ?_ ?_)<;>(repeat intro hb)<;>first|exact True.intro|refine Lf.mk ?_))
   refine ⟨l.length - (j + 1), by omega, _, ?_, j + 1, by omega, by omega, fun k hk q hq => ?_, rfl⟩
   ·((try refine sgl ?_);exact wkI [])
   ·by_cases e : k = j
    ·rw [e] at hq ⊢; exact f2 q hq
    ·exact g2 k (by omega) q hq
 ·have e : hldB sp l = true := decide_eq_true fun k hk => g2 k (by omega)
  rw [e]
  refine sgo ?_
  (have sx1:=sx0;((refine goU1 _ _ _ _ _ _ _ _ _ _ _ _ ?_ ?_ ?_ ?_ ?_ ?_ ?_ ?_ ?_ ?_ ?_ ?_)<;>(repeat intro hb)<;>first|exact True.intro|refine Lf.mk ?_))
def anyX (n : Nk) (l : List Ft) : Bool := decide (fstF (fun i => !(exB n (gF l i).s (gF l i).f)) 0 l.length < l.length)
@[go_sem, reducible] def mxF (n : Nk) : AV := .fn (.func 70) [] [.rptr 4 (nth (nkL n))]
set_option maxRecDepth 100000 in
set_option maxHeartbeats 4000000 in
theorem missing_tc (n : Nk) (x : Ft) (h1 : n.op.length ≤ 1000000) (h2 : n.fr.length ≤ 1000000) : Look Tryz.prog 70 [ftA x.s x.f,.rptr 4 (nth (nkL n))] (.imm (.bool (!(exB n x.s x.f)))) := by
 refine Look.mk trivial ?_
 (refine TC_of_T Γ_ok Tryz.func70 rfl (by kernel_rfl) ?_;simp only [Tryz.ntmps70,Tryz.results70,List.length_cons,List.length_nil,Nat.reduceSub,Nat.reduceAdd,List.replicate,List.cons_append,List.nil_append])
 (have cl1 := exists_tc n x.s x.f h1 h2;have sx1:=sx0;((refine goU1 _ _ _ _ _ _ _ _ _ _ _ _ ?_ ?_ ?_ ?_ ?_ ?_ ?_ ?_ ?_ ?_ ?_ ?_)<;>(repeat intro hb)<;>first|exact True.intro|refine Lf.mk ?_))
set_option maxRecDepth 100000 in
set_option maxHeartbeats 4000000 in
theorem idxX_tc (n : Nk) (l : List Ft) (hl : l.length ≤ 1000000) (h1 : n.op.length ≤ 1000000) (h2 : n.fr.length ≤ 1000000) :
  Look Tryz.prog 104 [fts l,mxF n] (.imm (.int .i64 (if fstF (fun i=>!(exB n (gF l i).s (gF l i).f)) 0 l.length < l.length then (fstF (fun i=>!(exB n (gF l i).s (gF l i).f)) 0 l.length : Int) else -1))) := by
 refine Look.mk trivial ?_
 generalize hr : fstF (fun i => !(exB n (gF l i).s (gF l i).f)) 0 l.length = r
 (refine TC_of_T Γ_ok Tryz.func104 rfl (by kernel_rfl) ?_;simp only [Tryz.ntmps104,Tryz.results104,List.length_cons,List.length_nil,Nat.reduceSub,Nat.reduceAdd,List.replicate,List.cons_append,List.nil_append])
 (have sx1:=sx0;((refine goU1 _ _ _ _ _ _ _ _ _ _ _ _ ?_ ?_ ?_ ?_ ?_ ?_ ?_ ?_ ?_ ?_ ?_ ?_)<;>(repeat intro hb)<;>first|exact True.intro|refine Lf.mk ?_))
 refine T_loopW (fun m st=>∃ i : Nat,i ≤ l.length ∧ m + i = l.length ∧ fstF (fun i=>!(exB n (gF l i).s (gF l i).f)) i (l.length - i) = r ∧ st = ⟨[fts l,mxF n,.top,.top,.imm (.int .i64 0),.top,fts l,.imm (.int .i64 l.length),.imm (.int .i64 i)] ++ List.replicate 10 .top,[]⟩)
  l.length ⟨_, ?_, 0, by omega, rfl, hr, rfl⟩ ?_
 ·((try refine sgl ?_);exact wkI [])
 rintro m st ⟨i, g0, g1, g2, rfl⟩
 refine sgo ?_
 by_cases hi : i < l.length
 ·have c1 := missing_tc n (gF l i) h1 h2
  cases hg : (!(exB n (gF l i).s (gF l i).f)) with
  | true =>
   rw [hg] at c1
   rw [fstF_yes hg (by omega)] at g2
   subst g2
   (have cl1 := c1;have sx1:=sx0;((refine goU1 _ _ _ _ _ _ _ _ _ _ _ _ ?_ ?_ ?_ ?_ ?_ ?_ ?_ ?_ ?_ ?_ ?_ ?_)<;>(repeat intro hb)<;>first|exact True.intro|refine Lf.mk ?_))
   rw [if_pos hi] at *
  | false =>
   rw [hg] at c1
   rw [show l.length - i = l.length - (i + 1) + 1 by omega, fstF_no hg] at g2
   (have cl1 := c1;have sx1:=sx0;((refine goU1 _ _ _ _ _ _ _ _ _ _ _ _ ?_ ?_ ?_ ?_ ?_ ?_ ?_ ?_ ?_ ?_ ?_ ?_)<;>(repeat intro hb)<;>first|exact True.intro|refine Lf.mk ?_))
   refine ⟨l.length - (i + 1), by omega, _, ?_, i + 1, by omega, by omega, g2, rfl⟩
   ((try refine sgl ?_);exact wkI [])
 ·have : r = l.length := by
   rw [show l.length - i = 0 by omega, fstF] at g2
   omega
  (have sx1:=sx0;((refine goU1 _ _ _ _ _ _ _ _ _ _ _ _ ?_ ?_ ?_ ?_ ?_ ?_ ?_ ?_ ?_ ?_ ?_ ?_)<;>(repeat intro hb)<;>first|exact True.intro|refine Lf.mk ?_))
  rw [if_neg (by omega)]
set_option maxRecDepth 100000 in
set_option maxHeartbeats 4000000 in
theorem anyX_tc (n : Nk) (l : List Ft) (hl : l.length ≤ 1000000) (h1 : n.op.length ≤ 1000000) (h2 : n.fr.length ≤ 1000000) : Look Tryz.prog 71 [fts l,mxF n] (.imm (.bool (anyX n l))) := by
 have h := idxX_tc n l hl h1 h2
 unfold anyX
 generalize fstF (fun i => !(exB n (gF l i).s (gF l i).f)) 0 l.length = r at h ⊢
 refine Look.mk trivial ?_
 by_cases hr : r < l.length
 ·rw [if_pos hr] at h
  rw [decide_eq_true hr]
  (refine TC_of_T Γ_ok Tryz.func71 rfl (by kernel_rfl) ?_;simp only [Tryz.ntmps71,Tryz.results71,List.length_cons,List.length_nil,Nat.reduceSub,Nat.reduceAdd,List.replicate,List.cons_append,List.nil_append])
  (have cl1 := h;have sx1:=sx0;((refine goU1 _ _ _ _ _ _ _ _ _ _ _ _ ?_ ?_ ?_ ?_ ?_ ?_ ?_ ?_ ?_ ?_ ?_ ?_)<;>(repeat intro hb)<;>first|exact True.intro|refine Lf.mk ?_))
  all_goals simp
 ·rw [if_neg hr] at h
  rw [decide_eq_false hr]
  (refine TC_of_T Γ_ok Tryz.func71 rfl (by kernel_rfl) ?_;simp only [Tryz.ntmps71,Tryz.results71,List.length_cons,List.length_nil,Nat.reduceSub,Nat.reduceAdd,List.replicate,List.cons_append,List.nil_append])
  (have cl1 := h;have sx1:=sx0;((refine goU1 _ _ _ _ _ _ _ _ _ _ _ _ ?_ ?_ ?_ ?_ ?_ ?_ ?_ ?_ ?_ ?_ ?_ ?_)<;>(repeat intro hb)<;>first|exact True.intro|refine Lf.mk ?_))
  all_goals simp
set_option maxRecDepth 100000 in
set_option maxHeartbeats 4000000 in
theorem ffits_tc (n : Nk) (l : List Ft) (hn : nkB n = true) (hl : l.length ≤ 1000000) (hx : anyX n l = false) (ho : FtOk l) : Look Tryz.prog 46 [nkA n,fts l] (.tup [.imm (.bool (hldB n.span l)),.imm (.int .i64 0)]) := by
 have hs := nkS_iff.1 (nkB_iff.1 hn).1
 have c1 := fvalid_tc n (by omega) (by omega)
 have c2 := anyX_tc n l hl (by omega) (by omega)
 have c3 := held_tc n.span l hl ho
 rw [hn] at c1
 rw [hx] at c2
 refine Look.mk (by simp [Pl, PlL]) ?_
 (refine TC_of_T Γ_ok Tryz.func46 rfl (by kernel_rfl) ?_;simp only [Tryz.ntmps46,Tryz.results46,List.length_cons,List.length_nil,Nat.reduceSub,Nat.reduceAdd,List.replicate,List.cons_append,List.nil_append])
 (have cl1 := c1;have cl2 := c2;have cl3 := c3;have sx1:=sx0;((refine goU1 _ _ _ _ _ _ _ _ _ _ _ _ ?_ ?_ ?_ ?_ ?_ ?_ ?_ ?_ ?_ ?_ ?_ ?_)<;>(repeat intro hb)<;>first|exact True.intro|refine Lf.mk ?_))
end Go.Proofs.YtonmienclploaaaGreatDoor
