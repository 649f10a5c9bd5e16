/-
 Parts joined: N13 V1 P1v P2v.
-/
import Derived.Test.YtonmienclploaaaGreatDoorQGo3
import Derived.Test.YtonmienclploaaaGreatDoorQN12
import Derived.Test.YtonmienclploaaaGreatDoorQGo
import Derived.Test.YtonmienclploaaaGreatDoorQT2
import Derived.Test.YtonmienclploaaaGreatDoorQT1
set_option linter.unusedSimpArgs false
set_option linter.unusedVariables false
namespace Go.Proofs.YtonmienclploaaaGreatDoor.Q
open Go.Ab
def cmpR (p q : P6) : Int × Int := if Bd6 576 p ∧ Bd6 576 q then (cmpP p q, 0) else (0, 1)
theorem cmpN_num (p q : P6) : cmpN (num (p.sub q)) (den (p.sub q)) = cmpP p q := by rw [cmp_num]; rfl
set_option maxRecDepth 100000 in
set_option maxHeartbeats 4000000 in
theorem pcmp_tc (p q : P6) : Look Tryz.prog 51 [p6A p,p6A q] (.tup [.imm (.int .i64 (cmpR p q).1),.imm (.int .i64 (cmpR p q).2)]) := by
 have c1 := valid_p p
 have c2 := valid_p q
 refine Look.mk (by simp [Pl, PlL]) ?_
 by_cases hpq : Bd6 576 p ∧ Bd6 576 q
 ·have hp := hpq.1
  have hq := hpq.2
  rw [decide_eq_true hp] at c1
  rw [decide_eq_true hq] at c2
  have hb := hp.sub hq
  have c3 := fraction_mk (p.sub q) (hb.mono (by omega))
  have c4 := ncmp_tc (num (p.sub q)) (den (p.sub q)) (num_lim (hb.mono (by omega))) (num_lim (hb.neg.mono (by omega)))
  rw [cmpN_num] at c4
  have hr : cmpR p q = (cmpP p q, 0) := if_pos hpq
  rw [hr]
  unfold Bd6 at hp hq
  clear hb
  (refine TC_of_T Γ_ok Tryz.func51 rfl (by kernel_rfl) ?_;simp only [Tryz.ntmps51,Tryz.results51,List.length_cons,List.length_nil,Nat.reduceSub,Nat.reduceAdd,List.replicate,List.cons_append,List.nil_append])
  (have dl1 := c1;have dl2 := c2;have sx1:=sx0;((refine goU1 _ _ _ _ _ _ _ _ _ _ _ _ ?_ ?_ ?_ ?_ ?_ ?_ ?_ ?_ ?_ ?_ ?_ ?_)<;>(repeat intro hb)<;>first|exact True.intro|refine Lf.mk ?_))
  refine T_rounds 7 ?_
  (have cm1 := c3;have cl1 := c4;have sx1:=sx0;((refine goU1 _ _ _ _ _ _ _ _ _ _ _ _ ?_ ?_ ?_ ?_ ?_ ?_ ?_ ?_ ?_ ?_ ?_ ?_)<;>(repeat intro hb)<;>first|exact True.intro|refine Lf.mk ?_))
 ·have hr : cmpR p q = (0, 1) := if_neg hpq
  rw [hr]
  (refine TC_of_T Γ_ok Tryz.func51 rfl (by kernel_rfl) ?_;simp only [Tryz.ntmps51,Tryz.results51,List.length_cons,List.length_nil,Nat.reduceSub,Nat.reduceAdd,List.replicate,List.cons_append,List.nil_append])
  (have dl1 := c1;have dl2 := c2;have sx1:=sx0;((refine goU1 _ _ _ _ _ _ _ _ _ _ _ _ ?_ ?_ ?_ ?_ ?_ ?_ ?_ ?_ ?_ ?_ ?_ ?_)<;>(repeat intro hb)<;>first|exact True.intro|refine Lf.mk ?_))
  exact absurd hb hpq
end Go.Proofs.YtonmienclploaaaGreatDoor.Q
namespace Go.Proofs.YtonmienclploaaaGreatDoor
open Go.Ab
def tQ (p : P6) : Q.P6 := ⟨p.a, p.b, p.c, p.d, p.e, p.f⟩
def cmR (p q : P6) : Int × Int := Q.cmpR (tQ p) (tQ q)
theorem pcmp_v (p q : P6) : Look Tryz.prog 51 [p6A p,p6A q] (.tup [.imm (.int .i64 (cmR p q).1),.imm (.int .i64 (cmR p q).2)]) := Q.pcmp_tc (tQ p) (tQ q)
structure Vc where
 lo : P6
 hi : P6
 st : Int
 br : Int
@[go_sem,reducible] def vcL (v : Vc) : List AV := [.imm (.int .i64 v.lo.a),.imm (.int .i64 v.lo.b),.imm (.int .i64 v.lo.c),.imm (.int .i64 v.lo.d),.imm (.int .i64 v.lo.e),.imm (.int .i64 v.lo.f),
 .imm (.int .i64 v.hi.a),.imm (.int .i64 v.hi.b),.imm (.int .i64 v.hi.c),.imm (.int .i64 v.hi.d),.imm (.int .i64 v.hi.e),.imm (.int .i64 v.hi.f),.imm (.int .i64 v.st),.imm (.int .i64 v.br)]
@[go_sem, reducible] def vcA (v : Vc) : AV := .agg (vcL v)
@[go_sem, reducible] def sgA (v : Vc) : AV := .agg (vcL v ++ [.imm (.slice none 0 0)])
def vcB (v : Vc) : Bool := decide ((cmR v.lo v.hi).2 = 0) && (decide ((cmR v.lo v.hi).1 ≤ 0) && (decide (0 ≤ v.st) && (decide (v.st ≤ 2400000) && (decide (0 < v.br) && decide (v.br ≤ 100000)))))
set_option maxRecDepth 100000 in
set_option maxHeartbeats 4000000 in
theorem vvalid_tc (v : Vc) : Look Tryz.prog 22 [vcA v] (.imm (.bool (vcB v))) := by
 have h := pcmp_v v.lo v.hi
 unfold vcB
 generalize (cmR v.lo v.hi).1 = x at h ⊢
 generalize (cmR v.lo v.hi).2 = e at h ⊢
 refine Look.mk trivial ?_
 (refine TC_of_T Γ_ok Tryz.func22 rfl (by kernel_rfl) ?_;simp only [Tryz.ntmps22,Tryz.results22,List.length_cons,List.length_nil,Nat.reduceSub,Nat.reduceAdd,List.replicate,List.cons_append,List.nil_append])
 (have cl1 := h;((refine goR0 _ _ _ _ _ _ _ _ ?_ ?_ ?_ ?_ ?_ ?_ ?_ ?_)<;>(repeat intro hb)<;>first|exact True.intro|refine Lf.mk ?_))
 all_goals (congr 2; try grind)
def hsB (v : Vc) (x : P6) : Bool := decide ((cmR v.lo (ofR x).1).1 ≤ 0) && decide ((cmR (ofR x).1 v.hi).1 ≤ 0)
def fdB (v : Vc) (h x : P6) : Bool := decide ((nearI (ofR x).1 (ofR h).1 v.st).1 = 1)
set_option maxRecDepth 100000 in
set_option maxHeartbeats 4000000 in
theorem shas_tc (v : Vc) (x : P6) : Look Tryz.prog 27 [sgA v, p6A x] (.imm (.bool (hsB v x))) := by
 have h0 := of_tc x
 unfold hsB
 generalize (ofR x).1 = y at h0 ⊢
 have h1 := pcmp_v v.lo y
 have h2 := pcmp_v y v.hi
 generalize (cmR v.lo y).1 = a at h1 ⊢
 generalize (cmR y v.hi).1 = b at h2 ⊢
 refine Look.mk trivial ?_
 (refine TC_of_T Γ_ok Tryz.func27 rfl (by kernel_rfl) ?_;simp only [Tryz.ntmps27,Tryz.results27,List.length_cons,List.length_nil,Nat.reduceSub,Nat.reduceAdd,List.replicate,List.cons_append,List.nil_append])
 (have cl1 := h0;have dl1 := h1;have dl2 := h2;((refine goR0 _ _ _ _ _ _ _ _ ?_ ?_ ?_ ?_ ?_ ?_ ?_ ?_)<;>(repeat intro hb)<;>first|exact True.intro|refine Lf.mk ?_))
 all_goals (congr 2; try grind)
set_option maxRecDepth 100000 in
set_option maxHeartbeats 4000000 in
theorem sfinds_tc (v : Vc) (x y : P6) : Look Tryz.prog 28 [sgA v, p6A x, p6A y] (.imm (.bool (fdB v x y))) := by
 have h0 := of_tc x
 have h1 := of_tc y
 unfold fdB
 generalize (ofR x).1 = p at h0 ⊢
 generalize (ofR y).1 = q at h1 ⊢
 have h2 := near_tc q p v.st
 generalize (nearI q p v.st).1 = a at h2 ⊢
 refine Look.mk trivial ?_
 (refine TC_of_T Γ_ok Tryz.func28 rfl (by kernel_rfl) ?_;simp only [Tryz.ntmps28,Tryz.results28,List.length_cons,List.length_nil,Nat.reduceSub,Nat.reduceAdd,List.replicate,List.cons_append,List.nil_append])
 (have dl1 := h0;have dl2 := h1;have cl1 := h2;((refine goR0 _ _ _ _ _ _ _ _ ?_ ?_ ?_ ?_ ?_ ?_ ?_ ?_)<;>(repeat intro hb)<;>first|exact True.intro|refine Lf.mk ?_))
 all_goals (congr 2; try grind)
def hasR (v : Vc) (x : P6) : Bool × Int := if vcB v = true ∧ vOk x = true then (hsB v x, 0) else (false, 1)
set_option maxRecDepth 100000 in
set_option maxHeartbeats 4000000 in
theorem vhas_tc (v : Vc) (x : P6) : Look Tryz.prog 9 [vcA v,p6A x] (.tup [.imm (.bool (hasR v x).1),.imm (.int .i64 (hasR v x).2)]) := by
 have h1 := vvalid_tc v
 have h2 := valid_v x
 have h3 := shas_tc v x
 unfold hasR
 by_cases h : vcB v = true ∧ vOk x = true
 ·rw [if_pos h]
  rw [h.1] at h1
  rw [h.2] at h2
  refine Look.mk (by simp [Pl, PlL]) ?_
  (refine TC_of_T Γ_ok Tryz.func9 rfl (by kernel_rfl) ?_;simp only [Tryz.ntmps9,Tryz.results9,List.length_cons,List.length_nil,Nat.reduceSub,Nat.reduceAdd,List.replicate,List.cons_append,List.nil_append])
  (have cl1 := h1;have cl2 := h2;have cl3 := h3;((refine goR0 _ _ _ _ _ _ _ _ ?_ ?_ ?_ ?_ ?_ ?_ ?_ ?_)<;>(repeat intro hb)<;>first|exact True.intro|refine Lf.mk ?_))
 ·rw [if_neg h]
  refine Look.mk (by simp [Pl, PlL]) ?_
  (refine TC_of_T Γ_ok Tryz.func9 rfl (by kernel_rfl) ?_;simp only [Tryz.ntmps9,Tryz.results9,List.length_cons,List.length_nil,Nat.reduceSub,Nat.reduceAdd,List.replicate,List.cons_append,List.nil_append])
  (have cl1 := h1;have cl2 := h2;have cl3 := h3;((refine goR0 _ _ _ _ _ _ _ _ ?_ ?_ ?_ ?_ ?_ ?_ ?_ ?_)<;>(repeat intro hb)<;>first|exact True.intro|refine Lf.mk ?_))
  all_goals exact absurd hb h
end Go.Proofs.YtonmienclploaaaGreatDoor
namespace Go.Proofs.YtonmienclploaaaGreatDoor
def fitN : List Int → Int → Nat
 | [], _ => 0
 | x :: l, b => if x ≤ b then fitN l (b - x) + 1 else 0
def gL (l : List Int) (i : Nat) : Int := l.getD i 0
theorem drop_gL {l : List Int} {i : Nat} (h : i < l.length) : l.drop i = gL l i :: l.drop (i + 1) := by
 rw [List.drop_eq_getElem_cons h]
 simp [gL, h]
theorem fitN_yes {l : List Int} {i : Nat} {b : Int} (h : i < l.length) (hx : gL l i ≤ b) : fitN (l.drop i) b = fitN (l.drop (i + 1)) (b - gL l i) + 1 := by
 rw [drop_gL h, fitN, if_pos hx]
theorem fitN_no {l : List Int} {i : Nat} {b : Int} (h : i < l.length) (hx : ¬ gL l i ≤ b) : fitN (l.drop i) b = 0 := by
 rw [drop_gL h, fitN, if_neg hx]
def brkF : Nat → List Int → Int → Nat → List Int × Int
 | 0, _, _, _ => ([], 0)
 | f + 1, l, b, i =>
  if l.length ≤ i + fitN (l.drop i) b then ([], 0)
  else if fitN (l.drop i) b = 0 then ([], 22)
  else (((i + fitN (l.drop i) b - 1 : Nat) : Int) :: (brkF f l b (i + fitN (l.drop i) b)).1,(brkF f l b (i + fitN (l.drop i) b)).2)
theorem brkF_fuel {l : List Int} {b : Int} : ∀ {f g i : Nat},l.length < i + f → l.length < i + g → brkF f l b i = brkF g l b i
 | 0, 0, _, _, _ => rfl
 | 0, g + 1, i, h, _ => by
  rw [brkF, brkF, if_pos (by omega)]
 | f + 1, 0, i, _, h => by
  rw [brkF, brkF, if_pos (by omega)]
 | f + 1, g + 1, i, h, k => by
  rw [brkF, brkF]
  split
  ·rfl
  ·split
   ·rfl
   ·rename_i h1 h2
    rw [brkF_fuel (f := f) (g := g) (i := i + fitN (l.drop i) b) (by omega) (by omega)]
def brk (l : List Int) (b : Int) (i : Nat) : List Int × Int := brkF (l.length + 1) l b i
theorem brk_end {l : List Int} {b : Int} {i : Nat} (h : l.length ≤ i + fitN (l.drop i) b) : brk l b i = ([], 0) := by
 unfold brk
 rw [brkF, if_pos h]
theorem brk_long {l : List Int} {b : Int} {i : Nat} (h : i < l.length) (h2 : fitN (l.drop i) b = 0) : brk l b i = ([],22) := by
 unfold brk
 rw [brkF, if_neg (by omega), if_pos h2]
theorem brk_step {l : List Int} {b : Int} {i : Nat} (h : i + fitN (l.drop i) b < l.length) (h2 : fitN (l.drop i) b ≠ 0) :
  brk l b i = (((i + fitN (l.drop i) b - 1 : Nat) : Int) :: (brk l b (i + fitN (l.drop i) b)).1,(brk l b (i + fitN (l.drop i) b)).2) := by
 unfold brk
 rw [brkF, if_neg (by omega), if_neg h2, brkF_fuel (f := l.length) (g := l.length + 1) (by omega) (by omega)]
def okLen (x : Int) : Bool := decide (1 ≤ x) && decide (x ≤ 100000)
def breR (b : Int) (l : List Int) : List Int × Int := if (brk l b 0).2 = 0 then ((brk l b 0).1, 0) else ([], 22)
def smL (l : List Int) (i : Nat) : Nat → Int
 | 0 => 0
 | k + 1 => smL l i k + gL l (i + k)
theorem gL_mem {l : List Int} {i : Nat} (h : i < l.length) : gL l i ∈ l := by simp [gL, h]
end Go.Proofs.YtonmienclploaaaGreatDoor
namespace Go.Proofs.YtonmienclploaaaGreatDoor
def fstF (f : Nat → Bool) : Nat → Nat → Nat
 | i, 0 => i
 | i, d + 1 => if f i = true then i else fstF f (i + 1) d
theorem fstF_spec {f : Nat → Bool} : ∀ {d i : Nat},i ≤ fstF f i d ∧ fstF f i d ≤ i + d ∧ (∀ j,i ≤ j → j < fstF f i d → f j = false) ∧ (fstF f i d < i + d → f (fstF f i d) = true)
 | 0, i => by simp only [fstF]; exact ⟨by omega, by omega, fun j h1 h2 => by omega, fun h => by omega⟩
 | d + 1, i => by
  rw [fstF]
  by_cases h : f i = true
  ·rw [if_pos h]; exact ⟨by omega, by omega, fun j h1 h2 => by omega, fun _ => h⟩
  ·rw [if_neg h]
   obtain ⟨h1, h2, h3, h4⟩ := fstF_spec (f := f) (d := d) (i := i + 1)
   refine ⟨by omega, by omega, fun j g1 g2 => ?_, fun g => h4 (by omega)⟩
   by_cases e : j = i
   ·rw [e]; simpa using h
   ·exact h3 j (by omega) g2
theorem fstF_yes {f : Nat → Bool} {i d : Nat} (h : f i = true) (hd : 0 < d) : fstF f i d = i := by
 obtain ⟨d, rfl⟩ : ∃ q, d = q + 1 := ⟨d - 1, by omega⟩
 rw [fstF, if_pos h]
theorem fstF_no {f : Nat → Bool} {i d : Nat} (h : f i = false) : fstF f i (d + 1) = fstF f (i + 1) d := by
 rw [fstF, if_neg (by simp [h])]
structure Sg where
 f : Int
 u : Int
 p : P6
def sg0 : Sg := ⟨0, 0, ⟨0, 0, 0, 0, 0, 0⟩⟩
def gS (l : List Sg) (i : Nat) : Sg := l.getD i sg0
def enS (l : List Sg) : Nat → Int
 | 0 => 0
 | k + 1 => (gS l k).u
def sgB (l : List Sg) (i : Nat) : Bool := decide (enS l i ≤ (gS l i).f) && (decide ((gS l i).f < (gS l i).u) && (decide ((gS l i).u ≤ 100000) && vOk (gS l i).p))
def btS (l : List Sg) : Nat → Int
 | 0 => (gS l 0).f
 | k + 1 => if (gS l k).u < (gS l (k + 1)).f then (gS l (k + 1)).f else btS l k
end Go.Proofs.YtonmienclploaaaGreatDoor
