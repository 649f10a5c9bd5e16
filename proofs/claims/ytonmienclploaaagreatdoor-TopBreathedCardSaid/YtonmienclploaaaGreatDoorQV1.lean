/-
  Singers: voice.Valid, Has, Finds.
-/
import Derived.Test.YtonmienclploaaaGreatDoorQGo
import Derived.Test.YtonmienclploaaaGreatDoorQB3
import Derived.Test.YtonmienclploaaaGreatDoorQN13
set_option linter.unusedSimpArgs false
set_option linter.unusedVariables false
namespace Go.Proofs.YtonmienclploaaaGreatDoor
open Go.Ab
def tQ (p : P6) : Q.P6 := ⟨p.a, p.b, p.c, p.d, p.e, p.f⟩
def cmR (p q : P6) : Int × Int := Q.cmpR (tQ p) (tQ q)
theorem pcmp_v (p q : P6) : Look Tryz.prog 51 [p6A p,p6A q] (.tup [.imm (.int .i64 (cmR p q).1),.imm (.int .i64 (cmR p q).2)]) := Q.pcmp_tc (tQ p) (tQ q)
structure Vc where
  lo : P6
  hi : P6
  st : Int
  br : Int
@[go_sem,reducible] def vcL (v : Vc) : List AV := [.imm (.int .i64 v.lo.a),.imm (.int .i64 v.lo.b),.imm (.int .i64 v.lo.c),.imm (.int .i64 v.lo.d),.imm (.int .i64 v.lo.e),.imm (.int .i64 v.lo.f),
  .imm (.int .i64 v.hi.a),.imm (.int .i64 v.hi.b),.imm (.int .i64 v.hi.c),.imm (.int .i64 v.hi.d),.imm (.int .i64 v.hi.e),.imm (.int .i64 v.hi.f),.imm (.int .i64 v.st),.imm (.int .i64 v.br)]
@[go_sem, reducible] def vcA (v : Vc) : AV := .agg (vcL v)
@[go_sem, reducible] def sgA (v : Vc) : AV := .agg (vcL v ++ [.imm (.slice none 0 0)])
def vcB (v : Vc) : Bool := decide ((cmR v.lo v.hi).2 = 0) && (decide ((cmR v.lo v.hi).1 ≤ 0) && (decide (0 ≤ v.st) && (decide (v.st ≤ 2400000) && (decide (0 < v.br) && decide (v.br ≤ 100000)))))
set_option maxRecDepth 100000 in
set_option maxHeartbeats 4000000 in
theorem vvalid_tc (v : Vc) : Look Tryz.prog 22 [vcA v] (.imm (.bool (vcB v))) := by
  have h := pcmp_v v.lo v.hi
  unfold vcB
  generalize (cmR v.lo v.hi).1 = x at h ⊢
  generalize (cmR v.lo v.hi).2 = e at h ⊢
  refine Look.mk trivial ?_
  (refine TC_of_T Γ_ok Tryz.func22 rfl (by kernel_rfl) ?_;simp only [Tryz.ntmps22,Tryz.results22,List.length_cons,List.length_nil,Nat.reduceSub,Nat.reduceAdd,List.replicate,List.cons_append,List.nil_append])
  (have cl1 := h;((refine goR0 _ _ _ _ _ _ _ _ ?_ ?_ ?_ ?_ ?_ ?_ ?_ ?_) <;> (repeat intro hb) <;> first | exact True.intro | refine Lf.mk ?_))
  all_goals (congr 2; try grind)
def hsB (v : Vc) (x : P6) : Bool := decide ((cmR v.lo (ofR x).1).1 ≤ 0) && decide ((cmR (ofR x).1 v.hi).1 ≤ 0)
def fdB (v : Vc) (h x : P6) : Bool := decide ((nearI (ofR x).1 (ofR h).1 v.st).1 = 1)
set_option maxRecDepth 100000 in
set_option maxHeartbeats 4000000 in
theorem shas_tc (v : Vc) (x : P6) : Look Tryz.prog 27 [sgA v, p6A x] (.imm (.bool (hsB v x))) := by
  have h0 := of_tc x
  unfold hsB
  generalize (ofR x).1 = y at h0 ⊢
  have h1 := pcmp_v v.lo y
  have h2 := pcmp_v y v.hi
  generalize (cmR v.lo y).1 = a at h1 ⊢
  generalize (cmR y v.hi).1 = b at h2 ⊢
  refine Look.mk trivial ?_
  (refine TC_of_T Γ_ok Tryz.func27 rfl (by kernel_rfl) ?_;simp only [Tryz.ntmps27,Tryz.results27,List.length_cons,List.length_nil,Nat.reduceSub,Nat.reduceAdd,List.replicate,List.cons_append,List.nil_append])
  (have cl1 := h0;have dl1 := h1;have dl2 := h2;((refine goR0 _ _ _ _ _ _ _ _ ?_ ?_ ?_ ?_ ?_ ?_ ?_ ?_) <;> (repeat intro hb) <;> first | exact True.intro | refine Lf.mk ?_))
  all_goals (congr 2; try grind)
set_option maxRecDepth 100000 in
set_option maxHeartbeats 4000000 in
theorem sfinds_tc (v : Vc) (x y : P6) : Look Tryz.prog 28 [sgA v, p6A x, p6A y] (.imm (.bool (fdB v x y))) := by
  have h0 := of_tc x
  have h1 := of_tc y
  unfold fdB
  generalize (ofR x).1 = p at h0 ⊢
  generalize (ofR y).1 = q at h1 ⊢
  have h2 := near_tc q p v.st
  generalize (nearI q p v.st).1 = a at h2 ⊢
  refine Look.mk trivial ?_
  (refine TC_of_T Γ_ok Tryz.func28 rfl (by kernel_rfl) ?_;simp only [Tryz.ntmps28,Tryz.results28,List.length_cons,List.length_nil,Nat.reduceSub,Nat.reduceAdd,List.replicate,List.cons_append,List.nil_append])
  (have dl1 := h0;have dl2 := h1;have cl1 := h2;((refine goR0 _ _ _ _ _ _ _ _ ?_ ?_ ?_ ?_ ?_ ?_ ?_ ?_) <;> (repeat intro hb) <;> first | exact True.intro | refine Lf.mk ?_))
  all_goals (congr 2; try grind)
def hasR (v : Vc) (x : P6) : Bool × Int := if vcB v = true ∧ vOk x = true then (hsB v x, 0) else (false, 1)
set_option maxRecDepth 100000 in
set_option maxHeartbeats 4000000 in
theorem vhas_tc (v : Vc) (x : P6) : Look Tryz.prog 9 [vcA v,p6A x] (.tup [.imm (.bool (hasR v x).1),.imm (.int .i64 (hasR v x).2)]) := by
  have h1 := vvalid_tc v
  have h2 := valid_v x
  have h3 := shas_tc v x
  unfold hasR
  by_cases h : vcB v = true ∧ vOk x = true
  · rw [if_pos h]
    rw [h.1] at h1
    rw [h.2] at h2
    refine Look.mk (by simp [Pl, PlL]) ?_
    (refine TC_of_T Γ_ok Tryz.func9 rfl (by kernel_rfl) ?_;simp only [Tryz.ntmps9,Tryz.results9,List.length_cons,List.length_nil,Nat.reduceSub,Nat.reduceAdd,List.replicate,List.cons_append,List.nil_append])
    (have cl1 := h1;have cl2 := h2;have cl3 := h3;((refine goR0 _ _ _ _ _ _ _ _ ?_ ?_ ?_ ?_ ?_ ?_ ?_ ?_) <;> (repeat intro hb) <;> first | exact True.intro | refine Lf.mk ?_))
  · rw [if_neg h]
    refine Look.mk (by simp [Pl, PlL]) ?_
    (refine TC_of_T Γ_ok Tryz.func9 rfl (by kernel_rfl) ?_;simp only [Tryz.ntmps9,Tryz.results9,List.length_cons,List.length_nil,Nat.reduceSub,Nat.reduceAdd,List.replicate,List.cons_append,List.nil_append])
    (have cl1 := h1;have cl2 := h2;have cl3 := h3;((refine goR0 _ _ _ _ _ _ _ _ ?_ ?_ ?_ ?_ ?_ ?_ ?_ ?_) <;> (repeat intro hb) <;> first | exact True.intro | refine Lf.mk ?_))
    all_goals exact absurd hb h
def fndR (v : Vc) (x y : P6) : Bool × Int := if vcB v = true ∧ vOk x = true ∧ vOk y = true then (fdB v x y,0) else (false,1)
set_option maxRecDepth 100000 in
set_option maxHeartbeats 4000000 in
theorem vfinds_tc (v : Vc) (x y : P6) : Look Tryz.prog 10 [vcA v,p6A x,p6A y] (.tup [.imm (.bool (fndR v x y).1),.imm (.int .i64 (fndR v x y).2)]) := by
  have h1 := vvalid_tc v
  have h2 := valid_v x
  have h3 := valid_v y
  have h4 := sfinds_tc v x y
  unfold fndR
  by_cases h : vcB v = true ∧ vOk x = true ∧ vOk y = true
  · rw [if_pos h]
    rw [h.1] at h1
    rw [h.2.1] at h2
    rw [h.2.2] at h3
    refine Look.mk (by simp [Pl, PlL]) ?_
    (refine TC_of_T Γ_ok Tryz.func10 rfl (by kernel_rfl) ?_;simp only [Tryz.ntmps10,Tryz.results10,List.length_cons,List.length_nil,Nat.reduceSub,Nat.reduceAdd,List.replicate,List.cons_append,List.nil_append])
    (have cl1 := h1;have dl1 := h2;have dl2 := h3;have cl2 := h4;((refine goR0 _ _ _ _ _ _ _ _ ?_ ?_ ?_ ?_ ?_ ?_ ?_ ?_) <;> (repeat intro hb) <;> first | exact True.intro | refine Lf.mk ?_))
  · rw [if_neg h]
    refine Look.mk (by simp [Pl, PlL]) ?_
    (refine TC_of_T Γ_ok Tryz.func10 rfl (by kernel_rfl) ?_;simp only [Tryz.ntmps10,Tryz.results10,List.length_cons,List.length_nil,Nat.reduceSub,Nat.reduceAdd,List.replicate,List.cons_append,List.nil_append])
    (have cl1 := h1;have dl1 := h2;have dl2 := h3;have cl2 := h4;((refine goR0 _ _ _ _ _ _ _ _ ?_ ?_ ?_ ?_ ?_ ?_ ?_ ?_) <;> (repeat intro hb) <;> first | exact True.intro | refine Lf.mk ?_))
    all_goals exact absurd hb fun q => h ⟨q.1.1, q.1.2, q.2⟩
end Go.Proofs.YtonmienclploaaaGreatDoor
