/-
  Pitches and intervals: what is valid.
-/
import Derived.Test.YtonmienclploaaaGreatDoorQGo3
import Derived.Test.YtonmienclploaaaGreatDoorQP2
import Derived.Test.YtonmienclploaaaGreatDoorQA6
import Derived.Test.YtonmienclploaaaGreatDoorQA5
set_option linter.unusedSimpArgs false
set_option linter.unusedVariables false
namespace Go.Proofs.YtonmienclploaaaGreatDoor
open Go.Ab
@[go_sem,reducible] def p6L (p : P6) : List AV := [.imm (.int .i64 p.a),.imm (.int .i64 p.b),.imm (.int .i64 p.c),.imm (.int .i64 p.d),.imm (.int .i64 p.e),.imm (.int .i64 p.f)]
@[go_sem, reducible] def p6A (p : P6) : AV := .agg (p6L p)
@[go_sem] theorem P6.eta (p : P6) : (⟨p.a, p.b, p.c, p.d, p.e, p.f⟩ : P6) = p := rfl
set_option maxRecDepth 100000 in
set_option maxHeartbeats 4000000 in
theorem within_tc (p : P6) (n : Int) (h0 : 0 ≤ n) (h1 : n ≤ 1000) : Look Tryz.prog 54 [p6A p,.imm (.int .i64 n)] (.imm (.bool (p.all (inB n)))) := by
  refine Look.mk trivial ?_
  (refine TC_of_T Γ_ok Tryz.func54 rfl (by kernel_rfl) ?_;simp only [Tryz.ntmps54,Tryz.results54,List.length_cons,List.length_nil,Nat.reduceSub,Nat.reduceAdd,List.replicate,List.cons_append,List.nil_append])
  (have sx1 : (0 : Nat) + 0 = 0 := rfl;((refine goU1 _ _ _ _ _ _ _ _ _ _ _ _ ?_ ?_ ?_ ?_ ?_ ?_ ?_ ?_ ?_ ?_ ?_ ?_) <;> (repeat intro hb) <;> first | exact True.intro | refine Lf.mk ?_))
  refine T_rounds 7 ?_
  (have sx1 : (0 : Nat) + 0 = 0 := rfl;((refine goU1 _ _ _ _ _ _ _ _ _ _ _ _ ?_ ?_ ?_ ?_ ?_ ?_ ?_ ?_ ?_ ?_ ?_ ?_) <;> (repeat intro hb) <;> first | exact True.intro | refine Lf.mk ?_))
  all_goals (refine congrArg (fun b => AV.imm (.bool b)) ?_; simp only [P6.all, inB]; grind)
set_option maxRecDepth 100000 in
set_option maxHeartbeats 4000000 in
theorem valid_p (p : P6) : Look Tryz.prog 50 [p6A p] (.imm (.bool (pOk p))) := by
  have h := within_tc p 576 (by omega) (by omega)
  refine Look.mk trivial ?_
  (refine TC_of_T Γ_ok Tryz.func50 rfl (by kernel_rfl) ?_;simp only [Tryz.ntmps50,Tryz.results50,List.length_cons,List.length_nil,Nat.reduceSub,Nat.reduceAdd,List.replicate,List.cons_append,List.nil_append])
  (have cl1 := h;have sx1 : (0 : Nat) + 0 = 0 := rfl;((refine goU1 _ _ _ _ _ _ _ _ _ _ _ _ ?_ ?_ ?_ ?_ ?_ ?_ ?_ ?_ ?_ ?_ ?_ ?_) <;> (repeat intro hb) <;> first | exact True.intro | refine Lf.mk ?_))
  rfl
set_option maxRecDepth 100000 in
set_option maxHeartbeats 4000000 in
theorem valid_v (p : P6) : Look Tryz.prog 26 [p6A p] (.imm (.bool (vOk p))) := by
  have h := within_tc p 48 (by omega) (by omega)
  refine Look.mk trivial ?_
  (refine TC_of_T Γ_ok Tryz.func26 rfl (by kernel_rfl) ?_;simp only [Tryz.ntmps26,Tryz.results26,List.length_cons,List.length_nil,Nat.reduceSub,Nat.reduceAdd,List.replicate,List.cons_append,List.nil_append])
  (have cl1 := h;have sx1 : (0 : Nat) + 0 = 0 := rfl;((refine goU1 _ _ _ _ _ _ _ _ _ _ _ _ ?_ ?_ ?_ ?_ ?_ ?_ ?_ ?_ ?_ ?_ ?_ ?_) <;> (repeat intro hb) <;> first | exact True.intro | refine Lf.mk ?_))
  rfl
def ofR (v : P6) : P6 × Int := if vOk v = true then (v.x12, 0) else (⟨0, 0, 0, 0, 0, 0⟩, 1)
set_option maxRecDepth 100000 in
set_option maxHeartbeats 4000000 in
theorem of_tc (v : P6) : Look Tryz.prog 38 [p6A v] (.tup [p6A (ofR v).1, .imm (.int .i64 (ofR v).2)]) := by
  have h := valid_v v
  unfold ofR
  cases hv : vOk v with
  | false =>
    rw [hv] at h
    refine Look.mk (by simp [Pl, PlL]) ?_
    (refine TC_of_T Γ_ok Tryz.func38 rfl (by kernel_rfl) ?_;simp only [Tryz.ntmps38,Tryz.results38,List.length_cons,List.length_nil,Nat.reduceSub,Nat.reduceAdd,List.replicate,List.cons_append,List.nil_append])
    (have cl1 := h;have sx1 : (0 : Nat) + 0 = 0 := rfl;((refine goU1 _ _ _ _ _ _ _ _ _ _ _ _ ?_ ?_ ?_ ?_ ?_ ?_ ?_ ?_ ?_ ?_ ?_ ?_) <;> (repeat intro hb) <;> first|exact True.intro|refine Lf.mk ?_))
  | true =>
    rw [hv] at h
    have hb := hv
    unfold vOk P6.all inB at hb
    simp only [Bool.and_eq_true, decide_eq_true_eq] at hb
    refine Look.mk (by simp [Pl, PlL]) ?_
    (refine TC_of_T Γ_ok Tryz.func38 rfl (by kernel_rfl) ?_;simp only [Tryz.ntmps38,Tryz.results38,List.length_cons,List.length_nil,Nat.reduceSub,Nat.reduceAdd,List.replicate,List.cons_append,List.nil_append])
    (have cl1 := h;have sx1 : (0 : Nat) + 0 = 0 := rfl;((refine goU1 _ _ _ _ _ _ _ _ _ _ _ _ ?_ ?_ ?_ ?_ ?_ ?_ ?_ ?_ ?_ ?_ ?_ ?_) <;> (repeat intro hb) <;> first|exact True.intro|refine Lf.mk ?_))
    refine T_rounds 7 ?_
    (have sx1 : (0 : Nat) + 0 = 0 := rfl;((refine goU1 _ _ _ _ _ _ _ _ _ _ _ _ ?_ ?_ ?_ ?_ ?_ ?_ ?_ ?_ ?_ ?_ ?_ ?_) <;> (repeat intro hb) <;> first | exact True.intro | refine Lf.mk ?_))
    rfl
end Go.Proofs.YtonmienclploaaaGreatDoor
