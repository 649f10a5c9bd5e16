/-
  Pitches as values; pitch.Valid, multiply.
-/
import Derived.Test.YtonmienclploaaaGreatDoorQGo3
import Derived.Test.YtonmienclploaaaGreatDoorQN9
set_option linter.unusedSimpArgs false
set_option linter.unusedVariables false
namespace Go.Proofs.YtonmienclploaaaGreatDoor.Q
open Go.Ab
@[go_sem,reducible] def p6L (p : P6) : List AV := [.imm (.int .i64 p.a),.imm (.int .i64 p.b),.imm (.int .i64 p.c),.imm (.int .i64 p.d),.imm (.int .i64 p.e),.imm (.int .i64 p.f)]
@[go_sem, reducible] def p6A (p : P6) : AV := .agg (p6L p)
@[go_sem] theorem P6.eta (p : P6) : (⟨p.a, p.b, p.c, p.d, p.e, p.f⟩ : P6) = p := rfl
set_option maxRecDepth 100000 in
set_option maxHeartbeats 4000000 in
theorem within_tc (p : P6) (n : Int) (h0 : 0 ≤ n) (h1 : n ≤ 1000) : Look Tryz.prog 54 [p6A p,.imm (.int .i64 n)] (.imm (.bool (decide (Bd6 n p)))) := by
  refine Look.mk trivial ?_
  (refine TC_of_T Γ_ok Tryz.func54 rfl (by kernel_rfl) ?_;simp only [Tryz.ntmps54,Tryz.results54,List.length_cons,List.length_nil,Nat.reduceSub,Nat.reduceAdd,List.replicate,List.cons_append,List.nil_append])
  (have sx1 : (0 : Nat) + 0 = 0 := rfl;((refine goU1 _ _ _ _ _ _ _ _ _ _ _ _ ?_ ?_ ?_ ?_ ?_ ?_ ?_ ?_ ?_ ?_ ?_ ?_) <;> (repeat intro hb) <;> first | exact True.intro | refine Lf.mk ?_))
  refine T_rounds 7 ?_
  (have sx1 : (0 : Nat) + 0 = 0 := rfl;((refine goU1 _ _ _ _ _ _ _ _ _ _ _ _ ?_ ?_ ?_ ?_ ?_ ?_ ?_ ?_ ?_ ?_ ?_ ?_) <;> (repeat intro hb) <;> first | exact True.intro | refine Lf.mk ?_))
  all_goals (refine congrArg (fun b => AV.imm (.bool b)) ?_; rw [Bool.eq_iff_iff, decide_eq_true_eq]; unfold Bd6; grind)
set_option maxRecDepth 100000 in
set_option maxHeartbeats 4000000 in
theorem valid_p (p : P6) : Look Tryz.prog 50 [p6A p] (.imm (.bool (decide (Bd6 576 p)))) := by
  have h := within_tc p 576 (by omega) (by omega)
  refine Look.mk trivial ?_
  (refine TC_of_T Γ_ok Tryz.func50 rfl (by kernel_rfl) ?_;simp only [Tryz.ntmps50,Tryz.results50,List.length_cons,List.length_nil,Nat.reduceSub,Nat.reduceAdd,List.replicate,List.cons_append,List.nil_append])
  (have cl1 := h;have sx1 : (0 : Nat) + 0 = 0 := rfl;((refine goU1 _ _ _ _ _ _ _ _ _ _ _ _ ?_ ?_ ?_ ?_ ?_ ?_ ?_ ?_ ?_ ?_ ?_ ?_) <;> (repeat intro hb) <;> first | exact True.intro | refine Lf.mk ?_))
def prK (l : List Nat) (i : Nat) : Nat := (l.take i).foldl (· * ·) 1
theorem prK_s {l : List Nat} {i : Nat} (h : i < l.length) : prK l (i + 1) = prK l i * gN l i := by
  unfold prK gN
  rw [List.take_add_one, List.getElem?_eq_getElem h, List.foldl_append]
  simp [h]
theorem prK_end (l : List Nat) : prK l l.length = prodN l := by unfold prK prodN; rw [List.take_length]
@[go_sem,reducible] def enM (l : List Nat) (V i : Nat) : List AV := [nvs l,.top,.imm (.slice none 0 0),.own 0 0 (lmN V) none,.top,.top,.top,nvs l,.imm (.int .i64 l.length),.imm (.int .i64 i)] ++ List.replicate 11 .top
end Go.Proofs.YtonmienclploaaaGreatDoor.Q
