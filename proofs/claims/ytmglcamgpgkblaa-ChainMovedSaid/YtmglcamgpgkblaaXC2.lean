/-
  The scores of the examples.
-/
import Derived.Test.YtmglcamgpgkblaaXGo3
import Derived.Test.YtmglcamgpgkblaaXC1
set_option linter.unusedSimpArgs false
set_option linter.unusedVariables false
namespace Go.Proofs.Ytmglcamgpgkblaa
open Go.Ab
theorem fz_eqp {σ1 : List AObj} {v v2 : AV} (h : v = v2) (hp : Pl v2) : Fz σ1 v v2 := by subst h; exact Fz.pl hp
def th3 (w : P6) : Sc := ⟨3,[⟨0,0,10,z6,false⟩,⟨1,0,10,z6,false⟩,⟨2,0,10,z6,false⟩],[⟨0,1,⟨-2,0,1,0,0,0⟩,0⟩,⟨0,2,w,0⟩,⟨1,2,⟨1,1,-1,0,0,0⟩,0⟩],[]⟩
set_option maxRecDepth 100000 in
set_option maxHeartbeats 4000000 in
theorem three_fresh (w : P6) : Fresh Try.prog 22 [p6A w] (scA (th3 w)) := by
  unfold Fresh
  generalize hQ : (fun (u : AV) (σ1 : List AObj) => Fz σ1 u (scA (th3 w))) = Q
  (refine TC_of_T Γ_ok Try.func22 rfl (by kernel_rfl) ?_;simp only [Try.ntmps22,Try.results22,List.length_cons,List.length_nil,Nat.reduceSub,Nat.reduceAdd,List.replicate,List.cons_append,List.nil_append])
  (have sx1 : (0 : Nat) + 0 = 0 := rfl;((refine goU1 _ _ _ _ _ _ _ _ _ _ _ _ ?_ ?_ ?_ ?_ ?_ ?_ ?_ ?_ ?_ ?_ ?_ ?_) <;> (repeat intro hb) <;> first | exact True.intro | refine Lf.mk ?_))
  refine T_rounds 4 ?_
  (have sx1 : (0 : Nat) + 0 = 0 := rfl;((refine goU1 _ _ _ _ _ _ _ _ _ _ _ _ ?_ ?_ ?_ ?_ ?_ ?_ ?_ ?_ ?_ ?_ ?_ ?_) <;> (repeat intro hb) <;> first | exact True.intro | refine Lf.mk ?_))
  rw [← hQ]
  refine Fz.agg (FzL.cons (Fz.imm rfl) (FzL.cons (Fz.own (o := 8) rfl (by omega) fun p q hp hq => ?_) (FzL.cons (Fz.own (o := 9) rfl (by omega) fun p q hp hq => ?_) (FzL.cons Fz.nil FzL.nil))))
  · refine fz_eqp ?_ (ntE_pl _ _ _)
    rcases p with _ | _ | _ | p
    case succ.succ.succ => have hp : p + 1 + 1 + 1 < 3 := hp; omega
    all_goals (rcases q with _ | _ | _ | _ | _ | _ | _ | _ | _ | _ | q <;> first | rfl | omega)
  · refine fz_eqp ?_ (prE_pl _ _ _)
    rcases p with _ | _ | _ | p
    case succ.succ.succ => have hp : p + 1 + 1 + 1 < 3 := hp; omega
    all_goals (rcases q with _ | _ | _ | _ | _ | _ | _ | _ | _ | q <;> first | rfl | omega)
theorem th3_ok (w : P6) (hw : w.all (inB 16) = true) : ScOk (th3 w) := by
  have n0 : gn (th3 w).notes 0 = ⟨0, 0, 10, z6, false⟩ := rfl
  have n1 : gn (th3 w).notes 1 = ⟨1, 0, 10, z6, false⟩ := rfl
  have n2 : gn (th3 w).notes 2 = ⟨2, 0, 10, z6, false⟩ := rfl
  have p0 : gp (th3 w).pairs 0 = ⟨0, 1, ⟨-2, 0, 1, 0, 0, 0⟩, 0⟩ := rfl
  have p1 : gp (th3 w).pairs 1 = ⟨0, 2, w, 0⟩ := rfl
  have p2 : gp (th3 w).pairs 2 = ⟨1, 2, ⟨1, 1, -1, 0, 0, 0⟩, 0⟩ := rfl
  have hc3 : ∀ i, i < 3 → i = 0 ∨ i = 1 ∨ i = 2 := fun i hi => by omega
  refine ⟨⟨by show (1 : Int) ≤ 3;omega,by show (3 : Int) ≤ 8;omega,by show 3 ≤ 200;omega,by show 3 ≤ 400;omega,by show 0 ≤ 15;omega⟩,⟨fun i hi=>?_,fun i h1 hi=>?_⟩,⟨fun i k hk hi hv=>?_,fun i hi ht=>?_⟩,⟨fun i hi=>?_,fun i h1 hi=>?_⟩,⟨fun i hi=>absurd hi (Nat.not_lt_zero i),fun i _ hi=>absurd hi (Nat.not_lt_zero i)⟩⟩
  · rcases hc3 i hi with rfl | rfl | rfl
    · rw [n0]; exact ⟨by decide, by show (0 : Int) < 3; omega, by decide, by decide, by decide, by decide⟩
    · rw [n1]; exact ⟨by decide, by show (1 : Int) < 3; omega, by decide, by decide, by decide, by decide⟩
    · rw [n2]; exact ⟨by decide, by show (2 : Int) < 3; omega, by decide, by decide, by decide, by decide⟩
  · rcases hc3 i hi with rfl | rfl | rfl
    · omega
    · rw [show 1 - 1 = 0 from rfl, n0, n1]; exact .inr ⟨rfl, by decide⟩
    · rw [show 2 - 1 = 1 from rfl, n1, n2]; exact .inr ⟨rfl, by decide⟩
  · have hi' : i < 3 := hi
    exfalso
    rcases hc3 i hi with rfl | rfl | rfl <;> rcases hc3 k (by omega) with rfl | rfl | rfl <;> first | omega | (simp only [n0,n1,n2] at hv;omega)
  · rcases hc3 i hi with rfl | rfl | rfl
    · rw [n0] at ht; cases ht
    · rw [n1] at ht; cases ht
    · rw [n2] at ht; cases ht
  · rcases hc3 i hi with rfl | rfl | rfl
    · rw [p0]
      refine ⟨⟨by decide, by decide, by show (1 : Int) < (3 : Nat); omega, by decide, by decide, by decide⟩, ?_⟩
      exact ⟨by show (0 : Int) ≠ 1; omega, by show (0 : Int) < 10; omega⟩
    · rw [p1]
      refine ⟨⟨by show (0 : Int) ≤ 0;omega,by show (0 : Int) < 2;omega,by show (2 : Int) < (3 : Nat);omega,hw,by show (0 : Int) ≤ 0;omega,by show (0 : Int) ≤ 100000;omega⟩,?_⟩
      exact ⟨by show (0 : Int) ≠ 2; omega, by show (0 : Int) < 10; omega⟩
    · rw [p2]
      refine ⟨⟨by decide, by decide, by show (2 : Int) < (3 : Nat); omega, by decide, by decide, by decide⟩, ?_⟩
      exact ⟨by show (1 : Int) ≠ 2; omega, by show (0 : Int) < 10; omega⟩
  · rcases hc3 i hi with rfl | rfl | rfl
    · omega
    · rw [show 1 - 1 = 0 from rfl, p0, p1]; exact .inr ⟨rfl, by show (1 : Int) < 2; omega⟩
    · rw [show 2 - 1 = 1 from rfl, p1, p2]; exact .inl (by show (0 : Int) < 1; omega)
theorem th3_l (w : P6) : ScL (th3 w) := by
  refine ⟨?_, ?_, ?_⟩
  · show 3 ≤ 9223372036854775807; omega
  · show 3 ≤ 9223372036854775807; omega
  · show 0 ≤ 9223372036854775807; omega
def exA : P6 := ⟨3, -3, 1, 0, 0, 0⟩
def exB : P6 := ⟨-1, 1, 0, 0, 0, 0⟩
theorem ex_ok : ScOk (th3 exA) := th3_ok _ (by decide)
theorem ex_ok2 : ScOk (th3 exB) := th3_ok _ (by decide)
theorem ex_p1 : prR (th3 exA) (pstp [0, 1, 2, 0]) = (⟨-4, 4, -1, 0, 0, 0⟩, 0) := by
  unfold prR; rw [if_pos ⟨tf_t ex_ok, by decide, by decide⟩]; decide +kernel
theorem ex_p2 : prR (th3 exA) (pstp [0, 1, 0]) = (⟨0, 0, 0, 0, 0, 0⟩, 0) := by
  unfold prR; rw [if_pos ⟨tf_t ex_ok, by decide, by decide⟩]; decide +kernel
theorem ex_p3 : prR (th3 exA) (pstp [0, 1, 2]) = (⟨0, 0, 0, 0, 0, 0⟩, 1) := by
  unfold prR; rw [if_pos ⟨tf_t ex_ok, by decide, by decide⟩]; decide +kernel
theorem ex_s1 : shR (th3 exA) = (pstp [0, 1, 2, 0], ⟨-4, 4, -1, 0, 0, 0⟩, 0) := by
  unfold shR; rw [if_pos (tf_t ex_ok)]; decide +kernel
theorem ex_t1 : thR (th3 exA) 1 = (pstp [1, 0, 2, 1], ⟨4, -4, 1, 0, 0, 0⟩, 0) := by
  unfold thR; rw [if_pos ⟨tf_t ex_ok, by decide, by decide⟩]; decide +kernel
theorem ex_s2 : shR (th3 exB) = ([], ⟨0, 0, 0, 0, 0, 0⟩, 4) := by
  unfold shR; rw [if_pos (tf_t ex_ok2)]; decide +kernel
end Go.Proofs.Ytmglcamgpgkblaa
