/-
  ScaleDegrees.
-/
import Derived.Test.YtdglbjjenihdlaaDoorQGo
import Derived.Test.YtdglbjjenihdlaaDoorQGo2
import Derived.Test.YtdglbjjenihdlaaDoorQP2
import Derived.Test.YtdglbjjenihdlaaDoorQC1
set_option linter.unusedSimpArgs false
set_option linter.unusedVariables false
namespace Go.Proofs.YtdglbjjenihdlaaDoor
open Go.Ab
set_option maxRecDepth 100000 in
set_option maxHeartbeats 8000000 in
theorem degrees_law (s : List P6) (h0 : s.length ≤ 9223372036854775807) (d : Nat) (hd : d < 256) (o : Int) : Look Tryd.prog 6 [pts s,.imm (.int .u8 d),.imm (.int .i64 o)] (.imm (.bool true)) := by
  refine Look.mk trivial ?_
  have c0 := head_tc
  have c1 := rsvalid_tc s h0
  by_cases hg : s.length ≤ 16 ∧ -20 ≤ o ∧ o ≤ 20
  · obtain ⟨g1, g2, g3⟩ := hg
    have e1 : decide ((s.length : Int) > 16) = false := decide_eq_false (by omega)
    have e2 : decide (o < -20) = false := decide_eq_false (by omega)
    have e3 : decide (o > 20) = false := decide_eq_false (by omega)
    by_cases hs : SclOk s
    · rw [tf_t hs] at c1
      have hn := scl_pos hs
      have hi := Nat.mod_lt d hn
      have e4 : (d : Int).tmod (s.length : Int) = ((d % s.length : Nat) : Int) := rfl
      generalize d % s.length = i at hi e4
      have hne : ((s.length : Int) = 0) = False := eq_false (by omega)
      have hii : ((i : Int) < s.length) = True := eq_true (by omega)
      have hi0 : (0 ≤ (i : Int)) = True := eq_true (by omega)
      have hgb := hs.bd i
      unfold Bd6 at hgb
      have c2 := valid_p (up12 (gP s i) o)
      have hbn : ∀ x : Int, (x == x) = true := fun x => beq_self_eq_true x
      by_cases hv : Bd6 576 (up12 (gP s i) o)
      · rw [decide_eq_true hv] at c2
        have c3 := degree_tc s (up12 (gP s i) o) h0
        have c4 := nearest_tc s (up12 (gP s i) o) h0
        rw [deg_at hs hi hv] at c3
        have hnr := near_at hs hi hv
        generalize nearR s (up12 (gP s i) o) = R at c4 hnr
        simp only [up12] at c2 c3 c4
        clear hv
        rcases hnr with rfl | rfl
        · (refine TC_of_T Γ_ok Tryd.func6 rfl (by kernel_rfl) ?_;simp only [Tryd.ntmps6,Tryd.results6,List.length_cons,List.length_nil,Nat.reduceSub,Nat.reduceAdd,List.replicate,List.cons_append,List.nil_append])
          (have cl1 := c0;have dl1 := c1;have dl2 := c2;have dl3 := c3;have dl4 := c4;have sx1 := e1;have sx2 := e2;have sx3 := e3;have sx4 := e4;have sx5 := hne;have sx6 := hii;have sx7 := hi0;have sx8 := hbn;have sx9 : (0 : Nat) + 0 = 0 := rfl;((refine goR9 _ _ _ _ _ _ _ _ ?_ ?_ ?_ ?_ ?_ ?_ ?_ ?_) <;> (repeat intro hb) <;> first|exact True.intro|refine Lf.mk ?_))
        · (refine TC_of_T Γ_ok Tryd.func6 rfl (by kernel_rfl) ?_;simp only [Tryd.ntmps6,Tryd.results6,List.length_cons,List.length_nil,Nat.reduceSub,Nat.reduceAdd,List.replicate,List.cons_append,List.nil_append])
          (have cl1 := c0;have dl1 := c1;have dl2 := c2;have dl3 := c3;have dl4 := c4;have sx1 := e1;have sx2 := e2;have sx3 := e3;have sx4 := e4;have sx5 := hne;have sx6 := hii;have sx7 := hi0;have sx8 := hbn;have sx9 : (0 : Nat) + 0 = 0 := rfl;((refine goR9 _ _ _ _ _ _ _ _ ?_ ?_ ?_ ?_ ?_ ?_ ?_ ?_) <;> (repeat intro hb) <;> first|exact True.intro|refine Lf.mk ?_))
      · rw [decide_eq_false hv] at c2
        simp only [up12] at c2
        (refine TC_of_T Γ_ok Tryd.func6 rfl (by kernel_rfl) ?_;simp only [Tryd.ntmps6,Tryd.results6,List.length_cons,List.length_nil,Nat.reduceSub,Nat.reduceAdd,List.replicate,List.cons_append,List.nil_append])
        (have cl1 := c0;have dl1 := c1;have dl2 := c2;have sx1 := e1;have sx2 := e2;have sx3 := e3;have sx4 := e4;have sx5 := hne;have sx6 := hii;have sx7 := hi0;have sx8 : (0 : Nat) + 0 = 0 := rfl;have sx9 : (0 : Nat) + 0 = 0 := rfl;((refine goR9 _ _ _ _ _ _ _ _ ?_ ?_ ?_ ?_ ?_ ?_ ?_ ?_) <;> (repeat intro hb) <;> first|exact True.intro|refine Lf.mk ?_))
    · rw [tf_f hs] at c1
      (refine TC_of_T Γ_ok Tryd.func6 rfl (by kernel_rfl) ?_;simp only [Tryd.ntmps6,Tryd.results6,List.length_cons,List.length_nil,Nat.reduceSub,Nat.reduceAdd,List.replicate,List.cons_append,List.nil_append])
      (have cl1 := c0;have dl1 := c1;have sx1 := e1;have sx2 := e2;have sx3 := e3;have sx4 : (0 : Nat) + 0 = 0 := rfl;((have sx5 : (0 : Nat) + 0 = 0 := rfl;have sx6 : (0 : Nat) + 0 = 0 := rfl;have sx7 : (0 : Nat) + 0 = 0 := rfl;have sx8 : (0 : Nat) + 0 = 0 := rfl;have sx9 : (0 : Nat) + 0 = 0 := rfl;refine goR9 _ _ _ _ _ _ _ _ ?_ ?_ ?_ ?_ ?_ ?_ ?_ ?_) <;> (repeat intro hb) <;> first|exact True.intro|refine Lf.mk ?_))
  · by_cases k1 : s.length ≤ 16
    · by_cases k2 : -20 ≤ o
      · have e1 : decide ((s.length : Int) > 16) = false := decide_eq_false (by omega)
        have e2 : decide (o < -20) = false := decide_eq_false (by omega)
        have e3 : decide (o > 20) = true := decide_eq_true (by omega)
        have F := And.intro e1 (And.intro e2 e3)
        (refine TC_of_T Γ_ok Tryd.func6 rfl (by kernel_rfl) ?_;simp only [Tryd.ntmps6,Tryd.results6,List.length_cons,List.length_nil,Nat.reduceSub,Nat.reduceAdd,List.replicate,List.cons_append,List.nil_append])
        (have cl1 := c0;have sx1 := F;((have sx2 : (0 : Nat) + 0 = 0 := rfl;refine goB2 _ _ _ _ _ _ _ _ ?_ ?_ ?_ ?_ ?_ ?_ ?_ ?_) <;> (repeat intro hb) <;> first|exact True.intro|refine Lf.mk ?_))
      · have e1 : decide ((s.length : Int) > 16) = false := decide_eq_false (by omega)
        have e2 : decide (o < -20) = true := decide_eq_true (by omega)
        have F := And.intro e1 e2
        (refine TC_of_T Γ_ok Tryd.func6 rfl (by kernel_rfl) ?_;simp only [Tryd.ntmps6,Tryd.results6,List.length_cons,List.length_nil,Nat.reduceSub,Nat.reduceAdd,List.replicate,List.cons_append,List.nil_append])
        (have cl1 := c0;have sx1 := F;((have sx2 : (0 : Nat) + 0 = 0 := rfl;refine goB2 _ _ _ _ _ _ _ _ ?_ ?_ ?_ ?_ ?_ ?_ ?_ ?_) <;> (repeat intro hb) <;> first|exact True.intro|refine Lf.mk ?_))
    · have e1 : decide ((s.length : Int) > 16) = true := decide_eq_true (by omega)
      (refine TC_of_T Γ_ok Tryd.func6 rfl (by kernel_rfl) ?_;simp only [Tryd.ntmps6,Tryd.results6,List.length_cons,List.length_nil,Nat.reduceSub,Nat.reduceAdd,List.replicate,List.cons_append,List.nil_append])
      (have cl1 := c0;have sx1 := e1;((have sx2 : (0 : Nat) + 0 = 0 := rfl;refine goB2 _ _ _ _ _ _ _ _ ?_ ?_ ?_ ?_ ?_ ?_ ?_ ?_) <;> (repeat intro hb) <;> first|exact True.intro|refine Lf.mk ?_))
end Go.Proofs.YtdglbjjenihdlaaDoor
