/-
  ScaleMatchesReference.
-/
import Derived.Test.YtdglbjjenihdlaaDoorWGo
import Derived.Test.YtdglbjjenihdlaaDoorWC1
import Derived.Test.YtdglbjjenihdlaaDoorWQ9
import Derived.Test.YtdglbjjenihdlaaDoorWS10
set_option linter.unusedSimpArgs false
set_option linter.unusedVariables false
namespace Go.Proofs.YtdglbjjenihdlaaDoor
open Go.Ab
theorem chR_len (g : P6) (n : Int) : (chR g n).1.length ≤ 64 := by
  unfold chR
  split
  · rename_i h
    split
    · simp
    · rename_i l hl
      split
      · simp
      · rename_i m hm
        have h1 := (srtP_some hm).2.length_eq
        have h2 := (chL_len hl).1
        simp only []
        omega
  · simp
theorem quR_len (s : List P6) (ov un : Nat → Nat) : (quR s ov un).1.length ≤ s.length := by
  unfold quR
  split
  · rename_i l hl
    exact Nat.le_of_eq (quL_len hl)
  · exact Nat.zero_le _
theorem modeR_len (s : List P6) (d : Int) : (modeR s d).1.length ≤ s.length := by
  unfold modeR
  split
  · exact quR_len _ _ _
  · exact Nat.zero_le _
theorem stepsR_len (s : List P6) : (stepsR s).1.length ≤ s.length := by
  unfold stepsR
  split
  · exact quR_len _ _ _
  · exact Nat.zero_le _
set_option maxRecDepth 100000 in
set_option maxHeartbeats 8000000 in
theorem ref_law (s : List P6) (h0 : s.length ≤ 9223372036854775807) (p g : P6) (n d : Int) : Look Tryd.prog 3 [pts s,p6A p,p6A g,.imm (.int .i64 n),.imm (.int .i64 d)] (.imm (.bool true)) := by
  refine Look.mk trivial ?_
  have c0 := head_tc
  have c1 := octave_tc p
  have c2 := roctave_tc p
  have m1 := chain_mk g n
  have m2 := rchain_mk g n
  have s1 := h_same (chR g n).1 (by have := chR_len g n; omega)
  have c3 := svalid_tc s h0
  have c4 := rsvalid_tc s h0
  have m3 := steps_mk s h0
  have m4 := rsteps_mk s h0
  have s2 := h_same (stepsR s).1 (by have := stepsR_len s; omega)
  have m5 := mode_mk s h0 d
  have m6 := rmode_mk s h0 d
  have s3 := h_same (modeR s d).1 (by have := modeR_len s d; omega)
  have c5 := degree_tc s p h0
  have c6 := rdegree_tc s p h0
  have c7 := nearest_tc s p h0
  have c8 := rnearest_tc s p h0
  generalize octR p = R1 at *
  generalize chR g n = R2 at *
  generalize stepsR s = R3 at *
  generalize modeR s d = R4 at *
  generalize degR s p = R5 at *
  generalize nearR s p = R6 at *
  generalize tf (SclOk s) = v at *
  have hbn : ∀ x : Int, (x == x) = true := fun x => beq_self_eq_true x
  have hbb : ∀ x : Bool, (x == x) = true := fun x => beq_self_eq_true x
  by_cases hn : n ≤ 16 ∨ n > 64
  · by_cases hl : s.length > 16 ∧ s.length ≤ 64
    · (refine TC_of_T Γ_ok Tryd.func3 rfl (by kernel_rfl) ?_;simp only [Tryd.ntmps3,Tryd.results3,List.length_cons,List.length_nil,Nat.reduceSub,Nat.reduceAdd,List.replicate,List.cons_append,List.nil_append])
      (have cl1 := c0;have cl2 := c1;have cl3 := c2;have cm1 := m1;have cm2 := m2;have dl1 := s1;have sx1 := hbn;have sx2 := hbb;((have sx3 : (0 : Nat) + 0 = 0 := rfl;have sx4 : (0 : Nat) + 0 = 0 := rfl;have sx5 : (0 : Nat) + 0 = 0 := rfl;have sx6 : (0 : Nat) + 0 = 0 := rfl;have sx7 : (0 : Nat) + 0 = 0 := rfl;have sx8 : (0 : Nat) + 0 = 0 := rfl;have sx9 : (0 : Nat) + 0 = 0 := rfl;refine goR9 _ _ _ _ _ _ _ _ ?_ ?_ ?_ ?_ ?_ ?_ ?_ ?_) <;> (repeat intro hb) <;> first|exact True.intro|refine Lf.mk ?_))
    · (refine TC_of_T Γ_ok Tryd.func3 rfl (by kernel_rfl) ?_;simp only [Tryd.ntmps3,Tryd.results3,List.length_cons,List.length_nil,Nat.reduceSub,Nat.reduceAdd,List.replicate,List.cons_append,List.nil_append])
      (have cl1 := c0;have cl2 := c1;have cl3 := c2;have cl4 := c3;have cl5 := c4;have cl6 := c5;have cl7 := c6;have cl8 := c7;have cl9 := c8;have cm1 := m1;have cm2 := m2;have cm3 := m3;have cm4 := m4;have cm5 := m5;have cm6 := m6;have dl1 := s1;have dl2 := s2;have dl3 := s3;have sx1 := hbn;have sx2 := hbb;((have sx3 : (0 : Nat) + 0 = 0 := rfl;have sx4 : (0 : Nat) + 0 = 0 := rfl;have sx5 : (0 : Nat) + 0 = 0 := rfl;have sx6 : (0 : Nat) + 0 = 0 := rfl;have sx7 : (0 : Nat) + 0 = 0 := rfl;have sx8 : (0 : Nat) + 0 = 0 := rfl;have sx9 : (0 : Nat) + 0 = 0 := rfl;refine goR9 _ _ _ _ _ _ _ _ ?_ ?_ ?_ ?_ ?_ ?_ ?_ ?_) <;> (repeat intro hb) <;> first|exact True.intro|refine Lf.mk ?_))
  · by_cases hl : s.length > 16 ∧ s.length ≤ 64
    · (refine TC_of_T Γ_ok Tryd.func3 rfl (by kernel_rfl) ?_;simp only [Tryd.ntmps3,Tryd.results3,List.length_cons,List.length_nil,Nat.reduceSub,Nat.reduceAdd,List.replicate,List.cons_append,List.nil_append])
      (have cl1 := c0;have cl2 := c1;have cl3 := c2;have sx1 := hbn;have sx2 := hbb;((have sx3 : (0 : Nat) + 0 = 0 := rfl;have sx4 : (0 : Nat) + 0 = 0 := rfl;have sx5 : (0 : Nat) + 0 = 0 := rfl;have sx6 : (0 : Nat) + 0 = 0 := rfl;have sx7 : (0 : Nat) + 0 = 0 := rfl;have sx8 : (0 : Nat) + 0 = 0 := rfl;have sx9 : (0 : Nat) + 0 = 0 := rfl;refine goR9 _ _ _ _ _ _ _ _ ?_ ?_ ?_ ?_ ?_ ?_ ?_ ?_) <;> (repeat intro hb) <;> first|exact True.intro|refine Lf.mk ?_))
    · (refine TC_of_T Γ_ok Tryd.func3 rfl (by kernel_rfl) ?_;simp only [Tryd.ntmps3,Tryd.results3,List.length_cons,List.length_nil,Nat.reduceSub,Nat.reduceAdd,List.replicate,List.cons_append,List.nil_append])
      (have cl1 := c0;have cl2 := c1;have cl3 := c2;have cl4 := c3;have cl5 := c4;have cl6 := c5;have cl7 := c6;have cl8 := c7;have cl9 := c8;have cm1 := m3;have cm2 := m4;have cm3 := m5;have cm4 := m6;have dl1 := s2;have dl2 := s3;have sx1 := hbn;have sx2 := hbb;((have sx3 : (0 : Nat) + 0 = 0 := rfl;have sx4 : (0 : Nat) + 0 = 0 := rfl;have sx5 : (0 : Nat) + 0 = 0 := rfl;have sx6 : (0 : Nat) + 0 = 0 := rfl;have sx7 : (0 : Nat) + 0 = 0 := rfl;have sx8 : (0 : Nat) + 0 = 0 := rfl;have sx9 : (0 : Nat) + 0 = 0 := rfl;refine goR9 _ _ _ _ _ _ _ _ ?_ ?_ ?_ ?_ ?_ ?_ ?_ ?_) <;> (repeat intro hb) <;> first|exact True.intro|refine Lf.mk ?_))
end Go.Proofs.YtdglbjjenihdlaaDoor
