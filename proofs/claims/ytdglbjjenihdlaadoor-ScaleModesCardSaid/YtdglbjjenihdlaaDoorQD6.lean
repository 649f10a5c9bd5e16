/-
  ScaleModes.
-/
import Derived.Test.YtdglbjjenihdlaaDoorQGo
import Derived.Test.YtdglbjjenihdlaaDoorQGo2
import Derived.Test.YtdglbjjenihdlaaDoorQP3
import Derived.Test.YtdglbjjenihdlaaDoorQD6b
set_option linter.unusedSimpArgs false
set_option linter.unusedVariables false
namespace Go.Proofs.YtdglbjjenihdlaaDoor
open Go.Ab
theorem mode_len {s : List P6} {d : Int} : (modeR s d).1.length ≤ s.length := by
  unfold modeR
  split
  · unfold quR
    split
    · rename_i l hl
      exact Nat.le_of_eq (quL_len hl)
    · exact Nat.zero_le _
  · exact Nat.zero_le _
set_option maxRecDepth 100000 in
set_option maxHeartbeats 8000000 in
theorem modes_law (s : List P6) (h0 : s.length ≤ 9223372036854775807) (d k : Nat) (hd : d < 256) (hk9 : k < 256) : Look Tryd.prog 5 [pts s,.imm (.int .u8 d),.imm (.int .u8 k)] (.imm (.bool true)) := by
  have c1 := rsvalid_tc s h0
  by_cases h16 : s.length ≤ 16
  · have e1 : decide ((s.length : Int) > 16) = false := decide_eq_false (by omega)
    by_cases hs : SclOk s
    · rw [tf_t hs] at c1
      have hn := scl_pos hs
      have ha := Nat.mod_lt d hn
      have hb9 := Nat.mod_lt k hn
      have e2 : (d : Int).tmod (s.length : Int) = ((d % s.length : Nat) : Int) := rfl
      have e3 : (k : Int).tmod (s.length : Int) = ((k % s.length : Nat) : Int) := rfl
      generalize d % s.length = a at *
      generalize k % s.length = b at *
      have m0 := mode_mk s h0 ((0 : Nat) : Int)
      rw [mode_0 hs] at m0
      have s0 := h_same s h0
      have m1 := mode_mk s h0 (a : Int)
      by_cases he : (modeR s a).2 = 0
      · obtain ⟨hl, _⟩ := mode_ok hs ha he
        have hm := mode_scl hs ha he
        have v1 := svalid_tc (modeR s a).1 (by omega)
        rw [tf_t hm] at v1
        have m2 := mode_mk (modeR s a).1 (by omega) (b : Int)
        have m3 := mode_mk s h0 (((a + b) % s.length : Nat) : Int)
        have t1 := steps_mk s h0
        have t2 := steps_mk (modeR s a).1 (by omega)
        have h4 : (stepsR s).2 = 0 ∨ (stepsR s).2 = 3 := by
          by_cases q : (stepsR s).2 = 0
          · exact .inl q
          · rw [steps_err hs q]; exact .inr rfl
        have h5 : (stepsR (modeR s a).1).2 = 0 ∨ (stepsR (modeR s a).1).2 = 3 := by
          by_cases q : (stepsR (modeR s a).1).2 = 0
          · exact .inl q
          · rw [steps_err hm q]; exact .inr rfl
        have hT : (stepsR s).2 = 0 → (stepsR (modeR s a).1).2 = 0 → (stepsR s).1.length = s.length ∧ (stepsR (modeR s a).1).1.length = s.length ∧ ∀ j,j < s.length → gP (stepsR (modeR s a).1).1 j = gP (stepsR s).1 ((a + j) % s.length) := fun x y =>
          ⟨(steps_ok hs x).1, (steps_ok hm y).1.trans hl, fun j hj => mode_steps hs ha he x y hj⟩
        have hmm := mode_mode hs ha hb9 he
        have hol := mode_len (s := (modeR s a).1) (d := (b : Int))
        rw [he] at m1
        by_cases h2 : (modeR (modeR s a).1 b).2 = 0
        · by_cases h3 : (modeR s ((a + b) % s.length : Nat)).2 = 0
          · have h9 := hmm h2 h3
            have s1 := h_same (modeR (modeR s a).1 b).1 (by omega)
            rw [h2] at m2
            rw [h3] at m3
            rw [← h9] at m3
            exact modes_a s (modeR s a).1 _ _ _ _ h0 d k a b hd hk9 h16 hn ha hb9 e2 e3 hl c1 m0 s0 m1 v1 m2 m3 _ _ s1 t1 t2 h4 h5 hT
          · rw [h2] at m2
            exact modes_b s (modeR s a).1 _ _ _ _ h0 d k a b hd hk9 h16 hn ha hb9 e2 e3 hl c1 m0 s0 m1 v1 _ h3 m2 m3 _ _ t1 t2 h4 h5 hT
        · exact modes_c s (modeR s a).1 _ _ _ _ h0 d k a b hd hk9 h16 hn ha hb9 e2 e3 hl c1 m0 s0 m1 v1 _ _ h2 m2 m3 _ _ t1 t2 h4 h5 hT
      · have := mode_err hs ha he
        rw [this] at m1
        refine Look.mk trivial ?_
        have c0 := head_tc
        change Makes Tryd.prog 21 [pts s, .imm (.int .i64 0)] _ _ at m0
        (refine TC_of_T Γ_ok Tryd.func5 rfl (by kernel_rfl) ?_;simp only [Tryd.ntmps5,Tryd.results5,List.length_cons,List.length_nil,Nat.reduceSub,Nat.reduceAdd,List.replicate,List.cons_append,List.nil_append])
        (have cl1 := c0;have dl1 := c1;have dm1 := m0;have dm2 := m1;have dl2 := s0;have sx1 := e1;have sx2 := e2;have sx3 := e3;have sx4 : (0 : Nat) + 0 = 0 := rfl;repeat' (first|with_reducible refine T_seq_drawT (id := 5) Γ_ok drawsAny pl5_5 (by kernel_rfl) (fun K hK=>?_)|with_reducible refine T_last_drawT (id := 5) Γ_ok drawsAny pl5_5 (by kernel_rfl) (fun K hK=>?_)|with_reducible refine T_seq_drawT (id := 25) Γ_ok drawsAny pl5_25 (by kernel_rfl) (fun K hK=>?_)|with_reducible refine T_last_drawT (id := 25) Γ_ok drawsAny pl5_25 (by kernel_rfl) (fun K hK=>?_)|((have sx5 : (0 : Nat) + 0 = 0 := rfl;have sx6 : (0 : Nat) + 0 = 0 := rfl;have sx7 : (0 : Nat) + 0 = 0 := rfl;have sx8 : (0 : Nat) + 0 = 0 := rfl;have sx9 : (0 : Nat) + 0 = 0 := rfl;refine goR9 _ _ _ _ _ _ _ _ ?_ ?_ ?_ ?_ ?_ ?_ ?_ ?_) <;> (repeat intro hb) <;> first|exact True.intro|refine Lf.mk ?_)))
    · rw [tf_f hs] at c1
      refine Look.mk trivial ?_
      have c0 := head_tc
      (refine TC_of_T Γ_ok Tryd.func5 rfl (by kernel_rfl) ?_;simp only [Tryd.ntmps5,Tryd.results5,List.length_cons,List.length_nil,Nat.reduceSub,Nat.reduceAdd,List.replicate,List.cons_append,List.nil_append])
      (have cl1 := c0;have dl1 := c1;have sx1 := e1;have sx2 : (0 : Nat) + 0 = 0 := rfl;repeat' (first|with_reducible refine T_seq_drawT (id := 5) Γ_ok drawsAny pl5_5 (by kernel_rfl) (fun K hK=>?_)|with_reducible refine T_last_drawT (id := 5) Γ_ok drawsAny pl5_5 (by kernel_rfl) (fun K hK=>?_)|with_reducible refine T_seq_drawT (id := 25) Γ_ok drawsAny pl5_25 (by kernel_rfl) (fun K hK=>?_)|with_reducible refine T_last_drawT (id := 25) Γ_ok drawsAny pl5_25 (by kernel_rfl) (fun K hK=>?_)|((have sx3 : (0 : Nat) + 0 = 0 := rfl;have sx4 : (0 : Nat) + 0 = 0 := rfl;have sx5 : (0 : Nat) + 0 = 0 := rfl;have sx6 : (0 : Nat) + 0 = 0 := rfl;have sx7 : (0 : Nat) + 0 = 0 := rfl;have sx8 : (0 : Nat) + 0 = 0 := rfl;have sx9 : (0 : Nat) + 0 = 0 := rfl;refine goR9 _ _ _ _ _ _ _ _ ?_ ?_ ?_ ?_ ?_ ?_ ?_ ?_) <;> (repeat intro hb) <;> first|exact True.intro|refine Lf.mk ?_)))
  · have e1 : decide ((s.length : Int) > 16) = true := decide_eq_true (by omega)
    refine Look.mk trivial ?_
    have c0 := head_tc
    (refine TC_of_T Γ_ok Tryd.func5 rfl (by kernel_rfl) ?_;simp only [Tryd.ntmps5,Tryd.results5,List.length_cons,List.length_nil,Nat.reduceSub,Nat.reduceAdd,List.replicate,List.cons_append,List.nil_append])
    (have cl1 := c0;have sx1 := e1;repeat' (first|with_reducible refine T_seq_drawT (id := 5) Γ_ok drawsAny pl5_5 (by kernel_rfl) (fun K hK=>?_)|with_reducible refine T_last_drawT (id := 5) Γ_ok drawsAny pl5_5 (by kernel_rfl) (fun K hK=>?_)|with_reducible refine T_seq_drawT (id := 25) Γ_ok drawsAny pl5_25 (by kernel_rfl) (fun K hK=>?_)|with_reducible refine T_last_drawT (id := 25) Γ_ok drawsAny pl5_25 (by kernel_rfl) (fun K hK=>?_)|((have sx2 : (0 : Nat) + 0 = 0 := rfl;refine goB2 _ _ _ _ _ _ _ _ ?_ ?_ ?_ ?_ ?_ ?_ ?_ ?_) <;> (repeat intro hb) <;> first|exact True.intro|refine Lf.mk ?_)))
end Go.Proofs.YtdglbjjenihdlaaDoor
