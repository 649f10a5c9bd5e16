/-
  ScaleSteps.
-/
import Derived.Test.YtdglbjjenihdlaaDoorQGo
import Derived.Test.YtdglbjjenihdlaaDoorQGo2
import Derived.Test.YtdglbjjenihdlaaDoorQP3
import Derived.Test.YtdglbjjenihdlaaDoorQN24
import Derived.Test.YtdglbjjenihdlaaDoorQC1
set_option linter.unusedSimpArgs false
set_option linter.unusedVariables false
namespace Go.Proofs.YtdglbjjenihdlaaDoor
open Go.Ab
@[go_sem,reducible] def enSt (s l : List P6) (i : Nat) : List AV := [pts s,.top,.top,.imm (.bool true),.top,.top,.optr 1 0 0] ++ List.replicate 33 .top ++ [.own 0 0 l.length none,.imm (.int .i64 l.length),.imm (.int .i64 i)] ++ List.replicate 43 .top
set_option maxRecDepth 100000 in
set_option maxHeartbeats 8000000 in
theorem steps_law (s : List P6) (h0 : s.length ≤ 9223372036854775807) : Look Tryd.prog 9 [pts s] (.imm (.bool true)) := by
  refine Look.mk trivial ?_
  have c0 := head_tc
  have c1 := rsvalid_tc s h0
  by_cases h16 : s.length ≤ 16
  · have e1 : decide ((s.length : Int) > 16) = false := decide_eq_false (by omega)
    by_cases hs : SclOk s
    · rw [tf_t hs] at c1
      have c2 := steps_mk s h0
      by_cases he : (stepsR s).2 = 0
      · obtain ⟨h1, h2⟩ := steps_ok hs he
        have hup := fun i hi => step_up hs he (i := i) hi
        have hA0 : atP s 0 = z6 := by rw [atP_lt (scl_pos hs), hs.zero]
        have hAi : ∀ i, i < s.length → atP s i = gP s i := fun i hi => atP_lt hi
        have hAn : atP s s.length = oct := atP_end hs
        have hmul : ∀ i, i < s.length → mulR (atP s i) (gP (stepsR s).1 i) = (atP s (i + 1), 0) := fun i hi => by
          unfold mulR
          rw [if_pos ⟨atP_bd hs (by omega), (h2 i hi).2⟩, step_add hs he hi, if_pos (atP_bd hs (by omega))]
        generalize stepsR s = R at *
        obtain ⟨l, e⟩ := R
        simp only [] at he c2 h1 h2 hup hmul
        subst he
        generalize atP s = A at *
        clear h2
        have hbn : ∀ x : Int, (x == x) = true := fun x => beq_self_eq_true x
        have e2 : ((l.length : Int) != (s.length : Int)) = false := by simp [h1]
        have e3 : ((s.length : Int) != (s.length : Int)) = false := by simp
        (refine TC_of_T Γ_ok Tryd.func9 rfl (by kernel_rfl) ?_;simp only [Tryd.ntmps9,Tryd.results9,List.length_cons,List.length_nil,Nat.reduceSub,Nat.reduceAdd,List.replicate,List.cons_append,List.nil_append])
        (have cl1 := c0;have dl1 := c1;have cm1 := c2;have sx1 := e1;have sx2 := e2;have sx3 := e3;have sx4 : (0 : Nat) + 0 = 0 := rfl;repeat' (first|with_reducible refine T_seq_drawT (id := 13) Γ_ok drawsAny pl9_13 (by kernel_rfl) (fun K hK=>?_)|with_reducible refine T_last_drawT (id := 13) Γ_ok drawsAny pl9_13 (by kernel_rfl) (fun K hK=>?_)|((have sx5 : (0 : Nat) + 0 = 0 := rfl;have sx6 : (0 : Nat) + 0 = 0 := rfl;have sx7 : (0 : Nat) + 0 = 0 := rfl;have sx8 : (0 : Nat) + 0 = 0 := rfl;have sx9 : (0 : Nat) + 0 = 0 := rfl;refine goR9 _ _ _ _ _ _ _ _ ?_ ?_ ?_ ?_ ?_ ?_ ?_ ?_) <;> (repeat intro hb) <;> first|exact True.intro|refine Lf.mk ?_)))
        refine T_loopW (fun m st => ∃ i : Nat,i ≤ l.length ∧ m + i = l.length ∧ st = ⟨enSt s l i,[ptO l,.box 24 (p6L (A i))]⟩)
          l.length ⟨_, ?_, 0, by omega, rfl, rfl⟩ ?_
        · rw [hA0]
          ((try simp only [List.length_append,List.length_cons,List.length_nil,Nat.zero_add]);refine Wk.intro [0,1] (by decide) (by decide) (by intro o ho;simp at ho ⊢ <;> omega) ?_ ?_ <;> repeat' (first|exact WkVL.nil|refine WkVL.cons ?_ ?_|exact WkV.top|exact WkV.imm rfl|exact WkV.imm (by simp)|exact WkV.optr rfl|exact WkV.own rfl (by simp)|exact WkV.nil_own (.inl rfl)|exact WkV.map rfl|(refine WkV.free ?_;simp [Free,FreeL] <;> assumption)|(refine WkV.free (fun _ _=>FreeL_nth ?_ _);simp [Free,FreeL];done)|refine WkV.agg ?_|refine WkV.tup ?_|refine WkV.fn ?_ ?_|exact WkO.dead|exact WkO.raw|refine WkO.ghost ?_|exact WkO.mpE rfl trivial|refine WkO.box ?_ rfl|refine WkO.arr ?_|refine And.intro ?_ (And.intro (by first|exact fun h=>h|exact fun _=>rfl|exact nofun) ?_)|exact trivial|(intro i j hi hj)))
        rintro m st ⟨i, k0, k1, rfl⟩
        by_cases hi : i < l.length
        · have c3 := pcmp_tc (gP l i) z6
          rw [hup i (by omega)] at c3
          have c4 := mul_tc (A i) (gP l i)
          rw [hmul i (by omega)] at c4
          rw [hAi i (by omega)] at c4 ⊢
          have hii : ((i : Int) < s.length) = True := eq_true (by omega)
          simp only [z6] at c3
          (simp only [go_sem,↓reduceIte,Nat.reduceAdd,Nat.reduceSub,Nat.reduceMul,Nat.reduceLT,Nat.reduceLeDiff,Nat.reduceEqDiff,Nat.reduceGT,Int.reduceToNat,Int.reduceBEq,Int.reduceBNe];try simp (disch := omega) only [wrapI,wrapU,half_sum,toNat_sub1,toNat_add1,Int.toNat_natCast])
          (have dl1 := c3;have dl2 := c4;have sx1 := hbn;have sx2 : (0 : Nat) + 0 = 0 := rfl;repeat' (first|with_reducible refine T_seq_drawT (id := 13) Γ_ok drawsAny pl9_13 (by kernel_rfl) (fun K hK=>?_)|with_reducible refine T_last_drawT (id := 13) Γ_ok drawsAny pl9_13 (by kernel_rfl) (fun K hK=>?_)|((have sx3 : (0 : Nat) + 0 = 0 := rfl;have sx4 : (0 : Nat) + 0 = 0 := rfl;have sx5 : (0 : Nat) + 0 = 0 := rfl;have sx6 : (0 : Nat) + 0 = 0 := rfl;have sx7 : (0 : Nat) + 0 = 0 := rfl;have sx8 : (0 : Nat) + 0 = 0 := rfl;have sx9 : (0 : Nat) + 0 = 0 := rfl;refine goR9 _ _ _ _ _ _ _ _ ?_ ?_ ?_ ?_ ?_ ?_ ?_ ?_) <;> (repeat intro hb) <;> first|exact True.intro|refine Lf.mk ?_)))
          refine ⟨l.length - (i + 1), by omega, _, ?_, i + 1, by omega, by omega, rfl⟩
          ((try simp only [List.length_append,List.length_cons,List.length_nil,Nat.zero_add]);refine Wk.intro [0,1] (by decide) (by decide) (by intro o ho;simp at ho ⊢ <;> omega) ?_ ?_ <;> repeat' (first|(refine WkV.imm ?_;congr 1;omega)|exact WkVL.nil|refine WkVL.cons ?_ ?_|exact WkV.top|exact WkV.imm rfl|exact WkV.imm (by simp)|exact WkV.optr rfl|exact WkV.own rfl (by simp)|exact WkV.nil_own (.inl rfl)|exact WkV.map rfl|(refine WkV.free ?_;simp [Free,FreeL] <;> assumption)|(refine WkV.free (fun _ _=>FreeL_nth ?_ _);simp [Free,FreeL];done)|refine WkV.agg ?_|refine WkV.tup ?_|refine WkV.fn ?_ ?_|exact WkO.dead|exact WkO.raw|refine WkO.ghost ?_|exact WkO.mpE rfl trivial|refine WkO.box ?_ rfl|refine WkO.arr ?_|refine And.intro ?_ (And.intro (by first|exact fun h=>h|exact fun _=>rfl|exact nofun) ?_)|exact trivial|(intro i j hi hj)))
        · obtain rfl : i = l.length := by omega
          rw [h1, hAn]
          simp only [oct]
          (simp only [go_sem,↓reduceIte,Nat.reduceAdd,Nat.reduceSub,Nat.reduceMul,Nat.reduceLT,Nat.reduceLeDiff,Nat.reduceEqDiff,Nat.reduceGT,Int.reduceToNat,Int.reduceBEq,Int.reduceBNe];try simp (disch := omega) only [wrapI,wrapU,half_sum,toNat_sub1,toNat_add1,Int.toNat_natCast])
          (repeat' (first|with_reducible refine T_seq_drawT (id := 13) Γ_ok drawsAny pl9_13 (by kernel_rfl) (fun K hK=>?_)|with_reducible refine T_last_drawT (id := 13) Γ_ok drawsAny pl9_13 (by kernel_rfl) (fun K hK=>?_)|((refine goR0 _ _ _ _ _ _ _ _ ?_ ?_ ?_ ?_ ?_ ?_ ?_ ?_) <;> (repeat intro hb) <;> first|exact True.intro|refine Lf.mk ?_)))
      · have := steps_err hs he
        rw [this] at c2
        (refine TC_of_T Γ_ok Tryd.func9 rfl (by kernel_rfl) ?_;simp only [Tryd.ntmps9,Tryd.results9,List.length_cons,List.length_nil,Nat.reduceSub,Nat.reduceAdd,List.replicate,List.cons_append,List.nil_append])
        (have cl1 := c0;have dl1 := c1;have cm1 := c2;have sx1 := e1;have sx2 : (0 : Nat) + 0 = 0 := rfl;repeat' (first|with_reducible refine T_seq_drawT (id := 13) Γ_ok drawsAny pl9_13 (by kernel_rfl) (fun K hK=>?_)|with_reducible refine T_last_drawT (id := 13) Γ_ok drawsAny pl9_13 (by kernel_rfl) (fun K hK=>?_)|((have sx3 : (0 : Nat) + 0 = 0 := rfl;have sx4 : (0 : Nat) + 0 = 0 := rfl;have sx5 : (0 : Nat) + 0 = 0 := rfl;have sx6 : (0 : Nat) + 0 = 0 := rfl;have sx7 : (0 : Nat) + 0 = 0 := rfl;have sx8 : (0 : Nat) + 0 = 0 := rfl;have sx9 : (0 : Nat) + 0 = 0 := rfl;refine goR9 _ _ _ _ _ _ _ _ ?_ ?_ ?_ ?_ ?_ ?_ ?_ ?_) <;> (repeat intro hb) <;> first|exact True.intro|refine Lf.mk ?_)))
    · rw [tf_f hs] at c1
      (refine TC_of_T Γ_ok Tryd.func9 rfl (by kernel_rfl) ?_;simp only [Tryd.ntmps9,Tryd.results9,List.length_cons,List.length_nil,Nat.reduceSub,Nat.reduceAdd,List.replicate,List.cons_append,List.nil_append])
      (have cl1 := c0;have dl1 := c1;have sx1 := e1;have sx2 : (0 : Nat) + 0 = 0 := rfl;repeat' (first|with_reducible refine T_seq_drawT (id := 13) Γ_ok drawsAny pl9_13 (by kernel_rfl) (fun K hK=>?_)|with_reducible refine T_last_drawT (id := 13) Γ_ok drawsAny pl9_13 (by kernel_rfl) (fun K hK=>?_)|((have sx3 : (0 : Nat) + 0 = 0 := rfl;have sx4 : (0 : Nat) + 0 = 0 := rfl;have sx5 : (0 : Nat) + 0 = 0 := rfl;have sx6 : (0 : Nat) + 0 = 0 := rfl;have sx7 : (0 : Nat) + 0 = 0 := rfl;have sx8 : (0 : Nat) + 0 = 0 := rfl;have sx9 : (0 : Nat) + 0 = 0 := rfl;refine goR9 _ _ _ _ _ _ _ _ ?_ ?_ ?_ ?_ ?_ ?_ ?_ ?_) <;> (repeat intro hb) <;> first|exact True.intro|refine Lf.mk ?_)))
  · have e1 : decide ((s.length : Int) > 16) = true := decide_eq_true (by omega)
    (refine TC_of_T Γ_ok Tryd.func9 rfl (by kernel_rfl) ?_;simp only [Tryd.ntmps9,Tryd.results9,List.length_cons,List.length_nil,Nat.reduceSub,Nat.reduceAdd,List.replicate,List.cons_append,List.nil_append])
    (have cl1 := c0;have sx1 := e1;repeat' (first|with_reducible refine T_seq_drawT (id := 13) Γ_ok drawsAny pl9_13 (by kernel_rfl) (fun K hK=>?_)|with_reducible refine T_last_drawT (id := 13) Γ_ok drawsAny pl9_13 (by kernel_rfl) (fun K hK=>?_)|((have sx2 : (0 : Nat) + 0 = 0 := rfl;refine goB2 _ _ _ _ _ _ _ _ ?_ ?_ ?_ ?_ ?_ ?_ ?_ ?_) <;> (repeat intro hb) <;> first|exact True.intro|refine Lf.mk ?_)))
end Go.Proofs.YtdglbjjenihdlaaDoor
