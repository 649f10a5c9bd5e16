/-
  ScaleLonger.
-/
import Derived.Test.YtdglbjjenihdlaaDoorQGo
import Derived.Test.YtdglbjjenihdlaaDoorQP4
import Derived.Test.YtdglbjjenihdlaaDoorQC1
set_option linter.unusedSimpArgs false
set_option linter.unusedVariables false
namespace Go.Proofs.YtdglbjjenihdlaaDoor
open Go.Ab
@[go_sem,reducible] def enH (n k i : Nat) : List AV := [.top,.imm (.int .i64 n),.top,.top,.top,.imm (.bool true),.top,.top,.own 2 0 n none,.top,.imm (.int .i64 k)] ++ List.replicate 44 .top ++ [.own 1 0 (n + 1) none,.imm (.int .i64 ((n + 1 : Nat) : Int)),.imm (.int .i64 i)] ++ List.replicate 24 .top
set_option maxRecDepth 100000 in
set_option maxHeartbeats 8000000 in
theorem longer_law (g : P6) (n : Int) : Look Tryd.prog 7 [p6A g, .imm (.int .i64 n)] (.imm (.bool true)) := by
  refine Look.mk trivial ?_
  have c0 := head_tc
  by_cases hn : 1 ≤ n ∧ n ≤ 15
  · obtain ⟨N, rfl⟩ := Int.eq_ofNat_of_zero_le (show 0 ≤ n by omega)
    have e1 : decide ((N : Int) < 1) = false := decide_eq_false (by omega)
    have e2 : decide ((N : Int) > 15) = false := decide_eq_false (by omega)
    have c1 := chain_mk g ((N + 1 : Nat) : Int)
    have c2 := chain_mk g (N : Int)
    rw [show ((N + 1 : Nat) : Int) = (N : Int) + 1 by omega] at c1
    by_cases he : (chR g (N + 1 : Nat)).2 = 0
    · obtain ⟨j, j1, j2, j3, j4, j5, j6⟩ := ch_more (by omega) (by omega) he
      have hw := fun i hi => walk_more j1 j3 j5 j6 (i := i) hi
      rw [show ((N + 1 : Nat) : Int) = (N : Int) + 1 by omega] at he j4 hw
      clear j5 j6
      generalize chR g ((N : Int) + 1) = R at *
      generalize chR g (N : Int) = S at *
      obtain ⟨m, e⟩ := R
      obtain ⟨q, f⟩ := S
      simp only [] at c1 c2 he j2 j3 j4 hw
      subst he
      subst j2
      rw [j4] at c1
      rw [j3] at c2
      have e3 : (((N + 1 : Nat) : Int) == (N : Int) + 1) = true := by rw [beq_iff_eq]; omega
      have hbn : ∀ x : Int, (x == x) = true := fun x => beq_self_eq_true x
      (refine TC_of_T Γ_ok Tryd.func7 rfl (by kernel_rfl) ?_;simp only [Tryd.ntmps7,Tryd.results7,List.length_cons,List.length_nil,Nat.reduceSub,Nat.reduceAdd,List.replicate,List.cons_append,List.nil_append])
      (have cl1 := c0;have dm1 := c1;have dm2 := c2;have sx1 := e1;have sx2 := e2;have sx3 := e3;have sx4 := hbn;repeat' (first|with_reducible refine T_seq_drawT (id := 13) Γ_ok drawsAny pl7_13 (by kernel_rfl) (fun K hK=>?_)|with_reducible refine T_last_drawT (id := 13) Γ_ok drawsAny pl7_13 (by kernel_rfl) (fun K hK=>?_)|((have sx5 : (0 : Nat) + 0 = 0 := rfl;have sx6 : (0 : Nat) + 0 = 0 := rfl;have sx7 : (0 : Nat) + 0 = 0 := rfl;have sx8 : (0 : Nat) + 0 = 0 := rfl;have sx9 : (0 : Nat) + 0 = 0 := rfl;refine goR9 _ _ _ _ _ _ _ _ ?_ ?_ ?_ ?_ ?_ ?_ ?_ ?_) <;> (repeat intro hb) <;> first|exact True.intro|refine Lf.mk ?_)))
      refine T_loopW (fun w st => ∃ i : Nat,i ≤ N + 1 ∧ w + i = N + 1 ∧ st = ⟨enH N (if i ≤ j then i else i - 1) i,[.box 24 (p6L g),ptO m,ptO q]⟩)
        (N + 1) ⟨_, ?_, 0, by omega, rfl, rfl⟩ ?_
      · rw [if_pos (by omega)]
        ((try simp only [List.length_append,List.length_cons,List.length_nil,Nat.zero_add]);refine Wk.intro [0,1,2] (by decide) (by decide) (by intro o ho;simp at ho ⊢ <;> omega) ?_ ?_ <;> repeat' (first|exact WkVL.nil|refine WkVL.cons ?_ ?_|exact WkV.top|exact WkV.imm rfl|exact WkV.imm (by simp)|exact WkV.optr rfl|exact WkV.own rfl (by simp)|exact WkV.nil_own (.inl rfl)|exact WkV.map rfl|(refine WkV.free ?_;simp [Free,FreeL] <;> assumption)|(refine WkV.free (fun _ _=>FreeL_nth ?_ _);simp [Free,FreeL];done)|refine WkV.agg ?_|refine WkV.tup ?_|refine WkV.fn ?_ ?_|exact WkO.dead|exact WkO.raw|refine WkO.ghost ?_|exact WkO.mpE rfl trivial|refine WkO.box ?_ rfl|refine WkO.arr ?_|refine And.intro ?_ (And.intro (by first|exact fun h=>h|exact fun _=>rfl|exact nofun) ?_)|exact trivial|(intro i j hi hj)))
      rintro w st ⟨i, k0, k1, rfl⟩
      by_cases hi : i < N + 1
      · obtain ⟨w1, w2, w3⟩ := hw i hi
        by_cases h1 : i < j
        · have h2 := w1 h1
          rw [if_pos (by omega)]
          have f1 : ((i : Int) < (N : Int)) = True := eq_true (by omega)
          (simp only [go_sem,↓reduceIte,Nat.reduceAdd,Nat.reduceSub,Nat.reduceMul,Nat.reduceLT,Nat.reduceLeDiff,Nat.reduceEqDiff,Nat.reduceGT,Int.reduceToNat,Int.reduceBEq,Int.reduceBNe];try simp (disch := omega) only [wrapI,wrapU,half_sum,toNat_sub1,toNat_add1,Int.toNat_natCast])
          (have sx1 := h2;have sx2 := hbn;repeat' (first|with_reducible refine T_seq_drawT (id := 13) Γ_ok drawsAny pl7_13 (by kernel_rfl) (fun K hK=>?_)|with_reducible refine T_last_drawT (id := 13) Γ_ok drawsAny pl7_13 (by kernel_rfl) (fun K hK=>?_)|((have sx3 : (0 : Nat) + 0 = 0 := rfl;have sx4 : (0 : Nat) + 0 = 0 := rfl;have sx5 : (0 : Nat) + 0 = 0 := rfl;have sx6 : (0 : Nat) + 0 = 0 := rfl;have sx7 : (0 : Nat) + 0 = 0 := rfl;have sx8 : (0 : Nat) + 0 = 0 := rfl;have sx9 : (0 : Nat) + 0 = 0 := rfl;refine goR9 _ _ _ _ _ _ _ _ ?_ ?_ ?_ ?_ ?_ ?_ ?_ ?_) <;> (repeat intro hb) <;> first|exact True.intro|refine Lf.mk ?_)))
          refine ⟨N + 1 - (i + 1), by omega, _, ?_, i + 1, by omega, by omega, rfl⟩
          rw [if_pos (by omega)]
          ((try simp only [List.length_append,List.length_cons,List.length_nil,Nat.zero_add]);refine Wk.intro [0,1,2] (by decide) (by decide) (by intro o ho;simp at ho ⊢ <;> omega) ?_ ?_ <;> repeat' (first|(refine WkV.imm ?_;congr 1;omega)|exact WkVL.nil|refine WkVL.cons ?_ ?_|exact WkV.top|exact WkV.imm rfl|exact WkV.imm (by simp)|exact WkV.optr rfl|exact WkV.own rfl (by simp)|exact WkV.nil_own (.inl rfl)|exact WkV.map rfl|(refine WkV.free ?_;simp [Free,FreeL] <;> assumption)|(refine WkV.free (fun _ _=>FreeL_nth ?_ _);simp [Free,FreeL];done)|refine WkV.agg ?_|refine WkV.tup ?_|refine WkV.fn ?_ ?_|exact WkO.dead|exact WkO.raw|refine WkO.ghost ?_|exact WkO.mpE rfl trivial|refine WkO.box ?_ rfl|refine WkO.arr ?_|refine And.intro ?_ (And.intro (by first|exact fun h=>h|exact fun _=>rfl|exact nofun) ?_)|exact trivial|(intro i j hi hj)))
        · by_cases h3 : i = j
          · rw [if_pos (by omega)]
            by_cases h4 : i < N
            · have h5 := w2 h3 h4
              (simp only [go_sem,↓reduceIte,Nat.reduceAdd,Nat.reduceSub,Nat.reduceMul,Nat.reduceLT,Nat.reduceLeDiff,Nat.reduceEqDiff,Nat.reduceGT,Int.reduceToNat,Int.reduceBEq,Int.reduceBNe];try simp (disch := omega) only [wrapI,wrapU,half_sum,toNat_sub1,toNat_add1,Int.toNat_natCast])
              (repeat' (first|with_reducible refine T_seq_drawT (id := 13) Γ_ok drawsAny pl7_13 (by kernel_rfl) (fun K hK=>?_)|with_reducible refine T_last_drawT (id := 13) Γ_ok drawsAny pl7_13 (by kernel_rfl) (fun K hK=>?_)|((refine goR0 _ _ _ _ _ _ _ _ ?_ ?_ ?_ ?_ ?_ ?_ ?_ ?_) <;> (repeat intro hb) <;> first|exact True.intro|refine Lf.mk ?_)))
              · exact absurd ((p6_eq _ _).1 hb.2) h5
              · refine ⟨N + 1 - (i + 1), by omega, _, ?_, i + 1, by omega, by omega, rfl⟩
                rw [if_neg (by omega)]
                ((try simp only [List.length_append,List.length_cons,List.length_nil,Nat.zero_add]);refine Wk.intro [0,1,2] (by decide) (by decide) (by intro o ho;simp at ho ⊢ <;> omega) ?_ ?_ <;> repeat' (first|(refine WkV.imm ?_;congr 1;omega)|exact WkVL.nil|refine WkVL.cons ?_ ?_|exact WkV.top|exact WkV.imm rfl|exact WkV.imm (by simp)|exact WkV.optr rfl|exact WkV.own rfl (by simp)|exact WkV.nil_own (.inl rfl)|exact WkV.map rfl|(refine WkV.free ?_;simp [Free,FreeL] <;> assumption)|(refine WkV.free (fun _ _=>FreeL_nth ?_ _);simp [Free,FreeL];done)|refine WkV.agg ?_|refine WkV.tup ?_|refine WkV.fn ?_ ?_|exact WkO.dead|exact WkO.raw|refine WkO.ghost ?_|exact WkO.mpE rfl trivial|refine WkO.box ?_ rfl|refine WkO.arr ?_|refine And.intro ?_ (And.intro (by first|exact fun h=>h|exact fun _=>rfl|exact nofun) ?_)|exact trivial|(intro i j hi hj)))
            · have f1 : ((i : Int) < (N : Int)) = False := eq_false (by omega)
              have f2 : decide ((i : Int) < (N : Int)) = false := decide_eq_false (by omega)
              (simp only [go_sem,↓reduceIte,Nat.reduceAdd,Nat.reduceSub,Nat.reduceMul,Nat.reduceLT,Nat.reduceLeDiff,Nat.reduceEqDiff,Nat.reduceGT,Int.reduceToNat,Int.reduceBEq,Int.reduceBNe];try simp (disch := omega) only [wrapI,wrapU,half_sum,toNat_sub1,toNat_add1,Int.toNat_natCast])
              (have sx1 := f2;have sx2 : (0 : Nat) + 0 = 0 := rfl;repeat' (first|with_reducible refine T_seq_drawT (id := 13) Γ_ok drawsAny pl7_13 (by kernel_rfl) (fun K hK=>?_)|with_reducible refine T_last_drawT (id := 13) Γ_ok drawsAny pl7_13 (by kernel_rfl) (fun K hK=>?_)|((have sx3 : (0 : Nat) + 0 = 0 := rfl;have sx4 : (0 : Nat) + 0 = 0 := rfl;have sx5 : (0 : Nat) + 0 = 0 := rfl;have sx6 : (0 : Nat) + 0 = 0 := rfl;have sx7 : (0 : Nat) + 0 = 0 := rfl;have sx8 : (0 : Nat) + 0 = 0 := rfl;have sx9 : (0 : Nat) + 0 = 0 := rfl;refine goR9 _ _ _ _ _ _ _ _ ?_ ?_ ?_ ?_ ?_ ?_ ?_ ?_) <;> (repeat intro hb) <;> first|exact True.intro|refine Lf.mk ?_)))
              refine ⟨N + 1 - (i + 1), by omega, _, ?_, i + 1, by omega, by omega, rfl⟩
              rw [if_neg (by omega)]
              ((try simp only [List.length_append,List.length_cons,List.length_nil,Nat.zero_add]);refine Wk.intro [0,1,2] (by decide) (by decide) (by intro o ho;simp at ho ⊢ <;> omega) ?_ ?_ <;> repeat' (first|(refine WkV.imm ?_;congr 1;omega)|exact WkVL.nil|refine WkVL.cons ?_ ?_|exact WkV.top|exact WkV.imm rfl|exact WkV.imm (by simp)|exact WkV.optr rfl|exact WkV.own rfl (by simp)|exact WkV.nil_own (.inl rfl)|exact WkV.map rfl|(refine WkV.free ?_;simp [Free,FreeL] <;> assumption)|(refine WkV.free (fun _ _=>FreeL_nth ?_ _);simp [Free,FreeL];done)|refine WkV.agg ?_|refine WkV.tup ?_|refine WkV.fn ?_ ?_|exact WkO.dead|exact WkO.raw|refine WkO.ghost ?_|exact WkO.mpE rfl trivial|refine WkO.box ?_ rfl|refine WkO.arr ?_|refine And.intro ?_ (And.intro (by first|exact fun h=>h|exact fun _=>rfl|exact nofun) ?_)|exact trivial|(intro i j hi hj)))
          · have h2 := w3 (by omega)
            rw [if_neg (by omega)]
            (simp only [go_sem,↓reduceIte,Nat.reduceAdd,Nat.reduceSub,Nat.reduceMul,Nat.reduceLT,Nat.reduceLeDiff,Nat.reduceEqDiff,Nat.reduceGT,Int.reduceToNat,Int.reduceBEq,Int.reduceBNe];try simp (disch := omega) only [wrapI,wrapU,half_sum,toNat_sub1,toNat_add1,Int.toNat_natCast])
            (have sx1 := h2;have sx2 := hbn;repeat' (first|with_reducible refine T_seq_drawT (id := 13) Γ_ok drawsAny pl7_13 (by kernel_rfl) (fun K hK=>?_)|with_reducible refine T_last_drawT (id := 13) Γ_ok drawsAny pl7_13 (by kernel_rfl) (fun K hK=>?_)|((have sx3 : (0 : Nat) + 0 = 0 := rfl;have sx4 : (0 : Nat) + 0 = 0 := rfl;have sx5 : (0 : Nat) + 0 = 0 := rfl;have sx6 : (0 : Nat) + 0 = 0 := rfl;have sx7 : (0 : Nat) + 0 = 0 := rfl;have sx8 : (0 : Nat) + 0 = 0 := rfl;have sx9 : (0 : Nat) + 0 = 0 := rfl;refine goR9 _ _ _ _ _ _ _ _ ?_ ?_ ?_ ?_ ?_ ?_ ?_ ?_) <;> (repeat intro hb) <;> first|exact True.intro|refine Lf.mk ?_)))
            refine ⟨N + 1 - (i + 1), by omega, _, ?_, i + 1, by omega, by omega, rfl⟩
            rw [if_neg (by omega)]
            ((try simp only [List.length_append,List.length_cons,List.length_nil,Nat.zero_add]);refine Wk.intro [0,1,2] (by decide) (by decide) (by intro o ho;simp at ho ⊢ <;> omega) ?_ ?_ <;> repeat' (first|(refine WkV.imm ?_;congr 1;omega)|exact WkVL.nil|refine WkVL.cons ?_ ?_|exact WkV.top|exact WkV.imm rfl|exact WkV.imm (by simp)|exact WkV.optr rfl|exact WkV.own rfl (by simp)|exact WkV.nil_own (.inl rfl)|exact WkV.map rfl|(refine WkV.free ?_;simp [Free,FreeL] <;> assumption)|(refine WkV.free (fun _ _=>FreeL_nth ?_ _);simp [Free,FreeL];done)|refine WkV.agg ?_|refine WkV.tup ?_|refine WkV.fn ?_ ?_|exact WkO.dead|exact WkO.raw|refine WkO.ghost ?_|exact WkO.mpE rfl trivial|refine WkO.box ?_ rfl|refine WkO.arr ?_|refine And.intro ?_ (And.intro (by first|exact fun h=>h|exact fun _=>rfl|exact nofun) ?_)|exact trivial|(intro i j hi hj)))
      · obtain rfl : i = N + 1 := by omega
        rw [if_neg (by omega)]
        (simp only [go_sem,↓reduceIte,Nat.reduceAdd,Nat.reduceSub,Nat.reduceMul,Nat.reduceLT,Nat.reduceLeDiff,Nat.reduceEqDiff,Nat.reduceGT,Int.reduceToNat,Int.reduceBEq,Int.reduceBNe];try simp (disch := omega) only [wrapI,wrapU,half_sum,toNat_sub1,toNat_add1,Int.toNat_natCast])
        (repeat' (first|with_reducible refine T_seq_drawT (id := 13) Γ_ok drawsAny pl7_13 (by kernel_rfl) (fun K hK=>?_)|with_reducible refine T_last_drawT (id := 13) Γ_ok drawsAny pl7_13 (by kernel_rfl) (fun K hK=>?_)|((refine goR0 _ _ _ _ _ _ _ _ ?_ ?_ ?_ ?_ ?_ ?_ ?_ ?_) <;> (repeat intro hb) <;> first|exact True.intro|refine Lf.mk ?_)))
        simp
    · rw [show ((N + 1 : Nat) : Int) = (N : Int) + 1 by omega] at he
      generalize chR g ((N : Int) + 1) = R at *
      have e3 : (R.2 != 0) = true := by rw [bne_iff_ne]; exact he
      (refine TC_of_T Γ_ok Tryd.func7 rfl (by kernel_rfl) ?_;simp only [Tryd.ntmps7,Tryd.results7,List.length_cons,List.length_nil,Nat.reduceSub,Nat.reduceAdd,List.replicate,List.cons_append,List.nil_append])
      (have cl1 := c0;have dm1 := c1;have sx1 := e1;have sx2 := e2;have sx3 := e3;have sx4 : (0 : Nat) + 0 = 0 := rfl;repeat' (first|with_reducible refine T_seq_drawT (id := 13) Γ_ok drawsAny pl7_13 (by kernel_rfl) (fun K hK=>?_)|with_reducible refine T_last_drawT (id := 13) Γ_ok drawsAny pl7_13 (by kernel_rfl) (fun K hK=>?_)|((have sx5 : (0 : Nat) + 0 = 0 := rfl;have sx6 : (0 : Nat) + 0 = 0 := rfl;have sx7 : (0 : Nat) + 0 = 0 := rfl;have sx8 : (0 : Nat) + 0 = 0 := rfl;have sx9 : (0 : Nat) + 0 = 0 := rfl;refine goR9 _ _ _ _ _ _ _ _ ?_ ?_ ?_ ?_ ?_ ?_ ?_ ?_) <;> (repeat intro hb) <;> first|exact True.intro|refine Lf.mk ?_)))
  · (refine TC_of_T Γ_ok Tryd.func7 rfl (by kernel_rfl) ?_;simp only [Tryd.ntmps7,Tryd.results7,List.length_cons,List.length_nil,Nat.reduceSub,Nat.reduceAdd,List.replicate,List.cons_append,List.nil_append])
    (have cl1 := c0;repeat' (first|with_reducible refine T_seq_drawT (id := 13) Γ_ok drawsAny pl7_13 (by kernel_rfl) (fun K hK=>?_)|with_reducible refine T_last_drawT (id := 13) Γ_ok drawsAny pl7_13 (by kernel_rfl) (fun K hK=>?_)|((refine goR0 _ _ _ _ _ _ _ _ ?_ ?_ ?_ ?_ ?_ ?_ ?_ ?_) <;> (repeat intro hb) <;> first|exact True.intro|refine Lf.mk ?_)))
end Go.Proofs.YtdglbjjenihdlaaDoor
