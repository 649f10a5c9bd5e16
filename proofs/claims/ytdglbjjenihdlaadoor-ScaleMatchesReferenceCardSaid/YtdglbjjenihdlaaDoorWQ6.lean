/-
  The reference's Octave.
-/
import Derived.Test.YtdglbjjenihdlaaDoorWGo
import Derived.Test.YtdglbjjenihdlaaDoorWS5
set_option linter.unusedSimpArgs false
set_option linter.unusedVariables false
namespace Go.Proofs.YtdglbjjenihdlaaDoor
open Go.Ab
@[go_sem,reducible] def enO (lo hi : Int) : List AV := [.top,.optr 0 0 0,.optr 1 0 0,.imm (.int .i64 0),.imm (.int .i64 0),.top,.imm (.int .i64 lo),.imm (.int .i64 hi)] ++ List.replicate 48 .top
@[go_sem, reducible] def fxO (p : P6) : List AObj := [.box 24 (p6L p), .box 24 (p6L ⟨0, 0, 0, 0, 0, 0⟩)]
set_option maxRecDepth 100000 in
set_option maxHeartbeats 4000000 in
theorem roctave_tc (p : P6) : Look Tryd.prog 13 [p6A p] (.tup [p6A (octR p).1,.imm (.int .i64 (octR p).2.1),.imm (.int .i64 (octR p).2.2)]) := by
  refine Look.mk (by simp [Pl, PlL]) ?_
  have c1 := rvalid_p p
  by_cases h : Bd6 576 p
  · rw [decide_eq_true h] at c1
    obtain ⟨g1, g2, g3, g4, g5⟩ := oct_rg h
    have h2 := h
    unfold Bd6 at h2
    have hres : octR p = if inB (up12 p (-octO p)) = true then (up12 p (-octO p), octO p, 0) else (z6, 0, 3) := if_pos h
    have hr := lastI_rg (octQ p) _ (octLo p) (octHi p) (Nat.le_refl _) g2
    change octLo p ≤ octO p ∧ octO p ≤ octHi p at hr
    have hO : lastI (octQ p) (octLo p) (octHi p) = octO p := rfl
    have b1 : (576 - p.a).tdiv 12 = -octLo p := by unfold octLo; omega
    have b2 : (p.a + 576).tdiv 12 = octHi p := by unfold octHi; rw [Int.add_comm]
    rw [hres]
    generalize octO p = o at hr hO ⊢
    generalize octLo p = lo at *
    generalize octHi p = hi at *
    have e1 : 0 - (-lo) = lo := by omega
    (refine TC_of_T Γ_ok Tryd.func13 rfl (by kernel_rfl) ?_;simp only [Tryd.ntmps13,Tryd.results13,List.length_cons,List.length_nil,Nat.reduceSub,Nat.reduceAdd,List.replicate,List.cons_append,List.nil_append])
    (have dl1 := c1;have sx1 := b1;have sx2 := b2;have sx3 := e1;have sx4 : (0 : Nat) + 0 = 0 := rfl;((have sx5 : (0 : Nat) + 0 = 0 := rfl;have sx6 : (0 : Nat) + 0 = 0 := rfl;have sx7 : (0 : Nat) + 0 = 0 := rfl;have sx8 : (0 : Nat) + 0 = 0 := rfl;have sx9 : (0 : Nat) + 0 = 0 := rfl;refine goR9 _ _ _ _ _ _ _ _ ?_ ?_ ?_ ?_ ?_ ?_ ?_ ?_) <;> (repeat intro hb) <;> first|exact True.intro|refine Lf.mk ?_))
    refine T_loopW (fun m st => ∃ a b : Int,lo ≤ a ∧ a ≤ b ∧ b ≤ hi ∧ lastI (octQ p) a b = o ∧ m = (b - a).toNat ∧ st = ⟨enO a b,fxO p⟩)
      (hi - lo).toNat ⟨_, ?_, lo, hi, by omega, g2, by omega, hO, rfl, rfl⟩ ?_
    · ((try simp only [List.length_append,List.length_cons,List.length_nil,Nat.zero_add]);refine Wk.intro [0,1] (by decide) (by decide) (by intro o ho;simp at ho ⊢ <;> omega) ?_ ?_ <;> repeat' (first|(exact WkV.imm (by rw [b2]))|exact WkVL.nil|refine WkVL.cons ?_ ?_|exact WkV.top|exact WkV.imm rfl|exact WkV.imm (by simp)|exact WkV.optr rfl|exact WkV.own rfl (by simp)|exact WkV.nil_own (.inl rfl)|exact WkV.map rfl|(refine WkV.free ?_;simp [Free,FreeL] <;> assumption)|(refine WkV.free (fun _ _=>FreeL_nth ?_ _);simp [Free,FreeL];done)|refine WkV.agg ?_|refine WkV.tup ?_|refine WkV.fn ?_ ?_|exact WkO.dead|exact WkO.raw|refine WkO.ghost ?_|exact WkO.mpE rfl trivial|refine WkO.box ?_ rfl|refine WkO.arr ?_|refine And.intro ?_ (And.intro (by first|exact fun h=>h|exact fun _=>rfl|exact nofun) ?_)|exact trivial|(intro i j hi hj)))
    rintro m st ⟨a, b, k1, k2, k3, k4, rfl, rfl⟩
    by_cases hl : a < b
    · rw [lastI_s _ hl] at k4
      obtain ⟨c, hc⟩ : ∃ c, c = b - (b - a) / 2 := ⟨_, rfl⟩
      rw [← hc] at k4
      have e2 : a + (b - a + 1).tdiv 2 = c := by rw [hc, Int.tdiv_eq_ediv_of_nonneg (by omega)]; omega
      have e4 : (b - a + 1).tdiv 2 = c - a := by omega
      have e5 : a + (c - a) = c := by omega
      have e3 : 0 - c = -c := Int.zero_sub c
      have c3 := rup_tc p (-c) (by omega) (by omega)
      have c4 := rcmp9_tc (up12 p (-c)) z6
      simp only [z6] at c4
      have hqc : octQ p c = decide (0 ≤ cmT (up12 p (-c)) ⟨0, 0, 0, 0, 0, 0⟩) := rfl
      clear e2
      (simp only [go_sem,↓reduceIte,Nat.reduceAdd,Nat.reduceSub,Nat.reduceMul,Nat.reduceLT,Nat.reduceLeDiff,Nat.reduceEqDiff,Nat.reduceGT,Int.reduceToNat,Int.reduceBEq,Int.reduceBNe];try simp (disch := omega) only [wrapI,wrapU,half_sum,toNat_sub1,toNat_add1,Int.toNat_natCast])
      (have dl1 := c3;have dl2 := c4;have sx1 := e3;have sx2 := e4;have sx3 := e5;have sx4 : (0 : Nat) + 0 = 0 := rfl;((have sx5 : (0 : Nat) + 0 = 0 := rfl;have sx6 : (0 : Nat) + 0 = 0 := rfl;have sx7 : (0 : Nat) + 0 = 0 := rfl;have sx8 : (0 : Nat) + 0 = 0 := rfl;have sx9 : (0 : Nat) + 0 = 0 := rfl;refine goR9 _ _ _ _ _ _ _ _ ?_ ?_ ?_ ?_ ?_ ?_ ?_ ?_) <;> (repeat intro hb) <;> first|exact True.intro|refine Lf.mk ?_))
      · rw [hqc, if_pos (decide_eq_true (by omega))] at k4
        refine ⟨(b - c).toNat, by omega, _, ?_, c, b, by omega, by omega, k3, k4, rfl, rfl⟩
        ((try simp only [List.length_append,List.length_cons,List.length_nil,Nat.zero_add]);refine Wk.intro [0,1] (by decide) (by decide) (by intro o ho;simp at ho ⊢ <;> omega) ?_ ?_ <;> repeat' (first|exact WkVL.nil|refine WkVL.cons ?_ ?_|exact WkV.top|exact WkV.imm rfl|exact WkV.imm (by simp)|exact WkV.optr rfl|exact WkV.own rfl (by simp)|exact WkV.nil_own (.inl rfl)|exact WkV.map rfl|(refine WkV.free ?_;simp [Free,FreeL] <;> assumption)|(refine WkV.free (fun _ _=>FreeL_nth ?_ _);simp [Free,FreeL];done)|refine WkV.agg ?_|refine WkV.tup ?_|refine WkV.fn ?_ ?_|exact WkO.dead|exact WkO.raw|refine WkO.ghost ?_|exact WkO.mpE rfl trivial|refine WkO.box ?_ rfl|refine WkO.arr ?_|refine And.intro ?_ (And.intro (by first|exact fun h=>h|exact fun _=>rfl|exact nofun) ?_)|exact trivial|(intro i j hi hj)))
      · rw [hqc, if_neg (by rw [decide_eq_false (by omega)]; simp)] at k4
        refine ⟨(c - 1 - a).toNat, by omega, _, ?_, a, c - 1, k1, by omega, by omega, k4, rfl, rfl⟩
        ((try simp only [List.length_append,List.length_cons,List.length_nil,Nat.zero_add]);refine Wk.intro [0,1] (by decide) (by decide) (by intro o ho;simp at ho ⊢ <;> omega) ?_ ?_ <;> repeat' (first|(refine WkV.imm ?_;congr 1;omega)|exact WkVL.nil|refine WkVL.cons ?_ ?_|exact WkV.top|exact WkV.imm rfl|exact WkV.imm (by simp)|exact WkV.optr rfl|exact WkV.own rfl (by simp)|exact WkV.nil_own (.inl rfl)|exact WkV.map rfl|(refine WkV.free ?_;simp [Free,FreeL] <;> assumption)|(refine WkV.free (fun _ _=>FreeL_nth ?_ _);simp [Free,FreeL];done)|refine WkV.agg ?_|refine WkV.tup ?_|refine WkV.fn ?_ ?_|exact WkO.dead|exact WkO.raw|refine WkO.ghost ?_|exact WkO.mpE rfl trivial|refine WkO.box ?_ rfl|refine WkO.arr ?_|refine And.intro ?_ (And.intro (by first|exact fun h=>h|exact fun _=>rfl|exact nofun) ?_)|exact trivial|(intro i j hi hj)))
    · rw [lastI_e _ hl] at k4
      subst k4
      have e3 : 0 - a = -a := Int.zero_sub a
      have c3 := rup_tc p (-a) (by omega) (by omega)
      have c4 := rinside_tc (up12 p (-a))
      generalize hq : up12 p (-a) = q at c3 c4 ⊢
      cases hin : inB q with
      | true =>
        rw [hin] at c4
        (simp only [go_sem,↓reduceIte,Nat.reduceAdd,Nat.reduceSub,Nat.reduceMul,Nat.reduceLT,Nat.reduceLeDiff,Nat.reduceEqDiff,Nat.reduceGT,Int.reduceToNat,Int.reduceBEq,Int.reduceBNe];try simp (disch := omega) only [wrapI,wrapU,half_sum,toNat_sub1,toNat_add1,Int.toNat_natCast])
        (have dl1 := c3;have dl2 := c4;have sx1 := e3;have sx2 : (0 : Nat) + 0 = 0 := rfl;((have sx3 : (0 : Nat) + 0 = 0 := rfl;have sx4 : (0 : Nat) + 0 = 0 := rfl;have sx5 : (0 : Nat) + 0 = 0 := rfl;have sx6 : (0 : Nat) + 0 = 0 := rfl;have sx7 : (0 : Nat) + 0 = 0 := rfl;have sx8 : (0 : Nat) + 0 = 0 := rfl;have sx9 : (0 : Nat) + 0 = 0 := rfl;refine goR9 _ _ _ _ _ _ _ _ ?_ ?_ ?_ ?_ ?_ ?_ ?_ ?_) <;> (repeat intro hb) <;> first|exact True.intro|refine Lf.mk ?_))
      | false =>
        rw [hin] at c4
        (simp only [go_sem,↓reduceIte,Nat.reduceAdd,Nat.reduceSub,Nat.reduceMul,Nat.reduceLT,Nat.reduceLeDiff,Nat.reduceEqDiff,Nat.reduceGT,Int.reduceToNat,Int.reduceBEq,Int.reduceBNe];try simp (disch := omega) only [wrapI,wrapU,half_sum,toNat_sub1,toNat_add1,Int.toNat_natCast])
        (have dl1 := c3;have dl2 := c4;have sx1 := e3;have sx2 : (0 : Nat) + 0 = 0 := rfl;((have sx3 : (0 : Nat) + 0 = 0 := rfl;have sx4 : (0 : Nat) + 0 = 0 := rfl;have sx5 : (0 : Nat) + 0 = 0 := rfl;have sx6 : (0 : Nat) + 0 = 0 := rfl;have sx7 : (0 : Nat) + 0 = 0 := rfl;have sx8 : (0 : Nat) + 0 = 0 := rfl;have sx9 : (0 : Nat) + 0 = 0 := rfl;refine goR9 _ _ _ _ _ _ _ _ ?_ ?_ ?_ ?_ ?_ ?_ ?_ ?_) <;> (repeat intro hb) <;> first|exact True.intro|refine Lf.mk ?_))
        rfl
  · rw [decide_eq_false h] at c1
    have hr : octR p = (z6, 0, 1) := if_neg h
    rw [hr]
    simp only [z6]
    (refine TC_of_T Γ_ok Tryd.func13 rfl (by kernel_rfl) ?_;simp only [Tryd.ntmps13,Tryd.results13,List.length_cons,List.length_nil,Nat.reduceSub,Nat.reduceAdd,List.replicate,List.cons_append,List.nil_append])
    (have dl1 := c1;((refine goR0 _ _ _ _ _ _ _ _ ?_ ?_ ?_ ?_ ?_ ?_ ?_ ?_) <;> (repeat intro hb) <;> first | exact True.intro | refine Lf.mk ?_))
end Go.Proofs.YtdglbjjenihdlaaDoor
