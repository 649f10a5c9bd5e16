/-
  slices.Contains of ints; what is sung of a line with breaths.
-/
import Derived.Test.YtonmienclploaaaGreatDoorQGo
import Derived.Test.YtonmienclploaaaGreatDoorQP3v
set_option linter.unusedSimpArgs false
set_option linter.unusedVariables false
namespace Go.Proofs.YtonmienclploaaaGreatDoor
open Go.Ab
set_option maxRecDepth 100000 in
set_option maxHeartbeats 4000000 in
theorem idxI_tc (x : Int) (l : List Int) (hl : l.length ≤ 1000000) : Look Tryz.prog 25 [its l,.imm (.int .i64 x)] (.imm (.int .i64 (if fstF (fun i=>decide (x = gL l i)) 0 l.length < l.length then (fstF (fun i=>decide (x = gL l i)) 0 l.length : Int) else -1))) := by
  refine Look.mk trivial ?_
  generalize hr : fstF (fun i => decide (x = gL l i)) 0 l.length = r
  (refine TC_of_T Γ_ok Tryz.func25 rfl (by kernel_rfl) ?_;simp only [Tryz.ntmps25,Tryz.results25,List.length_cons,List.length_nil,Nat.reduceSub,Nat.reduceAdd,List.replicate,List.cons_append,List.nil_append])
  (((refine goR0 _ _ _ _ _ _ _ _ ?_ ?_ ?_ ?_ ?_ ?_ ?_ ?_) <;> (repeat intro hb) <;> first | exact True.intro | refine Lf.mk ?_))
  refine T_loopW (fun m st=>∃ i : Nat,i ≤ l.length ∧ m + i = l.length ∧ fstF (fun i=>decide (x = gL l i)) i (l.length - i) = r ∧ st = ⟨[its l,.imm (.int .i64 x),.top,.top,.imm (.int .i64 0),.top,its l,.imm (.int .i64 l.length),.imm (.int .i64 i)] ++ List.replicate 10 .top,[]⟩)
    l.length ⟨_, ?_, 0, by omega, rfl, hr, rfl⟩ ?_
  · ((try simp only [List.length_append,List.length_cons,List.length_nil,Nat.zero_add]);refine Wk.intro [] (by decide) (by decide) (by intro o ho;simp at ho ⊢ <;> omega) ?_ ?_ <;> repeat' (first|exact WkVL.nil|refine WkVL.cons ?_ ?_|exact WkV.top|exact WkV.imm rfl|exact WkV.imm (by simp)|exact WkV.optr rfl|exact WkV.own rfl (by simp)|exact WkV.nil_own (.inl rfl)|exact WkV.map rfl|(refine WkV.free ?_;simp [Free,FreeL] <;> assumption)|(refine WkV.free (fun _ _=>FreeL_nth ?_ _);simp [Free,FreeL];done)|refine WkV.agg ?_|refine WkV.tup ?_|refine WkV.fn ?_ ?_|exact WkO.dead|exact WkO.raw|refine WkO.ghost ?_|exact WkO.mpE rfl trivial|refine WkO.box ?_ rfl|refine WkO.arr ?_|refine And.intro ?_ (And.intro (by first|exact fun h=>h|exact fun _=>rfl|exact nofun) ?_)|exact trivial|(intro i j hi hj)))
  rintro m st ⟨i, g0, g1, g2, rfl⟩
  (simp only [go_sem,↓reduceIte,Nat.reduceAdd,Nat.reduceSub,Nat.reduceMul,Nat.reduceLT,Nat.reduceLeDiff,Nat.reduceEqDiff,Nat.reduceGT,Int.reduceToNat,Int.reduceBEq,Int.reduceBNe];try simp (disch := omega) only [wrapI,wrapU,half_sum,toNat_sub1,toNat_add1,Int.toNat_natCast])
  by_cases hi : i < l.length
  · by_cases hg : x = gL l i
    · rw [fstF_yes (decide_eq_true hg) (by omega)] at g2
      subst g2
      have e1 : (x == gL l i) = true := by simpa using hg
      (have sx1 := e1;have sx2 : (0 : Nat) + 0 = 0 := rfl;((have sx3 : (0 : Nat) + 0 = 0 := rfl;have sx4 : (0 : Nat) + 0 = 0 := rfl;have sx5 : (0 : Nat) + 0 = 0 := rfl;have sx6 : (0 : Nat) + 0 = 0 := rfl;refine goR6 _ _ _ _ _ _ _ _ ?_ ?_ ?_ ?_ ?_ ?_ ?_ ?_) <;> (repeat intro hb) <;> first|exact True.intro|refine Lf.mk ?_))
      rw [if_pos hi] at *
    · rw [show l.length - i = l.length - (i + 1) + 1 by omega, fstF_no (decide_eq_false hg)] at g2
      have e1 : (x == gL l i) = false := by simpa using hg
      (have sx1 := e1;have sx2 : (0 : Nat) + 0 = 0 := rfl;((have sx3 : (0 : Nat) + 0 = 0 := rfl;have sx4 : (0 : Nat) + 0 = 0 := rfl;have sx5 : (0 : Nat) + 0 = 0 := rfl;have sx6 : (0 : Nat) + 0 = 0 := rfl;refine goR6 _ _ _ _ _ _ _ _ ?_ ?_ ?_ ?_ ?_ ?_ ?_ ?_) <;> (repeat intro hb) <;> first|exact True.intro|refine Lf.mk ?_))
      refine ⟨l.length - (i + 1), by omega, _, ?_, i + 1, by omega, by omega, g2, rfl⟩
      ((try simp only [List.length_append,List.length_cons,List.length_nil,Nat.zero_add]);refine Wk.intro [] (by decide) (by decide) (by intro o ho;simp at ho ⊢ <;> omega) ?_ ?_ <;> repeat' (first|exact WkVL.nil|refine WkVL.cons ?_ ?_|exact WkV.top|exact WkV.imm rfl|exact WkV.imm (by simp)|exact WkV.optr rfl|exact WkV.own rfl (by simp)|exact WkV.nil_own (.inl rfl)|exact WkV.map rfl|(refine WkV.free ?_;simp [Free,FreeL] <;> assumption)|(refine WkV.free (fun _ _=>FreeL_nth ?_ _);simp [Free,FreeL];done)|refine WkV.agg ?_|refine WkV.tup ?_|refine WkV.fn ?_ ?_|exact WkO.dead|exact WkO.raw|refine WkO.ghost ?_|exact WkO.mpE rfl trivial|refine WkO.box ?_ rfl|refine WkO.arr ?_|refine And.intro ?_ (And.intro (by first|exact fun h=>h|exact fun _=>rfl|exact nofun) ?_)|exact trivial|(intro i j hi hj)))
  · have : r = l.length := by
      rw [show l.length - i = 0 by omega, fstF] at g2
      omega
    (((refine goR0 _ _ _ _ _ _ _ _ ?_ ?_ ?_ ?_ ?_ ?_ ?_ ?_) <;> (repeat intro hb) <;> first | exact True.intro | refine Lf.mk ?_))
    rw [if_neg (by omega)]
theorem contains_fst (x : Int) (l : List Int) : decide (fstF (fun i => decide (x = gL l i)) 0 l.length < l.length) = l.contains x := by
  have h := fstF_spec (f := fun i => decide (x = gL l i)) (d := l.length) (i := 0)
  rw [Bool.eq_iff_iff, decide_eq_true_eq, List.contains_iff_mem]
  refine ⟨fun hlt => ?_, fun hm => ?_⟩
  · have := of_decide_eq_true (h.2.2.2 (by omega))
    rw [this]
    exact gL_mem hlt
  · obtain ⟨k, hk, rfl⟩ := List.getElem_of_mem hm
    by_cases hlt : fstF (fun i => decide (l[k] = gL l i)) 0 l.length < l.length
    · exact hlt
    · have := h.2.2.1 k (by omega) (by omega)
      simp [gL, hk] at this
set_option maxRecDepth 100000 in
set_option maxHeartbeats 4000000 in
theorem contains_tc (x : Int) (l : List Int) (hl : l.length ≤ 1000000) : Look Tryz.prog 7 [its l,.imm (.int .i64 x)] (.imm (.bool (l.contains x))) := by
  have h := idxI_tc x l hl
  rw [← contains_fst]
  generalize fstF (fun i => decide (x = gL l i)) 0 l.length = r at h ⊢
  refine Look.mk trivial ?_
  by_cases hr : r < l.length
  · rw [if_pos hr] at h
    rw [decide_eq_true hr]
    (refine TC_of_T Γ_ok Tryz.func7 rfl (by kernel_rfl) ?_;simp only [Tryz.ntmps7,Tryz.results7,List.length_cons,List.length_nil,Nat.reduceSub,Nat.reduceAdd,List.replicate,List.cons_append,List.nil_append])
    (have cl1 := h;((refine goR0 _ _ _ _ _ _ _ _ ?_ ?_ ?_ ?_ ?_ ?_ ?_ ?_) <;> (repeat intro hb) <;> first | exact True.intro | refine Lf.mk ?_))
    simp
  · rw [if_neg hr] at h
    rw [decide_eq_false hr]
    (refine TC_of_T Γ_ok Tryz.func7 rfl (by kernel_rfl) ?_;simp only [Tryz.ntmps7,Tryz.results7,List.length_cons,List.length_nil,Nat.reduceSub,Nat.reduceAdd,List.replicate,List.cons_append,List.nil_append])
    (have cl1 := h;((refine goR0 _ _ _ _ _ _ _ _ ?_ ?_ ?_ ?_ ?_ ?_ ?_ ?_) <;> (repeat intro hb) <;> first | exact True.intro | refine Lf.mk ?_))
    simp
end Go.Proofs.YtonmienclploaaaGreatDoor
