/-
  slices.Index, scale.Degree.
-/
import Derived.Test.YtdglbjjenihdlaaDoorWGo
import Derived.Test.YtdglbjjenihdlaaDoorWS3
set_option linter.unusedSimpArgs false
set_option linter.unusedVariables false
namespace Go.Proofs.YtdglbjjenihdlaaDoor
open Go.Ab
def idxI (l : List P6) (p : P6) : Int := match (List.range l.length).find? fun i => decide (gP l i = p) with
  | some i => i
  | none => -1
theorem idxI_at {l : List P6} {p : P6} {i : Nat} (hi : i < l.length) (h : gP l i = p) (hn : ∀ j,j < i → gP l j ≠ p) : idxI l p = i := by
  unfold idxI
  have : (List.range l.length).find? (fun i => decide (gP l i = p)) = some i := by
    rw [List.find?_range_eq_some]
    exact ⟨by simp [h], by simpa using hi, fun j hj => by simpa using hn j hj⟩
  rw [this]
theorem idxI_no {l : List P6} {p : P6} (hn : ∀ j, j < l.length → gP l j ≠ p) : idxI l p = -1 := by
  unfold idxI
  have : (List.range l.length).find? (fun i => decide (gP l i = p)) = none := by
    rw [List.find?_eq_none]
    intro j hj
    simpa using hn j (by simpa using hj)
  rw [this]
@[go_sem,reducible] def enI (l : List P6) (p : P6) (i : Nat) : List AV := [pts l,.top,.top,.optr 0 0 0,.imm (.int .i64 0),.top,.top,.imm (.int .i64 l.length),.imm (.int .i64 i)] ++ List.replicate 10 .top
set_option maxRecDepth 100000 in
set_option maxHeartbeats 4000000 in
theorem index_tc (l : List P6) (p : P6) (h0 : l.length ≤ 9223372036854775807) : Look Tryd.prog 51 [pts l,p6A p] (.imm (.int .i64 (idxI l p))) := by
  refine Look.mk trivial ?_
  generalize hR : idxI l p = R
  (refine TC_of_T Γ_ok Tryd.func51 rfl (by kernel_rfl) ?_;simp only [Tryd.ntmps51,Tryd.results51,List.length_cons,List.length_nil,Nat.reduceSub,Nat.reduceAdd,List.replicate,List.cons_append,List.nil_append])
  (repeat' (first|with_reducible refine T_seq_drawT (id := 4) Γ_ok drawsAny pl51_4 (by kernel_rfl) (fun K hK=>?_)|with_reducible refine T_last_drawT (id := 4) Γ_ok drawsAny pl51_4 (by kernel_rfl) (fun K hK=>?_)|((refine goR0 _ _ _ _ _ _ _ _ ?_ ?_ ?_ ?_ ?_ ?_ ?_ ?_) <;> (repeat intro hb) <;> first|exact True.intro|refine Lf.mk ?_)))
  refine T_loopW (fun m st => ∃ i : Nat,i ≤ l.length ∧ m + i = l.length ∧ (∀ j,j < i → gP l j ≠ p) ∧ st = ⟨enI l p i,[.box 24 (p6L p)]⟩)
    l.length ⟨_, ?_, 0, by omega, rfl, fun j hj => by omega, rfl⟩ ?_
  · ((try simp only [List.length_append,List.length_cons,List.length_nil,Nat.zero_add]);refine Wk.intro [0] (by decide) (by decide) (by intro o ho;simp at ho ⊢ <;> omega) ?_ ?_ <;> repeat' (first|exact WkVL.nil|refine WkVL.cons ?_ ?_|exact WkV.top|exact WkV.imm rfl|exact WkV.imm (by simp)|exact WkV.optr rfl|exact WkV.own rfl (by simp)|exact WkV.nil_own (.inl rfl)|exact WkV.map rfl|(refine WkV.free ?_;simp [Free,FreeL] <;> assumption)|(refine WkV.free (fun _ _=>FreeL_nth ?_ _);simp [Free,FreeL];done)|refine WkV.agg ?_|refine WkV.tup ?_|refine WkV.fn ?_ ?_|exact WkO.dead|exact WkO.raw|refine WkO.ghost ?_|exact WkO.mpE rfl trivial|refine WkO.box ?_ rfl|refine WkO.arr ?_|refine And.intro ?_ (And.intro (by first|exact fun h=>h|exact fun _=>rfl|exact nofun) ?_)|exact trivial|(intro i j hi hj)))
  rintro m st ⟨i, k0, k1, k2, rfl⟩
  by_cases hi : i < l.length
  · (simp only [go_sem,↓reduceIte,Nat.reduceAdd,Nat.reduceSub,Nat.reduceMul,Nat.reduceLT,Nat.reduceLeDiff,Nat.reduceEqDiff,Nat.reduceGT,Int.reduceToNat,Int.reduceBEq,Int.reduceBNe];try simp (disch := omega) only [wrapI,wrapU,half_sum,toNat_sub1,toNat_add1,Int.toNat_natCast])
    (repeat' (first|with_reducible refine T_seq_drawT (id := 4) Γ_ok drawsAny pl51_4 (by kernel_rfl) (fun K hK=>?_)|with_reducible refine T_last_drawT (id := 4) Γ_ok drawsAny pl51_4 (by kernel_rfl) (fun K hK=>?_)|((refine goR0 _ _ _ _ _ _ _ _ ?_ ?_ ?_ ?_ ?_ ?_ ?_ ?_) <;> (repeat intro hb) <;> first|exact True.intro|refine Lf.mk ?_)))
    · rw [← hR, idxI_at hi ((p6_eq p (gP l i)).1 hb).symm k2]
    · refine ⟨l.length - (i + 1), by omega, _, ?_, i + 1, by omega, by omega, fun j hj => ?_, rfl⟩
      · ((try simp only [List.length_append,List.length_cons,List.length_nil,Nat.zero_add]);refine Wk.intro [0] (by decide) (by decide) (by intro o ho;simp at ho ⊢ <;> omega) ?_ ?_ <;> repeat' (first|(refine WkV.imm ?_;congr 1;omega)|exact WkVL.nil|refine WkVL.cons ?_ ?_|exact WkV.top|exact WkV.imm rfl|exact WkV.imm (by simp)|exact WkV.optr rfl|exact WkV.own rfl (by simp)|exact WkV.nil_own (.inl rfl)|exact WkV.map rfl|(refine WkV.free ?_;simp [Free,FreeL] <;> assumption)|(refine WkV.free (fun _ _=>FreeL_nth ?_ _);simp [Free,FreeL];done)|refine WkV.agg ?_|refine WkV.tup ?_|refine WkV.fn ?_ ?_|exact WkO.dead|exact WkO.raw|refine WkO.ghost ?_|exact WkO.mpE rfl trivial|refine WkO.box ?_ rfl|refine WkO.arr ?_|refine And.intro ?_ (And.intro (by first|exact fun h=>h|exact fun _=>rfl|exact nofun) ?_)|exact trivial|(intro i j hi hj)))
      · by_cases e : j = i
        · subst e
          intro e2
          obtain ⟨q1, q2, q3, q4, q5, q6⟩ := (p6_eq p (gP l j)).2 e2.symm
          exact hb q1 q2 q3 q4 q5 q6
        · exact k2 j (by omega)
  · obtain rfl : i = l.length := by omega
    (simp only [go_sem,↓reduceIte,Nat.reduceAdd,Nat.reduceSub,Nat.reduceMul,Nat.reduceLT,Nat.reduceLeDiff,Nat.reduceEqDiff,Nat.reduceGT,Int.reduceToNat,Int.reduceBEq,Int.reduceBNe];try simp (disch := omega) only [wrapI,wrapU,half_sum,toNat_sub1,toNat_add1,Int.toNat_natCast])
    (repeat' (first|with_reducible refine T_seq_drawT (id := 4) Γ_ok drawsAny pl51_4 (by kernel_rfl) (fun K hK=>?_)|with_reducible refine T_last_drawT (id := 4) Γ_ok drawsAny pl51_4 (by kernel_rfl) (fun K hK=>?_)|((refine goR0 _ _ _ _ _ _ _ _ ?_ ?_ ?_ ?_ ?_ ?_ ?_ ?_) <;> (repeat intro hb) <;> first|exact True.intro|refine Lf.mk ?_)))
    rw [← hR, idxI_no k2]
noncomputable def degR (l : List P6) (p : P6) : Int × Int × Int :=
  if tf (SclOk l) = true then (if (octR p).2.2 = 0 then (if idxI l (octR p).1 < 0 then (0,0,4) else (idxI l (octR p).1,(octR p).2.1,0)) else (0,0,(octR p).2.2)) else (0,0,1)
set_option maxRecDepth 100000 in
set_option maxHeartbeats 4000000 in
theorem degree_tc (l : List P6) (p : P6) (h0 : l.length ≤ 9223372036854775807) : Look Tryd.prog 23 [pts l,p6A p] (.tup [.imm (.int .i64 (degR l p).1),.imm (.int .i64 (degR l p).2.1),.imm (.int .i64 (degR l p).2.2)]) := by
  refine Look.mk (by simp [Pl, PlL]) ?_
  have c1 := svalid_tc l h0
  have c2 := octave_tc p
  have c3 := index_tc l (octR p).1 h0
  generalize hD : degR l p = D
  unfold degR at hD
  cases hv : tf (SclOk l) with
  | false =>
    rw [hv] at c1 hD
    rw [if_neg (by simp)] at hD
    subst hD
    (refine TC_of_T Γ_ok Tryd.func23 rfl (by kernel_rfl) ?_;simp only [Tryd.ntmps23,Tryd.results23,List.length_cons,List.length_nil,Nat.reduceSub,Nat.reduceAdd,List.replicate,List.cons_append,List.nil_append])
    (have dl1 := c1;((refine goR0 _ _ _ _ _ _ _ _ ?_ ?_ ?_ ?_ ?_ ?_ ?_ ?_) <;> (repeat intro hb) <;> first | exact True.intro | refine Lf.mk ?_))
  | true =>
    rw [hv] at c1 hD
    rw [if_pos rfl] at hD
    generalize octR p = o at c2 c3 hD
    obtain ⟨q, k, e⟩ := o
    simp only [] at c2 c3 hD
    by_cases he : e = 0
    · subst he
      rw [if_pos rfl] at hD
      by_cases hi : idxI l q < 0
      · rw [if_pos hi] at hD
        subst hD
        have e1 : decide (idxI l q < 0) = true := decide_eq_true hi
        (refine TC_of_T Γ_ok Tryd.func23 rfl (by kernel_rfl) ?_;simp only [Tryd.ntmps23,Tryd.results23,List.length_cons,List.length_nil,Nat.reduceSub,Nat.reduceAdd,List.replicate,List.cons_append,List.nil_append])
        (have dl1 := c1;have dl2 := c2;have dl3 := c3;have sx1 := e1;have sx2 : (0 : Nat) + 0 = 0 := rfl;((have sx3 : (0 : Nat) + 0 = 0 := rfl;have sx4 : (0 : Nat) + 0 = 0 := rfl;have sx5 : (0 : Nat) + 0 = 0 := rfl;have sx6 : (0 : Nat) + 0 = 0 := rfl;have sx7 : (0 : Nat) + 0 = 0 := rfl;have sx8 : (0 : Nat) + 0 = 0 := rfl;have sx9 : (0 : Nat) + 0 = 0 := rfl;refine goR9 _ _ _ _ _ _ _ _ ?_ ?_ ?_ ?_ ?_ ?_ ?_ ?_) <;> (repeat intro hb) <;> first|exact True.intro|refine Lf.mk ?_))
      · rw [if_neg hi] at hD
        subst hD
        have e1 : decide (idxI l q < 0) = false := decide_eq_false hi
        (refine TC_of_T Γ_ok Tryd.func23 rfl (by kernel_rfl) ?_;simp only [Tryd.ntmps23,Tryd.results23,List.length_cons,List.length_nil,Nat.reduceSub,Nat.reduceAdd,List.replicate,List.cons_append,List.nil_append])
        (have dl1 := c1;have dl2 := c2;have dl3 := c3;have sx1 := e1;have sx2 : (0 : Nat) + 0 = 0 := rfl;((have sx3 : (0 : Nat) + 0 = 0 := rfl;have sx4 : (0 : Nat) + 0 = 0 := rfl;have sx5 : (0 : Nat) + 0 = 0 := rfl;have sx6 : (0 : Nat) + 0 = 0 := rfl;have sx7 : (0 : Nat) + 0 = 0 := rfl;have sx8 : (0 : Nat) + 0 = 0 := rfl;have sx9 : (0 : Nat) + 0 = 0 := rfl;refine goR9 _ _ _ _ _ _ _ _ ?_ ?_ ?_ ?_ ?_ ?_ ?_ ?_) <;> (repeat intro hb) <;> first|exact True.intro|refine Lf.mk ?_))
    · rw [if_neg he] at hD
      subst hD
      have e1 : (e != 0) = true := by rw [bne_iff_ne]; exact he
      (refine TC_of_T Γ_ok Tryd.func23 rfl (by kernel_rfl) ?_;simp only [Tryd.ntmps23,Tryd.results23,List.length_cons,List.length_nil,Nat.reduceSub,Nat.reduceAdd,List.replicate,List.cons_append,List.nil_append])
      (have dl1 := c1;have dl2 := c2;have dl3 := c3;have sx1 := e1;have sx2 : (0 : Nat) + 0 = 0 := rfl;((have sx3 : (0 : Nat) + 0 = 0 := rfl;have sx4 : (0 : Nat) + 0 = 0 := rfl;have sx5 : (0 : Nat) + 0 = 0 := rfl;have sx6 : (0 : Nat) + 0 = 0 := rfl;have sx7 : (0 : Nat) + 0 = 0 := rfl;have sx8 : (0 : Nat) + 0 = 0 := rfl;have sx9 : (0 : Nat) + 0 = 0 := rfl;refine goR9 _ _ _ _ _ _ _ _ ?_ ?_ ?_ ?_ ?_ ?_ ?_ ?_) <;> (repeat intro hb) <;> first|exact True.intro|refine Lf.mk ?_))
end Go.Proofs.YtdglbjjenihdlaaDoor
