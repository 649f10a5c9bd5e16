/-
  The reference's Same, Valid.
-/
import Derived.Test.YtdglbjjenihdlaaDoorWGo
import Derived.Test.YtdglbjjenihdlaaDoorWS5
import Derived.Test.YtdglbjjenihdlaaDoorWS3
set_option linter.unusedSimpArgs false
set_option linter.unusedVariables false
namespace Go.Proofs.YtdglbjjenihdlaaDoor
open Go.Ab
theorem list_gP {a b : List P6} (hl : a.length = b.length) (h : ∀ j, j < a.length → gP a j = gP b j) : a = b := by
  refine List.ext_getElem hl fun i h1 h2 => ?_
  have := h i h1
  unfold gP at this
  rw [List.getD_eq_getElem?_getD,List.getD_eq_getElem?_getD,List.getElem?_eq_getElem h1,List.getElem?_eq_getElem h2] at this
  exact this
@[go_sem,reducible] def enV (a b : List P6) (i : Nat) : List AV := [pts a,pts b,.top,.top,.top,.imm (.int .i64 i)] ++ List.replicate 20 .top
set_option maxRecDepth 100000 in
set_option maxHeartbeats 4000000 in
theorem rsame_tc (a b : List P6) (h0 : a.length ≤ 9223372036854775807) (h1 : b.length ≤ 9223372036854775807) : Look Tryd.prog 16 [pts a,pts b] (.imm (.bool (decide (a = b)))) := by
  refine Look.mk trivial ?_
  generalize hR : decide (a = b) = R
  by_cases hl : a.length = b.length
  · have e1 : ((a.length : Int) != (b.length : Int)) = false := by simp [hl]
    have e2 : ((b.length : Int) != (b.length : Int)) = false := by simp
    (refine TC_of_T Γ_ok Tryd.func16 rfl (by kernel_rfl) ?_;simp only [Tryd.ntmps16,Tryd.results16,List.length_cons,List.length_nil,Nat.reduceSub,Nat.reduceAdd,List.replicate,List.cons_append,List.nil_append])
    (have sx1 := e1;have sx2 := e2;repeat' (first|with_reducible refine T_seq_drawT (id := 6) Γ_ok drawsAny pl16_6 (by kernel_rfl) (fun K hK=>?_)|with_reducible refine T_last_drawT (id := 6) Γ_ok drawsAny pl16_6 (by kernel_rfl) (fun K hK=>?_)|((have sx3 : (0 : Nat) + 0 = 0 := rfl;have sx4 : (0 : Nat) + 0 = 0 := rfl;have sx5 : (0 : Nat) + 0 = 0 := rfl;have sx6 : (0 : Nat) + 0 = 0 := rfl;have sx7 : (0 : Nat) + 0 = 0 := rfl;have sx8 : (0 : Nat) + 0 = 0 := rfl;have sx9 : (0 : Nat) + 0 = 0 := rfl;refine goR9 _ _ _ _ _ _ _ _ ?_ ?_ ?_ ?_ ?_ ?_ ?_ ?_) <;> (repeat intro hb) <;> first|exact True.intro|refine Lf.mk ?_)))
    refine T_loopW (fun m st => ∃ i : Nat,i ≤ a.length ∧ m + i = a.length ∧ (∀ j,j < i → gP a j = gP b j) ∧ st = ⟨enV a b i,[]⟩)
      a.length ⟨_, ?_, 0, by omega, rfl, fun j hj => by omega, rfl⟩ ?_
    · ((try simp only [List.length_append,List.length_cons,List.length_nil,Nat.zero_add]);refine Wk.intro [] (by decide) (by decide) (by intro o ho;simp at ho ⊢ <;> omega) ?_ ?_ <;> repeat' (first|exact WkVL.nil|refine WkVL.cons ?_ ?_|exact WkV.top|exact WkV.imm rfl|exact WkV.imm (by simp)|exact WkV.optr rfl|exact WkV.own rfl (by simp)|exact WkV.nil_own (.inl rfl)|exact WkV.map rfl|(refine WkV.free ?_;simp [Free,FreeL] <;> assumption)|(refine WkV.free (fun _ _=>FreeL_nth ?_ _);simp [Free,FreeL];done)|refine WkV.agg ?_|refine WkV.tup ?_|refine WkV.fn ?_ ?_|exact WkO.dead|exact WkO.raw|refine WkO.ghost ?_|exact WkO.mpE rfl trivial|refine WkO.box ?_ rfl|refine WkO.arr ?_|refine And.intro ?_ (And.intro (by first|exact fun h=>h|exact fun _=>rfl|exact nofun) ?_)|exact trivial|(intro i j hi hj)))
    rintro m st ⟨i, k0, k1, k2, rfl⟩
    by_cases hi : i < a.length
    · (simp only [go_sem,↓reduceIte,Nat.reduceAdd,Nat.reduceSub,Nat.reduceMul,Nat.reduceLT,Nat.reduceLeDiff,Nat.reduceEqDiff,Nat.reduceGT,Int.reduceToNat,Int.reduceBEq,Int.reduceBNe];try simp (disch := omega) only [wrapI,wrapU,half_sum,toNat_sub1,toNat_add1,Int.toNat_natCast])
      (repeat' (first|with_reducible refine T_seq_drawT (id := 6) Γ_ok drawsAny pl16_6 (by kernel_rfl) (fun K hK=>?_)|with_reducible refine T_last_drawT (id := 6) Γ_ok drawsAny pl16_6 (by kernel_rfl) (fun K hK=>?_)|((refine goR0 _ _ _ _ _ _ _ _ ?_ ?_ ?_ ?_ ?_ ?_ ?_ ?_) <;> (repeat intro hb) <;> first|exact True.intro|refine Lf.mk ?_)))
      · rw [← hR, decide_eq_false]
        intro e
        subst e
        simp at hb
      · refine ⟨a.length - (i + 1), by omega, _, ?_, i + 1, by omega, by omega, fun j hj => ?_, rfl⟩
        · ((try simp only [List.length_append,List.length_cons,List.length_nil,Nat.zero_add]);refine Wk.intro [] (by decide) (by decide) (by intro o ho;simp at ho ⊢ <;> omega) ?_ ?_ <;> repeat' (first|(refine WkV.imm ?_;congr 1;omega)|exact WkVL.nil|refine WkVL.cons ?_ ?_|exact WkV.top|exact WkV.imm rfl|exact WkV.imm (by simp)|exact WkV.optr rfl|exact WkV.own rfl (by simp)|exact WkV.nil_own (.inl rfl)|exact WkV.map rfl|(refine WkV.free ?_;simp [Free,FreeL] <;> assumption)|(refine WkV.free (fun _ _=>FreeL_nth ?_ _);simp [Free,FreeL];done)|refine WkV.agg ?_|refine WkV.tup ?_|refine WkV.fn ?_ ?_|exact WkO.dead|exact WkO.raw|refine WkO.ghost ?_|exact WkO.mpE rfl trivial|refine WkO.box ?_ rfl|refine WkO.arr ?_|refine And.intro ?_ (And.intro (by first|exact fun h=>h|exact fun _=>rfl|exact nofun) ?_)|exact trivial|(intro i j hi hj)))
        · by_cases e : j = i
          · subst e; exact (p6_eq _ _).1 (by simpa using hb)
          · exact k2 j (by omega)
    · obtain rfl : i = a.length := by omega
      (simp only [go_sem,↓reduceIte,Nat.reduceAdd,Nat.reduceSub,Nat.reduceMul,Nat.reduceLT,Nat.reduceLeDiff,Nat.reduceEqDiff,Nat.reduceGT,Int.reduceToNat,Int.reduceBEq,Int.reduceBNe];try simp (disch := omega) only [wrapI,wrapU,half_sum,toNat_sub1,toNat_add1,Int.toNat_natCast])
      (repeat' (first|with_reducible refine T_seq_drawT (id := 6) Γ_ok drawsAny pl16_6 (by kernel_rfl) (fun K hK=>?_)|with_reducible refine T_last_drawT (id := 6) Γ_ok drawsAny pl16_6 (by kernel_rfl) (fun K hK=>?_)|((refine goR0 _ _ _ _ _ _ _ _ ?_ ?_ ?_ ?_ ?_ ?_ ?_ ?_) <;> (repeat intro hb) <;> first|exact True.intro|refine Lf.mk ?_)))
      rw [← hR, decide_eq_true (list_gP hl k2)]
  · have e1 : ((a.length : Int) != (b.length : Int)) = true := by simp; omega
    have hR2 : R = false := by rw [← hR, decide_eq_false]; intro e; exact hl (by rw [e])
    subst hR2
    (refine TC_of_T Γ_ok Tryd.func16 rfl (by kernel_rfl) ?_;simp only [Tryd.ntmps16,Tryd.results16,List.length_cons,List.length_nil,Nat.reduceSub,Nat.reduceAdd,List.replicate,List.cons_append,List.nil_append])
    (have sx1 := e1;have sx2 : (0 : Nat) + 0 = 0 := rfl;repeat' (first|with_reducible refine T_seq_drawT (id := 6) Γ_ok drawsAny pl16_6 (by kernel_rfl) (fun K hK=>?_)|with_reducible refine T_last_drawT (id := 6) Γ_ok drawsAny pl16_6 (by kernel_rfl) (fun K hK=>?_)|((have sx3 : (0 : Nat) + 0 = 0 := rfl;have sx4 : (0 : Nat) + 0 = 0 := rfl;have sx5 : (0 : Nat) + 0 = 0 := rfl;have sx6 : (0 : Nat) + 0 = 0 := rfl;have sx7 : (0 : Nat) + 0 = 0 := rfl;have sx8 : (0 : Nat) + 0 = 0 := rfl;have sx9 : (0 : Nat) + 0 = 0 := rfl;refine goR9 _ _ _ _ _ _ _ _ ?_ ?_ ?_ ?_ ?_ ?_ ?_ ?_) <;> (repeat intro hb) <;> first|exact True.intro|refine Lf.mk ?_)))
@[go_sem,reducible] def enW9 (l : List P6) (i : Nat) : List AV := [pts l,.top,.top,.imm (.int .i64 i)] ++ List.replicate 47 .top
set_option maxRecDepth 100000 in
set_option maxHeartbeats 4000000 in
theorem rsvalid_tc (l : List P6) (h0 : l.length ≤ 9223372036854775807) : Look Tryd.prog 18 [pts l] (.imm (.bool (tf (SclOk l)))) := by
  refine Look.mk trivial ?_
  generalize hR : tf (SclOk l) = R
  by_cases hl : 1 ≤ l.length ∧ l.length ≤ 64
  · have e1 : decide ((l.length : Int) < 1) = false := decide_eq_false (by omega)
    have e2 : decide ((l.length : Int) > 64) = false := decide_eq_false (by omega)
    by_cases hz : gP l 0 = z6
    · have hz' := (p6_eq _ _).2 hz
      obtain ⟨z1, z2, z3, z4, z5, z6'⟩ := hz'
      simp only [z6] at z1 z2 z3 z4 z5 z6'
      have hbn : ∀ x : Int, (x != x) = false := fun x => by simp
      (refine TC_of_T Γ_ok Tryd.func18 rfl (by kernel_rfl) ?_;simp only [Tryd.ntmps18,Tryd.results18,List.length_cons,List.length_nil,Nat.reduceSub,Nat.reduceAdd,List.replicate,List.cons_append,List.nil_append])
      (have sx1 := e1;have sx2 := e2;have sx3 := z1;have sx4 := z2;have sx5 := z3;have sx6 := z4;have sx7 := z5;have sx8 := z6';have sx9 := hbn;repeat' (first|with_reducible refine T_seq_drawT (id := 9) Γ_ok drawsAny pl18_9 (by kernel_rfl) (fun K hK=>?_)|with_reducible refine T_last_drawT (id := 9) Γ_ok drawsAny pl18_9 (by kernel_rfl) (fun K hK=>?_)|((refine goR9 _ _ _ _ _ _ _ _ ?_ ?_ ?_ ?_ ?_ ?_ ?_ ?_) <;> (repeat intro hb) <;> first|exact True.intro|refine Lf.mk ?_)))
      refine T_loopW (fun m st => ∃ i : Nat,1 ≤ i ∧ i ≤ l.length ∧ m + i = l.length ∧ (∀ j,j + 1 < i → Bd6 576 (gP l (j + 1)) ∧ cmT (gP l j) (gP l (j + 1)) < 0) ∧ st = ⟨enW9 l i,[]⟩)
        (l.length - 1) ⟨_, ?_, 1, by omega, by omega, by omega, fun j hj => by omega, rfl⟩ ?_
      · ((try simp only [List.length_append,List.length_cons,List.length_nil,Nat.zero_add]);refine Wk.intro [] (by decide) (by decide) (by intro o ho;simp at ho ⊢ <;> omega) ?_ ?_ <;> repeat' (first|exact WkVL.nil|refine WkVL.cons ?_ ?_|exact WkV.top|exact WkV.imm rfl|exact WkV.imm (by simp)|exact WkV.optr rfl|exact WkV.own rfl (by simp)|exact WkV.nil_own (.inl rfl)|exact WkV.map rfl|(refine WkV.free ?_;simp [Free,FreeL] <;> assumption)|(refine WkV.free (fun _ _=>FreeL_nth ?_ _);simp [Free,FreeL];done)|refine WkV.agg ?_|refine WkV.tup ?_|refine WkV.fn ?_ ?_|exact WkO.dead|exact WkO.raw|refine WkO.ghost ?_|exact WkO.mpE rfl trivial|refine WkO.box ?_ rfl|refine WkO.arr ?_|refine And.intro ?_ (And.intro (by first|exact fun h=>h|exact fun _=>rfl|exact nofun) ?_)|exact trivial|(intro i j hi hj)))
      rintro m st ⟨i, k00, k0, k1, k2, rfl⟩
      by_cases hi : i < l.length
      · have c1 := rvalid_p (gP l i)
        have c2 := rcmp9_tc (gP l (i - 1)) (gP l i)
        by_cases hv : Bd6 576 (gP l i)
        · rw [decide_eq_true hv] at c1
          (simp only [go_sem,↓reduceIte,Nat.reduceAdd,Nat.reduceSub,Nat.reduceMul,Nat.reduceLT,Nat.reduceLeDiff,Nat.reduceEqDiff,Nat.reduceGT,Int.reduceToNat,Int.reduceBEq,Int.reduceBNe];try simp (disch := omega) only [wrapI,wrapU,half_sum,toNat_sub1,toNat_add1,Int.toNat_natCast])
          (have dl1 := c1;have dl2 := c2;repeat' (first|with_reducible refine T_seq_drawT (id := 9) Γ_ok drawsAny pl18_9 (by kernel_rfl) (fun K hK=>?_)|with_reducible refine T_last_drawT (id := 9) Γ_ok drawsAny pl18_9 (by kernel_rfl) (fun K hK=>?_)|((refine goR0 _ _ _ _ _ _ _ _ ?_ ?_ ?_ ?_ ?_ ?_ ?_ ?_) <;> (repeat intro hb) <;> first|exact True.intro|refine Lf.mk ?_)))
          · rw [← hR, tf_f fun h => ?_]
            have h9 := h.step (i - 1) (by omega)
            rw [show i - 1 + 1 = i by omega] at h9
            omega
          · refine ⟨l.length - (i + 1), by omega, _, ?_, i + 1, by omega, by omega, by omega, fun j hj => ?_, rfl⟩
            · ((try simp only [List.length_append,List.length_cons,List.length_nil,Nat.zero_add]);refine Wk.intro [] (by decide) (by decide) (by intro o ho;simp at ho ⊢ <;> omega) ?_ ?_ <;> repeat' (first|(refine WkV.imm ?_;congr 1;omega)|exact WkVL.nil|refine WkVL.cons ?_ ?_|exact WkV.top|exact WkV.imm rfl|exact WkV.imm (by simp)|exact WkV.optr rfl|exact WkV.own rfl (by simp)|exact WkV.nil_own (.inl rfl)|exact WkV.map rfl|(refine WkV.free ?_;simp [Free,FreeL] <;> assumption)|(refine WkV.free (fun _ _=>FreeL_nth ?_ _);simp [Free,FreeL];done)|refine WkV.agg ?_|refine WkV.tup ?_|refine WkV.fn ?_ ?_|exact WkO.dead|exact WkO.raw|refine WkO.ghost ?_|exact WkO.mpE rfl trivial|refine WkO.box ?_ rfl|refine WkO.arr ?_|refine And.intro ?_ (And.intro (by first|exact fun h=>h|exact fun _=>rfl|exact nofun) ?_)|exact trivial|(intro i j hi hj)))
            · by_cases e : j + 1 = i
              · subst e
                rw [Nat.add_sub_cancel] at hb
                exact ⟨hv, hb⟩
              · exact k2 j (by omega)
        · rw [decide_eq_false hv] at c1
          (simp only [go_sem,↓reduceIte,Nat.reduceAdd,Nat.reduceSub,Nat.reduceMul,Nat.reduceLT,Nat.reduceLeDiff,Nat.reduceEqDiff,Nat.reduceGT,Int.reduceToNat,Int.reduceBEq,Int.reduceBNe];try simp (disch := omega) only [wrapI,wrapU,half_sum,toNat_sub1,toNat_add1,Int.toNat_natCast])
          (have dl1 := c1;repeat' (first|with_reducible refine T_seq_drawT (id := 9) Γ_ok drawsAny pl18_9 (by kernel_rfl) (fun K hK=>?_)|with_reducible refine T_last_drawT (id := 9) Γ_ok drawsAny pl18_9 (by kernel_rfl) (fun K hK=>?_)|((refine goR0 _ _ _ _ _ _ _ _ ?_ ?_ ?_ ?_ ?_ ?_ ?_ ?_) <;> (repeat intro hb) <;> first|exact True.intro|refine Lf.mk ?_)))
          rw [← hR, tf_f fun h => ?_]
          have h9 := h.step (i - 1) (by omega)
          rw [show i - 1 + 1 = i by omega] at h9
          exact hv h9.1
      · obtain rfl : i = l.length := by omega
        have c1 := rinside_tc (gP l (l.length - 1))
        (simp only [go_sem,↓reduceIte,Nat.reduceAdd,Nat.reduceSub,Nat.reduceMul,Nat.reduceLT,Nat.reduceLeDiff,Nat.reduceEqDiff,Nat.reduceGT,Int.reduceToNat,Int.reduceBEq,Int.reduceBNe];try simp (disch := omega) only [wrapI,wrapU,half_sum,toNat_sub1,toNat_add1,Int.toNat_natCast])
        (have dl1 := c1;repeat' (first|with_reducible refine T_seq_drawT (id := 9) Γ_ok drawsAny pl18_9 (by kernel_rfl) (fun K hK=>?_)|with_reducible refine T_last_drawT (id := 9) Γ_ok drawsAny pl18_9 (by kernel_rfl) (fun K hK=>?_)|((refine goR0 _ _ _ _ _ _ _ _ ?_ ?_ ?_ ?_ ?_ ?_ ?_ ?_) <;> (repeat intro hb) <;> first|exact True.intro|refine Lf.mk ?_)))
        rw [← hR]
        refine congrArg (fun b => AV.imm (.bool b)) ?_
        rw [Bool.eq_iff_iff, tf_iff]
        exact ⟨fun h => ⟨List.length_pos_iff.1 hl.1, hl.2, hz, fun j hj => k2 j (by omega), h⟩, fun h => h.last⟩
    · have hR' : R = false := by rw [← hR]; exact tf_f fun h => hz h.zero
      subst hR'
      (refine TC_of_T Γ_ok Tryd.func18 rfl (by kernel_rfl) ?_;simp only [Tryd.ntmps18,Tryd.results18,List.length_cons,List.length_nil,Nat.reduceSub,Nat.reduceAdd,List.replicate,List.cons_append,List.nil_append])
      (have sx1 := e1;have sx2 := e2;repeat' (first|with_reducible refine T_seq_drawT (id := 9) Γ_ok drawsAny pl18_9 (by kernel_rfl) (fun K hK=>?_)|with_reducible refine T_last_drawT (id := 9) Γ_ok drawsAny pl18_9 (by kernel_rfl) (fun K hK=>?_)|((have sx3 : (0 : Nat) + 0 = 0 := rfl;have sx4 : (0 : Nat) + 0 = 0 := rfl;have sx5 : (0 : Nat) + 0 = 0 := rfl;have sx6 : (0 : Nat) + 0 = 0 := rfl;have sx7 : (0 : Nat) + 0 = 0 := rfl;have sx8 : (0 : Nat) + 0 = 0 := rfl;have sx9 : (0 : Nat) + 0 = 0 := rfl;refine goR9 _ _ _ _ _ _ _ _ ?_ ?_ ?_ ?_ ?_ ?_ ?_ ?_) <;> (repeat intro hb) <;> first|exact True.intro|refine Lf.mk ?_)))
      exact absurd ((p6_eq (gP l 0) z6).1 hb) hz
  · have hR' : R = false := by rw [← hR]; exact tf_f fun h => hl ⟨List.length_pos_iff.2 h.ne, h.len⟩
    subst hR'
    by_cases h9 : l.length = 0
    · have e1 : decide ((l.length : Int) < 1) = true := decide_eq_true (by omega)
      (refine TC_of_T Γ_ok Tryd.func18 rfl (by kernel_rfl) ?_;simp only [Tryd.ntmps18,Tryd.results18,List.length_cons,List.length_nil,Nat.reduceSub,Nat.reduceAdd,List.replicate,List.cons_append,List.nil_append])
      (have sx1 := e1;have sx2 : (0 : Nat) + 0 = 0 := rfl;repeat' (first|with_reducible refine T_seq_drawT (id := 9) Γ_ok drawsAny pl18_9 (by kernel_rfl) (fun K hK=>?_)|with_reducible refine T_last_drawT (id := 9) Γ_ok drawsAny pl18_9 (by kernel_rfl) (fun K hK=>?_)|((have sx3 : (0 : Nat) + 0 = 0 := rfl;have sx4 : (0 : Nat) + 0 = 0 := rfl;have sx5 : (0 : Nat) + 0 = 0 := rfl;have sx6 : (0 : Nat) + 0 = 0 := rfl;have sx7 : (0 : Nat) + 0 = 0 := rfl;have sx8 : (0 : Nat) + 0 = 0 := rfl;have sx9 : (0 : Nat) + 0 = 0 := rfl;refine goR9 _ _ _ _ _ _ _ _ ?_ ?_ ?_ ?_ ?_ ?_ ?_ ?_) <;> (repeat intro hb) <;> first|exact True.intro|refine Lf.mk ?_)))
    · have e1 : decide ((l.length : Int) < 1) = false := decide_eq_false (by omega)
      have e2 : decide ((l.length : Int) > 64) = true := decide_eq_true (by omega)
      (refine TC_of_T Γ_ok Tryd.func18 rfl (by kernel_rfl) ?_;simp only [Tryd.ntmps18,Tryd.results18,List.length_cons,List.length_nil,Nat.reduceSub,Nat.reduceAdd,List.replicate,List.cons_append,List.nil_append])
      (have sx1 := e1;have sx2 := e2;repeat' (first|with_reducible refine T_seq_drawT (id := 9) Γ_ok drawsAny pl18_9 (by kernel_rfl) (fun K hK=>?_)|with_reducible refine T_last_drawT (id := 9) Γ_ok drawsAny pl18_9 (by kernel_rfl) (fun K hK=>?_)|((have sx3 : (0 : Nat) + 0 = 0 := rfl;have sx4 : (0 : Nat) + 0 = 0 := rfl;have sx5 : (0 : Nat) + 0 = 0 := rfl;have sx6 : (0 : Nat) + 0 = 0 := rfl;have sx7 : (0 : Nat) + 0 = 0 := rfl;have sx8 : (0 : Nat) + 0 = 0 := rfl;have sx9 : (0 : Nat) + 0 = 0 := rfl;refine goR9 _ _ _ _ _ _ _ _ ?_ ?_ ?_ ?_ ?_ ?_ ?_ ?_) <;> (repeat intro hb) <;> first|exact True.intro|refine Lf.mk ?_)))
end Go.Proofs.YtdglbjjenihdlaaDoor
