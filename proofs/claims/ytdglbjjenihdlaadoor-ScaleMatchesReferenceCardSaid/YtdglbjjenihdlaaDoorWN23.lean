/-
  scale.Chain.
-/
import Derived.Test.YtdglbjjenihdlaaDoorWGo
import Derived.Test.YtdglbjjenihdlaaDoorWN22
set_option linter.unusedSimpArgs false
set_option linter.unusedVariables false
namespace Go.Proofs.YtdglbjjenihdlaaDoor
open Go.Ab
theorem gP_at {l : List P6} {i : Nat} (h : i < l.length) : gP l i = l[i] := by unfold gP;rw [List.getD_eq_getElem?_getD,List.getElem?_eq_getElem h];rfl
@[go_sem,reducible] def enC1 (N m i : Nat) : List AV := [.top,.imm (.int .i64 N),.optr 0 0 0,.top,.top,.top,.own 1 0 m none] ++ List.replicate 17 .top ++ [.imm (.int .i64 N),.imm (.int .i64 i)] ++ List.replicate 41 .top
@[go_sem,reducible] def enC2 (N m i : Nat) : List AV := [.top,.imm (.int .i64 N),.top,.top,.top,.top,.own 0 0 m none] ++ List.replicate 5 .top ++ [.imm (.int .i64 i)] ++ List.replicate 54 .top
set_option maxRecDepth 100000 in
set_option maxHeartbeats 4000000 in
theorem chain_mk (g : P6) (n : Int) : Makes Tryd.prog 14 [p6A g,.imm (.int .i64 n)] (.tup [.own 0 0 (chR g n).1.length none,.imm (.int .i64 (chR g n).2)]) [ptO (chR g n).1] := by
  refine ptMk ?_
  have c1 := valid_p g
  generalize hR : chR g n = R
  unfold chR at hR
  generalize hQ : (fun (v : AV) (σ' : List AObj)=>(v = .tup [.imm (.slice none 0 0),.imm (.int .i64 R.2)] ∧ R.1.length = 0) ∨ ∃ k E',v = .tup [.own k 0 R.1.length none,.imm (.int .i64 R.2)] ∧ nthO σ' k = .arr 24 6 R.1.length E' ∧ ∀ i j,i < R.1.length → j < 6 → E' i j = ptE R.1 i j) = Q
  by_cases h : Bd6 576 g ∧ 1 ≤ n ∧ n ≤ 64
  · rw [if_pos h] at hR
    rw [decide_eq_true h.1] at c1
    obtain ⟨h1, h2, h3⟩ := h
    obtain ⟨N, rfl⟩ := Int.eq_ofNat_of_zero_le (show 0 ≤ n by omega)
    rw [Int.toNat_natCast] at hR
    have e1 : decide ((N : Int) < 1) = false := decide_eq_false (by omega)
    have e2 : decide ((N : Int) > 64) = false := decide_eq_false (by omega)
    (refine TC_of_T Γ_ok Tryd.func14 rfl (by kernel_rfl) ?_;simp only [Tryd.ntmps14,Tryd.results14,List.length_cons,List.length_nil,Nat.reduceSub,Nat.reduceAdd,List.replicate,List.cons_append,List.nil_append])
    (have dl1 := c1;have sx1 := e1;have sx2 := e2;repeat' (first|with_reducible refine T_seq_drawT (id := 19) Γ_ok drawsAny pl14_19 (by kernel_rfl) (fun K hK=>?_)|with_reducible refine T_last_drawT (id := 19) Γ_ok drawsAny pl14_19 (by kernel_rfl) (fun K hK=>?_)|((have sx3 : (0 : Nat) + 0 = 0 := rfl;have sx4 : (0 : Nat) + 0 = 0 := rfl;have sx5 : (0 : Nat) + 0 = 0 := rfl;have sx6 : (0 : Nat) + 0 = 0 := rfl;have sx7 : (0 : Nat) + 0 = 0 := rfl;have sx8 : (0 : Nat) + 0 = 0 := rfl;have sx9 : (0 : Nat) + 0 = 0 := rfl;refine goR9 _ _ _ _ _ _ _ _ ?_ ?_ ?_ ?_ ?_ ?_ ?_ ?_) <;> (repeat intro hb) <;> first|exact True.intro|refine Lf.mk ?_)))
    clear c1 e1 e2
    refine T_loopW (fun m st => ∃ (i : Nat) (l : List P6),i ≤ N ∧ m + i = N ∧ chL g i = some l ∧ st = ⟨enC1 N l.length i,[.box 24 (p6L g),ptO l]⟩)
      N ⟨_, Wk.trans (Wk.push 24 6 (ptE [])) ?_, 0, [], by omega, rfl, rfl, rfl⟩ ?_
    · ((try simp only [List.length_append,List.length_cons,List.length_nil,Nat.zero_add]);refine Wk.intro [0,1] (by decide) (by decide) (by intro o ho;simp at ho ⊢ <;> omega) ?_ ?_ <;> repeat' (first|exact WkVL.nil|refine WkVL.cons ?_ ?_|exact WkV.top|exact WkV.imm rfl|exact WkV.imm (by simp)|exact WkV.optr rfl|exact WkV.own rfl (by simp)|exact WkV.nil_own (.inl rfl)|exact WkV.map rfl|(refine WkV.free ?_;simp [Free,FreeL] <;> assumption)|(refine WkV.free (fun _ _=>FreeL_nth ?_ _);simp [Free,FreeL];done)|refine WkV.agg ?_|refine WkV.tup ?_|refine WkV.fn ?_ ?_|exact WkO.dead|exact WkO.raw|refine WkO.ghost ?_|exact WkO.mpE rfl trivial|refine WkO.box ?_ rfl|refine WkO.arr ?_|refine And.intro ?_ (And.intro (by first|exact fun h=>h|exact fun _=>rfl|exact nofun) ?_)|exact trivial|(intro i j hi hj)))
    rintro m st ⟨i, l, k0, k1, k2, rfl⟩
    obtain ⟨hll, hlb⟩ := chL_len k2
    by_cases hi : i < N
    · have c2 := power_tc g h1 i (by omega)
      have c3 := octave_tc (powR g i).1
      have hst : chL g (i + 1) = (chE g i).map fun p => l ++ [p] := by rw [chL, k2]; rfl
      have hce : chE g i = if (powR g i).2 = 0 ∧ (octR (powR g i).1).2.2 = 0 then some (octR (powR g i).1).1 else none := rfl
      generalize powR g i = w at c2 c3 hce
      obtain ⟨w, e⟩ := w
      simp only [] at c2 c3 hce
      generalize octR w = o at c3 hce
      obtain ⟨p, o, f⟩ := o
      simp only [] at c3 hce
      by_cases he : e = 0
      · subst he
        by_cases hf : f = 0
        · subst hf
          rw [if_pos ⟨rfl, rfl⟩] at hce
          rw [hce] at hst
          simp only [Option.map_some] at hst
          have hsn := fun a b => pt_snoc l p (i := a) (j := b)
          (simp only [go_sem,↓reduceIte,Nat.reduceAdd,Nat.reduceSub,Nat.reduceMul,Nat.reduceLT,Nat.reduceLeDiff,Nat.reduceEqDiff,Nat.reduceGT,Int.reduceToNat,Int.reduceBEq,Int.reduceBNe];try simp (disch := omega) only [wrapI,wrapU,half_sum,toNat_sub1,toNat_add1,Int.toNat_natCast])
          (have dl1 := c2;have dl2 := c3;repeat' (first|with_reducible refine T_seq_drawT (id := 19) Γ_ok drawsAny pl14_19 (by kernel_rfl) (fun K hK=>?_)|with_reducible refine T_last_drawT (id := 19) Γ_ok drawsAny pl14_19 (by kernel_rfl) (fun K hK=>?_)|((refine goR0 _ _ _ _ _ _ _ _ ?_ ?_ ?_ ?_ ?_ ?_ ?_ ?_) <;> (repeat intro hb) <;> first|exact True.intro|refine Lf.mk ?_)))
          refine ⟨N - (i + 1),by omega,⟨enC1 N (l ++ [p]).length (i + 1),[.box 24 (p6L g),ptO (l ++ [p])]⟩,?_,i + 1,l ++ [p],by omega,by omega,hst,rfl⟩
          simp only [ptO]
          ((try simp only [List.length_append,List.length_cons,List.length_nil,Nat.zero_add]);refine Wk.intro [0,5] (by decide) (by decide) (by intro o ho;simp at ho ⊢ <;> omega) ?_ ?_ <;> repeat' (first|(exact WkV.eqF (hsn _ _ hi hj) (ptE_free _ _ _))|(refine WkV.imm ?_;congr 1;omega)|exact WkVL.nil|refine WkVL.cons ?_ ?_|exact WkV.top|exact WkV.imm rfl|exact WkV.imm (by simp)|exact WkV.optr rfl|exact WkV.own rfl (by simp)|exact WkV.nil_own (.inl rfl)|exact WkV.map rfl|(refine WkV.free ?_;simp [Free,FreeL] <;> assumption)|(refine WkV.free (fun _ _=>FreeL_nth ?_ _);simp [Free,FreeL];done)|refine WkV.agg ?_|refine WkV.tup ?_|refine WkV.fn ?_ ?_|exact WkO.dead|exact WkO.raw|refine WkO.ghost ?_|exact WkO.mpE rfl trivial|refine WkO.box ?_ rfl|refine WkO.arr ?_|refine And.intro ?_ (And.intro (by first|exact fun h=>h|exact fun _=>rfl|exact nofun) ?_)|exact trivial|(intro i j hi hj)))
        · have e3 : (f != 0) = true := by rw [bne_iff_ne]; exact hf
          rw [if_neg (fun k => hf k.2)] at hce
          rw [hce] at hst
          have hno : chL g N = none := by
            have := chL_none hst (N - (i + 1))
            rwa [show i + 1 + (N - (i + 1)) = N by omega] at this
          rw [hno] at hR
          (simp only [go_sem,↓reduceIte,Nat.reduceAdd,Nat.reduceSub,Nat.reduceMul,Nat.reduceLT,Nat.reduceLeDiff,Nat.reduceEqDiff,Nat.reduceGT,Int.reduceToNat,Int.reduceBEq,Int.reduceBNe];try simp (disch := omega) only [wrapI,wrapU,half_sum,toNat_sub1,toNat_add1,Int.toNat_natCast])
          (have dl1 := c2;have dl2 := c3;have sx1 := e3;have sx2 : (0 : Nat) + 0 = 0 := rfl;repeat' (first|with_reducible refine T_seq_drawT (id := 19) Γ_ok drawsAny pl14_19 (by kernel_rfl) (fun K hK=>?_)|with_reducible refine T_last_drawT (id := 19) Γ_ok drawsAny pl14_19 (by kernel_rfl) (fun K hK=>?_)|((have sx3 : (0 : Nat) + 0 = 0 := rfl;have sx4 : (0 : Nat) + 0 = 0 := rfl;have sx5 : (0 : Nat) + 0 = 0 := rfl;have sx6 : (0 : Nat) + 0 = 0 := rfl;have sx7 : (0 : Nat) + 0 = 0 := rfl;have sx8 : (0 : Nat) + 0 = 0 := rfl;have sx9 : (0 : Nat) + 0 = 0 := rfl;refine goR9 _ _ _ _ _ _ _ _ ?_ ?_ ?_ ?_ ?_ ?_ ?_ ?_) <;> (repeat intro hb) <;> first|exact True.intro|refine Lf.mk ?_)))
          rw [← hQ, ← hR]
          exact .inl ⟨rfl, rfl⟩
      · have e3 : (e != 0) = true := by rw [bne_iff_ne]; exact he
        rw [if_neg (fun k => he k.1)] at hce
        rw [hce] at hst
        have hno : chL g N = none := by
          have := chL_none hst (N - (i + 1))
          rwa [show i + 1 + (N - (i + 1)) = N by omega] at this
        rw [hno] at hR
        (simp only [go_sem,↓reduceIte,Nat.reduceAdd,Nat.reduceSub,Nat.reduceMul,Nat.reduceLT,Nat.reduceLeDiff,Nat.reduceEqDiff,Nat.reduceGT,Int.reduceToNat,Int.reduceBEq,Int.reduceBNe];try simp (disch := omega) only [wrapI,wrapU,half_sum,toNat_sub1,toNat_add1,Int.toNat_natCast])
        (have dl1 := c2;have sx1 := e3;have sx2 : (0 : Nat) + 0 = 0 := rfl;repeat' (first|with_reducible refine T_seq_drawT (id := 19) Γ_ok drawsAny pl14_19 (by kernel_rfl) (fun K hK=>?_)|with_reducible refine T_last_drawT (id := 19) Γ_ok drawsAny pl14_19 (by kernel_rfl) (fun K hK=>?_)|((have sx3 : (0 : Nat) + 0 = 0 := rfl;have sx4 : (0 : Nat) + 0 = 0 := rfl;have sx5 : (0 : Nat) + 0 = 0 := rfl;have sx6 : (0 : Nat) + 0 = 0 := rfl;have sx7 : (0 : Nat) + 0 = 0 := rfl;have sx8 : (0 : Nat) + 0 = 0 := rfl;have sx9 : (0 : Nat) + 0 = 0 := rfl;refine goR9 _ _ _ _ _ _ _ _ ?_ ?_ ?_ ?_ ?_ ?_ ?_ ?_) <;> (repeat intro hb) <;> first|exact True.intro|refine Lf.mk ?_)))
        rw [← hQ, ← hR]
        exact .inl ⟨rfl, rfl⟩
    · obtain rfl : i = N := by omega
      rw [k2] at hR
      simp only [] at hR
      obtain ⟨q, q1, q2, q3, c4⟩ := sortP_tu l hlb (by omega)
      (simp only [go_sem,↓reduceIte,Nat.reduceAdd,Nat.reduceSub,Nat.reduceMul,Nat.reduceLT,Nat.reduceLeDiff,Nat.reduceEqDiff,Nat.reduceGT,Int.reduceToNat,Int.reduceBEq,Int.reduceBNe];try simp (disch := omega) only [wrapI,wrapU,half_sum,toNat_sub1,toNat_add1,Int.toNat_natCast])
      (have ct1 := TurnsAt.mk [1] (c4);repeat' (first|with_reducible refine T_seq_drawT (id := 19) Γ_ok drawsAny pl14_19 (by kernel_rfl) (fun K hK=>?_)|with_reducible refine T_last_drawT (id := 19) Γ_ok drawsAny pl14_19 (by kernel_rfl) (fun K hK=>?_)|((refine goR0 _ _ _ _ _ _ _ _ ?_ ?_ ?_ ?_ ?_ ?_ ?_ ?_) <;> (repeat intro hb) <;> first|exact True.intro|refine Lf.mk ?_)))
      refine T_loopW (fun m st => ∃ j : Nat,1 ≤ j ∧ j ≤ i ∧ m + j = i ∧ (∀ a,0 < a → a < j → gP q (a - 1) ≠ gP q a) ∧ st = ⟨enC2 i l.length j,[ptO q]⟩)
        (i - 1) ⟨_, ?_, 1, by omega, by omega, by omega, fun a _ _ => by omega, rfl⟩ ?_
      · ((try simp only [List.length_append,List.length_cons,List.length_nil,Nat.zero_add]);refine Wk.intro [1] (by decide) (by decide) (by intro o ho;simp at ho ⊢ <;> omega) ?_ ?_ <;> repeat' (first|exact WkVL.nil|refine WkVL.cons ?_ ?_|exact WkV.top|exact WkV.imm rfl|exact WkV.imm (by simp)|exact WkV.optr rfl|exact WkV.own rfl (by simp)|exact WkV.nil_own (.inl rfl)|exact WkV.map rfl|(refine WkV.free ?_;simp [Free,FreeL] <;> assumption)|(refine WkV.free (fun _ _=>FreeL_nth ?_ _);simp [Free,FreeL];done)|refine WkV.agg ?_|refine WkV.tup ?_|refine WkV.fn ?_ ?_|exact WkO.dead|exact WkO.raw|refine WkO.ghost ?_|exact WkO.mpE rfl trivial|refine WkO.box ?_ rfl|refine WkO.arr ?_|refine And.intro ?_ (And.intro (by first|exact fun h=>h|exact fun _=>rfl|exact nofun) ?_)|exact trivial|(intro i j hi hj)))
      rintro m st ⟨j, j0, j1, j2, j3, rfl⟩
      by_cases hj : j < i
      · (simp only [go_sem,↓reduceIte,Nat.reduceAdd,Nat.reduceSub,Nat.reduceMul,Nat.reduceLT,Nat.reduceLeDiff,Nat.reduceEqDiff,Nat.reduceGT,Int.reduceToNat,Int.reduceBEq,Int.reduceBNe];try simp (disch := omega) only [wrapI,wrapU,half_sum,toNat_sub1,toNat_add1,Int.toNat_natCast])
        (repeat' (first|with_reducible refine T_seq_drawT (id := 19) Γ_ok drawsAny pl14_19 (by kernel_rfl) (fun K hK=>?_)|with_reducible refine T_last_drawT (id := 19) Γ_ok drawsAny pl14_19 (by kernel_rfl) (fun K hK=>?_)|((refine goR0 _ _ _ _ _ _ _ _ ?_ ?_ ?_ ?_ ?_ ?_ ?_ ?_) <;> (repeat intro hb) <;> first|exact True.intro|refine Lf.mk ?_)))
        · have h9 := (p6_eq _ _).1 hb
          rw [srtP_twice q2 (i := j) (by omega) (by omega) (by rw [← gP_at (by omega),← gP_at (by omega)];exact h9)] at hR
          rw [← hQ, ← hR]
          exact .inl ⟨rfl, rfl⟩
        · refine ⟨i - (j + 1), by omega, _, ?_, j + 1, by omega, by omega, by omega, fun a a1 a2 => ?_, rfl⟩
          · ((try simp only [List.length_append,List.length_cons,List.length_nil,Nat.zero_add]);refine Wk.intro [0] (by decide) (by decide) (by intro o ho;simp at ho ⊢ <;> omega) ?_ ?_ <;> repeat' (first|(refine WkV.imm ?_;congr 1;omega)|exact WkVL.nil|refine WkVL.cons ?_ ?_|exact WkV.top|exact WkV.imm rfl|exact WkV.imm (by simp)|exact WkV.optr rfl|exact WkV.own rfl (by simp)|exact WkV.nil_own (.inl rfl)|exact WkV.map rfl|(refine WkV.free ?_;simp [Free,FreeL] <;> assumption)|(refine WkV.free (fun _ _=>FreeL_nth ?_ _);simp [Free,FreeL];done)|refine WkV.agg ?_|refine WkV.tup ?_|refine WkV.fn ?_ ?_|exact WkO.dead|exact WkO.raw|refine WkO.ghost ?_|exact WkO.mpE rfl trivial|refine WkO.box ?_ rfl|refine WkO.arr ?_|refine And.intro ?_ (And.intro (by first|exact fun h=>h|exact fun _=>rfl|exact nofun) ?_)|exact trivial|(intro i j hi hj)))
          · by_cases e : a = j
            · subst e
              intro e2
              obtain ⟨z1, z2, z3, z4, z5, z6'⟩ := (p6_eq _ _).2 e2
              exact hb z1 z2 z3 z4 z5 z6'
            · exact j3 a a1 (by omega)
      · obtain rfl : j = i := by omega
        (simp only [go_sem,↓reduceIte,Nat.reduceAdd,Nat.reduceSub,Nat.reduceMul,Nat.reduceLT,Nat.reduceLeDiff,Nat.reduceEqDiff,Nat.reduceGT,Int.reduceToNat,Int.reduceBEq,Int.reduceBNe];try simp (disch := omega) only [wrapI,wrapU,half_sum,toNat_sub1,toNat_add1,Int.toNat_natCast])
        (repeat' (first|with_reducible refine T_seq_drawT (id := 19) Γ_ok drawsAny pl14_19 (by kernel_rfl) (fun K hK=>?_)|with_reducible refine T_last_drawT (id := 19) Γ_ok drawsAny pl14_19 (by kernel_rfl) (fun K hK=>?_)|((refine goR0 _ _ _ _ _ _ _ _ ?_ ?_ ?_ ?_ ?_ ?_ ?_ ?_) <;> (repeat intro hb) <;> first|exact True.intro|refine Lf.mk ?_)))
        rw [srtP_of q2 q3 (fun a a1 a2 => by rw [← gP_at, ← gP_at]; exact j3 a a1 (by omega))] at hR
        rw [← hQ, ← hR]
        refine .inr ⟨0, ptE q, ?_, rfl, fun _ _ _ _ => rfl⟩
        rw [q1]
  · rw [if_neg h] at hR
    (refine TC_of_T Γ_ok Tryd.func14 rfl (by kernel_rfl) ?_;simp only [Tryd.ntmps14,Tryd.results14,List.length_cons,List.length_nil,Nat.reduceSub,Nat.reduceAdd,List.replicate,List.cons_append,List.nil_append])
    (have dl1 := c1;repeat' (first|with_reducible refine T_seq_drawT (id := 19) Γ_ok drawsAny pl14_19 (by kernel_rfl) (fun K hK=>?_)|with_reducible refine T_last_drawT (id := 19) Γ_ok drawsAny pl14_19 (by kernel_rfl) (fun K hK=>?_)|((refine goR0 _ _ _ _ _ _ _ _ ?_ ?_ ?_ ?_ ?_ ?_ ?_ ?_) <;> (repeat intro hb) <;> first|exact True.intro|refine Lf.mk ?_)))
    · rw [← hQ, ← hR]
      exact .inl ⟨rfl, rfl⟩
    · exact absurd ⟨hb.1.1, hb.1.2, hb.2⟩ h
end Go.Proofs.YtdglbjjenihdlaaDoor
