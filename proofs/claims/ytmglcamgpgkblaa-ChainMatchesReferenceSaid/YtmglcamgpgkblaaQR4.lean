/-
  The reference's Product.
-/
import Derived.Test.YtmglcamgpgkblaaQGo
import Derived.Test.YtmglcamgpgkblaaQR3
set_option linter.unusedSimpArgs false
set_option linter.unusedVariables false
namespace Go.Proofs.Ytmglcamgpgkblaa
open Go.Ab
@[go_sem,reducible] def enR (l : List Sp) (at_ : Int) (i : Nat) : List AV := [.top,sps l,.optr 0 0 0,.top,.optr 1 0 0,.imm (.int .i64 0),.top,.optr 2 0 0,.imm (.int .i64 at_),.imm (.int .i64 i)] ++ List.replicate 93 .top
@[go_sem,reducible] def fxR (s : Sc) (v : P6) : List AObj := [.box 26 (scL s),.box 31 (p6L ⟨0,0,0,0,0,0⟩),.box 31 (p6L v)]
set_option maxRecDepth 100000 in
set_option maxHeartbeats 4000000 in
theorem rproduct_tc (s : Sc) (hl : ScL s) (l : List Sp) (h0 : l.length ≤ 9223372036854775807) : Look Try.prog 15 [scA s,sps l] (.tup [p6A (prR s l).1,.imm (.int .i64 (prR s l).2)]) := by
  have hbs : ∀ x : Int, (x == x) = true := fun x => beq_self_eq_true x
  have c0 := rvalid_tc s hl
  refine Look.mk (by simp [Pl, PlL]) ?_
  generalize hpd : prR s l = pd
  unfold prR at hpd
  by_cases hs : ScOk s
  · rw [tf_t hs] at c0 hpd
    have hsz := hs.sz
    unfold SzOk at hsz
    by_cases hn : 1 ≤ l.length ∧ l.length ≤ 400
    · have hn0 : l ≠ [] := List.length_pos_iff.1 hn.1
      have hlast := lastTo_gs hn0
      rw [if_pos ⟨rfl, hn.1, hn.2⟩] at hpd
      unfold prodS at hpd
      (refine TC_of_T Γ_ok Try.func15 rfl (by kernel_rfl) ?_;simp only [Try.ntmps15,Try.results15,List.length_cons,List.length_nil,Nat.reduceSub,Nat.reduceAdd,List.replicate,List.cons_append,List.nil_append])
      (have cl1 := c0;have sx1 := Nat.add_zero 0;repeat' (first|with_reducible refine T_seq_drawT (id := 14) Γ_ok drawsAny pl15_14 (by kernel_rfl) (fun K hK=>?_)|with_reducible refine T_last_drawT (id := 14) Γ_ok drawsAny pl15_14 (by kernel_rfl) (fun K hK=>?_)|((refine goU1 _ _ _ _ _ _ _ _ _ _ _ _ ?_ ?_ ?_ ?_ ?_ ?_ ?_ ?_ ?_ ?_ ?_ ?_) <;> (repeat intro hb) <;> first|exact True.intro|refine Lf.mk ?_)))
      refine T_loopW (fun m st=>∃ (i : Nat) (at_ : Int) (v : P6),i ≤ l.length ∧ m + i = l.length ∧ Bd6 (16 * i) v ∧ prodW (stepR s) s.notes.length at_ v (l.drop i) = prodW (stepR s) s.notes.length (lastTo l) z6 l ∧ st = ⟨enR l at_ i,fxR s v⟩)
        l.length ⟨_, ?_, 0, lastTo l, z6, by omega, rfl, Bd6.z _ (by omega), rfl, rfl⟩ ?_
      · ((try simp only [List.length_append,List.length_cons,List.length_nil,Nat.zero_add]);refine Wk.intro [0,1,2] (by decide) (by decide) (by intro o ho;simp at ho ⊢ <;> omega) ?_ ?_ <;> repeat' (first|(refine WkV.imm ?_;rw [hlast];first|done|(congr 3;omega))|exact WkVL.nil|refine WkVL.cons ?_ ?_|exact WkV.top|exact WkV.imm rfl|exact WkV.imm (by simp)|exact WkV.optr rfl|exact WkV.own rfl (by simp)|exact WkV.nil_own (.inl rfl)|exact WkV.map rfl|(refine WkV.free ?_;simp [Free,FreeL] <;> assumption)|(refine WkV.free (fun _ _=>FreeL_nth ?_ _);simp [Free,FreeL];done)|refine WkV.agg ?_|refine WkV.tup ?_|refine WkV.fn ?_ ?_|exact WkO.dead|exact WkO.raw|refine WkO.ghost ?_|exact WkO.mpE rfl trivial|refine WkO.box ?_ rfl|refine WkO.arr ?_|refine And.intro ?_ (And.intro (by first|exact fun h=>h|exact fun _=>rfl|exact nofun) ?_)|exact trivial|(intro i j hi hj)))
      rintro m st ⟨i, at_, v, h2, h3, hbd, h4, rfl⟩
      by_cases hi : i < l.length
      · rw [drop_gs hi, prodW] at h4
        by_cases hx : (gs l i).fr = at_ ∧ 0 ≤ (gs l i).fr ∧ (gs l i).fr < s.notes.length ∧ 0 ≤ (gs l i).to ∧ (gs l i).to < s.notes.length
        · rw [if_pos ⟨hx.1, hx.2.1, hx.2.2.1, hx.2.2.2.1⟩] at h4
          have c1 := rstep_tc s hl hs (gs l i).fr.toNat (gs l i).to.toNat (by omega) (by omega)
          unfold stE at c1
          rw [Int.toNat_of_nonneg hx.2.1, Int.toNat_of_nonneg hx.2.2.2.1] at c1
          cases hst : stepR s (gs l i).fr.toNat (gs l i).to.toNat with
          | none =>
            rw [hst] at c1 h4
            simp only [] at h4
            rw [← h4] at hpd
            subst hpd
            simp only [Option.isSome_none, z6] at c1 ⊢
            (simp only [go_sem,↓reduceIte,Nat.reduceAdd,Nat.reduceSub,Nat.reduceMul,Nat.reduceLT,Nat.reduceLeDiff,Nat.reduceEqDiff,Nat.reduceGT,Int.reduceToNat,Int.reduceBEq,Int.reduceBNe];try simp (disch := omega) only [wrapI,wrapU,half_sum,toNat_sub1,toNat_add1,Int.toNat_natCast])
            (have cl1 := c1;have sx1 := Nat.add_zero 0;repeat' (first|with_reducible refine T_seq_drawT (id := 14) Γ_ok drawsAny pl15_14 (by kernel_rfl) (fun K hK=>?_)|with_reducible refine T_last_drawT (id := 14) Γ_ok drawsAny pl15_14 (by kernel_rfl) (fun K hK=>?_)|((refine goU1 _ _ _ _ _ _ _ _ _ _ _ _ ?_ ?_ ?_ ?_ ?_ ?_ ?_ ?_ ?_ ?_ ?_ ?_) <;> (repeat intro hb) <;> first|exact True.intro|refine Lf.mk ?_)))
          | some e =>
            obtain ⟨k, u⟩ := e
            rw [hst] at c1 h4
            simp only [Option.isSome_some] at c1 h4
            have hub := (stepR_ok hs).bd _ _ _ _ hst
            by_cases hk : k = (gs l i).k
            · rw [if_pos hk] at h4
              subst hk
              have c2 := rplus_tc v u (hbd.mono (by omega)) (hub.mono (by omega))
              (simp only [go_sem,↓reduceIte,Nat.reduceAdd,Nat.reduceSub,Nat.reduceMul,Nat.reduceLT,Nat.reduceLeDiff,Nat.reduceEqDiff,Nat.reduceGT,Int.reduceToNat,Int.reduceBEq,Int.reduceBNe];try simp (disch := omega) only [wrapI,wrapU,half_sum,toNat_sub1,toNat_add1,Int.toNat_natCast])
              (have cl1 := c1;have cl2 := c2;have sx1 := hbs;repeat' (first|with_reducible refine T_seq_drawT (id := 14) Γ_ok drawsAny pl15_14 (by kernel_rfl) (fun K hK=>?_)|with_reducible refine T_last_drawT (id := 14) Γ_ok drawsAny pl15_14 (by kernel_rfl) (fun K hK=>?_)|((refine goU1 _ _ _ _ _ _ _ _ _ _ _ _ ?_ ?_ ?_ ?_ ?_ ?_ ?_ ?_ ?_ ?_ ?_ ?_) <;> (repeat intro hb) <;> first|exact True.intro|refine Lf.mk ?_)))
              refine ⟨l.length - (i + 1),by omega,_,?_,i + 1,(gs l i).to,v.add u,by omega,by omega,(hbd.add hub).mono (by omega),h4,rfl⟩
              ((try simp only [List.length_append,List.length_cons,List.length_nil,Nat.zero_add]);refine Wk.intro [0,1,2] (by decide) (by decide) (by intro o ho;simp at ho ⊢ <;> omega) ?_ ?_ <;> repeat' (first|exact WkVL.nil|refine WkVL.cons ?_ ?_|exact WkV.top|exact WkV.imm rfl|exact WkV.imm (by simp)|exact WkV.optr rfl|exact WkV.own rfl (by simp)|exact WkV.nil_own (.inl rfl)|exact WkV.map rfl|(refine WkV.free ?_;simp [Free,FreeL] <;> assumption)|(refine WkV.free (fun _ _=>FreeL_nth ?_ _);simp [Free,FreeL];done)|refine WkV.agg ?_|refine WkV.tup ?_|refine WkV.fn ?_ ?_|exact WkO.dead|exact WkO.raw|refine WkO.ghost ?_|exact WkO.mpE rfl trivial|refine WkO.box ?_ rfl|refine WkO.arr ?_|refine And.intro ?_ (And.intro (by first|exact fun h=>h|exact fun _=>rfl|exact nofun) ?_)|exact trivial|(intro i j hi hj)))
            · rw [if_neg hk] at h4
              rw [← h4] at hpd
              simp only [] at hpd
              subst hpd
              simp only [z6]
              (simp only [go_sem,↓reduceIte,Nat.reduceAdd,Nat.reduceSub,Nat.reduceMul,Nat.reduceLT,Nat.reduceLeDiff,Nat.reduceEqDiff,Nat.reduceGT,Int.reduceToNat,Int.reduceBEq,Int.reduceBNe];try simp (disch := omega) only [wrapI,wrapU,half_sum,toNat_sub1,toNat_add1,Int.toNat_natCast])
              (have cl1 := c1;have sx1 := Nat.add_zero 0;repeat' (first|with_reducible refine T_seq_drawT (id := 14) Γ_ok drawsAny pl15_14 (by kernel_rfl) (fun K hK=>?_)|with_reducible refine T_last_drawT (id := 14) Γ_ok drawsAny pl15_14 (by kernel_rfl) (fun K hK=>?_)|((refine goU1 _ _ _ _ _ _ _ _ _ _ _ _ ?_ ?_ ?_ ?_ ?_ ?_ ?_ ?_ ?_ ?_ ?_ ?_) <;> (repeat intro hb) <;> first|exact True.intro|refine Lf.mk ?_)))
        · have h5 : prodW (stepR s) s.notes.length (lastTo l) z6 l = none := by
            rw [← h4]
            split
            · rename_i hc
              have : stepR s (gs l i).fr.toNat (gs l i).to.toNat = none := by
                unfold stepR
                rw [if_neg]
                omega
              rw [this]
            · rfl
          rw [h5] at hpd
          simp only [] at hpd
          subst hpd
          simp only [z6]
          (simp only [go_sem,↓reduceIte,Nat.reduceAdd,Nat.reduceSub,Nat.reduceMul,Nat.reduceLT,Nat.reduceLeDiff,Nat.reduceEqDiff,Nat.reduceGT,Int.reduceToNat,Int.reduceBEq,Int.reduceBNe];try simp (disch := omega) only [wrapI,wrapU,half_sum,toNat_sub1,toNat_add1,Int.toNat_natCast])
          (have sx1 := Nat.add_zero 0;repeat' (first|with_reducible refine T_seq_drawT (id := 14) Γ_ok drawsAny pl15_14 (by kernel_rfl) (fun K hK=>?_)|with_reducible refine T_last_drawT (id := 14) Γ_ok drawsAny pl15_14 (by kernel_rfl) (fun K hK=>?_)|((refine goU1 _ _ _ _ _ _ _ _ _ _ _ _ ?_ ?_ ?_ ?_ ?_ ?_ ?_ ?_ ?_ ?_ ?_ ?_) <;> (repeat intro hb) <;> first|exact True.intro|refine Lf.mk ?_)))
      · obtain rfl : i = l.length := by omega
        rw [List.drop_length, prodW] at h4
        rw [← h4] at hpd
        simp only [] at hpd
        subst hpd
        (simp only [go_sem,↓reduceIte,Nat.reduceAdd,Nat.reduceSub,Nat.reduceMul,Nat.reduceLT,Nat.reduceLeDiff,Nat.reduceEqDiff,Nat.reduceGT,Int.reduceToNat,Int.reduceBEq,Int.reduceBNe];try simp (disch := omega) only [wrapI,wrapU,half_sum,toNat_sub1,toNat_add1,Int.toNat_natCast])
        (have sx1 := Nat.add_zero 0;repeat' (first|with_reducible refine T_seq_drawT (id := 14) Γ_ok drawsAny pl15_14 (by kernel_rfl) (fun K hK=>?_)|with_reducible refine T_last_drawT (id := 14) Γ_ok drawsAny pl15_14 (by kernel_rfl) (fun K hK=>?_)|((refine goU1 _ _ _ _ _ _ _ _ _ _ _ _ ?_ ?_ ?_ ?_ ?_ ?_ ?_ ?_ ?_ ?_ ?_ ?_) <;> (repeat intro hb) <;> first|exact True.intro|refine Lf.mk ?_)))
    · rw [if_neg (by omega)] at hpd
      subst hpd
      simp only [z6]
      (refine TC_of_T Γ_ok Try.func15 rfl (by kernel_rfl) ?_;simp only [Try.ntmps15,Try.results15,List.length_cons,List.length_nil,Nat.reduceSub,Nat.reduceAdd,List.replicate,List.cons_append,List.nil_append])
      (have cl1 := c0;have sx1 := Nat.add_zero 0;repeat' (first|with_reducible refine T_seq_drawT (id := 14) Γ_ok drawsAny pl15_14 (by kernel_rfl) (fun K hK=>?_)|with_reducible refine T_last_drawT (id := 14) Γ_ok drawsAny pl15_14 (by kernel_rfl) (fun K hK=>?_)|((refine goU1 _ _ _ _ _ _ _ _ _ _ _ _ ?_ ?_ ?_ ?_ ?_ ?_ ?_ ?_ ?_ ?_ ?_ ?_) <;> (repeat intro hb) <;> first|exact True.intro|refine Lf.mk ?_)))
  · rw [tf_f hs] at c0 hpd
    rw [if_neg (by simp)] at hpd
    subst hpd
    simp only [z6]
    (refine TC_of_T Γ_ok Try.func15 rfl (by kernel_rfl) ?_;simp only [Try.ntmps15,Try.results15,List.length_cons,List.length_nil,Nat.reduceSub,Nat.reduceAdd,List.replicate,List.cons_append,List.nil_append])
    (have cl1 := c0;have sx1 := Nat.add_zero 0;repeat' (first|with_reducible refine T_seq_drawT (id := 14) Γ_ok drawsAny pl15_14 (by kernel_rfl) (fun K hK=>?_)|with_reducible refine T_last_drawT (id := 14) Γ_ok drawsAny pl15_14 (by kernel_rfl) (fun K hK=>?_)|((refine goU1 _ _ _ _ _ _ _ _ _ _ _ _ ?_ ?_ ?_ ?_ ?_ ?_ ?_ ?_ ?_ ?_ ?_ ?_) <;> (repeat intro hb) <;> first|exact True.intro|refine Lf.mk ?_)))
end Go.Proofs.Ytmglcamgpgkblaa
