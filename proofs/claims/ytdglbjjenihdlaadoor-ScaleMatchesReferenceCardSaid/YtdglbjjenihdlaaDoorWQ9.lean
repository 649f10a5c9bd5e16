/-
  The reference's Degree, Nearest.
-/
import Derived.Test.YtdglbjjenihdlaaDoorWGo
import Derived.Test.YtdglbjjenihdlaaDoorWQ6
import Derived.Test.YtdglbjjenihdlaaDoorWQ8
import Derived.Test.YtdglbjjenihdlaaDoorWS12
set_option linter.unusedSimpArgs false
set_option linter.unusedVariables false
namespace Go.Proofs.YtdglbjjenihdlaaDoor
open Go.Ab
@[go_sem,reducible] def enRD (l : List P6) (o : Int) (i : Nat) : List AV := [pts l,.top,.top,.top,.top,.top,.top,.top,.optr 1 0 0,.imm (.int .i64 o),.top,.imm (.int .i64 i)] ++ List.replicate 27 .top
set_option maxRecDepth 100000 in
set_option maxHeartbeats 4000000 in
theorem rdegree_tc (l : List P6) (p : P6) (h0 : l.length ≤ 9223372036854775807) : Look Tryd.prog 24 [pts l,p6A p] (.tup [.imm (.int .i64 (degR l p).1),.imm (.int .i64 (degR l p).2.1),.imm (.int .i64 (degR l p).2.2)]) := by
  refine Look.mk (by simp [Pl, PlL]) ?_
  have c1 := rsvalid_tc l h0
  have c2 := roctave_tc p
  generalize hD : degR l p = D
  unfold degR at hD
  by_cases hv : SclOk l
  · rw [tf_t hv] at c1 hD
    rw [if_pos rfl] at hD
    have hl := hv.len
    generalize octR p = o at c2 hD
    obtain ⟨q, k, e⟩ := o
    simp only [] at c2 hD
    by_cases he : e = 0
    · subst he
      rw [if_pos rfl] at hD
      (refine TC_of_T Γ_ok Tryd.func24 rfl (by kernel_rfl) ?_;simp only [Tryd.ntmps24,Tryd.results24,List.length_cons,List.length_nil,Nat.reduceSub,Nat.reduceAdd,List.replicate,List.cons_append,List.nil_append])
      (have dl1 := c1;have dl2 := c2;repeat' (first|with_reducible refine T_seq_drawT (id := 10) Γ_ok drawsAny pl24_10 (by kernel_rfl) (fun K hK=>?_)|with_reducible refine T_last_drawT (id := 10) Γ_ok drawsAny pl24_10 (by kernel_rfl) (fun K hK=>?_)|((refine goR0 _ _ _ _ _ _ _ _ ?_ ?_ ?_ ?_ ?_ ?_ ?_ ?_) <;> (repeat intro hb) <;> first|exact True.intro|refine Lf.mk ?_)))
      refine T_loopW (fun m st => ∃ i : Nat,i ≤ l.length ∧ m + i = l.length ∧ (∀ j,j < i → gP l j ≠ q) ∧ st = ⟨enRD l k i,[.box 24 (p6L p),.box 24 (p6L q)]⟩)
        l.length ⟨_, ?_, 0, by omega, rfl, fun j hj => by omega, rfl⟩ ?_
      · ((try simp only [List.length_append,List.length_cons,List.length_nil,Nat.zero_add]);refine Wk.intro [0,1] (by decide) (by decide) (by intro o ho;simp at ho ⊢ <;> omega) ?_ ?_ <;> repeat' (first|exact WkVL.nil|refine WkVL.cons ?_ ?_|exact WkV.top|exact WkV.imm rfl|exact WkV.imm (by simp)|exact WkV.optr rfl|exact WkV.own rfl (by simp)|exact WkV.nil_own (.inl rfl)|exact WkV.map rfl|(refine WkV.free ?_;simp [Free,FreeL] <;> assumption)|(refine WkV.free (fun _ _=>FreeL_nth ?_ _);simp [Free,FreeL];done)|refine WkV.agg ?_|refine WkV.tup ?_|refine WkV.fn ?_ ?_|exact WkO.dead|exact WkO.raw|refine WkO.ghost ?_|exact WkO.mpE rfl trivial|refine WkO.box ?_ rfl|refine WkO.arr ?_|refine And.intro ?_ (And.intro (by first|exact fun h=>h|exact fun _=>rfl|exact nofun) ?_)|exact trivial|(intro i j hi hj)))
      rintro m st ⟨i, k0, k1, k2, rfl⟩
      by_cases hi : i < l.length
      · (simp only [go_sem,↓reduceIte,Nat.reduceAdd,Nat.reduceSub,Nat.reduceMul,Nat.reduceLT,Nat.reduceLeDiff,Nat.reduceEqDiff,Nat.reduceGT,Int.reduceToNat,Int.reduceBEq,Int.reduceBNe];try simp (disch := omega) only [wrapI,wrapU,half_sum,toNat_sub1,toNat_add1,Int.toNat_natCast])
        (repeat' (first|with_reducible refine T_seq_drawT (id := 10) Γ_ok drawsAny pl24_10 (by kernel_rfl) (fun K hK=>?_)|with_reducible refine T_last_drawT (id := 10) Γ_ok drawsAny pl24_10 (by kernel_rfl) (fun K hK=>?_)|((refine goR0 _ _ _ _ _ _ _ _ ?_ ?_ ?_ ?_ ?_ ?_ ?_ ?_) <;> (repeat intro hb) <;> first|exact True.intro|refine Lf.mk ?_)))
        · rw [idxI_at hi ((p6_eq (gP l i) q).1 hb) k2, if_neg (by omega)] at hD
          rw [← hD]
        · refine ⟨l.length - (i + 1), by omega, _, ?_, i + 1, by omega, by omega, fun j hj => ?_, rfl⟩
          · ((try simp only [List.length_append,List.length_cons,List.length_nil,Nat.zero_add]);refine Wk.intro [0,1] (by decide) (by decide) (by intro o ho;simp at ho ⊢ <;> omega) ?_ ?_ <;> repeat' (first|(refine WkV.imm ?_;congr 1;omega)|exact WkVL.nil|refine WkVL.cons ?_ ?_|exact WkV.top|exact WkV.imm rfl|exact WkV.imm (by simp)|exact WkV.optr rfl|exact WkV.own rfl (by simp)|exact WkV.nil_own (.inl rfl)|exact WkV.map rfl|(refine WkV.free ?_;simp [Free,FreeL] <;> assumption)|(refine WkV.free (fun _ _=>FreeL_nth ?_ _);simp [Free,FreeL];done)|refine WkV.agg ?_|refine WkV.tup ?_|refine WkV.fn ?_ ?_|exact WkO.dead|exact WkO.raw|refine WkO.ghost ?_|exact WkO.mpE rfl trivial|refine WkO.box ?_ rfl|refine WkO.arr ?_|refine And.intro ?_ (And.intro (by first|exact fun h=>h|exact fun _=>rfl|exact nofun) ?_)|exact trivial|(intro i j hi hj)))
          · by_cases e : j = i
            · subst e
              intro e2
              obtain ⟨q1, q2, q3, q4, q5, q6⟩ := (p6_eq (gP l j) q).2 e2
              exact hb q1 q2 q3 q4 q5 q6
            · exact k2 j (by omega)
      · obtain rfl : i = l.length := by omega
        rw [idxI_no k2, if_pos (by omega)] at hD
        subst hD
        (simp only [go_sem,↓reduceIte,Nat.reduceAdd,Nat.reduceSub,Nat.reduceMul,Nat.reduceLT,Nat.reduceLeDiff,Nat.reduceEqDiff,Nat.reduceGT,Int.reduceToNat,Int.reduceBEq,Int.reduceBNe];try simp (disch := omega) only [wrapI,wrapU,half_sum,toNat_sub1,toNat_add1,Int.toNat_natCast])
        (repeat' (first|with_reducible refine T_seq_drawT (id := 10) Γ_ok drawsAny pl24_10 (by kernel_rfl) (fun K hK=>?_)|with_reducible refine T_last_drawT (id := 10) Γ_ok drawsAny pl24_10 (by kernel_rfl) (fun K hK=>?_)|((refine goR0 _ _ _ _ _ _ _ _ ?_ ?_ ?_ ?_ ?_ ?_ ?_ ?_) <;> (repeat intro hb) <;> first|exact True.intro|refine Lf.mk ?_)))
    · rw [if_neg he] at hD
      subst hD
      have e1 : (e != 0) = true := by rw [bne_iff_ne]; exact he
      (refine TC_of_T Γ_ok Tryd.func24 rfl (by kernel_rfl) ?_;simp only [Tryd.ntmps24,Tryd.results24,List.length_cons,List.length_nil,Nat.reduceSub,Nat.reduceAdd,List.replicate,List.cons_append,List.nil_append])
      (have dl1 := c1;have dl2 := c2;have sx1 := e1;have sx2 : (0 : Nat) + 0 = 0 := rfl;repeat' (first|with_reducible refine T_seq_drawT (id := 10) Γ_ok drawsAny pl24_10 (by kernel_rfl) (fun K hK=>?_)|with_reducible refine T_last_drawT (id := 10) Γ_ok drawsAny pl24_10 (by kernel_rfl) (fun K hK=>?_)|((have sx3 : (0 : Nat) + 0 = 0 := rfl;have sx4 : (0 : Nat) + 0 = 0 := rfl;have sx5 : (0 : Nat) + 0 = 0 := rfl;have sx6 : (0 : Nat) + 0 = 0 := rfl;have sx7 : (0 : Nat) + 0 = 0 := rfl;have sx8 : (0 : Nat) + 0 = 0 := rfl;have sx9 : (0 : Nat) + 0 = 0 := rfl;refine goR9 _ _ _ _ _ _ _ _ ?_ ?_ ?_ ?_ ?_ ?_ ?_ ?_) <;> (repeat intro hb) <;> first|exact True.intro|refine Lf.mk ?_)))
  · rw [tf_f hv] at c1 hD
    rw [if_neg (by simp)] at hD
    subst hD
    (refine TC_of_T Γ_ok Tryd.func24 rfl (by kernel_rfl) ?_;simp only [Tryd.ntmps24,Tryd.results24,List.length_cons,List.length_nil,Nat.reduceSub,Nat.reduceAdd,List.replicate,List.cons_append,List.nil_append])
    (have dl1 := c1;repeat' (first|with_reducible refine T_seq_drawT (id := 10) Γ_ok drawsAny pl24_10 (by kernel_rfl) (fun K hK=>?_)|with_reducible refine T_last_drawT (id := 10) Γ_ok drawsAny pl24_10 (by kernel_rfl) (fun K hK=>?_)|((refine goR0 _ _ _ _ _ _ _ _ ?_ ?_ ?_ ?_ ?_ ?_ ?_ ?_) <;> (repeat intro hb) <;> first|exact True.intro|refine Lf.mk ?_)))
@[go_sem,reducible] def enRN (l : List P6) (o : Int) (i : Nat) : List AV := [pts l,.top,.top,.top,.top,.top,.top,.top,.optr 1 0 0,.imm (.int .i64 o),.top,.imm (.int .i64 i)] ++ List.replicate 76 .top
set_option maxRecDepth 100000 in
set_option maxHeartbeats 8000000 in
theorem rnearest_tc (s : List P6) (p : P6) (h0 : s.length ≤ 9223372036854775807) : Look Tryd.prog 26 [pts s,p6A p] (.tup [.imm (.int .i64 (nearR s p).1),.imm (.int .i64 (nearR s p).2.1),.imm (.int .i64 (nearR s p).2.2)]) := by
  refine Look.mk (by simp [Pl, PlL]) ?_
  have c1 := rsvalid_tc s h0
  have c2 := roctave_tc p
  generalize hD : nearR s p = D
  unfold nearR at hD
  by_cases h : SclOk s
  · rw [tf_t h] at c1 hD
    rw [if_pos rfl] at hD
    by_cases he : (octR p).2.2 = 0
    · rw [if_pos he] at hD
      obtain ⟨w1, w2, w3, w4⟩ := octR_rg he
      generalize octR p = r at c2 hD he w1 w2 w3 w4
      obtain ⟨q, o, e⟩ := r
      simp only [] at c2 hD he w1 w2 w3 w4
      subst he
      have hl := h.len
      have hn := List.length_pos_iff.2 h.ne
      have hz := (inB_iff.1 w2).2.1
      (refine TC_of_T Γ_ok Tryd.func26 rfl (by kernel_rfl) ?_;simp only [Tryd.ntmps26,Tryd.results26,List.length_cons,List.length_nil,Nat.reduceSub,Nat.reduceAdd,List.replicate,List.cons_append,List.nil_append])
      (have dl1 := c1;have dl2 := c2;repeat' (first|with_reducible refine T_seq_drawT (id := 8) Γ_ok drawsAny pl26_8 (by kernel_rfl) (fun K hK=>?_)|with_reducible refine T_last_drawT (id := 8) Γ_ok drawsAny pl26_8 (by kernel_rfl) (fun K hK=>?_)|with_reducible refine T_seq_drawT (id := 10) Γ_ok drawsAny pl26_10 (by kernel_rfl) (fun K hK=>?_)|with_reducible refine T_last_drawT (id := 10) Γ_ok drawsAny pl26_10 (by kernel_rfl) (fun K hK=>?_)|with_reducible refine T_seq_drawT (id := 11) Γ_ok drawsAny pl26_11 (by kernel_rfl) (fun K hK=>?_)|with_reducible refine T_last_drawT (id := 11) Γ_ok drawsAny pl26_11 (by kernel_rfl) (fun K hK=>?_)|with_reducible refine T_seq_drawT (id := 16) Γ_ok drawsAny pl26_16 (by kernel_rfl) (fun K hK=>?_)|with_reducible refine T_last_drawT (id := 16) Γ_ok drawsAny pl26_16 (by kernel_rfl) (fun K hK=>?_)|((refine goR0 _ _ _ _ _ _ _ _ ?_ ?_ ?_ ?_ ?_ ?_ ?_ ?_) <;> (repeat intro hb) <;> first|exact True.intro|refine Lf.mk ?_)))
      refine T_loopW (fun m st => ∃ i : Nat,i < s.length ∧ m + i = s.length ∧ ¬ Lo q (gP s i) ∧ st = ⟨enRN s o i,[.box 24 (p6L p),.box 24 (p6L q)]⟩)
        s.length ⟨_, ?_, 0, hn, rfl, by rw [h.zero]; exact hz, rfl⟩ ?_
      · ((try simp only [List.length_append,List.length_cons,List.length_nil,Nat.zero_add]);refine Wk.intro [0,1] (by decide) (by decide) (by intro o ho;simp at ho ⊢ <;> omega) ?_ ?_ <;> repeat' (first|exact WkVL.nil|refine WkVL.cons ?_ ?_|exact WkV.top|exact WkV.imm rfl|exact WkV.imm (by simp)|exact WkV.optr rfl|exact WkV.own rfl (by simp)|exact WkV.nil_own (.inl rfl)|exact WkV.map rfl|(refine WkV.free ?_;simp [Free,FreeL] <;> assumption)|(refine WkV.free (fun _ _=>FreeL_nth ?_ _);simp [Free,FreeL];done)|refine WkV.agg ?_|refine WkV.tup ?_|refine WkV.fn ?_ ?_|exact WkO.dead|exact WkO.raw|refine WkO.ghost ?_|exact WkO.mpE rfl trivial|refine WkO.box ?_ rfl|refine WkO.arr ?_|refine And.intro ?_ (And.intro (by first|exact fun h=>h|exact fun _=>rfl|exact nofun) ?_)|exact trivial|(intro i j hi hj)))
      rintro m st ⟨i, k0, k1, k2, rfl⟩
      clear c1 c2 hb
      by_cases hi : i + 1 < s.length ∧ ¬ Lo q (gP s (i + 1))
      · have c3 := rcmp9_tc (gP s (i + 1)) q
        have hle : cmT (gP s (i + 1)) q ≤ 0 := by rw [cmT_bd (h.bd _) w1]; exact cmpP_le.2 hi.2
        generalize cmT (gP s (i + 1)) q = x at c3 hle
        obtain ⟨hi1, hi2⟩ := hi
        (simp only [go_sem,↓reduceIte,Nat.reduceAdd,Nat.reduceSub,Nat.reduceMul,Nat.reduceLT,Nat.reduceLeDiff,Nat.reduceEqDiff,Nat.reduceGT,Int.reduceToNat,Int.reduceBEq,Int.reduceBNe];try simp (disch := omega) only [wrapI,wrapU,half_sum,toNat_sub1,toNat_add1,Int.toNat_natCast])
        (have dl1 := c3;repeat' (first|with_reducible refine T_seq_drawT (id := 8) Γ_ok drawsAny pl26_8 (by kernel_rfl) (fun K hK=>?_)|with_reducible refine T_last_drawT (id := 8) Γ_ok drawsAny pl26_8 (by kernel_rfl) (fun K hK=>?_)|with_reducible refine T_seq_drawT (id := 10) Γ_ok drawsAny pl26_10 (by kernel_rfl) (fun K hK=>?_)|with_reducible refine T_last_drawT (id := 10) Γ_ok drawsAny pl26_10 (by kernel_rfl) (fun K hK=>?_)|with_reducible refine T_seq_drawT (id := 11) Γ_ok drawsAny pl26_11 (by kernel_rfl) (fun K hK=>?_)|with_reducible refine T_last_drawT (id := 11) Γ_ok drawsAny pl26_11 (by kernel_rfl) (fun K hK=>?_)|with_reducible refine T_seq_drawT (id := 16) Γ_ok drawsAny pl26_16 (by kernel_rfl) (fun K hK=>?_)|with_reducible refine T_last_drawT (id := 16) Γ_ok drawsAny pl26_16 (by kernel_rfl) (fun K hK=>?_)|((refine goR0 _ _ _ _ _ _ _ _ ?_ ?_ ?_ ?_ ?_ ?_ ?_ ?_) <;> (repeat intro hb) <;> first|exact True.intro|refine Lf.mk ?_)))
        refine ⟨s.length - (i + 1), by omega, _, ?_, i + 1, by omega, by omega, hi2, rfl⟩
        ((try simp only [List.length_append,List.length_cons,List.length_nil,Nat.zero_add]);refine Wk.intro [0,1] (by decide) (by decide) (by intro o ho;simp at ho ⊢ <;> omega) ?_ ?_ <;> repeat' (first|(refine WkV.imm ?_;congr 1;omega)|exact WkVL.nil|refine WkVL.cons ?_ ?_|exact WkV.top|exact WkV.imm rfl|exact WkV.imm (by simp)|exact WkV.optr rfl|exact WkV.own rfl (by simp)|exact WkV.nil_own (.inl rfl)|exact WkV.map rfl|(refine WkV.free ?_;simp [Free,FreeL] <;> assumption)|(refine WkV.free (fun _ _=>FreeL_nth ?_ _);simp [Free,FreeL];done)|refine WkV.agg ?_|refine WkV.tup ?_|refine WkV.fn ?_ ?_|exact WkO.dead|exact WkO.raw|refine WkO.ghost ?_|exact WkO.mpE rfl trivial|refine WkO.box ?_ rfl|refine WkO.arr ?_|refine And.intro ?_ (And.intro (by first|exact fun h=>h|exact fun _=>rfl|exact nofun) ?_)|exact trivial|(intro i j hi hj)))
      · have hni : nearI s q = i := nearI_eq h w1 k0 k2 fun j j1 j2 => by
          have h1 : Lo q (gP s (i + 1)) := by
            by_cases g : Lo q (gP s (i + 1))
            · exact g
            · exact absurd ⟨by omega, g⟩ hi
          by_cases e : j = i + 1
          · rw [e]; exact h1
          · exact h1.trans (scl_lo h (by omega) j2)
        unfold nearO at hD
        rw [hni] at hD
        have b1 := h.bd i
        have b2 := at_bdd h (d := i + 1) (by omega)
        have c4 := rquot_tc q (gP s i) (w1.mono (by omega)) (b1.mono (by omega))
        have c5 := rover_tc s h (i + 1) (by omega)
        have c6 := rquot_tc (atP s (i + 1)) q b2 (w1.mono (by omega))
        have c7 := rcmp9_tc (q.sub (gP s i)) ((atP s (i + 1)).sub q)
        rw [show ((i + 1 : Nat) : Int) = (i : Int) + 1 by omega] at c5
        have e1 : ((i : Int) + 1).tmod (s.length : Int) = (((i + 1) % s.length : Nat) : Int) := rfl
        have e2 : ((i : Int) + 1).tdiv (s.length : Int) = (((i + 1) / s.length : Nat) : Int) := rfl
        have hq9 : (i + 1) / s.length ≤ 100 := Nat.le_trans (Nat.div_le_self _ _) (by omega)
        generalize atP s (i + 1) = B at *
        generalize (i + 1) / s.length = y at *
        generalize (i + 1) % s.length = z at *
        have c3 := rcmp9_tc (gP s (i + 1)) q
        have hgt : i + 1 < s.length → ¬ cmT (gP s (i + 1)) q ≤ 0 := fun g => by
          rw [cmT_bd (h.bd _) w1]
          intro k
          exact hi ⟨g, cmpP_le.1 k⟩
        clear hi b1 b2 hz hni w1 w2
        have hgt : ¬ (i + 1 < s.length) ∨ ¬ cmT (gP s (i + 1)) q ≤ 0 := by
          by_cases g : i + 1 < s.length
          · exact .inr (hgt g)
          · exact .inl g
        generalize cmT (gP s (i + 1)) q = x3 at *
        by_cases hv1 : Bd6 576 (q.sub (gP s i))
        · rw [decide_eq_true hv1] at c4
          by_cases hv2 : Bd6 576 (B.sub q)
          · rw [decide_eq_true hv2] at c6
            rw [if_pos ⟨hv1, hv2⟩] at hD
            generalize q.sub (gP s i) = U at *
            generalize B.sub q = V at *
            by_cases hc : cmT U V ≤ 0
            · rw [if_pos hc] at hD
              subst hD
              generalize cmT U V = x at *
              (simp only [go_sem,↓reduceIte,Nat.reduceAdd,Nat.reduceSub,Nat.reduceMul,Nat.reduceLT,Nat.reduceLeDiff,Nat.reduceEqDiff,Nat.reduceGT,Int.reduceToNat,Int.reduceBEq,Int.reduceBNe];try simp (disch := omega) only [wrapI,wrapU,half_sum,toNat_sub1,toNat_add1,Int.toNat_natCast])
              (have dl1 := c3;have dl2 := c4;have dl3 := c5;have dl4 := c6;have dl5 := c7;have sx1 := e1;have sx2 := e2;repeat' (first|with_reducible refine T_seq_drawT (id := 8) Γ_ok drawsAny pl26_8 (by kernel_rfl) (fun K hK=>?_)|with_reducible refine T_last_drawT (id := 8) Γ_ok drawsAny pl26_8 (by kernel_rfl) (fun K hK=>?_)|with_reducible refine T_seq_drawT (id := 10) Γ_ok drawsAny pl26_10 (by kernel_rfl) (fun K hK=>?_)|with_reducible refine T_last_drawT (id := 10) Γ_ok drawsAny pl26_10 (by kernel_rfl) (fun K hK=>?_)|with_reducible refine T_seq_drawT (id := 11) Γ_ok drawsAny pl26_11 (by kernel_rfl) (fun K hK=>?_)|with_reducible refine T_last_drawT (id := 11) Γ_ok drawsAny pl26_11 (by kernel_rfl) (fun K hK=>?_)|with_reducible refine T_seq_drawT (id := 16) Γ_ok drawsAny pl26_16 (by kernel_rfl) (fun K hK=>?_)|with_reducible refine T_last_drawT (id := 16) Γ_ok drawsAny pl26_16 (by kernel_rfl) (fun K hK=>?_)|((have sx3 : (0 : Nat) + 0 = 0 := rfl;have sx4 : (0 : Nat) + 0 = 0 := rfl;have sx5 : (0 : Nat) + 0 = 0 := rfl;have sx6 : (0 : Nat) + 0 = 0 := rfl;have sx7 : (0 : Nat) + 0 = 0 := rfl;have sx8 : (0 : Nat) + 0 = 0 := rfl;have sx9 : (0 : Nat) + 0 = 0 := rfl;refine goR9 _ _ _ _ _ _ _ _ ?_ ?_ ?_ ?_ ?_ ?_ ?_ ?_) <;> (repeat intro hb) <;> first|exact True.intro|refine Lf.mk ?_)))
            · rw [if_neg hc] at hD
              subst hD
              generalize cmT U V = x at *
              (simp only [go_sem,↓reduceIte,Nat.reduceAdd,Nat.reduceSub,Nat.reduceMul,Nat.reduceLT,Nat.reduceLeDiff,Nat.reduceEqDiff,Nat.reduceGT,Int.reduceToNat,Int.reduceBEq,Int.reduceBNe];try simp (disch := omega) only [wrapI,wrapU,half_sum,toNat_sub1,toNat_add1,Int.toNat_natCast])
              (have dl1 := c3;have dl2 := c4;have dl3 := c5;have dl4 := c6;have dl5 := c7;have sx1 := e1;have sx2 := e2;repeat' (first|with_reducible refine T_seq_drawT (id := 8) Γ_ok drawsAny pl26_8 (by kernel_rfl) (fun K hK=>?_)|with_reducible refine T_last_drawT (id := 8) Γ_ok drawsAny pl26_8 (by kernel_rfl) (fun K hK=>?_)|with_reducible refine T_seq_drawT (id := 10) Γ_ok drawsAny pl26_10 (by kernel_rfl) (fun K hK=>?_)|with_reducible refine T_last_drawT (id := 10) Γ_ok drawsAny pl26_10 (by kernel_rfl) (fun K hK=>?_)|with_reducible refine T_seq_drawT (id := 11) Γ_ok drawsAny pl26_11 (by kernel_rfl) (fun K hK=>?_)|with_reducible refine T_last_drawT (id := 11) Γ_ok drawsAny pl26_11 (by kernel_rfl) (fun K hK=>?_)|with_reducible refine T_seq_drawT (id := 16) Γ_ok drawsAny pl26_16 (by kernel_rfl) (fun K hK=>?_)|with_reducible refine T_last_drawT (id := 16) Γ_ok drawsAny pl26_16 (by kernel_rfl) (fun K hK=>?_)|((have sx3 : (0 : Nat) + 0 = 0 := rfl;have sx4 : (0 : Nat) + 0 = 0 := rfl;have sx5 : (0 : Nat) + 0 = 0 := rfl;have sx6 : (0 : Nat) + 0 = 0 := rfl;have sx7 : (0 : Nat) + 0 = 0 := rfl;have sx8 : (0 : Nat) + 0 = 0 := rfl;have sx9 : (0 : Nat) + 0 = 0 := rfl;refine goR9 _ _ _ _ _ _ _ _ ?_ ?_ ?_ ?_ ?_ ?_ ?_ ?_) <;> (repeat intro hb) <;> first|exact True.intro|refine Lf.mk ?_)))
          · rw [decide_eq_false hv2] at c6
            rw [if_neg (fun k => hv2 k.2)] at hD
            subst hD
            (simp only [go_sem,↓reduceIte,Nat.reduceAdd,Nat.reduceSub,Nat.reduceMul,Nat.reduceLT,Nat.reduceLeDiff,Nat.reduceEqDiff,Nat.reduceGT,Int.reduceToNat,Int.reduceBEq,Int.reduceBNe];try simp (disch := omega) only [wrapI,wrapU,half_sum,toNat_sub1,toNat_add1,Int.toNat_natCast])
            (have dl1 := c3;have dl2 := c4;have dl3 := c5;have dl4 := c6;have sx1 := e1;have sx2 := e2;repeat' (first|with_reducible refine T_seq_drawT (id := 8) Γ_ok drawsAny pl26_8 (by kernel_rfl) (fun K hK=>?_)|with_reducible refine T_last_drawT (id := 8) Γ_ok drawsAny pl26_8 (by kernel_rfl) (fun K hK=>?_)|with_reducible refine T_seq_drawT (id := 10) Γ_ok drawsAny pl26_10 (by kernel_rfl) (fun K hK=>?_)|with_reducible refine T_last_drawT (id := 10) Γ_ok drawsAny pl26_10 (by kernel_rfl) (fun K hK=>?_)|with_reducible refine T_seq_drawT (id := 11) Γ_ok drawsAny pl26_11 (by kernel_rfl) (fun K hK=>?_)|with_reducible refine T_last_drawT (id := 11) Γ_ok drawsAny pl26_11 (by kernel_rfl) (fun K hK=>?_)|with_reducible refine T_seq_drawT (id := 16) Γ_ok drawsAny pl26_16 (by kernel_rfl) (fun K hK=>?_)|with_reducible refine T_last_drawT (id := 16) Γ_ok drawsAny pl26_16 (by kernel_rfl) (fun K hK=>?_)|((have sx3 : (0 : Nat) + 0 = 0 := rfl;have sx4 : (0 : Nat) + 0 = 0 := rfl;have sx5 : (0 : Nat) + 0 = 0 := rfl;have sx6 : (0 : Nat) + 0 = 0 := rfl;have sx7 : (0 : Nat) + 0 = 0 := rfl;have sx8 : (0 : Nat) + 0 = 0 := rfl;have sx9 : (0 : Nat) + 0 = 0 := rfl;refine goR9 _ _ _ _ _ _ _ _ ?_ ?_ ?_ ?_ ?_ ?_ ?_ ?_) <;> (repeat intro hb) <;> first|exact True.intro|refine Lf.mk ?_)))
        · rw [decide_eq_false hv1] at c4
          rw [if_neg (fun k => hv1 k.1)] at hD
          subst hD
          (simp only [go_sem,↓reduceIte,Nat.reduceAdd,Nat.reduceSub,Nat.reduceMul,Nat.reduceLT,Nat.reduceLeDiff,Nat.reduceEqDiff,Nat.reduceGT,Int.reduceToNat,Int.reduceBEq,Int.reduceBNe];try simp (disch := omega) only [wrapI,wrapU,half_sum,toNat_sub1,toNat_add1,Int.toNat_natCast])
          (have dl1 := c3;have dl2 := c4;have dl3 := c5;have dl4 := c6;have sx1 := e1;have sx2 := e2;repeat' (first|with_reducible refine T_seq_drawT (id := 8) Γ_ok drawsAny pl26_8 (by kernel_rfl) (fun K hK=>?_)|with_reducible refine T_last_drawT (id := 8) Γ_ok drawsAny pl26_8 (by kernel_rfl) (fun K hK=>?_)|with_reducible refine T_seq_drawT (id := 10) Γ_ok drawsAny pl26_10 (by kernel_rfl) (fun K hK=>?_)|with_reducible refine T_last_drawT (id := 10) Γ_ok drawsAny pl26_10 (by kernel_rfl) (fun K hK=>?_)|with_reducible refine T_seq_drawT (id := 11) Γ_ok drawsAny pl26_11 (by kernel_rfl) (fun K hK=>?_)|with_reducible refine T_last_drawT (id := 11) Γ_ok drawsAny pl26_11 (by kernel_rfl) (fun K hK=>?_)|with_reducible refine T_seq_drawT (id := 16) Γ_ok drawsAny pl26_16 (by kernel_rfl) (fun K hK=>?_)|with_reducible refine T_last_drawT (id := 16) Γ_ok drawsAny pl26_16 (by kernel_rfl) (fun K hK=>?_)|((have sx3 : (0 : Nat) + 0 = 0 := rfl;have sx4 : (0 : Nat) + 0 = 0 := rfl;have sx5 : (0 : Nat) + 0 = 0 := rfl;have sx6 : (0 : Nat) + 0 = 0 := rfl;have sx7 : (0 : Nat) + 0 = 0 := rfl;have sx8 : (0 : Nat) + 0 = 0 := rfl;have sx9 : (0 : Nat) + 0 = 0 := rfl;refine goR9 _ _ _ _ _ _ _ _ ?_ ?_ ?_ ?_ ?_ ?_ ?_ ?_) <;> (repeat intro hb) <;> first|exact True.intro|refine Lf.mk ?_)))
    · rw [if_neg he] at hD
      subst hD
      generalize octR p = r at c2 he ⊢
      obtain ⟨q, o, e⟩ := r
      simp only [] at c2 he ⊢
      have e1 : (e != 0) = true := by rw [bne_iff_ne]; exact he
      (refine TC_of_T Γ_ok Tryd.func26 rfl (by kernel_rfl) ?_;simp only [Tryd.ntmps26,Tryd.results26,List.length_cons,List.length_nil,Nat.reduceSub,Nat.reduceAdd,List.replicate,List.cons_append,List.nil_append])
      (have dl1 := c1;have dl2 := c2;have sx1 := e1;have sx2 : (0 : Nat) + 0 = 0 := rfl;repeat' (first|with_reducible refine T_seq_drawT (id := 8) Γ_ok drawsAny pl26_8 (by kernel_rfl) (fun K hK=>?_)|with_reducible refine T_last_drawT (id := 8) Γ_ok drawsAny pl26_8 (by kernel_rfl) (fun K hK=>?_)|with_reducible refine T_seq_drawT (id := 10) Γ_ok drawsAny pl26_10 (by kernel_rfl) (fun K hK=>?_)|with_reducible refine T_last_drawT (id := 10) Γ_ok drawsAny pl26_10 (by kernel_rfl) (fun K hK=>?_)|with_reducible refine T_seq_drawT (id := 11) Γ_ok drawsAny pl26_11 (by kernel_rfl) (fun K hK=>?_)|with_reducible refine T_last_drawT (id := 11) Γ_ok drawsAny pl26_11 (by kernel_rfl) (fun K hK=>?_)|with_reducible refine T_seq_drawT (id := 16) Γ_ok drawsAny pl26_16 (by kernel_rfl) (fun K hK=>?_)|with_reducible refine T_last_drawT (id := 16) Γ_ok drawsAny pl26_16 (by kernel_rfl) (fun K hK=>?_)|((have sx3 : (0 : Nat) + 0 = 0 := rfl;have sx4 : (0 : Nat) + 0 = 0 := rfl;have sx5 : (0 : Nat) + 0 = 0 := rfl;have sx6 : (0 : Nat) + 0 = 0 := rfl;have sx7 : (0 : Nat) + 0 = 0 := rfl;have sx8 : (0 : Nat) + 0 = 0 := rfl;have sx9 : (0 : Nat) + 0 = 0 := rfl;refine goR9 _ _ _ _ _ _ _ _ ?_ ?_ ?_ ?_ ?_ ?_ ?_ ?_) <;> (repeat intro hb) <;> first|exact True.intro|refine Lf.mk ?_)))
  · rw [tf_f h] at c1 hD
    rw [if_neg (by simp)] at hD
    subst hD
    (refine TC_of_T Γ_ok Tryd.func26 rfl (by kernel_rfl) ?_;simp only [Tryd.ntmps26,Tryd.results26,List.length_cons,List.length_nil,Nat.reduceSub,Nat.reduceAdd,List.replicate,List.cons_append,List.nil_append])
    (have dl1 := c1;repeat' (first|with_reducible refine T_seq_drawT (id := 8) Γ_ok drawsAny pl26_8 (by kernel_rfl) (fun K hK=>?_)|with_reducible refine T_last_drawT (id := 8) Γ_ok drawsAny pl26_8 (by kernel_rfl) (fun K hK=>?_)|with_reducible refine T_seq_drawT (id := 10) Γ_ok drawsAny pl26_10 (by kernel_rfl) (fun K hK=>?_)|with_reducible refine T_last_drawT (id := 10) Γ_ok drawsAny pl26_10 (by kernel_rfl) (fun K hK=>?_)|with_reducible refine T_seq_drawT (id := 11) Γ_ok drawsAny pl26_11 (by kernel_rfl) (fun K hK=>?_)|with_reducible refine T_last_drawT (id := 11) Γ_ok drawsAny pl26_11 (by kernel_rfl) (fun K hK=>?_)|with_reducible refine T_seq_drawT (id := 16) Γ_ok drawsAny pl26_16 (by kernel_rfl) (fun K hK=>?_)|with_reducible refine T_last_drawT (id := 16) Γ_ok drawsAny pl26_16 (by kernel_rfl) (fun K hK=>?_)|((refine goR0 _ _ _ _ _ _ _ _ ?_ ?_ ?_ ?_ ?_ ?_ ?_ ?_) <;> (repeat intro hb) <;> first|exact True.intro|refine Lf.mk ?_)))
end Go.Proofs.YtdglbjjenihdlaaDoor
