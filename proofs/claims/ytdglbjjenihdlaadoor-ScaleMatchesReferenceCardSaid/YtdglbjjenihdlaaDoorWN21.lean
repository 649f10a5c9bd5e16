/-
  scale.Nearest.
-/
import Derived.Test.YtdglbjjenihdlaaDoorWGo3
import Derived.Test.YtdglbjjenihdlaaDoorWN19
set_option linter.unusedSimpArgs false
set_option linter.unusedVariables false
namespace Go.Proofs.YtdglbjjenihdlaaDoor
open Go.Ab
def nearQ (s : List P6) (q : P6) (o : Int) : Bool := decide (cmT (gP s o.toNat) q ≤ 0)
def nearI (s : List P6) (q : P6) : Nat := (lastI (nearQ s q) 0 ((s.length : Int) - 1)).toNat
def nearO (s : List P6) (q : P6) (o : Int) : Int × Int × Int :=
  if Bd6 576 (q.sub (gP s (nearI s q))) ∧ Bd6 576 ((atP s (nearI s q + 1)).sub q) then
    (if cmT (q.sub (gP s (nearI s q))) ((atP s (nearI s q + 1)).sub q) ≤ 0 then ((nearI s q : Int),o,0) else (((nearI s q + 1) % s.length : Nat),o + ((nearI s q + 1) / s.length : Nat),0))
  else (0, 0, 3)
noncomputable def nearR (s : List P6) (p : P6) : Int × Int × Int :=
  if tf (SclOk s) = true then (if (octR p).2.2 = 0 then nearO s (octR p).1 (octR p).2.1 else (0,0,(octR p).2.2)) else (0,0,1)
theorem octR_rg {p : P6} (h : (octR p).2.2 = 0) : Bd6 576 (octR p).1 ∧ inB (octR p).1 = true ∧ -1000 ≤ (octR p).2.1 ∧ (octR p).2.1 ≤ 1000 := by
  unfold octR at *
  by_cases hb : Bd6 576 p
  · rw [if_pos hb] at h ⊢
    by_cases hi : inB (up12 p (-octO p)) = true
    · rw [if_pos hi]
      obtain ⟨g1, g2, g3, g4, g5⟩ := oct_rg hb
      have hr := lastI_rg (octQ p) _ (octLo p) (octHi p) (Nat.le_refl _) g2
      change octLo p ≤ octO p ∧ octO p ≤ octHi p at hr
      exact ⟨inB_lo hi, hi, by show -1000 ≤ octO p; omega, by show octO p ≤ 1000; omega⟩
    · rw [if_neg hi] at h; simp at h
  · rw [if_neg hb] at h; simp at h
set_option maxRecDepth 100000 in
set_option maxHeartbeats 4000000 in
theorem nearc_tc (s : List P6) (hl : s.length ≤ 64) (q : P6) (o : Int) (ho : 0 ≤ o ∧ o < s.length) : Look Tryd.prog 52 [.imm (.int .i64 o),rpS s,rp6 q] (.imm (.bool (nearQ s q o))) := by
  refine Look.mk trivial ?_
  obtain ⟨i, rfl⟩ := Int.eq_ofNat_of_zero_le ho.1
  have c1 := compare_p (gP s i) q
  unfold nearQ
  rw [Int.toNat_natCast]
  (refine TC_of_T Γ_ok Tryd.func52 rfl (by kernel_rfl) ?_;simp only [Tryd.ntmps52,Tryd.results52,List.length_cons,List.length_nil,Nat.reduceSub,Nat.reduceAdd,List.replicate,List.cons_append,List.nil_append])
  (have dl1 := c1;have sx1 : (0 : Nat) + 0 = 0 := rfl;repeat' (first|with_reducible refine T_seq_drawT (id := 1) Γ_ok drawsAny pl52_1 (by kernel_rfl) (fun K hK=>?_)|with_reducible refine T_last_drawT (id := 1) Γ_ok drawsAny pl52_1 (by kernel_rfl) (fun K hK=>?_)|((refine goU1 _ _ _ _ _ _ _ _ _ _ _ _ ?_ ?_ ?_ ?_ ?_ ?_ ?_ ?_ ?_ ?_ ?_ ?_) <;> (repeat intro hb) <;> first|exact True.intro|refine Lf.mk ?_)))
set_option maxRecDepth 100000 in
set_option maxHeartbeats 4000000 in
theorem nearest_tc (s : List P6) (p : P6) (h0 : s.length ≤ 9223372036854775807) : Look Tryd.prog 25 [pts s,p6A p] (.tup [.imm (.int .i64 (nearR s p).1),.imm (.int .i64 (nearR s p).2.1),.imm (.int .i64 (nearR s p).2.2)]) := by
  refine Look.mk (by simp [Pl, PlL]) ?_
  have c1 := svalid_tc s h0
  have c2 := octave_tc p
  generalize hD : nearR s p = D
  unfold nearR at hD
  by_cases h : SclOk s
  · rw [tf_t h] at c1 hD
    rw [if_pos rfl] at hD
    by_cases he : (octR p).2.2 = 0
    · rw [if_pos he] at hD
      obtain ⟨w1, w2, w3, w4⟩ := octR_rg he
      generalize octR p = r at c2 hD he w1 w2 w3 w4
      obtain ⟨q, o, e⟩ := r
      simp only [] at c2 hD he w1 w2 w3 w4
      subst he
      have hl := h.len
      have hn := List.length_pos_iff.2 h.ne
      have hlr := lastI_rg (nearQ s q) _ 0 ((s.length : Int) - 1) (Nat.le_refl _) (by omega)
      have c3 := last_tc 52 [rpS s,rp6 q] (nearQ s q) 0 ((s.length : Int) - 1) (by omega) (by omega) (by omega) (by simp [FreeL,Free,nth]) (fun o q1 q2 => nearc_tc s hl q o (by omega))
      unfold nearO at hD
      have hni : (nearI s q : Int) = lastI (nearQ s q) 0 ((s.length : Int) - 1) := by unfold nearI; omega
      rw [← hni] at c3 hlr
      have hat : atP s (nearI s q + 1) = up12 (gP s ((nearI s q + 1) % s.length)) (((nearI s q + 1) / s.length : Nat) : Int) := rfl
      generalize nearI s q = i at *
      have e1 : ((i : Int) + 1).tmod (s.length : Int) = (((i + 1) % s.length : Nat) : Int) := rfl
      have e2 : ((i : Int) + 1).tdiv (s.length : Int) = (((i + 1) / s.length : Nat) : Int) := rfl
      have hm := Nat.mod_lt (i + 1) hn
      have hq : (i + 1) / s.length ≤ 100 := Nat.le_trans (Nat.div_le_self _ _) (by omega)
      have gbm := h.bd ((i + 1) % s.length)
      have gbi := h.bd i
      rw [hat] at hD
      clear hat hni
      generalize (i + 1) / s.length = y at *
      generalize (i + 1) % s.length = m at *
      unfold Bd6 at gbm gbi w1
      have c4 := raised_tc (gP s m) (y : Int) (by omega) (by omega)
      have hub : (up12 (gP s m) (y : Int)).a = (gP s m).a + 12 * (y : Int) := rfl
      have hub2 : (up12 (gP s m) (y : Int)).b = (gP s m).b := rfl
      have hub3 : (up12 (gP s m) (y : Int)).c = (gP s m).c := rfl
      have hub4 : (up12 (gP s m) (y : Int)).d = (gP s m).d := rfl
      have hub5 : (up12 (gP s m) (y : Int)).e = (gP s m).e := rfl
      have hub6 : (up12 (gP s m) (y : Int)).f = (gP s m).f := rfl
      generalize up12 (gP s m) (y : Int) = B at *
      generalize hA : gP s i = A at *
      have c5 := valid_p (q.sub A)
      have c6 := valid_p (B.sub q)
      have c7 := compare_p (q.sub A) (B.sub q)
      have F := fun _ : True=>And.intro e1 (And.intro e2 (And.intro hm (And.intro hq (And.intro gbm (And.intro gbi (And.intro hub (And.intro hub2 (And.intro hub3 (And.intro hub4 (And.intro hub5 (And.intro hub6 (And.intro w1 (And.intro w3 (And.intro w4 hlr))))))))))))))
      clear e1 e2 hm hq gbm gbi hub hub2 hub3 hub4 hub5 hub6 w1 w3 w4 hlr
      (refine TC_of_T Γ_ok Tryd.func25 rfl (by kernel_rfl) ?_;simp only [Tryd.ntmps25,Tryd.results25,List.length_cons,List.length_nil,Nat.reduceSub,Nat.reduceAdd,List.replicate,List.cons_append,List.nil_append])
      (have dl1 := c1;have dl2 := c2;have sx1 : (0 : Nat) + 0 = 0 := rfl;repeat' (first|with_reducible refine T_seq_drawT (id := 8) Γ_ok drawsAny pl25_8 (by kernel_rfl) (fun K hK=>?_)|with_reducible refine T_last_drawT (id := 8) Γ_ok drawsAny pl25_8 (by kernel_rfl) (fun K hK=>?_)|with_reducible refine T_seq_drawT (id := 13) Γ_ok drawsAny pl25_13 (by kernel_rfl) (fun K hK=>?_)|with_reducible refine T_last_drawT (id := 13) Γ_ok drawsAny pl25_13 (by kernel_rfl) (fun K hK=>?_)|with_reducible refine T_seq_drawT (id := 19) Γ_ok drawsAny pl25_19 (by kernel_rfl) (fun K hK=>?_)|with_reducible refine T_last_drawT (id := 19) Γ_ok drawsAny pl25_19 (by kernel_rfl) (fun K hK=>?_)|((refine goU1 _ _ _ _ _ _ _ _ _ _ _ _ ?_ ?_ ?_ ?_ ?_ ?_ ?_ ?_ ?_ ?_ ?_ ?_) <;> (repeat intro hb) <;> first|exact True.intro|refine Lf.mk ?_)))
      refine callGoal_lookA c3 trivial (CvL.cons (Cv.imm rfl) (CvL.cons (Cv.imm rfl) (CvL.cons (Cv.fn CvL.nil (CvL.cons (Cv.ptr (cells2 := [pts s]) rfl rfl (cvl_free (by simp [FreeL,Free]))) (CvL.cons (Cv.ptr (cells2 := p6L q) rfl rfl (cvl_free (by simp [FreeL,Free]))) CvL.nil))) CvL.nil))) ?_
      rename_i KF hKF NF hNF _
      refine hNF _ _ ?_
      (have sx1 : (0 : Nat) + 0 = 0 := rfl;repeat' (first|with_reducible refine T_seq_drawT (id := 8) Γ_ok drawsAny pl25_8 (by kernel_rfl) (fun K hK=>?_)|with_reducible refine T_last_drawT (id := 8) Γ_ok drawsAny pl25_8 (by kernel_rfl) (fun K hK=>?_)|with_reducible refine T_seq_drawT (id := 13) Γ_ok drawsAny pl25_13 (by kernel_rfl) (fun K hK=>?_)|with_reducible refine T_last_drawT (id := 13) Γ_ok drawsAny pl25_13 (by kernel_rfl) (fun K hK=>?_)|with_reducible refine T_seq_drawT (id := 19) Γ_ok drawsAny pl25_19 (by kernel_rfl) (fun K hK=>?_)|with_reducible refine T_last_drawT (id := 19) Γ_ok drawsAny pl25_19 (by kernel_rfl) (fun K hK=>?_)|((refine goU1 _ _ _ _ _ _ _ _ _ _ _ _ ?_ ?_ ?_ ?_ ?_ ?_ ?_ ?_ ?_ ?_ ?_ ?_) <;> (repeat intro hb) <;> first|exact True.intro|refine Lf.mk ?_)))
      obtain ⟨e1, e2, hm, hq, gbm, gbi, hub, hub2, hub3, hub4, hub5, hub6, w1, w3, w4, hlr⟩ := F trivial
      clear F
      refine hKF _ ?_
      have hne : ((s.length : Int) = 0) = False := eq_false (by omega)
      have hmm : ((m : Int) < s.length) = True := eq_true (by omega)
      have hm0 : (0 ≤ (m : Int)) = True := eq_true (by omega)
      have hii : ((i : Int) < s.length) = True := eq_true (by omega)
      have hi0 : (0 ≤ (i : Int)) = True := eq_true (by omega)
      (have dl1 := c4;have sx1 := (And.intro e1 (And.intro e2 (And.intro hA (And.intro hne (And.intro hmm hm0)))));repeat' (first|with_reducible refine T_seq_drawT (id := 8) Γ_ok drawsAny pl25_8 (by kernel_rfl) (fun K hK=>?_)|with_reducible refine T_last_drawT (id := 8) Γ_ok drawsAny pl25_8 (by kernel_rfl) (fun K hK=>?_)|with_reducible refine T_seq_drawT (id := 13) Γ_ok drawsAny pl25_13 (by kernel_rfl) (fun K hK=>?_)|with_reducible refine T_last_drawT (id := 13) Γ_ok drawsAny pl25_13 (by kernel_rfl) (fun K hK=>?_)|with_reducible refine T_seq_drawT (id := 19) Γ_ok drawsAny pl25_19 (by kernel_rfl) (fun K hK=>?_)|with_reducible refine T_last_drawT (id := 19) Γ_ok drawsAny pl25_19 (by kernel_rfl) (fun K hK=>?_)|((refine goU1 _ _ _ _ _ _ _ _ _ _ _ _ ?_ ?_ ?_ ?_ ?_ ?_ ?_ ?_ ?_ ?_ ?_ ?_) <;> (repeat intro hb) <;> first|exact True.intro|refine Lf.mk ?_)))
      refine T_rounds 8 ?_
      (have sx1 := (And.intro hA (And.intro hii hi0));repeat' (first|with_reducible refine T_seq_drawT (id := 8) Γ_ok drawsAny pl25_8 (by kernel_rfl) (fun K hK=>?_)|with_reducible refine T_last_drawT (id := 8) Γ_ok drawsAny pl25_8 (by kernel_rfl) (fun K hK=>?_)|with_reducible refine T_seq_drawT (id := 13) Γ_ok drawsAny pl25_13 (by kernel_rfl) (fun K hK=>?_)|with_reducible refine T_last_drawT (id := 13) Γ_ok drawsAny pl25_13 (by kernel_rfl) (fun K hK=>?_)|with_reducible refine T_seq_drawT (id := 19) Γ_ok drawsAny pl25_19 (by kernel_rfl) (fun K hK=>?_)|with_reducible refine T_last_drawT (id := 19) Γ_ok drawsAny pl25_19 (by kernel_rfl) (fun K hK=>?_)|((refine goU1 _ _ _ _ _ _ _ _ _ _ _ _ ?_ ?_ ?_ ?_ ?_ ?_ ?_ ?_ ?_ ?_ ?_ ?_) <;> (repeat intro hb) <;> first|exact True.intro|refine Lf.mk ?_)))
      repeat' (first
    | (with_reducible refine hK _ ?_; clear hK K)
    | (fail)
    | with_reducible refine T_seq_drawT (id := 8) Γ_ok drawsAny (.fork [(0,[],[]),(1,[],[]),(2,[],[]),(3,[2],[]),(4,[1,2,3],[]),(5,[0,1,2,3,4],[]),(6,[0,1,2,3,4,5],[]),(7,[],[]),(8,[],[]),(9,[8],[]),(10,[7,8,9],[])] (.last [(11,[0,1,2,3,4,5,6,7,8,9,10],[]),(12,[],[0,1,2,3,4,5,6,7,8,9,10]),(13,[0,1,2,3,4,5,6,7,8,9,10,11,12],[])]) (.last [(12,[],[0,1,2,3,4,5,6,7,8,9,10]),(11,[0,1,2,3,4,5,6,7,8,9,10],[]),(13,[0,1,2,3,4,5,6,7,8,9,10,11,12],[])])) (by kernel_rfl) (fun K hK=>?_)
    | with_reducible refine T_last_drawT (id := 8) Γ_ok drawsAny (.fork [(0,[],[]),(1,[],[]),(2,[],[]),(3,[2],[]),(4,[1,2,3],[]),(5,[0,1,2,3,4],[]),(6,[0,1,2,3,4,5],[]),(7,[],[]),(8,[],[]),(9,[8],[]),(10,[7,8,9],[])] (.last [(11,[0,1,2,3,4,5,6,7,8,9,10],[]),(12,[],[0,1,2,3,4,5,6,7,8,9,10]),(13,[0,1,2,3,4,5,6,7,8,9,10,11,12],[])]) (.last [(12,[],[0,1,2,3,4,5,6,7,8,9,10]),(11,[0,1,2,3,4,5,6,7,8,9,10],[]),(13,[0,1,2,3,4,5,6,7,8,9,10,11,12],[])])) (by kernel_rfl) (fun K hK=>?_)
    | ((with_reducible apply DC_call);(focus exact rfl);(focus exact rfl);(focus exact rfl);intro N hN;(simp only [go_sem,hA,hii,hi0,↓reduceIte,Nat.reduceAdd,Nat.reduceSub,Nat.reduceMul,Nat.reduceLT,Nat.reduceLeDiff,Nat.reduceEqDiff,Nat.reduceGT,Int.reduceToNat,Int.reduceBEq,Int.reduceBNe];try simp (disch := omega) only [wrapI,wrapU,half_sum,toNat_sub1,toNat_add1,Int.toNat_natCast]))
    | ((with_reducible first|refine T_seq_region Γ_ok (fun K hK=>?_)|refine T_last_region Γ_ok (fun K hK=>?_)|refine T_seq_draw (id := 13) Γ_ok drawsAny [(0,[],[]),(1,[],[]),(2,[],[]),(3,[],[]),(4,[],[]),(5,[],[]),(6,[3,4],[]),(7,[3,4,5,6],[]),(8,[3,4,5,6,7],[]),(9,[2,3,4,5,6,7,8],[]),(10,[],[]),(11,[10],[]),(12,[10,11],[]),(13,[],[]),(14,[10,11,12,13],[]),(15,[0,2,3,4,5,6,7,8,9],[]),(16,[0,2,3,4,5,6,7,8,9,15],[1,10,11,12,13,14]),(17,[0,1,2,3,4,5,6,7,8,9,10,11,12,13,14,15,16],[]),(18,[0,1,2,3,4,5,6,7,8,9,10,11,12,13,14,15,16,17],[])] (by kernel_rfl) (fun K hK=>?_)|refine T_last_draw (id := 13) Γ_ok drawsAny [(0,[],[]),(1,[],[]),(2,[],[]),(3,[],[]),(4,[],[]),(5,[],[]),(6,[3,4],[]),(7,[3,4,5,6],[]),(8,[3,4,5,6,7],[]),(9,[2,3,4,5,6,7,8],[]),(10,[],[]),(11,[10],[]),(12,[10,11],[]),(13,[],[]),(14,[10,11,12,13],[]),(15,[0,2,3,4,5,6,7,8,9],[]),(16,[0,2,3,4,5,6,7,8,9,15],[1,10,11,12,13,14]),(17,[0,1,2,3,4,5,6,7,8,9,10,11,12,13,14,15,16],[]),(18,[0,1,2,3,4,5,6,7,8,9,10,11,12,13,14,15,16,17],[])] (by kernel_rfl) (fun K hK=>?_)|refine T_seq_draw (id := 19) Γ_ok drawsAny [(0,[],[]),(1,[],[]),(2,[1],[]),(3,[0,1,2],[]),(4,[],[]),(5,[],[]),(6,[],[]),(7,[6],[]),(8,[5,6,7],[]),(9,[4,5,6,7,8],[]),(10,[0,1,2,3],[]),(11,[0,1,2,3,4,5,6,7,8,9,10],[]),(12,[0,1,2,3,4,5,6,7,8,9,10,11],[])] (by kernel_rfl) (fun K hK=>?_)|refine T_last_draw (id := 19) Γ_ok drawsAny [(0,[],[]),(1,[],[]),(2,[1],[]),(3,[0,1,2],[]),(4,[],[]),(5,[],[]),(6,[],[]),(7,[6],[]),(8,[5,6,7],[]),(9,[4,5,6,7,8],[]),(10,[0,1,2,3],[]),(11,[0,1,2,3,4,5,6,7,8,9,10],[]),(12,[0,1,2,3,4,5,6,7,8,9,10,11],[])] (by kernel_rfl) (fun K hK=>?_)|refine TO_callN rfl (fun N hN=>?_)|refine DCT_fork Γ_ok (fun K2 hK2=>?_)|refine DCT_last Γ_ok ?_|refine DC_ev Γ_ok ?_|refine TO_ev Γ_ok ?_|refine retQ_r ?_|refine retQ_n ?_);(simp only [go_sem,hA,hii,hi0,↓reduceIte,Nat.reduceAdd,Nat.reduceSub,Nat.reduceMul,Nat.reduceLT,Nat.reduceLeDiff,Nat.reduceEqDiff,Nat.reduceGT,Int.reduceToNat,Int.reduceBEq,Int.reduceBNe];try simp (disch := omega) only [wrapI,wrapU,half_sum,toNat_sub1,toNat_add1,Int.toNat_natCast]))
    | (with_reducible refine hK2 _ ?_ ?_ <;> clear hK2 K2)
    | with_reducible refine gC_false ?_ | with_reducible refine gC_true ?_ | with_reducible refine dCall_true ?_
    | (with_reducible refine hN _ _ ?_; clear hN N)
    | (with_reducible refine hN _ _ (dInl rfl) ?_; clear hN N)
    | ((with_reducible refine hN _ _ (.inr ?_) ?_);(focus (simp only [go_sem,hA,hii,hi0,↓reduceIte,Nat.reduceAdd,Nat.reduceSub,Nat.reduceMul,Nat.reduceLT,Nat.reduceLeDiff,Nat.reduceEqDiff,Nat.reduceGT,Int.reduceToNat,Int.reduceBEq,Int.reduceBNe];try simp (disch := omega) only [wrapI,wrapU,half_sum,toNat_sub1,toNat_add1,Int.toNat_natCast]));all_goals (try clear hN N))
    | with_reducible refine T_seq ?_|with_reducible refine T_block ?_|with_reducible refine T_ret ?_|with_reducible refine T_exit ?_|with_reducible refine T_skip ?_|with_reducible refine T_label ?_
    | with_reducible refine thenQ_n ?_|with_reducible refine thenQ_e ?_|with_reducible refine thenQ_r ?_|with_reducible refine blockQ_n ?_|with_reducible refine blockQ_e ?_|with_reducible refine blockQ_r ?_
    | with_reducible refine blockQ_o (by decide) ?_
    | ((with_reducible refine T_cond _ rfl (fun hb=>?_) (fun hb=>?_)) <;> first|(cases hb;done)|(simp only [decide_eq_true_eq,decide_eq_false_iff_not,Bool.and_eq_true,Bool.or_eq_true,Bool.and_eq_false_imp,Bool.or_eq_false_iff,Bool.not_eq_true',Bool.not_eq_false',beq_iff_eq,bne_iff_ne,ne_eq,beq_eq_false_iff_ne,bne_eq_false_iff_eq,Int.not_lt,Int.not_le,ge_iff_le,gt_iff_lt] at hb)|skip)
    | (with_reducible refine And.intro (by first | exact trivial | omega | (intro hg;simp at hg ⊢ <;> omega) | (simp <;> omega)) ?_)
    | assumption | omega)
      by_cases hv : Bd6 576 (q.sub A) ∧ Bd6 576 (B.sub q)
      · rw [if_pos hv] at hD
        rw [decide_eq_true hv.1] at c5
        rw [decide_eq_true hv.2] at c6
        by_cases hc : cmT (q.sub A) (B.sub q) ≤ 0
        · rw [if_pos hc] at hD
          subst hD
          have e3 : decide (cmT (q.sub A) (B.sub q) ≤ 0) = true := decide_eq_true hc
          (have dl1 := c5;have dl2 := c6;have dl3 := c7;have sx1 := (And.intro hA e3);repeat' (first|with_reducible refine T_seq_drawT (id := 8) Γ_ok drawsAny pl25_8 (by kernel_rfl) (fun K hK=>?_)|with_reducible refine T_last_drawT (id := 8) Γ_ok drawsAny pl25_8 (by kernel_rfl) (fun K hK=>?_)|with_reducible refine T_seq_drawT (id := 13) Γ_ok drawsAny pl25_13 (by kernel_rfl) (fun K hK=>?_)|with_reducible refine T_last_drawT (id := 13) Γ_ok drawsAny pl25_13 (by kernel_rfl) (fun K hK=>?_)|with_reducible refine T_seq_drawT (id := 19) Γ_ok drawsAny pl25_19 (by kernel_rfl) (fun K hK=>?_)|with_reducible refine T_last_drawT (id := 19) Γ_ok drawsAny pl25_19 (by kernel_rfl) (fun K hK=>?_)|((refine goU1 _ _ _ _ _ _ _ _ _ _ _ _ ?_ ?_ ?_ ?_ ?_ ?_ ?_ ?_ ?_ ?_ ?_ ?_) <;> (repeat intro hb) <;> first|exact True.intro|refine Lf.mk ?_)))
        · rw [if_neg hc] at hD
          subst hD
          have e3 : decide (cmT (q.sub A) (B.sub q) ≤ 0) = false := decide_eq_false hc
          (have dl1 := c5;have dl2 := c6;have dl3 := c7;have sx1 := (And.intro e1 (And.intro e2 (And.intro hA (And.intro hne (And.intro hmm (And.intro hm0 e3))))));repeat' (first|with_reducible refine T_seq_drawT (id := 8) Γ_ok drawsAny pl25_8 (by kernel_rfl) (fun K hK=>?_)|with_reducible refine T_last_drawT (id := 8) Γ_ok drawsAny pl25_8 (by kernel_rfl) (fun K hK=>?_)|with_reducible refine T_seq_drawT (id := 13) Γ_ok drawsAny pl25_13 (by kernel_rfl) (fun K hK=>?_)|with_reducible refine T_last_drawT (id := 13) Γ_ok drawsAny pl25_13 (by kernel_rfl) (fun K hK=>?_)|with_reducible refine T_seq_drawT (id := 19) Γ_ok drawsAny pl25_19 (by kernel_rfl) (fun K hK=>?_)|with_reducible refine T_last_drawT (id := 19) Γ_ok drawsAny pl25_19 (by kernel_rfl) (fun K hK=>?_)|((refine goU1 _ _ _ _ _ _ _ _ _ _ _ _ ?_ ?_ ?_ ?_ ?_ ?_ ?_ ?_ ?_ ?_ ?_ ?_) <;> (repeat intro hb) <;> first|exact True.intro|refine Lf.mk ?_)))
      · rw [if_neg hv] at hD
        subst hD
        by_cases h1 : Bd6 576 (q.sub A)
        · rw [decide_eq_true h1] at c5
          rw [decide_eq_false (fun k => hv ⟨h1, k⟩)] at c6
          (have dl1 := c5;have dl2 := c6;have sx1 := hA;repeat' (first|with_reducible refine T_seq_drawT (id := 8) Γ_ok drawsAny pl25_8 (by kernel_rfl) (fun K hK=>?_)|with_reducible refine T_last_drawT (id := 8) Γ_ok drawsAny pl25_8 (by kernel_rfl) (fun K hK=>?_)|with_reducible refine T_seq_drawT (id := 13) Γ_ok drawsAny pl25_13 (by kernel_rfl) (fun K hK=>?_)|with_reducible refine T_last_drawT (id := 13) Γ_ok drawsAny pl25_13 (by kernel_rfl) (fun K hK=>?_)|with_reducible refine T_seq_drawT (id := 19) Γ_ok drawsAny pl25_19 (by kernel_rfl) (fun K hK=>?_)|with_reducible refine T_last_drawT (id := 19) Γ_ok drawsAny pl25_19 (by kernel_rfl) (fun K hK=>?_)|((refine goU1 _ _ _ _ _ _ _ _ _ _ _ _ ?_ ?_ ?_ ?_ ?_ ?_ ?_ ?_ ?_ ?_ ?_ ?_) <;> (repeat intro hb) <;> first|exact True.intro|refine Lf.mk ?_)))
        · rw [decide_eq_false h1] at c5
          refine roundT_succ ?_
          repeat' (first
    | (with_reducible refine hK _ ?_; clear hK K)
    | ((with_reducible first|apply gC_lookA (fun hg=>(c5))|apply dCall_lookGA (fun hg=>(c5)));(case hC=>(intro hg;first|exact trivial|exact hg|(simp only [hg,and_self,implies_true];done)|(simp only [go_sem,hg,and_self,implies_true];done)));(case hc=>(intro hg;((repeat' (first|exact CvL.nil|exact Cv.nil_view|refine CvL.cons ?_ ?_|exact Cv.imm rfl|(refine Cv.free ?_;simp [Free,FreeL] <;> assumption)|(refine Cv.free (fun _ _=>FreeL_nth ?_ _);simp [Free,FreeL];done)|refine Cv.agg ?_|(apply Cv.own;(case hob=>(with_unfolding_all exact rfl));(case hz=>decide);(case hE=>(first|(intro _ _ _ _;rfl)|(intro i j hi hj;(rcases i with _ | _|i) <;> (rcases j with _ | _ | _ | _|j) <;> first|rfl|(exfalso;omega))));(case hf=>(intro _ _;simp;done)))|(refine Cv.pvE ?_ ?_ (by decide);(focus (first|(intro _ _ _ _;rfl)|(intro i j hi hj;(rcases i with _ | _|i) <;> (rcases j with _ | _ | _ | _|j) <;> first|rfl|(exfalso;omega))));(focus (intro _ _;simp;done)))|(apply Cv.ownS;(case hob=>(with_unfolding_all exact rfl));(case hz=>decide);(case hle=>(first|omega|(simp only [decide_eq_true_eq] at hg;omega)|(simp;omega)));(case hE=>(intro _ _ _ _;first|(rw [Nat.zero_add];done)|(rw [Nat.zero_add];rfl)));(case hf=>(intro _ _;simp;done)))|(refine Cv.viewE (by decide) ?_ ?_;(focus (intro _ _ _ _;first|rfl));(focus (intro _ _;simp;done)))|refine Cv.ptr (by with_unfolding_all rfl) (by with_unfolding_all rfl) ?_|refine Cv.fn ?_ ?_));done))))
    | ((with_reducible first|apply callGoal_lookA (c5)|apply dCall_lookA (c5));(case hC=>first|exact trivial|(simp only [go_sem,and_self];done)|(simp only [go_sem];omega));(case hc=>((repeat' (first|exact CvL.nil|exact Cv.nil_view|refine CvL.cons ?_ ?_|exact Cv.imm rfl|(refine Cv.free ?_;simp [Free,FreeL] <;> assumption)|(refine Cv.free (fun _ _=>FreeL_nth ?_ _);simp [Free,FreeL];done)|refine Cv.agg ?_|(apply Cv.own;(case hob=>(with_unfolding_all exact rfl));(case hz=>decide);(case hE=>(first|(intro _ _ _ _;rfl)|(intro i j hi hj;(rcases i with _ | _|i) <;> (rcases j with _ | _ | _ | _|j) <;> first|rfl|(exfalso;omega))));(case hf=>(intro _ _;simp;done)))|(refine Cv.pvE ?_ ?_ (by decide);(focus (first|(intro _ _ _ _;rfl)|(intro i j hi hj;(rcases i with _ | _|i) <;> (rcases j with _ | _ | _ | _|j) <;> first|rfl|(exfalso;omega))));(focus (intro _ _;simp;done)))|(apply Cv.ownS;(case hob=>(with_unfolding_all exact rfl));(case hz=>decide);(case hle=>(first|omega|(simp only [decide_eq_true_eq] at hg;omega)|(simp;omega)));(case hE=>(intro _ _ _ _;first|(rw [Nat.zero_add];done)|(rw [Nat.zero_add];rfl)));(case hf=>(intro _ _;simp;done)))|(refine Cv.viewE (by decide) ?_ ?_;(focus (intro _ _ _ _;first|rfl));(focus (intro _ _;simp;done)))|refine Cv.ptr (by with_unfolding_all rfl) (by with_unfolding_all rfl) ?_|refine Cv.fn ?_ ?_));done)))
    | (with_reducible first | refine gC_falseV (.imm (.bool true)) ?_ | refine dCall_falseV (.imm (.bool true)) ?_)
    | (fail)
    | with_reducible refine T_seq_drawT (id := 8) Γ_ok drawsAny (.fork [(0,[],[]),(1,[],[]),(2,[],[]),(3,[2],[]),(4,[1,2,3],[]),(5,[0,1,2,3,4],[]),(6,[0,1,2,3,4,5],[]),(7,[],[]),(8,[],[]),(9,[8],[]),(10,[7,8,9],[])] (.last [(11,[0,1,2,3,4,5,6,7,8,9,10],[]),(12,[],[0,1,2,3,4,5,6,7,8,9,10]),(13,[0,1,2,3,4,5,6,7,8,9,10,11,12],[])]) (.last [(12,[],[0,1,2,3,4,5,6,7,8,9,10]),(11,[0,1,2,3,4,5,6,7,8,9,10],[]),(13,[0,1,2,3,4,5,6,7,8,9,10,11,12],[])])) (by kernel_rfl) (fun K hK=>?_)
    | with_reducible refine T_last_drawT (id := 8) Γ_ok drawsAny (.fork [(0,[],[]),(1,[],[]),(2,[],[]),(3,[2],[]),(4,[1,2,3],[]),(5,[0,1,2,3,4],[]),(6,[0,1,2,3,4,5],[]),(7,[],[]),(8,[],[]),(9,[8],[]),(10,[7,8,9],[])] (.last [(11,[0,1,2,3,4,5,6,7,8,9,10],[]),(12,[],[0,1,2,3,4,5,6,7,8,9,10]),(13,[0,1,2,3,4,5,6,7,8,9,10,11,12],[])]) (.last [(12,[],[0,1,2,3,4,5,6,7,8,9,10]),(11,[0,1,2,3,4,5,6,7,8,9,10],[]),(13,[0,1,2,3,4,5,6,7,8,9,10,11,12],[])])) (by kernel_rfl) (fun K hK=>?_)
    | ((with_reducible apply DC_call);(focus exact rfl);(focus exact rfl);(focus exact rfl);intro N hN;(simp only [go_sem,hA,↓reduceIte,Nat.reduceAdd,Nat.reduceSub,Nat.reduceMul,Nat.reduceLT,Nat.reduceLeDiff,Nat.reduceEqDiff,Nat.reduceGT,Int.reduceToNat,Int.reduceBEq,Int.reduceBNe];try simp (disch := omega) only [wrapI,wrapU,half_sum,toNat_sub1,toNat_add1,Int.toNat_natCast]))
    | ((with_reducible first|refine T_seq_region Γ_ok (fun K hK=>?_)|refine T_last_region Γ_ok (fun K hK=>?_)|refine T_seq_draw (id := 13) Γ_ok drawsAny [(0,[],[]),(1,[],[]),(2,[],[]),(3,[],[]),(4,[],[]),(5,[],[]),(6,[3,4],[]),(7,[3,4,5,6],[]),(8,[3,4,5,6,7],[]),(9,[2,3,4,5,6,7,8],[]),(10,[],[]),(11,[10],[]),(12,[10,11],[]),(13,[],[]),(14,[10,11,12,13],[]),(15,[0,2,3,4,5,6,7,8,9],[]),(16,[0,2,3,4,5,6,7,8,9,15],[1,10,11,12,13,14]),(17,[0,1,2,3,4,5,6,7,8,9,10,11,12,13,14,15,16],[]),(18,[0,1,2,3,4,5,6,7,8,9,10,11,12,13,14,15,16,17],[])] (by kernel_rfl) (fun K hK=>?_)|refine T_last_draw (id := 13) Γ_ok drawsAny [(0,[],[]),(1,[],[]),(2,[],[]),(3,[],[]),(4,[],[]),(5,[],[]),(6,[3,4],[]),(7,[3,4,5,6],[]),(8,[3,4,5,6,7],[]),(9,[2,3,4,5,6,7,8],[]),(10,[],[]),(11,[10],[]),(12,[10,11],[]),(13,[],[]),(14,[10,11,12,13],[]),(15,[0,2,3,4,5,6,7,8,9],[]),(16,[0,2,3,4,5,6,7,8,9,15],[1,10,11,12,13,14]),(17,[0,1,2,3,4,5,6,7,8,9,10,11,12,13,14,15,16],[]),(18,[0,1,2,3,4,5,6,7,8,9,10,11,12,13,14,15,16,17],[])] (by kernel_rfl) (fun K hK=>?_)|refine T_seq_draw (id := 19) Γ_ok drawsAny [(0,[],[]),(1,[],[]),(2,[1],[]),(3,[0,1,2],[]),(4,[],[]),(5,[],[]),(6,[],[]),(7,[6],[]),(8,[5,6,7],[]),(9,[4,5,6,7,8],[]),(10,[0,1,2,3],[]),(11,[0,1,2,3,4,5,6,7,8,9,10],[]),(12,[0,1,2,3,4,5,6,7,8,9,10,11],[])] (by kernel_rfl) (fun K hK=>?_)|refine T_last_draw (id := 19) Γ_ok drawsAny [(0,[],[]),(1,[],[]),(2,[1],[]),(3,[0,1,2],[]),(4,[],[]),(5,[],[]),(6,[],[]),(7,[6],[]),(8,[5,6,7],[]),(9,[4,5,6,7,8],[]),(10,[0,1,2,3],[]),(11,[0,1,2,3,4,5,6,7,8,9,10],[]),(12,[0,1,2,3,4,5,6,7,8,9,10,11],[])] (by kernel_rfl) (fun K hK=>?_)|refine TO_callN rfl (fun N hN=>?_)|refine DCT_fork Γ_ok (fun K2 hK2=>?_)|refine DCT_last Γ_ok ?_|refine DC_ev Γ_ok ?_|refine TO_ev Γ_ok ?_|refine retQ_r ?_|refine retQ_n ?_);(simp only [go_sem,hA,↓reduceIte,Nat.reduceAdd,Nat.reduceSub,Nat.reduceMul,Nat.reduceLT,Nat.reduceLeDiff,Nat.reduceEqDiff,Nat.reduceGT,Int.reduceToNat,Int.reduceBEq,Int.reduceBNe];try simp (disch := omega) only [wrapI,wrapU,half_sum,toNat_sub1,toNat_add1,Int.toNat_natCast]))
    | (with_reducible refine hK2 _ ?_ ?_ <;> clear hK2 K2)
    | with_reducible refine gC_false ?_ | with_reducible refine gC_true ?_ | with_reducible refine dCall_true ?_
    | (with_reducible refine hN _ _ ?_; clear hN N)
    | (with_reducible refine hN _ _ (dInl rfl) ?_; clear hN N)
    | ((with_reducible refine hN _ _ (.inr ?_) ?_);(focus (simp only [go_sem,hA,↓reduceIte,Nat.reduceAdd,Nat.reduceSub,Nat.reduceMul,Nat.reduceLT,Nat.reduceLeDiff,Nat.reduceEqDiff,Nat.reduceGT,Int.reduceToNat,Int.reduceBEq,Int.reduceBNe];try simp (disch := omega) only [wrapI,wrapU,half_sum,toNat_sub1,toNat_add1,Int.toNat_natCast]));all_goals (try clear hN N))
    | with_reducible refine T_seq ?_|with_reducible refine T_block ?_|with_reducible refine T_ret ?_|with_reducible refine T_exit ?_|with_reducible refine T_skip ?_|with_reducible refine T_label ?_
    | with_reducible refine thenQ_n ?_|with_reducible refine thenQ_e ?_|with_reducible refine thenQ_r ?_|with_reducible refine blockQ_n ?_|with_reducible refine blockQ_e ?_|with_reducible refine blockQ_r ?_
    | with_reducible refine blockQ_o (by decide) ?_
    | ((with_reducible refine T_cond _ rfl (fun hb=>?_) (fun hb=>?_)) <;> first|(cases hb;done)|(simp only [decide_eq_true_eq,decide_eq_false_iff_not,Bool.and_eq_true,Bool.or_eq_true,Bool.and_eq_false_imp,Bool.or_eq_false_iff,Bool.not_eq_true',Bool.not_eq_false',beq_iff_eq,bne_iff_ne,ne_eq,beq_eq_false_iff_ne,bne_eq_false_iff_eq,Int.not_lt,Int.not_le,ge_iff_le,gt_iff_lt] at hb)|skip)
    | (with_reducible refine And.intro (by first | exact trivial | omega | (intro hg;simp at hg ⊢ <;> omega) | (simp <;> omega)) ?_)
    | assumption | omega)
    · rw [if_neg he] at hD
      subst hD
      generalize octR p = r at c2 he ⊢
      obtain ⟨q, o, e⟩ := r
      simp only [] at c2 he ⊢
      have e1 : (e != 0) = true := by rw [bne_iff_ne]; exact he
      (refine TC_of_T Γ_ok Tryd.func25 rfl (by kernel_rfl) ?_;simp only [Tryd.ntmps25,Tryd.results25,List.length_cons,List.length_nil,Nat.reduceSub,Nat.reduceAdd,List.replicate,List.cons_append,List.nil_append])
      (have dl1 := c1;have dl2 := c2;have sx1 := e1;repeat' (first|with_reducible refine T_seq_drawT (id := 8) Γ_ok drawsAny pl25_8 (by kernel_rfl) (fun K hK=>?_)|with_reducible refine T_last_drawT (id := 8) Γ_ok drawsAny pl25_8 (by kernel_rfl) (fun K hK=>?_)|with_reducible refine T_seq_drawT (id := 13) Γ_ok drawsAny pl25_13 (by kernel_rfl) (fun K hK=>?_)|with_reducible refine T_last_drawT (id := 13) Γ_ok drawsAny pl25_13 (by kernel_rfl) (fun K hK=>?_)|with_reducible refine T_seq_drawT (id := 19) Γ_ok drawsAny pl25_19 (by kernel_rfl) (fun K hK=>?_)|with_reducible refine T_last_drawT (id := 19) Γ_ok drawsAny pl25_19 (by kernel_rfl) (fun K hK=>?_)|((refine goU1 _ _ _ _ _ _ _ _ _ _ _ _ ?_ ?_ ?_ ?_ ?_ ?_ ?_ ?_ ?_ ?_ ?_ ?_) <;> (repeat intro hb) <;> first|exact True.intro|refine Lf.mk ?_)))
  · rw [tf_f h] at c1 hD
    rw [if_neg (by simp)] at hD
    subst hD
    (refine TC_of_T Γ_ok Tryd.func25 rfl (by kernel_rfl) ?_;simp only [Tryd.ntmps25,Tryd.results25,List.length_cons,List.length_nil,Nat.reduceSub,Nat.reduceAdd,List.replicate,List.cons_append,List.nil_append])
    (have dl1 := c1;have sx1 : (0 : Nat) + 0 = 0 := rfl;repeat' (first|with_reducible refine T_seq_drawT (id := 8) Γ_ok drawsAny pl25_8 (by kernel_rfl) (fun K hK=>?_)|with_reducible refine T_last_drawT (id := 8) Γ_ok drawsAny pl25_8 (by kernel_rfl) (fun K hK=>?_)|with_reducible refine T_seq_drawT (id := 13) Γ_ok drawsAny pl25_13 (by kernel_rfl) (fun K hK=>?_)|with_reducible refine T_last_drawT (id := 13) Γ_ok drawsAny pl25_13 (by kernel_rfl) (fun K hK=>?_)|with_reducible refine T_seq_drawT (id := 19) Γ_ok drawsAny pl25_19 (by kernel_rfl) (fun K hK=>?_)|with_reducible refine T_last_drawT (id := 19) Γ_ok drawsAny pl25_19 (by kernel_rfl) (fun K hK=>?_)|((refine goU1 _ _ _ _ _ _ _ _ _ _ _ _ ?_ ?_ ?_ ?_ ?_ ?_ ?_ ?_ ?_ ?_ ?_ ?_) <;> (repeat intro hb) <;> first|exact True.intro|refine Lf.mk ?_)))
end Go.Proofs.YtdglbjjenihdlaaDoor
