/-
  scale.quotients.
-/
import Derived.Test.YtdglbjjenihdlaaDoorWGo3
import Derived.Test.YtdglbjjenihdlaaDoorWS3
set_option linter.unusedSimpArgs false
set_option linter.unusedVariables false
namespace Go.Proofs.YtdglbjjenihdlaaDoor
open Go.Ab
def atP (s : List P6) (d : Nat) : P6 := up12 (gP s (d % s.length)) ((d / s.length : Nat) : Int)
theorem inB_lo {p : P6} (h : inB p = true) : Bd6 576 p := by
  unfold inB cmT cmpR at h
  simp only [Bool.and_eq_true, decide_eq_true_eq] at h
  by_cases hb : Bd6 576 p
  · exact hb
  · have := h.2
    rw [if_neg (fun k => hb k.1)] at this
    simp at this
theorem SclOk.bd {s : List P6} (h : SclOk s) (i : Nat) : Bd6 576 (gP s i) := by
  by_cases hi : i < s.length
  · match i, hi with
    | 0, _ => rw [h.zero]; decide
    | i + 1, hi => exact (h.step i hi).1
  · have : gP s i = z6 := by unfold gP; rw [List.getD_eq_getElem?_getD, List.getElem?_eq_none (by omega)]; rfl
    rw [this]; decide
@[go_sem, reducible] def rpS (s : List P6) : AV := .rptr 1 (nth [pts s])
set_option maxRecDepth 100000 in
set_option maxHeartbeats 4000000 in
theorem at_tc (s : List P6) (h : SclOk s) (d : Nat) (hd : d ≤ 1000) : Look Tryd.prog 61 [.imm (.int .i64 d),rpS s] (p6A (atP s d)) := by
  refine Look.mk (by simp [Pl, PlL]) ?_
  have hn := List.length_pos_iff.2 h.ne
  have hl := h.len
  have e1 : (d : Int).tmod (s.length : Int) = ((d % s.length : Nat) : Int) := rfl
  have e2 : (d : Int).tdiv (s.length : Int) = ((d / s.length : Nat) : Int) := rfl
  have hm := Nat.mod_lt d hn
  have hq : d / s.length ≤ 1000 := Nat.le_trans (Nat.div_le_self _ _) hd
  have hb := h.bd (d % s.length)
  unfold Bd6 at hb
  have hr : atP s d = up12 (gP s (d % s.length)) ((d / s.length : Nat) : Int) := rfl
  rw [hr]
  clear hr
  generalize d / s.length = q at hq e2 ⊢
  generalize d % s.length = m at hm hb e1 ⊢
  have c1 := raised_tc (gP s m) (q : Int) (by omega) (by omega)
  generalize up12 (gP s m) (q : Int) = r at c1 ⊢
  (refine TC_of_T Γ_ok Tryd.func61 rfl (by kernel_rfl) ?_;simp only [Tryd.ntmps61,Tryd.results61,List.length_cons,List.length_nil,Nat.reduceSub,Nat.reduceAdd,List.replicate,List.cons_append,List.nil_append])
  (have dl1 := c1;have sx1 := (And.intro e1 e2);repeat' (first|with_reducible refine T_seq_drawT (id := 1) Γ_ok drawsAny pl61_1 (by kernel_rfl) (fun K hK=>?_)|with_reducible refine T_last_drawT (id := 1) Γ_ok drawsAny pl61_1 (by kernel_rfl) (fun K hK=>?_)|((refine goU1 _ _ _ _ _ _ _ _ _ _ _ _ ?_ ?_ ?_ ?_ ?_ ?_ ?_ ?_ ?_ ?_ ?_ ?_) <;> (repeat intro hb) <;> first|exact True.intro|refine Lf.mk ?_)))
def dqP (s : List P6) (ov un : Nat → Nat) (i : Nat) : P6 := (atP s (ov i)).sub (atP s (un i))
def quL (s : List P6) (ov un : Nat → Nat) : Nat → Option (List P6)
  | 0 => some []
  | k + 1 => (quL s ov un k).bind fun l => if Bd6 576 (dqP s ov un k) then some (l ++ [dqP s ov un k]) else none
def quR (s : List P6) (ov un : Nat → Nat) : List P6 × Int := match quL s ov un s.length with
  | some l => (l, 0)
  | none => ([], 3)
theorem quL_none {s : List P6} {ov un : Nat → Nat} {k : Nat} (h : quL s ov un k = none) : ∀ d,quL s ov un (k + d) = none
  | 0 => h
  | d + 1 => by rw [← Nat.add_assoc, quL, quL_none h d]; rfl
theorem quL_len {s : List P6} {ov un : Nat → Nat} : ∀ {k : Nat} {l : List P6}, quL s ov un k = some l → l.length = k
  | 0, l, h => by simp only [quL, Option.some.injEq] at h; subst h; rfl
  | k + 1, l, h => by
    rw [quL] at h
    cases hq : quL s ov un k with
    | none => rw [hq] at h; cases h
    | some m =>
      rw [hq] at h
      simp only [Option.bind_some] at h
      split at h
      · simp only [Option.some.injEq] at h; subst h; rw [List.length_append, quL_len hq]; rfl
      · cases h
theorem pt_snoc (l : List P6) (x : P6) {i j : Nat} (h : i < l.length + 1) (hj : j < 6) : catE l.length (ptE l) (fun i j => nth (p6L x) (i * 6 + j)) i j = ptE (l ++ [x]) i j := by
  unfold catE ptE gP
  split
  · rename_i h1; simp [List.getElem?_append_left h1]
  · obtain rfl : i = l.length := by omega
    simp
@[go_sem, reducible] def ptO (l : List P6) : AObj := .arr 24 6 l.length (ptE l)
@[go_sem,reducible] def enN (f1 f2 : FuncId) (a1 a2 : List AV) (s : List P6) (n i : Nat) : List AV := [.top,.fn (.func f1) [] a1,.fn (.func f2) [] a2,.optr 0 0 0,.top,.top,.imm (.slice none 0 0),.imm (.int .i64 0),.fn (.func 61) [] [.optr 0 0 0],.own 1 0 n none] ++
  List.replicate 6 .top ++ [.imm (.int .i64 s.length), .imm (.int .i64 i)] ++ List.replicate 33 .top
set_option maxRecDepth 100000 in
set_option maxHeartbeats 4000000 in
theorem quot_raw (s : List P6) (h : SclOk s) (f1 f2 : FuncId) (a1 a2 : List AV) (ov un : Nat → Nat) (g1 : FreeL a1) (g2 : FreeL a2)
    (h1 : ∀ i,i < s.length → ov i ≤ 1000 ∧ Look Tryd.prog f1 (.imm (.int .i64 i) :: a1) (.imm (.int .i64 (ov i)))) (h2 : ∀ i,i < s.length → un i ≤ 1000 ∧ Look Tryd.prog f2 (.imm (.int .i64 i) :: a2) (.imm (.int .i64 (un i))))
    (Q : AV → List AObj → Prop) (q1 : quL s ov un s.length = none → ∀ σ',Q (.tup [.imm (.slice none 0 0),.imm (.int .i64 3)]) σ') (q2 : ∀ l σ' k,quL s ov un s.length = some l → nthO σ' k = ptO l → Q (.tup [.own k 0 l.length none,.imm (.int .i64 0)]) σ') :
    TC Tryd.prog 44 [pts s, .fn (.func f1) [] a1, .fn (.func f2) [] a2] [] Q := by
  have hl := h.len
  have hf1 : ∀ π σ,WkV π σ (.fn (.func f1) [] a1) (.fn (.func f1) [] a1) := fun π σ => WkV.free (by simp [Free,FreeL];exact g1)
  have hf2 : ∀ π σ,WkV π σ (.fn (.func f2) [] a2) (.fn (.func f2) [] a2) := fun π σ => WkV.free (by simp [Free,FreeL];exact g2)
  (refine TC_of_T Γ_ok Tryd.func44 rfl (by kernel_rfl) ?_;simp only [Tryd.ntmps44,Tryd.results44,List.length_cons,List.length_nil,Nat.reduceSub,Nat.reduceAdd,List.replicate,List.cons_append,List.nil_append])
  (have sx1 : (0 : Nat) + 0 = 0 := rfl;repeat' (first|with_reducible refine T_seq_drawT (id := 10) Γ_ok drawsAny pl44_10 (by kernel_rfl) (fun K hK=>?_)|with_reducible refine T_last_drawT (id := 10) Γ_ok drawsAny pl44_10 (by kernel_rfl) (fun K hK=>?_)|((refine goU1 _ _ _ _ _ _ _ _ _ _ _ _ ?_ ?_ ?_ ?_ ?_ ?_ ?_ ?_ ?_ ?_ ?_ ?_) <;> (repeat intro hb) <;> first|exact True.intro|refine Lf.mk ?_)))
  refine T_loopW (fun m st => ∃ (i : Nat) (l : List P6),i ≤ s.length ∧ m + i = s.length ∧ quL s ov un i = some l ∧ st = ⟨enN f1 f2 a1 a2 s l.length i,[.box 22 [pts s],ptO l]⟩)
    s.length ⟨_, Wk.trans (Wk.push 24 6 (ptE [])) ?_, 0, [], by omega, rfl, rfl, rfl⟩ ?_
  · ((try simp only [List.length_append,List.length_cons,List.length_nil,Nat.zero_add]);refine Wk.intro [0,1] (by decide) (by decide) (by intro o ho;simp at ho ⊢ <;> omega) ?_ ?_ <;> repeat' (first|(exact hf1 _ _)|(exact hf2 _ _)|exact WkVL.nil|refine WkVL.cons ?_ ?_|exact WkV.top|exact WkV.imm rfl|exact WkV.imm (by simp)|exact WkV.optr rfl|exact WkV.own rfl (by simp)|exact WkV.nil_own (.inl rfl)|exact WkV.map rfl|(refine WkV.free ?_;simp [Free,FreeL] <;> assumption)|(refine WkV.free (fun _ _=>FreeL_nth ?_ _);simp [Free,FreeL];done)|refine WkV.agg ?_|refine WkV.tup ?_|refine WkV.fn ?_ ?_|exact WkO.dead|exact WkO.raw|refine WkO.ghost ?_|exact WkO.mpE rfl trivial|refine WkO.box ?_ rfl|refine WkO.arr ?_|refine And.intro ?_ (And.intro (by first|exact fun h=>h|exact fun _=>rfl|exact nofun) ?_)|exact trivial|(intro i j hi hj)))
  rintro m st ⟨i, l, k0, k1, k2, rfl⟩
  have hll := quL_len k2
  by_cases hi : i < s.length
  · obtain ⟨b1, c1⟩ := h1 i hi
    obtain ⟨b2, c2⟩ := h2 i hi
    have c3 := at_tc s h (ov i) b1
    have c4 := at_tc s h (un i) b2
    (simp only [go_sem,↓reduceIte,Nat.reduceAdd,Nat.reduceSub,Nat.reduceMul,Nat.reduceLT,Nat.reduceLeDiff,Nat.reduceEqDiff,Nat.reduceGT,Int.reduceToNat,Int.reduceBEq,Int.reduceBNe];try simp (disch := omega) only [wrapI,wrapU,half_sum,toNat_sub1,toNat_add1,Int.toNat_natCast])
    repeat' (first
    | (with_reducible refine hK _ ?_; clear hK K)
    | ((with_reducible apply callGoal_lookA c1);(case hC=>exact trivial);(case hc=>exact CvL.cons (Cv.imm rfl) (cvl_free g1));try (simp only [go_sem,↓reduceIte,Nat.reduceAdd,Nat.reduceSub,Nat.reduceMul,Nat.reduceLT,Nat.reduceLeDiff,Nat.reduceEqDiff,Nat.reduceGT,Int.reduceToNat,Int.reduceBEq,Int.reduceBNe];try simp (disch := omega) only [wrapI,wrapU,half_sum,toNat_sub1,toNat_add1,Int.toNat_natCast]))
    | ((with_reducible apply callGoal_lookA c2);(case hC=>exact trivial);(case hc=>exact CvL.cons (Cv.imm rfl) (cvl_free g2));try (simp only [go_sem,↓reduceIte,Nat.reduceAdd,Nat.reduceSub,Nat.reduceMul,Nat.reduceLT,Nat.reduceLeDiff,Nat.reduceEqDiff,Nat.reduceGT,Int.reduceToNat,Int.reduceBEq,Int.reduceBNe];try simp (disch := omega) only [wrapI,wrapU,half_sum,toNat_sub1,toNat_add1,Int.toNat_natCast]))
    | ((with_reducible apply callGoal_lookA c3);(case hC=>exact trivial);(case hc=>exact CvL.cons (Cv.imm rfl) (CvL.cons (Cv.ptr (cells2 := [pts s]) rfl rfl (cvl_free (by simp [FreeL,Free]))) CvL.nil));try (simp only [go_sem,↓reduceIte,Nat.reduceAdd,Nat.reduceSub,Nat.reduceMul,Nat.reduceLT,Nat.reduceLeDiff,Nat.reduceEqDiff,Nat.reduceGT,Int.reduceToNat,Int.reduceBEq,Int.reduceBNe];try simp (disch := omega) only [wrapI,wrapU,half_sum,toNat_sub1,toNat_add1,Int.toNat_natCast]))
    | ((with_reducible apply callGoal_lookA c4);(case hC=>exact trivial);(case hc=>exact CvL.cons (Cv.imm rfl) (CvL.cons (Cv.ptr (cells2 := [pts s]) rfl rfl (cvl_free (by simp [FreeL,Free]))) CvL.nil));try (simp only [go_sem,↓reduceIte,Nat.reduceAdd,Nat.reduceSub,Nat.reduceMul,Nat.reduceLT,Nat.reduceLeDiff,Nat.reduceEqDiff,Nat.reduceGT,Int.reduceToNat,Int.reduceBEq,Int.reduceBNe];try simp (disch := omega) only [wrapI,wrapU,half_sum,toNat_sub1,toNat_add1,Int.toNat_natCast]))
    | ((with_reducible apply DC_call);(focus exact rfl);(focus exact rfl);(focus exact rfl);intro N hN;(simp only [go_sem,↓reduceIte,Nat.reduceAdd,Nat.reduceSub,Nat.reduceMul,Nat.reduceLT,Nat.reduceLeDiff,Nat.reduceEqDiff,Nat.reduceGT,Int.reduceToNat,Int.reduceBEq,Int.reduceBNe];try simp (disch := omega) only [wrapI,wrapU,half_sum,toNat_sub1,toNat_add1,Int.toNat_natCast]))
    | ((with_reducible first|refine T_seq_region Γ_ok (fun K hK=>?_)|refine T_last_region Γ_ok (fun K hK=>?_)|refine T_seq_draw (id := 10) Γ_ok drawsAny [(0,[],[]),(1,[0],[]),(2,[0,1],[]),(3,[],[]),(4,[3],[]),(5,[3,4],[]),(6,[0,1,2,3,4,5],[]),(7,[0,1,2,3,4,5,6],[]),(8,[0,1,2,3,4,5,6,7],[])] (by kernel_rfl) (fun K hK=>?_)|refine T_last_draw (id := 10) Γ_ok drawsAny [(0,[],[]),(1,[0],[]),(2,[0,1],[]),(3,[],[]),(4,[3],[]),(5,[3,4],[]),(6,[0,1,2,3,4,5],[]),(7,[0,1,2,3,4,5,6],[]),(8,[0,1,2,3,4,5,6,7],[])] (by kernel_rfl) (fun K hK=>?_)|refine TO_callN rfl (fun N hN=>?_)|refine DCT_fork Γ_ok (fun K2 hK2=>?_)|refine DCT_last Γ_ok ?_|refine DC_ev Γ_ok ?_|refine TO_ev Γ_ok ?_|refine retQ_r ?_|refine retQ_n ?_);(simp only [go_sem,↓reduceIte,Nat.reduceAdd,Nat.reduceSub,Nat.reduceMul,Nat.reduceLT,Nat.reduceLeDiff,Nat.reduceEqDiff,Nat.reduceGT,Int.reduceToNat,Int.reduceBEq,Int.reduceBNe];try simp (disch := omega) only [wrapI,wrapU,half_sum,toNat_sub1,toNat_add1,Int.toNat_natCast]))
    | (with_reducible refine hK2 _ ?_ ?_ <;> clear hK2 K2)
    | with_reducible refine gC_false ?_ | with_reducible refine gC_true ?_ | with_reducible refine dCall_true ?_
    | (with_reducible refine hN _ _ ?_; clear hN N)
    | (with_reducible refine hN _ _ (dInl rfl) ?_; clear hN N)
    | ((with_reducible refine hN _ _ (.inr ?_) ?_);(focus (simp only [go_sem,↓reduceIte,Nat.reduceAdd,Nat.reduceSub,Nat.reduceMul,Nat.reduceLT,Nat.reduceLeDiff,Nat.reduceEqDiff,Nat.reduceGT,Int.reduceToNat,Int.reduceBEq,Int.reduceBNe];try simp (disch := omega) only [wrapI,wrapU,half_sum,toNat_sub1,toNat_add1,Int.toNat_natCast]));all_goals (try clear hN N))
    | with_reducible refine T_seq ?_|with_reducible refine T_block ?_|with_reducible refine T_ret ?_|with_reducible refine T_exit ?_|with_reducible refine T_skip ?_|with_reducible refine T_label ?_
    | with_reducible refine thenQ_n ?_|with_reducible refine thenQ_e ?_|with_reducible refine thenQ_r ?_|with_reducible refine blockQ_n ?_|with_reducible refine blockQ_e ?_|with_reducible refine blockQ_r ?_
    | with_reducible refine blockQ_o (by decide) ?_
    | ((with_reducible refine T_cond _ rfl (fun hb=>?_) (fun hb=>?_)) <;> first|(cases hb;done)|(simp only [decide_eq_true_eq,decide_eq_false_iff_not,Bool.and_eq_true,Bool.or_eq_true,Bool.and_eq_false_imp,Bool.or_eq_false_iff,Bool.not_eq_true',Bool.not_eq_false',beq_iff_eq,bne_iff_ne,ne_eq,beq_eq_false_iff_ne,bne_eq_false_iff_eq,Int.not_lt,Int.not_le,ge_iff_le,gt_iff_lt] at hb)|skip)
    | (with_reducible refine And.intro (by first | exact trivial | omega | (intro hg;simp at hg ⊢ <;> omega) | (simp <;> omega)) ?_)
    | assumption | omega)
    have z1 := h.bd (ov i % s.length)
    have z2 := h.bd (un i % s.length)
    have z3 : ov i / s.length ≤ 1000 := Nat.le_trans (Nat.div_le_self _ _) b1
    have z4 : un i / s.length ≤ 1000 := Nat.le_trans (Nat.div_le_self _ _) b2
    have w1 : Bd6 12576 (atP s (ov i)) := by
      unfold atP up12 Bd6 at *
      simp only [] at *
      generalize ov i / s.length = y at z3 ⊢
      omega
    have w2 : Bd6 12576 (atP s (un i)) := by
      unfold atP up12 Bd6 at *
      simp only [] at *
      generalize un i / s.length = y at z4 ⊢
      omega
    have c5 := valid_p (dqP s ov un i)
    have hstep : quL s ov un (i + 1) = if Bd6 576 (dqP s ov un i) then some (l ++ [dqP s ov un i]) else none := by rw [quL,k2];rfl
    have hdq : dqP s ov un i = (atP s (ov i)).sub (atP s (un i)) := rfl
    generalize atP s (ov i) = A at *
    generalize atP s (un i) = B at *
    unfold Bd6 at w1 w2
    by_cases hv : Bd6 576 (dqP s ov un i)
    · rw [if_pos hv] at hstep
      rw [decide_eq_true hv] at c5
      rw [hdq] at c5 hstep
      have hsn := fun p q => pt_snoc l (A.sub B) (i := p) (j := q)
      refine T_rounds 7 ?_
      (have dl1 := c5;have sx1 : (0 : Nat) + 0 = 0 := rfl;repeat' (first|with_reducible refine T_seq_drawT (id := 10) Γ_ok drawsAny pl44_10 (by kernel_rfl) (fun K hK=>?_)|with_reducible refine T_last_drawT (id := 10) Γ_ok drawsAny pl44_10 (by kernel_rfl) (fun K hK=>?_)|((refine goU1 _ _ _ _ _ _ _ _ _ _ _ _ ?_ ?_ ?_ ?_ ?_ ?_ ?_ ?_ ?_ ?_ ?_ ?_) <;> (repeat intro hb) <;> first|exact True.intro|refine Lf.mk ?_)))
      refine ⟨s.length - (i + 1),by omega,⟨enN f1 f2 a1 a2 s (l ++ [A.sub B]).length (i + 1),[.box 22 [pts s],ptO (l ++ [A.sub B])]⟩,?_,i + 1,l ++ [A.sub B],by omega,by omega,hstep,rfl⟩
      simp only [ptO]
      ((try simp only [List.length_append,List.length_cons,List.length_nil,Nat.zero_add]);refine Wk.intro [0,5] (by decide) (by decide) (by intro o ho;simp at ho ⊢ <;> omega) ?_ ?_ <;> repeat' (first|(exact hf1 _ _)|(exact hf2 _ _)|(exact WkV.eqF (hsn _ _ hi hj) (ptE_free _ _ _))|(refine WkV.imm ?_;congr 1;omega)|exact WkVL.nil|refine WkVL.cons ?_ ?_|exact WkV.top|exact WkV.imm rfl|exact WkV.imm (by simp)|exact WkV.optr rfl|exact WkV.own rfl (by simp)|exact WkV.nil_own (.inl rfl)|exact WkV.map rfl|(refine WkV.free ?_;simp [Free,FreeL] <;> assumption)|(refine WkV.free (fun _ _=>FreeL_nth ?_ _);simp [Free,FreeL];done)|refine WkV.agg ?_|refine WkV.tup ?_|refine WkV.fn ?_ ?_|exact WkO.dead|exact WkO.raw|refine WkO.ghost ?_|exact WkO.mpE rfl trivial|refine WkO.box ?_ rfl|refine WkO.arr ?_|refine And.intro ?_ (And.intro (by first|exact fun h=>h|exact fun _=>rfl|exact nofun) ?_)|exact trivial|(intro i j hi hj)))
    · rw [if_neg hv] at hstep
      rw [decide_eq_false hv] at c5
      rw [hdq] at c5
      have hno : quL s ov un s.length = none := by
        have := quL_none hstep (s.length - (i + 1))
        rwa [show i + 1 + (s.length - (i + 1)) = s.length by omega] at this
      refine T_rounds 7 ?_
      (have dl1 := c5;have sx1 : (0 : Nat) + 0 = 0 := rfl;repeat' (first|with_reducible refine T_seq_drawT (id := 10) Γ_ok drawsAny pl44_10 (by kernel_rfl) (fun K hK=>?_)|with_reducible refine T_last_drawT (id := 10) Γ_ok drawsAny pl44_10 (by kernel_rfl) (fun K hK=>?_)|((refine goU1 _ _ _ _ _ _ _ _ _ _ _ _ ?_ ?_ ?_ ?_ ?_ ?_ ?_ ?_ ?_ ?_ ?_ ?_) <;> (repeat intro hb) <;> first|exact True.intro|refine Lf.mk ?_)))
      exact q1 hno _
  · obtain rfl : i = s.length := by omega
    (simp only [go_sem,↓reduceIte,Nat.reduceAdd,Nat.reduceSub,Nat.reduceMul,Nat.reduceLT,Nat.reduceLeDiff,Nat.reduceEqDiff,Nat.reduceGT,Int.reduceToNat,Int.reduceBEq,Int.reduceBNe];try simp (disch := omega) only [wrapI,wrapU,half_sum,toNat_sub1,toNat_add1,Int.toNat_natCast])
    (have sx1 : (0 : Nat) + 0 = 0 := rfl;repeat' (first|with_reducible refine T_seq_drawT (id := 10) Γ_ok drawsAny pl44_10 (by kernel_rfl) (fun K hK=>?_)|with_reducible refine T_last_drawT (id := 10) Γ_ok drawsAny pl44_10 (by kernel_rfl) (fun K hK=>?_)|((refine goU1 _ _ _ _ _ _ _ _ _ _ _ _ ?_ ?_ ?_ ?_ ?_ ?_ ?_ ?_ ?_ ?_ ?_ ?_) <;> (repeat intro hb) <;> first|exact True.intro|refine Lf.mk ?_)))
    exact q2 l _ 1 k2 rfl
end Go.Proofs.YtdglbjjenihdlaaDoor
