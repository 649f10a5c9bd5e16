/-
  chain: Through, Shortest.
-/
import Derived.Test.YtmglcamgpgkblaaQGo
import Derived.Test.YtmglcamgpgkblaaQB12
set_option linter.unusedSimpArgs false
set_option linter.unusedVariables false
namespace Go.Proofs.Ytmglcamgpgkblaa
open Go.Ab
@[go_sem, reducible] def resA (r : List Sp × P6 × Int) : AV := .tup [sps r.1, p6A r.2.1, .imm (.int .i64 r.2.2)]
theorem resA_nil {σ1 : List AObj} {r : List Sp × P6 × Int} {e : Int} (h : r = ([],z6,e)) : Fz σ1 (.tup [.imm (.slice none 0 0),.agg [.imm (.int .i64 0),.imm (.int .i64 0),.imm (.int .i64 0),.imm (.int .i64 0),.imm (.int .i64 0),.imm (.int .i64 0)],.imm (.int .i64 e)]) (resA r) := by
  subst h
  exact Fz.tup (FzL.cons Fz.nil (FzL.cons (Fz.pl (by simp [Pl, PlL])) (FzL.cons (Fz.pl trivial) FzL.nil)))
theorem resA_own {σ1 : List AObj} {l : List Sp} {v : P6} {e : Int} {k : Nat} {c : Option Nat} {r : List Sp × P6 × Int} (h : r = (l,v,e)) (hob : nthO σ1 k = spO l) : Fz σ1 (.tup [.own k 0 l.length c,p6A v,.imm (.int .i64 e)]) (resA r) := by
  subst h
  refine Fz.tup (FzL.cons (Fz.own hob (by omega) fun i j _ _ => ?_) (FzL.cons (Fz.pl (by simp [Pl,PlL])) (FzL.cons (Fz.pl trivial) FzL.nil)))
  rw [Nat.zero_add]; exact Fz.pl (spE_pl _ _ _)
theorem stps_ne {E : Gf} {n : Nat} {w : List Nat} (h : w ≠ []) : stps E n w ≠ [] := fun e => h (List.length_eq_zero_iff.1 (by rw [← stps_len E n w,e];rfl))
theorem pd_res {s : Sc} (hs : ScOk s) {n : Nat} {w : List Nat} (h : Opn (stepR s) n w) : resR (stepR s) n w = (stps (stepR s) n w,(pdR s (stps (stepR s) n w)).1,(pdR s (stps (stepR s) n w)).2) := by
  obtain ⟨p, h1, h2, h3⟩ := res_ok h
  unfold pdR
  rw [h3, prodS_stps (stepR_ok hs) h.ne h.1 h1]
set_option maxRecDepth 100000 in
set_option maxHeartbeats 4000000 in
theorem Through_fresh (s : Sc) (hl : ScL s) (n : Int) : Fresh Try.prog 16 [scA s,.imm (.int .i64 n)] (resA (thR s n)) := by
  have c1 := valid_tc s hl
  unfold Fresh
  generalize hQ : (fun (u : AV) (σ1 : List AObj) => Fz σ1 u (resA (thR s n))) = Q
  by_cases hs : ScOk s
  · rw [tf_t hs] at c1
    have hsz := hs.sz
    unfold SzOk at hsz
    have c2 := newGraph_fresh s hl hs
    by_cases hn : 0 ≤ n ∧ n < s.notes.length
    · obtain ⟨k, rfl⟩ := Int.eq_ofNat_of_zero_le hn.1
      have hk : k < s.notes.length := by omega
      have hres : thR s (k : Int) = resR (stepR s) k (thr (stepR s) s.notes.length k (2 * s.notes.length)) := by
        unfold thR; rw [if_pos ⟨tf_t hs, hn.1, hn.2⟩, Int.toNat_natCast]
      have e2 : ((2 * s.notes.length : Nat) : Int) = 2 * (s.notes.length : Int) := by omega
      by_cases ht : thr (stepR s) s.notes.length k (2 * s.notes.length) = []
      · have c3 := through_nil s hs k hk (2 * s.notes.length) (by omega) ht
        rw [e2] at c3
        rw [ht, res_nil] at hres
        (refine TC_of_T Γ_ok Try.func16 rfl (by kernel_rfl) ?_;simp only [Try.ntmps16,Try.results16,List.length_cons,List.length_nil,Nat.reduceSub,Nat.reduceAdd,List.replicate,List.cons_append,List.nil_append])
        repeat' (first
    | (with_reducible refine hK _ ?_; clear hK K)
    | ((with_reducible first|apply callGoal_freshA c2|apply dCall_freshA c2);(case hC=>exact trivial);(case hc=>exact cvl);try (simp only [go_sem,↓reduceIte,Nat.reduceAdd,Nat.reduceSub,Nat.reduceMul,Nat.reduceLT,Nat.reduceLeDiff,Nat.reduceEqDiff,Nat.reduceGT,Int.reduceToNat,Int.reduceBEq,Int.reduceBNe];try simp (disch := omega) only [wrapI,wrapU,half_sum,toNat_sub1,toNat_add1,Int.toNat_natCast]))
    | ((with_reducible refine callGoal_inline Γ_ok Try.func31 rfl (by kernel_rfl) (by first|exact trivial|(simp only [go_sem,and_self];done)|(simp only [go_sem];omega)) ?_);simp only [Try.ntmps31,Try.results31,List.length_cons,List.length_nil,Nat.reduceSub,Nat.reduceAdd,List.replicate,List.cons_append,List.nil_append])
    | ((with_reducible first|apply callGoal_lookA (c1)|apply dCall_lookA (c1)|apply callGoal_lookA (c3)|apply dCall_lookA (c3));(case hC=>first|exact trivial|(simp only [go_sem,and_self];done)|(simp only [go_sem];omega));(case hc=>((repeat' (first|exact CvL.nil|exact Cv.nil_view|refine CvL.cons ?_ ?_|exact Cv.imm rfl|(refine Cv.free ?_;simp [Free,FreeL] <;> assumption)|(refine Cv.free (fun _ _=>FreeL_nth ?_ _);simp [Free,FreeL];done)|refine Cv.agg ?_|(apply Cv.own;(case hob=>(with_unfolding_all exact rfl));(case hz=>decide);(case hE=>(first|(intro _ _ _ _;rfl)|(intro i j hi hj;(rcases i with _ | _|i) <;> (rcases j with _ | _ | _ | _|j) <;> first|rfl|(exfalso;omega))));(case hf=>(intro _ _;simp;done)))|(refine Cv.pvE ?_ ?_ (by decide);(focus (first|(intro _ _ _ _;rfl)|(intro i j hi hj;(rcases i with _ | _|i) <;> (rcases j with _ | _ | _ | _|j) <;> first|rfl|(exfalso;omega))));(focus (intro _ _;simp;done)))|(apply Cv.ownS;(case hob=>(with_unfolding_all exact rfl));(case hz=>decide);(case hle=>(first|omega|(simp only [decide_eq_true_eq] at hg;omega)|(simp;omega)));(case hE=>(intro _ _ _ _;first|(rw [Nat.zero_add];done)|(rw [Nat.zero_add];rfl)));(case hf=>(intro _ _;simp;done)))|(refine Cv.viewE (by decide) ?_ ?_;(focus (intro _ _ _ _;first|rfl));(focus (intro _ _;simp;done)))|refine Cv.ptr (by with_unfolding_all rfl) (by with_unfolding_all rfl) ?_|refine Cv.fn ?_ ?_));done)))
    | ((with_reducible first|apply gC_lookA (fun hg=>(c1))|apply dCall_lookGA (fun hg=>(c1))|apply gC_lookA (fun hg=>(c3))|apply dCall_lookGA (fun hg=>(c3)));(case hC=>(intro hg;first|exact trivial|exact hg|(simp only [hg,and_self,implies_true];done)|(simp only [go_sem,hg,and_self,implies_true];done)));(case hc=>(intro hg;((repeat' (first|exact CvL.nil|exact Cv.nil_view|refine CvL.cons ?_ ?_|exact Cv.imm rfl|(refine Cv.free ?_;simp [Free,FreeL] <;> assumption)|(refine Cv.free (fun _ _=>FreeL_nth ?_ _);simp [Free,FreeL];done)|refine Cv.agg ?_|(apply Cv.own;(case hob=>(with_unfolding_all exact rfl));(case hz=>decide);(case hE=>(first|(intro _ _ _ _;rfl)|(intro i j hi hj;(rcases i with _ | _|i) <;> (rcases j with _ | _ | _ | _|j) <;> first|rfl|(exfalso;omega))));(case hf=>(intro _ _;simp;done)))|(refine Cv.pvE ?_ ?_ (by decide);(focus (first|(intro _ _ _ _;rfl)|(intro i j hi hj;(rcases i with _ | _|i) <;> (rcases j with _ | _ | _ | _|j) <;> first|rfl|(exfalso;omega))));(focus (intro _ _;simp;done)))|(apply Cv.ownS;(case hob=>(with_unfolding_all exact rfl));(case hz=>decide);(case hle=>(first|omega|(simp only [decide_eq_true_eq] at hg;omega)|(simp;omega)));(case hE=>(intro _ _ _ _;first|(rw [Nat.zero_add];done)|(rw [Nat.zero_add];rfl)));(case hf=>(intro _ _;simp;done)))|(refine Cv.viewE (by decide) ?_ ?_;(focus (intro _ _ _ _;first|rfl));(focus (intro _ _;simp;done)))|refine Cv.ptr (by with_unfolding_all rfl) (by with_unfolding_all rfl) ?_|refine Cv.fn ?_ ?_));done))))
    | ((with_reducible apply DC_call);(focus exact rfl);(focus exact rfl);(focus exact rfl);intro N hN;(simp only [go_sem,↓reduceIte,Nat.reduceAdd,Nat.reduceSub,Nat.reduceMul,Nat.reduceLT,Nat.reduceLeDiff,Nat.reduceEqDiff,Nat.reduceGT,Int.reduceToNat,Int.reduceBEq,Int.reduceBNe];try simp (disch := omega) only [wrapI,wrapU,half_sum,toNat_sub1,toNat_add1,Int.toNat_natCast]))
    | ((with_reducible first|refine T_seq_region Γ_ok (fun K hK=>?_)|refine T_last_region Γ_ok (fun K hK=>?_)|refine TO_callN rfl (fun N hN=>?_)|refine DCT_fork Γ_ok (fun K2 hK2=>?_)|refine DCT_last Γ_ok ?_|refine DC_ev Γ_ok ?_|refine TO_ev Γ_ok ?_|refine retQ_r ?_|refine retQ_n ?_);(simp only [go_sem,↓reduceIte,Nat.reduceAdd,Nat.reduceSub,Nat.reduceMul,Nat.reduceLT,Nat.reduceLeDiff,Nat.reduceEqDiff,Nat.reduceGT,Int.reduceToNat,Int.reduceBEq,Int.reduceBNe];try simp (disch := omega) only [wrapI,wrapU,half_sum,toNat_sub1,toNat_add1,Int.toNat_natCast]))
    | (with_reducible refine hK2 _ ?_ ?_ <;> clear hK2 K2)
    | with_reducible refine gC_false ?_ | with_reducible refine gC_true ?_ | with_reducible refine dCall_true ?_
    | (with_reducible refine hN _ _ ?_; clear hN N)
    | (with_reducible refine hN _ _ (dInl rfl) ?_; clear hN N)
    | ((with_reducible refine hN _ _ (.inr ?_) ?_);(focus (simp only [go_sem,↓reduceIte,Nat.reduceAdd,Nat.reduceSub,Nat.reduceMul,Nat.reduceLT,Nat.reduceLeDiff,Nat.reduceEqDiff,Nat.reduceGT,Int.reduceToNat,Int.reduceBEq,Int.reduceBNe];try simp (disch := omega) only [wrapI,wrapU,half_sum,toNat_sub1,toNat_add1,Int.toNat_natCast]));all_goals (try clear hN N))
    | with_reducible refine T_seq ?_|with_reducible refine T_block ?_|with_reducible refine T_ret ?_|with_reducible refine T_exit ?_|with_reducible refine T_skip ?_|with_reducible refine T_label ?_
    | with_reducible refine thenQ_n ?_|with_reducible refine thenQ_e ?_|with_reducible refine thenQ_r ?_|with_reducible refine blockQ_n ?_|with_reducible refine blockQ_e ?_|with_reducible refine blockQ_r ?_
    | with_reducible refine blockQ_o (by decide) ?_
    | ((with_reducible refine T_cond _ rfl (fun hb=>?_) (fun hb=>?_)) <;> first|(cases hb;done)|(simp only [decide_eq_true_eq,decide_eq_false_iff_not,Bool.and_eq_true,Bool.or_eq_true,Bool.and_eq_false_imp,Bool.or_eq_false_iff,Bool.not_eq_true',Bool.not_eq_false',beq_iff_eq,bne_iff_ne,ne_eq,beq_eq_false_iff_ne,bne_eq_false_iff_eq,Int.not_lt,Int.not_le,ge_iff_le,gt_iff_lt] at hb)|skip)
    | (with_reducible refine And.intro (by first | exact trivial | omega | (intro hg;simp at hg ⊢ <;> omega) | (simp <;> omega)) ?_)
    | assumption | omega)
        rw [← hQ]; exact resA_nil hres
      · have c3 := through_own s hs k hk (2 * s.notes.length) (by omega) ht
        rw [e2] at c3
        obtain ⟨t1, t2⟩ := thr_get (stepR_ok hs) ht
        have hres2 := pd_res hs t1
        rw [← hres] at hres2
        have hne := stps_ne (E := stepR s) (n := k) ht
        have hlen := stps_len (stepR s) k (thr (stepR s) s.notes.length k (2 * s.notes.length))
        generalize stps (stepR s) k (thr (stepR s) s.notes.length k (2 * s.notes.length)) = st at c3 hres2 hne hlen
        have c4 := product_tc s hs st hne (by omega)
        have hp := List.length_pos_iff.2 hne
        (refine TC_of_T Γ_ok Try.func16 rfl (by kernel_rfl) ?_;simp only [Try.ntmps16,Try.results16,List.length_cons,List.length_nil,Nat.reduceSub,Nat.reduceAdd,List.replicate,List.cons_append,List.nil_append])
        repeat' (first
    | (with_reducible refine hK _ ?_; clear hK K)
    | ((with_reducible first|apply callGoal_freshA c2|apply dCall_freshA c2);(case hC=>exact trivial);(case hc=>exact cvl);try (simp only [go_sem,↓reduceIte,Nat.reduceAdd,Nat.reduceSub,Nat.reduceMul,Nat.reduceLT,Nat.reduceLeDiff,Nat.reduceEqDiff,Nat.reduceGT,Int.reduceToNat,Int.reduceBEq,Int.reduceBNe];try simp (disch := omega) only [wrapI,wrapU,half_sum,toNat_sub1,toNat_add1,Int.toNat_natCast]))
    | ((with_reducible apply callGoal_makeA (c3));(case hC=>first|exact trivial|(simp only [go_sem,and_self];done)|(simp only [go_sem];omega));(case hc=>((repeat' (first|exact CvL.nil|exact Cv.nil_view|refine CvL.cons ?_ ?_|exact Cv.imm rfl|(refine Cv.free ?_;simp [Free,FreeL] <;> assumption)|(refine Cv.free (fun _ _=>FreeL_nth ?_ _);simp [Free,FreeL];done)|refine Cv.agg ?_|(apply Cv.own;(case hob=>(with_unfolding_all exact rfl));(case hz=>decide);(case hE=>(first|(intro _ _ _ _;rfl)|(intro i j hi hj;(rcases i with _ | _|i) <;> (rcases j with _ | _ | _ | _|j) <;> first|rfl|(exfalso;omega))));(case hf=>(intro _ _;simp;done)))|(refine Cv.pvE ?_ ?_ (by decide);(focus (first|(intro _ _ _ _;rfl)|(intro i j hi hj;(rcases i with _ | _|i) <;> (rcases j with _ | _ | _ | _|j) <;> first|rfl|(exfalso;omega))));(focus (intro _ _;simp;done)))|(apply Cv.ownS;(case hob=>(with_unfolding_all exact rfl));(case hz=>decide);(case hle=>(first|omega|(simp only [decide_eq_true_eq] at hg;omega)|(simp;omega)));(case hE=>(intro _ _ _ _;first|(rw [Nat.zero_add];done)|(rw [Nat.zero_add];rfl)));(case hf=>(intro _ _;simp;done)))|(refine Cv.viewE (by decide) ?_ ?_;(focus (intro _ _ _ _;first|rfl));(focus (intro _ _;simp;done)))|refine Cv.ptr (by with_unfolding_all rfl) (by with_unfolding_all rfl) ?_|refine Cv.fn ?_ ?_));done));(case' hn=>(simp only [go_sem,↓reduceIte,Nat.reduceAdd,Nat.reduceSub,Nat.reduceMul,Nat.reduceLT,Nat.reduceLeDiff,Nat.reduceEqDiff,Nat.reduceGT,Int.reduceToNat,Int.reduceBEq,Int.reduceBNe];try simp (disch := omega) only [wrapI,wrapU,half_sum,toNat_sub1,toNat_add1,Int.toNat_natCast])))
    | ((with_reducible apply dCall_makeA (c3));(case hC=>first|exact trivial|(simp only [go_sem,and_self];done)|(simp only [go_sem];omega));(case hc=>((repeat' (first|exact CvL.nil|exact Cv.nil_view|refine CvL.cons ?_ ?_|exact Cv.imm rfl|(refine Cv.free ?_;simp [Free,FreeL] <;> assumption)|(refine Cv.free (fun _ _=>FreeL_nth ?_ _);simp [Free,FreeL];done)|refine Cv.agg ?_|(apply Cv.own;(case hob=>(with_unfolding_all exact rfl));(case hz=>decide);(case hE=>(first|(intro _ _ _ _;rfl)|(intro i j hi hj;(rcases i with _ | _|i) <;> (rcases j with _ | _ | _ | _|j) <;> first|rfl|(exfalso;omega))));(case hf=>(intro _ _;simp;done)))|(refine Cv.pvE ?_ ?_ (by decide);(focus (first|(intro _ _ _ _;rfl)|(intro i j hi hj;(rcases i with _ | _|i) <;> (rcases j with _ | _ | _ | _|j) <;> first|rfl|(exfalso;omega))));(focus (intro _ _;simp;done)))|(apply Cv.ownS;(case hob=>(with_unfolding_all exact rfl));(case hz=>decide);(case hle=>(first|omega|(simp only [decide_eq_true_eq] at hg;omega)|(simp;omega)));(case hE=>(intro _ _ _ _;first|(rw [Nat.zero_add];done)|(rw [Nat.zero_add];rfl)));(case hf=>(intro _ _;simp;done)))|(refine Cv.viewE (by decide) ?_ ?_;(focus (intro _ _ _ _;first|rfl));(focus (intro _ _;simp;done)))|refine Cv.ptr (by with_unfolding_all rfl) (by with_unfolding_all rfl) ?_|refine Cv.fn ?_ ?_));done));(case' hn=>(simp only [go_sem,↓reduceIte,Nat.reduceAdd,Nat.reduceSub,Nat.reduceMul,Nat.reduceLT,Nat.reduceLeDiff,Nat.reduceEqDiff,Nat.reduceGT,Int.reduceToNat,Int.reduceBEq,Int.reduceBNe];try simp (disch := omega) only [wrapI,wrapU,half_sum,toNat_sub1,toNat_add1,Int.toNat_natCast])))
    | ((with_reducible refine callGoal_inline Γ_ok Try.func31 rfl (by kernel_rfl) (by first|exact trivial|(simp only [go_sem,and_self];done)|(simp only [go_sem];omega)) ?_);simp only [Try.ntmps31,Try.results31,List.length_cons,List.length_nil,Nat.reduceSub,Nat.reduceAdd,List.replicate,List.cons_append,List.nil_append])
    | ((with_reducible first|apply callGoal_lookA (c1)|apply dCall_lookA (c1)|apply callGoal_lookA (c4)|apply dCall_lookA (c4));(case hC=>first|exact trivial|(simp only [go_sem,and_self];done)|(simp only [go_sem];omega));(case hc=>((repeat' (first|exact CvL.nil|exact Cv.nil_view|refine CvL.cons ?_ ?_|exact Cv.imm rfl|(refine Cv.free ?_;simp [Free,FreeL] <;> assumption)|(refine Cv.free (fun _ _=>FreeL_nth ?_ _);simp [Free,FreeL];done)|refine Cv.agg ?_|(apply Cv.own;(case hob=>(with_unfolding_all exact rfl));(case hz=>decide);(case hE=>(first|(intro _ _ _ _;rfl)|(intro i j hi hj;(rcases i with _ | _|i) <;> (rcases j with _ | _ | _ | _|j) <;> first|rfl|(exfalso;omega))));(case hf=>(intro _ _;simp;done)))|(refine Cv.pvE ?_ ?_ (by decide);(focus (first|(intro _ _ _ _;rfl)|(intro i j hi hj;(rcases i with _ | _|i) <;> (rcases j with _ | _ | _ | _|j) <;> first|rfl|(exfalso;omega))));(focus (intro _ _;simp;done)))|(apply Cv.ownS;(case hob=>(with_unfolding_all exact rfl));(case hz=>decide);(case hle=>(first|omega|(simp only [decide_eq_true_eq] at hg;omega)|(simp;omega)));(case hE=>(intro _ _ _ _;first|(rw [Nat.zero_add];done)|(rw [Nat.zero_add];rfl)));(case hf=>(intro _ _;simp;done)))|(refine Cv.viewE (by decide) ?_ ?_;(focus (intro _ _ _ _;first|rfl));(focus (intro _ _;simp;done)))|refine Cv.ptr (by with_unfolding_all rfl) (by with_unfolding_all rfl) ?_|refine Cv.fn ?_ ?_));done)))
    | ((with_reducible first|apply gC_lookA (fun hg=>(c1))|apply dCall_lookGA (fun hg=>(c1))|apply gC_lookA (fun hg=>(c4))|apply dCall_lookGA (fun hg=>(c4)));(case hC=>(intro hg;first|exact trivial|exact hg|(simp only [hg,and_self,implies_true];done)|(simp only [go_sem,hg,and_self,implies_true];done)));(case hc=>(intro hg;((repeat' (first|exact CvL.nil|exact Cv.nil_view|refine CvL.cons ?_ ?_|exact Cv.imm rfl|(refine Cv.free ?_;simp [Free,FreeL] <;> assumption)|(refine Cv.free (fun _ _=>FreeL_nth ?_ _);simp [Free,FreeL];done)|refine Cv.agg ?_|(apply Cv.own;(case hob=>(with_unfolding_all exact rfl));(case hz=>decide);(case hE=>(first|(intro _ _ _ _;rfl)|(intro i j hi hj;(rcases i with _ | _|i) <;> (rcases j with _ | _ | _ | _|j) <;> first|rfl|(exfalso;omega))));(case hf=>(intro _ _;simp;done)))|(refine Cv.pvE ?_ ?_ (by decide);(focus (first|(intro _ _ _ _;rfl)|(intro i j hi hj;(rcases i with _ | _|i) <;> (rcases j with _ | _ | _ | _|j) <;> first|rfl|(exfalso;omega))));(focus (intro _ _;simp;done)))|(apply Cv.ownS;(case hob=>(with_unfolding_all exact rfl));(case hz=>decide);(case hle=>(first|omega|(simp only [decide_eq_true_eq] at hg;omega)|(simp;omega)));(case hE=>(intro _ _ _ _;first|(rw [Nat.zero_add];done)|(rw [Nat.zero_add];rfl)));(case hf=>(intro _ _;simp;done)))|(refine Cv.viewE (by decide) ?_ ?_;(focus (intro _ _ _ _;first|rfl));(focus (intro _ _;simp;done)))|refine Cv.ptr (by with_unfolding_all rfl) (by with_unfolding_all rfl) ?_|refine Cv.fn ?_ ?_));done))))
    | ((with_reducible apply DC_call);(focus exact rfl);(focus exact rfl);(focus exact rfl);intro N hN;(simp only [go_sem,↓reduceIte,Nat.reduceAdd,Nat.reduceSub,Nat.reduceMul,Nat.reduceLT,Nat.reduceLeDiff,Nat.reduceEqDiff,Nat.reduceGT,Int.reduceToNat,Int.reduceBEq,Int.reduceBNe];try simp (disch := omega) only [wrapI,wrapU,half_sum,toNat_sub1,toNat_add1,Int.toNat_natCast]))
    | ((with_reducible first|refine T_seq_region Γ_ok (fun K hK=>?_)|refine T_last_region Γ_ok (fun K hK=>?_)|refine T_seq_draw (id := 4) Γ_ok drawsAny [(0,[],[]),(1,[],[]),(2,[],[]),(3,[0],[]),(4,[0,1,3],[2]),(5,[0,1,2,3,4],[])] (by kernel_rfl) (fun K hK=>?_)|refine T_last_draw (id := 4) Γ_ok drawsAny [(0,[],[]),(1,[],[]),(2,[],[]),(3,[0],[]),(4,[0,1,3],[2]),(5,[0,1,2,3,4],[])] (by kernel_rfl) (fun K hK=>?_)|refine TO_callN rfl (fun N hN=>?_)|refine DCT_fork Γ_ok (fun K2 hK2=>?_)|refine DCT_last Γ_ok ?_|refine DC_ev Γ_ok ?_|refine TO_ev Γ_ok ?_|refine retQ_r ?_|refine retQ_n ?_);(simp only [go_sem,↓reduceIte,Nat.reduceAdd,Nat.reduceSub,Nat.reduceMul,Nat.reduceLT,Nat.reduceLeDiff,Nat.reduceEqDiff,Nat.reduceGT,Int.reduceToNat,Int.reduceBEq,Int.reduceBNe];try simp (disch := omega) only [wrapI,wrapU,half_sum,toNat_sub1,toNat_add1,Int.toNat_natCast]))
    | (with_reducible refine hK2 _ ?_ ?_ <;> clear hK2 K2)
    | with_reducible refine gC_false ?_ | with_reducible refine gC_true ?_ | with_reducible refine dCall_true ?_
    | (with_reducible refine hN _ _ ?_; clear hN N)
    | (with_reducible refine hN _ _ (dInl rfl) ?_; clear hN N)
    | ((with_reducible refine hN _ _ (.inr ?_) ?_);(focus (simp only [go_sem,↓reduceIte,Nat.reduceAdd,Nat.reduceSub,Nat.reduceMul,Nat.reduceLT,Nat.reduceLeDiff,Nat.reduceEqDiff,Nat.reduceGT,Int.reduceToNat,Int.reduceBEq,Int.reduceBNe];try simp (disch := omega) only [wrapI,wrapU,half_sum,toNat_sub1,toNat_add1,Int.toNat_natCast]));all_goals (try clear hN N))
    | with_reducible refine T_seq ?_|with_reducible refine T_block ?_|with_reducible refine T_ret ?_|with_reducible refine T_exit ?_|with_reducible refine T_skip ?_|with_reducible refine T_label ?_
    | with_reducible refine thenQ_n ?_|with_reducible refine thenQ_e ?_|with_reducible refine thenQ_r ?_|with_reducible refine blockQ_n ?_|with_reducible refine blockQ_e ?_|with_reducible refine blockQ_r ?_
    | with_reducible refine blockQ_o (by decide) ?_
    | ((with_reducible refine T_cond _ rfl (fun hb=>?_) (fun hb=>?_)) <;> first|(cases hb;done)|(simp only [decide_eq_true_eq,decide_eq_false_iff_not,Bool.and_eq_true,Bool.or_eq_true,Bool.and_eq_false_imp,Bool.or_eq_false_iff,Bool.not_eq_true',Bool.not_eq_false',beq_iff_eq,bne_iff_ne,ne_eq,beq_eq_false_iff_ne,bne_eq_false_iff_eq,Int.not_lt,Int.not_le,ge_iff_le,gt_iff_lt] at hb)|skip)
    | (with_reducible refine And.intro (by first | exact trivial | omega | (intro hg;simp at hg ⊢ <;> omega) | (simp <;> omega)) ?_)
    | assumption | omega)
        rw [← hQ]; exact resA_own (v := (pdR s st).1) hres2 rfl
    · have hres : thR s n = ([], z6, 1) := by unfold thR; rw [if_neg (by intro h; exact hn h.2)]
      (refine TC_of_T Γ_ok Try.func16 rfl (by kernel_rfl) ?_;simp only [Try.ntmps16,Try.results16,List.length_cons,List.length_nil,Nat.reduceSub,Nat.reduceAdd,List.replicate,List.cons_append,List.nil_append])
      (have cl1 := c1;((have sx1 := Nat.add_zero 0;refine goU1 _ _ _ _ _ _ _ _ _ _ _ _ ?_ ?_ ?_ ?_ ?_ ?_ ?_ ?_ ?_ ?_ ?_ ?_) <;> (repeat intro hb) <;> first | exact True.intro | refine Lf.mk ?_))
      rw [← hQ]; exact resA_nil hres
  · rw [tf_f hs] at c1
    have hres : thR s n = ([], z6, 1) := by unfold thR; rw [if_neg (by rw [tf_f hs]; simp)]
    (refine TC_of_T Γ_ok Try.func16 rfl (by kernel_rfl) ?_;simp only [Try.ntmps16,Try.results16,List.length_cons,List.length_nil,Nat.reduceSub,Nat.reduceAdd,List.replicate,List.cons_append,List.nil_append])
    (have cl1 := c1;((have sx1 := Nat.add_zero 0;refine goU1 _ _ _ _ _ _ _ _ _ _ _ _ ?_ ?_ ?_ ?_ ?_ ?_ ?_ ?_ ?_ ?_ ?_ ?_) <;> (repeat intro hb) <;> first | exact True.intro | refine Lf.mk ?_))
    rw [← hQ]; exact resA_nil hres
def bst (s : Sc) (k : Nat) : List Sp := stps (stepR s) (srt (stepR s) s.notes.length k).1.1 (srt (stepR s) s.notes.length k).1.2
def bmo (s : Sc) (k : Nat) : Nat := (srt (stepR s) s.notes.length k).2
theorem bst_no {s : Sc} {k : Nat} (h : thr (stepR s) s.notes.length k (bmo s k) = []) : bst s (k + 1) = bst s k ∧ bmo s (k + 1) = bmo s k := by
  unfold bst bmo at *
  rw [srt, if_pos h]; exact ⟨rfl, rfl⟩
theorem bst_yes {s : Sc} {k : Nat} (h : thr (stepR s) s.notes.length k (bmo s k) ≠ []) : bst s (k + 1) = stps (stepR s) k (thr (stepR s) s.notes.length k (bmo s k)) ∧ bmo s (k + 1) = (stps (stepR s) k (thr (stepR s) s.notes.length k (bmo s k))).length - 1 := by
  unfold bst bmo at *
  rw [srt, if_neg h, stps_len]; exact ⟨rfl, rfl⟩
@[go_sem,reducible] def enS (s : Sc) (k : Nat) : List AV := [.top,.optr 0 0 0,.imm (.slice none 0 0),.optr 1 0 0,.imm (.int .i64 0),graphV s,.own 2 0 (bst s k).length none,.imm (.int .i64 (bmo s k))] ++ List.replicate 11 .top ++ [.imm (.int .i64 s.notes.length),.imm (.int .i64 k)] ++ List.replicate 19 .top
@[go_sem, reducible] def fxS (s : Sc) (k : Nat) : List AObj := [.box 26 (scL s), .box 31 (p6L z6), spO (bst s k)]
set_option maxRecDepth 100000 in
set_option maxHeartbeats 4000000 in
theorem Shortest_fresh (s : Sc) (hl : ScL s) : Fresh Try.prog 19 [scA s] (resA (shR s)) := by
  have c1 := valid_tc s hl
  unfold Fresh
  generalize hQ : (fun (u : AV) (σ1 : List AObj) => Fz σ1 u (resA (shR s))) = Q
  by_cases hs : ScOk s
  · rw [tf_t hs] at c1
    have hsz := hs.sz
    unfold SzOk at hsz
    have hE := stepR_ok hs
    have c2 := newGraph_fresh s hl hs
    have hres : shR s = resR (stepR s) (srt (stepR s) s.notes.length s.notes.length).1.1 (srt (stepR s) s.notes.length s.notes.length).1.2 := by
      unfold shR; rw [if_pos (tf_t hs)]
    (refine TC_of_T Γ_ok Try.func19 rfl (by kernel_rfl) ?_;simp only [Try.ntmps19,Try.results19,List.length_cons,List.length_nil,Nat.reduceSub,Nat.reduceAdd,List.replicate,List.cons_append,List.nil_append])
    (have cl1 := c1;have cf1 := c2;((have sx1 := Nat.add_zero 0;refine goU1 _ _ _ _ _ _ _ _ _ _ _ _ ?_ ?_ ?_ ?_ ?_ ?_ ?_ ?_ ?_ ?_ ?_ ?_) <;> (repeat intro hb) <;> first|exact True.intro|refine Lf.mk ?_))
    refine T_loopW (fun m st => ∃ k : Nat, k ≤ s.notes.length ∧ m + k = s.notes.length ∧ st = ⟨enS s k, fxS s k⟩)
      s.notes.length ⟨_, Wk.trans (Wk.push 41 3 (spE [])) ?_, 0, by omega, rfl, rfl⟩ ?_
    · ((try simp only [List.length_append,List.length_cons,List.length_nil,Nat.zero_add]);refine Wk.intro [0,1,2] (by decide) (by decide) (by intro o ho;simp at ho ⊢ <;> omega) ?_ ?_ <;> repeat' (first|exact WkVL.nil|refine WkVL.cons ?_ ?_|exact WkV.top|exact WkV.imm rfl|exact WkV.imm (by simp)|exact WkV.optr rfl|exact WkV.own rfl (by simp)|exact WkV.nil_own (.inl rfl)|exact WkV.map rfl|(refine WkV.free ?_;simp [Free,FreeL] <;> assumption)|(refine WkV.free (fun _ _=>FreeL_nth ?_ _);simp [Free,FreeL];done)|refine WkV.agg ?_|refine WkV.tup ?_|refine WkV.fn ?_ ?_|exact WkO.dead|exact WkO.raw|refine WkO.ghost ?_|exact WkO.mpE rfl trivial|refine WkO.box ?_ rfl|refine WkO.arr ?_|refine And.intro ?_ (And.intro (by first|exact fun h=>h|exact fun _=>rfl|exact nofun) ?_)|exact trivial|(intro i j hi hj)))
    rintro m st ⟨k, h0, h1, rfl⟩
    have hmo := (srt_spec hE k).1
    by_cases hk : k < s.notes.length
    · by_cases ht : thr (stepR s) s.notes.length k (bmo s k) = []
      · have c3 := through_nil s hs k hk (bmo s k) (by unfold bmo; omega) ht
        obtain ⟨b1, b2⟩ := bst_no ht
        (simp only [go_sem,↓reduceIte,Nat.reduceAdd,Nat.reduceSub,Nat.reduceMul,Nat.reduceLT,Nat.reduceLeDiff,Nat.reduceEqDiff,Nat.reduceGT,Int.reduceToNat,Int.reduceBEq,Int.reduceBNe];try simp (disch := omega) only [wrapI,wrapU,half_sum,toNat_sub1,toNat_add1,Int.toNat_natCast])
        (have cl1 := c3;((have sx1 := Nat.add_zero 0;refine goU1 _ _ _ _ _ _ _ _ _ _ _ _ ?_ ?_ ?_ ?_ ?_ ?_ ?_ ?_ ?_ ?_ ?_ ?_) <;> (repeat intro hb) <;> first | exact True.intro | refine Lf.mk ?_))
        refine ⟨s.notes.length - (k + 1), by omega, ⟨enS s (k + 1), fxS s (k + 1)⟩, ?_, k + 1, by omega, by omega, rfl⟩
        simp only [enS, fxS, b1, b2]
        ((try simp only [List.length_append,List.length_cons,List.length_nil,Nat.zero_add]);refine Wk.intro [0,1,2] (by decide) (by decide) (by intro o ho;simp at ho ⊢ <;> omega) ?_ ?_ <;> repeat' (first|(refine WkV.imm ?_;congr 1;omega)|exact WkVL.nil|refine WkVL.cons ?_ ?_|exact WkV.top|exact WkV.imm rfl|exact WkV.imm (by simp)|exact WkV.optr rfl|exact WkV.own rfl (by simp)|exact WkV.nil_own (.inl rfl)|exact WkV.map rfl|(refine WkV.free ?_;simp [Free,FreeL] <;> assumption)|(refine WkV.free (fun _ _=>FreeL_nth ?_ _);simp [Free,FreeL];done)|refine WkV.agg ?_|refine WkV.tup ?_|refine WkV.fn ?_ ?_|exact WkO.dead|exact WkO.raw|refine WkO.ghost ?_|exact WkO.mpE rfl trivial|refine WkO.box ?_ rfl|refine WkO.arr ?_|refine And.intro ?_ (And.intro (by first|exact fun h=>h|exact fun _=>rfl|exact nofun) ?_)|exact trivial|(intro i j hi hj)))
      · have c3 := through_own s hs k hk (bmo s k) (by unfold bmo; omega) ht
        obtain ⟨b1, b2⟩ := bst_yes ht
        have hwl : (stps (stepR s) k (thr (stepR s) s.notes.length k (bmo s k))).length ≤ 200 := by rw [stps_len];have := (thr_get hE ht).2;unfold bmo at *;omega
        have hne := stps_ne (E := stepR s) (n := k) ht
        generalize stps (stepR s) k (thr (stepR s) s.notes.length k (bmo s k)) = w at c3 b1 b2 hne hwl
        have hp := List.length_pos_iff.2 hne
        (simp only [go_sem,↓reduceIte,Nat.reduceAdd,Nat.reduceSub,Nat.reduceMul,Nat.reduceLT,Nat.reduceLeDiff,Nat.reduceEqDiff,Nat.reduceGT,Int.reduceToNat,Int.reduceBEq,Int.reduceBNe];try simp (disch := omega) only [wrapI,wrapU,half_sum,toNat_sub1,toNat_add1,Int.toNat_natCast])
        (have cm1 := c3;((have sx1 := Nat.add_zero 0;refine goU1 _ _ _ _ _ _ _ _ _ _ _ _ ?_ ?_ ?_ ?_ ?_ ?_ ?_ ?_ ?_ ?_ ?_ ?_) <;> (repeat intro hb) <;> first | exact True.intro | refine Lf.mk ?_))
        refine ⟨s.notes.length - (k + 1), by omega, ⟨enS s (k + 1), fxS s (k + 1)⟩, ?_, k + 1, by omega, by omega, rfl⟩
        simp only [enS, fxS, b1, b2]
        ((try simp only [List.length_append,List.length_cons,List.length_nil,Nat.zero_add]);refine Wk.intro [0,1,3] (by decide) (by decide) (by intro o ho;simp at ho ⊢ <;> omega) ?_ ?_ <;> repeat' (first|(refine WkV.imm ?_;congr 1;omega)|exact WkVL.nil|refine WkVL.cons ?_ ?_|exact WkV.top|exact WkV.imm rfl|exact WkV.imm (by simp)|exact WkV.optr rfl|exact WkV.own rfl (by simp)|exact WkV.nil_own (.inl rfl)|exact WkV.map rfl|(refine WkV.free ?_;simp [Free,FreeL] <;> assumption)|(refine WkV.free (fun _ _=>FreeL_nth ?_ _);simp [Free,FreeL];done)|refine WkV.agg ?_|refine WkV.tup ?_|refine WkV.fn ?_ ?_|exact WkO.dead|exact WkO.raw|refine WkO.ghost ?_|exact WkO.mpE rfl trivial|refine WkO.box ?_ rfl|refine WkO.arr ?_|refine And.intro ?_ (And.intro (by first|exact fun h=>h|exact fun _=>rfl|exact nofun) ?_)|exact trivial|(intro i j hi hj)))
    · obtain rfl : k = s.notes.length := by omega
      by_cases hw : (srt (stepR s) s.notes.length s.notes.length).1.2 = []
      · have hb : bst s s.notes.length = [] := by unfold bst; rw [hw]; rfl
        rw [hw, res_nil] at hres
        rw [enS, fxS, hb]
        (simp only [go_sem,↓reduceIte,Nat.reduceAdd,Nat.reduceSub,Nat.reduceMul,Nat.reduceLT,Nat.reduceLeDiff,Nat.reduceEqDiff,Nat.reduceGT,Int.reduceToNat,Int.reduceBEq,Int.reduceBNe];try simp (disch := omega) only [wrapI,wrapU,half_sum,toNat_sub1,toNat_add1,Int.toNat_natCast])
        repeat' (first
    | (with_reducible refine hK _ ?_; clear hK K)
    | ((with_reducible refine callGoal_inline Γ_ok Try.func31 rfl (by kernel_rfl) (by first|exact trivial|(simp only [go_sem,and_self];done)|(simp only [go_sem];omega)) ?_);simp only [Try.ntmps31,Try.results31,List.length_cons,List.length_nil,Nat.reduceSub,Nat.reduceAdd,List.replicate,List.cons_append,List.nil_append])
    | ((with_reducible apply DC_call);(focus exact rfl);(focus exact rfl);(focus exact rfl);intro N hN;(simp only [go_sem,↓reduceIte,Nat.reduceAdd,Nat.reduceSub,Nat.reduceMul,Nat.reduceLT,Nat.reduceLeDiff,Nat.reduceEqDiff,Nat.reduceGT,Int.reduceToNat,Int.reduceBEq,Int.reduceBNe];try simp (disch := omega) only [wrapI,wrapU,half_sum,toNat_sub1,toNat_add1,Int.toNat_natCast]))
    | ((with_reducible first|refine T_seq_region Γ_ok (fun K hK=>?_)|refine T_last_region Γ_ok (fun K hK=>?_)|refine T_seq_draw (id := 4) Γ_ok drawsAny [(0,[],[]),(1,[],[]),(2,[],[]),(3,[0],[]),(4,[0,1,3],[2]),(5,[0,1,2,3,4],[])] (by kernel_rfl) (fun K hK=>?_)|refine T_last_draw (id := 4) Γ_ok drawsAny [(0,[],[]),(1,[],[]),(2,[],[]),(3,[0],[]),(4,[0,1,3],[2]),(5,[0,1,2,3,4],[])] (by kernel_rfl) (fun K hK=>?_)|refine TO_callN rfl (fun N hN=>?_)|refine DCT_fork Γ_ok (fun K2 hK2=>?_)|refine DCT_last Γ_ok ?_|refine DC_ev Γ_ok ?_|refine TO_ev Γ_ok ?_|refine retQ_r ?_|refine retQ_n ?_);(simp only [go_sem,↓reduceIte,Nat.reduceAdd,Nat.reduceSub,Nat.reduceMul,Nat.reduceLT,Nat.reduceLeDiff,Nat.reduceEqDiff,Nat.reduceGT,Int.reduceToNat,Int.reduceBEq,Int.reduceBNe];try simp (disch := omega) only [wrapI,wrapU,half_sum,toNat_sub1,toNat_add1,Int.toNat_natCast]))
    | (with_reducible refine hK2 _ ?_ ?_ <;> clear hK2 K2)
    | with_reducible refine gC_false ?_ | with_reducible refine gC_true ?_ | with_reducible refine dCall_true ?_
    | (with_reducible refine hN _ _ ?_; clear hN N)
    | (with_reducible refine hN _ _ (dInl rfl) ?_; clear hN N)
    | ((with_reducible refine hN _ _ (.inr ?_) ?_);(focus (simp only [go_sem,↓reduceIte,Nat.reduceAdd,Nat.reduceSub,Nat.reduceMul,Nat.reduceLT,Nat.reduceLeDiff,Nat.reduceEqDiff,Nat.reduceGT,Int.reduceToNat,Int.reduceBEq,Int.reduceBNe];try simp (disch := omega) only [wrapI,wrapU,half_sum,toNat_sub1,toNat_add1,Int.toNat_natCast]));all_goals (try clear hN N))
    | with_reducible refine T_seq ?_|with_reducible refine T_block ?_|with_reducible refine T_ret ?_|with_reducible refine T_exit ?_|with_reducible refine T_skip ?_|with_reducible refine T_label ?_
    | with_reducible refine thenQ_n ?_|with_reducible refine thenQ_e ?_|with_reducible refine thenQ_r ?_|with_reducible refine blockQ_n ?_|with_reducible refine blockQ_e ?_|with_reducible refine blockQ_r ?_
    | with_reducible refine blockQ_o (by decide) ?_
    | ((with_reducible refine T_cond _ rfl (fun hb=>?_) (fun hb=>?_)) <;> first|(cases hb;done)|(simp only [decide_eq_true_eq,decide_eq_false_iff_not,Bool.and_eq_true,Bool.or_eq_true,Bool.and_eq_false_imp,Bool.or_eq_false_iff,Bool.not_eq_true',Bool.not_eq_false',beq_iff_eq,bne_iff_ne,ne_eq,beq_eq_false_iff_ne,bne_eq_false_iff_eq,Int.not_lt,Int.not_le,ge_iff_le,gt_iff_lt] at hb)|skip)
    | (with_reducible refine And.intro (by first | exact trivial | omega | (intro hg;simp at hg ⊢ <;> omega) | (simp <;> omega)) ?_)
    | assumption | omega)
        rw [← hQ]; exact resA_nil hres
      · have ho : Opn (stepR s) (srt (stepR s) s.notes.length s.notes.length).1.1 (srt (stepR s) s.notes.length s.notes.length).1.2 := by
          rcases srt_best hE with ⟨h1, _⟩ | h1
          · exact absurd h1 hw
          · exact h1.o
        have hbl : (srt (stepR s) s.notes.length s.notes.length).1.2.length ≤ s.notes.length := by
          rcases srt_best hE with ⟨h1, _⟩ | h1
          · exact absurd h1 hw
          · exact h1.le
        have hres2 := pd_res hs ho
        rw [← hres] at hres2
        change shR s = (bst s s.notes.length, _, _) at hres2
        have hbe : bst s s.notes.length = stps (stepR s) (srt (stepR s) s.notes.length s.notes.length).1.1 (srt (stepR s) s.notes.length s.notes.length).1.2 := rfl
        have hne := stps_ne (E := stepR s) (n := (srt (stepR s) s.notes.length s.notes.length).1.1) hw
        have hlen := stps_len (stepR s) (srt (stepR s) s.notes.length s.notes.length).1.1 (srt (stepR s) s.notes.length s.notes.length).1.2
        rw [← hbe] at hne hlen hres2
        generalize hbw : bst s s.notes.length = w at hne hlen hres2
        have c4 := product_tc s hs w hne (by omega)
        have hp := List.length_pos_iff.2 hne
        rw [enS, fxS, hbw]
        (simp only [go_sem,↓reduceIte,Nat.reduceAdd,Nat.reduceSub,Nat.reduceMul,Nat.reduceLT,Nat.reduceLeDiff,Nat.reduceEqDiff,Nat.reduceGT,Int.reduceToNat,Int.reduceBEq,Int.reduceBNe];try simp (disch := omega) only [wrapI,wrapU,half_sum,toNat_sub1,toNat_add1,Int.toNat_natCast])
        repeat' (first
    | (with_reducible refine hK _ ?_; clear hK K)
    | ((with_reducible refine callGoal_inline Γ_ok Try.func31 rfl (by kernel_rfl) (by first|exact trivial|(simp only [go_sem,and_self];done)|(simp only [go_sem];omega)) ?_);simp only [Try.ntmps31,Try.results31,List.length_cons,List.length_nil,Nat.reduceSub,Nat.reduceAdd,List.replicate,List.cons_append,List.nil_append])
    | ((with_reducible first|apply callGoal_lookA (c4)|apply dCall_lookA (c4));(case hC=>first|exact trivial|(simp only [go_sem,and_self];done)|(simp only [go_sem];omega));(case hc=>((repeat' (first|exact CvL.nil|exact Cv.nil_view|refine CvL.cons ?_ ?_|exact Cv.imm rfl|(refine Cv.free ?_;simp [Free,FreeL] <;> assumption)|(refine Cv.free (fun _ _=>FreeL_nth ?_ _);simp [Free,FreeL];done)|refine Cv.agg ?_|(apply Cv.own;(case hob=>(with_unfolding_all exact rfl));(case hz=>decide);(case hE=>(first|(intro _ _ _ _;rfl)|(intro i j hi hj;(rcases i with _ | _|i) <;> (rcases j with _ | _ | _ | _|j) <;> first|rfl|(exfalso;omega))));(case hf=>(intro _ _;simp;done)))|(refine Cv.pvE ?_ ?_ (by decide);(focus (first|(intro _ _ _ _;rfl)|(intro i j hi hj;(rcases i with _ | _|i) <;> (rcases j with _ | _ | _ | _|j) <;> first|rfl|(exfalso;omega))));(focus (intro _ _;simp;done)))|(apply Cv.ownS;(case hob=>(with_unfolding_all exact rfl));(case hz=>decide);(case hle=>(first|omega|(simp only [decide_eq_true_eq] at hg;omega)|(simp;omega)));(case hE=>(intro _ _ _ _;first|(rw [Nat.zero_add];done)|(rw [Nat.zero_add];rfl)));(case hf=>(intro _ _;simp;done)))|(refine Cv.viewE (by decide) ?_ ?_;(focus (intro _ _ _ _;first|rfl));(focus (intro _ _;simp;done)))|refine Cv.ptr (by with_unfolding_all rfl) (by with_unfolding_all rfl) ?_|refine Cv.fn ?_ ?_));done)))
    | ((with_reducible first|apply gC_lookA (fun hg=>(c4))|apply dCall_lookGA (fun hg=>(c4)));(case hC=>(intro hg;first|exact trivial|exact hg|(simp only [hg,and_self,implies_true];done)|(simp only [go_sem,hg,and_self,implies_true];done)));(case hc=>(intro hg;((repeat' (first|exact CvL.nil|exact Cv.nil_view|refine CvL.cons ?_ ?_|exact Cv.imm rfl|(refine Cv.free ?_;simp [Free,FreeL] <;> assumption)|(refine Cv.free (fun _ _=>FreeL_nth ?_ _);simp [Free,FreeL];done)|refine Cv.agg ?_|(apply Cv.own;(case hob=>(with_unfolding_all exact rfl));(case hz=>decide);(case hE=>(first|(intro _ _ _ _;rfl)|(intro i j hi hj;(rcases i with _ | _|i) <;> (rcases j with _ | _ | _ | _|j) <;> first|rfl|(exfalso;omega))));(case hf=>(intro _ _;simp;done)))|(refine Cv.pvE ?_ ?_ (by decide);(focus (first|(intro _ _ _ _;rfl)|(intro i j hi hj;(rcases i with _ | _|i) <;> (rcases j with _ | _ | _ | _|j) <;> first|rfl|(exfalso;omega))));(focus (intro _ _;simp;done)))|(apply Cv.ownS;(case hob=>(with_unfolding_all exact rfl));(case hz=>decide);(case hle=>(first|omega|(simp only [decide_eq_true_eq] at hg;omega)|(simp;omega)));(case hE=>(intro _ _ _ _;first|(rw [Nat.zero_add];done)|(rw [Nat.zero_add];rfl)));(case hf=>(intro _ _;simp;done)))|(refine Cv.viewE (by decide) ?_ ?_;(focus (intro _ _ _ _;first|rfl));(focus (intro _ _;simp;done)))|refine Cv.ptr (by with_unfolding_all rfl) (by with_unfolding_all rfl) ?_|refine Cv.fn ?_ ?_));done))))
    | ((with_reducible apply DC_call);(focus exact rfl);(focus exact rfl);(focus exact rfl);intro N hN;(simp only [go_sem,↓reduceIte,Nat.reduceAdd,Nat.reduceSub,Nat.reduceMul,Nat.reduceLT,Nat.reduceLeDiff,Nat.reduceEqDiff,Nat.reduceGT,Int.reduceToNat,Int.reduceBEq,Int.reduceBNe];try simp (disch := omega) only [wrapI,wrapU,half_sum,toNat_sub1,toNat_add1,Int.toNat_natCast]))
    | ((with_reducible first|refine T_seq_region Γ_ok (fun K hK=>?_)|refine T_last_region Γ_ok (fun K hK=>?_)|refine T_seq_draw (id := 4) Γ_ok drawsAny [(0,[],[]),(1,[],[]),(2,[],[]),(3,[0],[]),(4,[0,1,3],[2]),(5,[0,1,2,3,4],[])] (by kernel_rfl) (fun K hK=>?_)|refine T_last_draw (id := 4) Γ_ok drawsAny [(0,[],[]),(1,[],[]),(2,[],[]),(3,[0],[]),(4,[0,1,3],[2]),(5,[0,1,2,3,4],[])] (by kernel_rfl) (fun K hK=>?_)|refine TO_callN rfl (fun N hN=>?_)|refine DCT_fork Γ_ok (fun K2 hK2=>?_)|refine DCT_last Γ_ok ?_|refine DC_ev Γ_ok ?_|refine TO_ev Γ_ok ?_|refine retQ_r ?_|refine retQ_n ?_);(simp only [go_sem,↓reduceIte,Nat.reduceAdd,Nat.reduceSub,Nat.reduceMul,Nat.reduceLT,Nat.reduceLeDiff,Nat.reduceEqDiff,Nat.reduceGT,Int.reduceToNat,Int.reduceBEq,Int.reduceBNe];try simp (disch := omega) only [wrapI,wrapU,half_sum,toNat_sub1,toNat_add1,Int.toNat_natCast]))
    | (with_reducible refine hK2 _ ?_ ?_ <;> clear hK2 K2)
    | with_reducible refine gC_false ?_ | with_reducible refine gC_true ?_ | with_reducible refine dCall_true ?_
    | (with_reducible refine hN _ _ ?_; clear hN N)
    | (with_reducible refine hN _ _ (dInl rfl) ?_; clear hN N)
    | ((with_reducible refine hN _ _ (.inr ?_) ?_);(focus (simp only [go_sem,↓reduceIte,Nat.reduceAdd,Nat.reduceSub,Nat.reduceMul,Nat.reduceLT,Nat.reduceLeDiff,Nat.reduceEqDiff,Nat.reduceGT,Int.reduceToNat,Int.reduceBEq,Int.reduceBNe];try simp (disch := omega) only [wrapI,wrapU,half_sum,toNat_sub1,toNat_add1,Int.toNat_natCast]));all_goals (try clear hN N))
    | with_reducible refine T_seq ?_|with_reducible refine T_block ?_|with_reducible refine T_ret ?_|with_reducible refine T_exit ?_|with_reducible refine T_skip ?_|with_reducible refine T_label ?_
    | with_reducible refine thenQ_n ?_|with_reducible refine thenQ_e ?_|with_reducible refine thenQ_r ?_|with_reducible refine blockQ_n ?_|with_reducible refine blockQ_e ?_|with_reducible refine blockQ_r ?_
    | with_reducible refine blockQ_o (by decide) ?_
    | ((with_reducible refine T_cond _ rfl (fun hb=>?_) (fun hb=>?_)) <;> first|(cases hb;done)|(simp only [decide_eq_true_eq,decide_eq_false_iff_not,Bool.and_eq_true,Bool.or_eq_true,Bool.and_eq_false_imp,Bool.or_eq_false_iff,Bool.not_eq_true',Bool.not_eq_false',beq_iff_eq,bne_iff_ne,ne_eq,beq_eq_false_iff_ne,bne_eq_false_iff_eq,Int.not_lt,Int.not_le,ge_iff_le,gt_iff_lt] at hb)|skip)
    | (with_reducible refine And.intro (by first | exact trivial | omega | (intro hg;simp at hg ⊢ <;> omega) | (simp <;> omega)) ?_)
    | assumption | omega)
        rw [← hQ]; exact resA_own (v := (pdR s w).1) hres2 rfl
  · rw [tf_f hs] at c1
    have hres : shR s = ([], z6, 1) := by unfold shR; rw [if_neg (by rw [tf_f hs]; simp)]
    (refine TC_of_T Γ_ok Try.func19 rfl (by kernel_rfl) ?_;simp only [Try.ntmps19,Try.results19,List.length_cons,List.length_nil,Nat.reduceSub,Nat.reduceAdd,List.replicate,List.cons_append,List.nil_append])
    (have cl1 := c1;((have sx1 := Nat.add_zero 0;refine goU1 _ _ _ _ _ _ _ _ _ _ _ _ ?_ ?_ ?_ ?_ ?_ ?_ ?_ ?_ ?_ ?_ ?_ ?_) <;> (repeat intro hb) <;> first | exact True.intro | refine Lf.mk ?_))
    rw [← hQ]; exact resA_nil hres
end Go.Proofs.Ytmglcamgpgkblaa
