/-
  Contract of quorum.Choose.
-/
import Derived.Test.YtgljhmnmmaclaaaQGo
import Derived.Test.YtgljhmnmmaclaaaQV3
set_option linter.unusedSimpArgs false
set_option linter.unusedVariables false
namespace Go.Proofs.Ytgljhmnmmaclaaa.Q
open Go.Ab
def Pro.bad (n : Int) (p : Pro) : Prop := ¬ ((0 ≤ p.d ∧ p.d < n) ∧ balB p.b = true ∧ 0 ≤ p.v ∧ p.v < p.b ∧ votedB p.v p.x = true)
def lastP (b : Int) (ps : List Pro) (own : Tk) : Int × Tk := ps.foldl (fun q p => if p.b = b ∧ p.v > q.1 then (p.v,p.x) else q) (0,own)
theorem lastP_succ {b : Int} {ps : List Pro} {own : Tk} {i : Nat} (h : i < ps.length) : lastP b (ps.take (i + 1)) own = if (gP ps i).b = b ∧ (gP ps i).v > (lastP b (ps.take i) own).1 then ((gP ps i).v,(gP ps i).x) else lastP b (ps.take i) own := by
  rw [gP_take h]; unfold lastP; rw [List.foldl_append]; rfl
theorem gP_mem {l : List Pro} {i : Nat} (h : i < l.length) : gP l i ∈ l := by simp [gP, h]
theorem mem_gP {l : List Pro} {p : Pro} : p ∈ l ↔ ∃ i, i < l.length ∧ gP l i = p := by
  rw [List.mem_iff_getElem]; constructor
  · rintro ⟨i, h, e⟩; exact ⟨i, h, by simp [gP, h, e]⟩
  · rintro ⟨i, h, e⟩; exact ⟨i, h, by rw [← e]; simp [gP, h]⟩
instance (n : Int) (p : Pro) : Decidable (p.bad n) := by unfold Pro.bad; exact inferInstance
def chooseR (n b : Int) (ps : List Pro) (own : Tk) : Tk × Int :=
  if ¬ ((1 ≤ n ∧ n ≤ 8) ∧ balB b = true ∧ own.ok = true) then (tk0, 1)
  else if ∃ p ∈ ps, p.bad n then (tk0, 1)
  else if 2 * ((cntP b ps []).length : Int) ≤ n then (tk0, 25) else ((lastP b ps own).2, 0)
set_option maxRecDepth 100000 in
set_option maxHeartbeats 4000000 in
theorem choose_tc (n b : Int) (ps : List Pro) (own : Tk) (hl : ps.length ≤ 1000000) : Look Try.prog 54 [.imm (.int .i64 n),.imm (.int .i64 b),pros ps,tkA own] (.tup [tkA (chooseR n b ps own).1,.imm (.int .i64 (chooseR n b ps own).2)]) := by
  refine Look.mk (by simp [Pl, PlL]) ?_
  (refine TC_of_T Γ_ok Try.func54 rfl (by kernel_rfl) ?_;simp only [Try.ntmps54,Try.results54,List.length_cons,List.length_nil,Nat.reduceSub,Nat.reduceAdd,List.replicate,List.cons_append,List.nil_append])
  (have cl1 := fun u1 u2 u3 u4=>take_tc u1 u2 u3 u4;have cl2 := fun u1=>isBallot_tc u1;repeat' (first|with_reducible refine T_seq_drawT (id := 10) Γ_ok drawsAny pl54_10 (by kernel_rfl) (fun K hK=>?_)|with_reducible refine T_last_drawT (id := 10) Γ_ok drawsAny pl54_10 (by kernel_rfl) (fun K hK=>?_)|((refine goR0 _ _ _ _ _ _ _ _ ?_ ?_ ?_ ?_ ?_ ?_ ?_ ?_) <;> (repeat intro hb) <;> first|exact True.intro|refine Lf.mk ?_)))
  · have e : chooseR n b ps own = (tk0,1) := by unfold chooseR balB Tk.ok;rw [if_pos];simp only [Bool.and_eq_true,decide_eq_true_eq];grind
    rw [e]
  have hn : (1 ≤ n ∧ n ≤ 8) ∧ balB b = true ∧ own.ok = true := by unfold balB Tk.ok;simp only [Bool.and_eq_true,decide_eq_true_eq];grind
  refine T_loopW (fun m st=>∃ (i : Nat),i ≤ ps.length ∧ m + i = ps.length ∧ (∀ j : Nat,j < i → ¬ (gP ps j).bad n) ∧ st = ⟨[.imm (.int .i64 n),.imm (.int .i64 b),pros ps,tkA own,.top,.optr 0 0 0,.optr 1 0 0,.optr 2 0 0,.optr 3 0 0,.imm (.int .i64 0),.imm (.int .i64 (lastP b (ps.take i) own).1)] ++ List.replicate 20 .top ++ [pros ps,.imm (.int .i64 ps.length),.imm (.int .i64 i)] ++ List.replicate 57 .top,
      [.box 3 [.imm (.int .i64 b)],.box 26 [pros ps],.box 38 (tkL (lastP b (ps.take i) own).2),.box 38 (tkL tk0)]⟩) ps.length ⟨_,?_,0,Nat.zero_le _,rfl,fun j hj => by omega,rfl⟩ ?_
  · ((try simp only [List.length_append,List.length_cons,List.length_nil,Nat.zero_add]);refine Wk.intro [0,1,2,3] (by decide) (by decide) (by intro o ho;simp at ho ⊢ <;> omega) ?_ ?_ <;> repeat' (first|exact WkVL.nil|refine WkVL.cons ?_ ?_|exact WkV.top|exact WkV.imm rfl|exact WkV.imm (by simp)|exact WkV.optr rfl|exact WkV.own rfl (by simp)|exact WkV.nil_own (.inl rfl)|exact WkV.map rfl|(refine WkV.free ?_;simp [Free,FreeL] <;> assumption)|(refine WkV.free (fun _ _=>FreeL_nth ?_ _);simp [Free,FreeL];done)|refine WkV.agg ?_|refine WkV.tup ?_|refine WkV.fn ?_ ?_|exact WkO.dead|exact WkO.raw|refine WkO.ghost ?_|exact WkO.mpE rfl trivial|refine WkO.box ?_ rfl|refine WkO.arr ?_|refine And.intro ?_ (And.intro (by first|exact fun h=>h|exact fun _=>rfl|exact nofun) ?_)|exact trivial|(intro i j hi hj)))
  rintro m st ⟨i, h1, h2, h3, rfl⟩
  have hcl := cntP_len b ps []
  simp only [List.length_nil, Nat.zero_add] at hcl
  have hnb : i = ps.length → ¬ ∃ p ∈ ps, p.bad n := by
    rintro rfl ⟨p, hp, hb⟩
    obtain ⟨j, hj, rfl⟩ := mem_gP.1 hp
    exact h3 j hj hb
  (simp only [go_sem,↓reduceIte,Nat.reduceAdd,Nat.reduceSub,Nat.reduceMul,Nat.reduceLT,Nat.reduceLeDiff,Nat.reduceEqDiff,Nat.reduceGT,Int.reduceToNat,Int.reduceBEq,Int.reduceBNe];try simp (disch := omega) only [wrapI,wrapU,half_sum,toNat_sub1,toNat_add1,Int.toNat_natCast])
  repeat' (first
    | (with_reducible refine hK _ ?_; clear hK K)
    | ((with_reducible refine callGoal_inline Γ_ok Try.func23 rfl (by kernel_rfl) (by first|exact trivial|(simp only [go_sem,and_self];done)|(simp only [go_sem];omega)) ?_);simp only [Try.ntmps23,Try.results23,List.length_cons,List.length_nil,Nat.reduceSub,Nat.reduceAdd,List.replicate,List.cons_append,List.nil_append])
    | ((with_reducible refine callGoal_mk ?_ (eachP0 _ _ _ _ _ _ _ _ _ _ (by omega)) ?_);(focus (first|exact trivial|(simp only [go_sem,and_self];done)|(simp only [go_sem];omega)));(rintro _ _ ⟨rfl,rfl⟩;(simp only [go_sem,↓reduceIte,Nat.reduceAdd,Nat.reduceSub,Nat.reduceMul,Nat.reduceLT,Nat.reduceLeDiff,Nat.reduceEqDiff,Nat.reduceGT,Int.reduceToNat,Int.reduceBEq,Int.reduceBNe];try simp (disch := omega) only [wrapI,wrapU,half_sum,toNat_sub1,toNat_add1,Int.toNat_natCast])))
    | ((with_reducible first|apply callGoal_lookA (voted_tc _ ⟨_,_,_,_⟩)|apply dCall_lookA (voted_tc _ ⟨_,_,_,_⟩)|apply callGoal_lookA (isDesk_tc _ _)|apply dCall_lookA (isDesk_tc _ _)|apply callGoal_lookA (isBallot_tc _)|apply dCall_lookA (isBallot_tc _));(case hC=>first|exact trivial|(simp only [go_sem,and_self];done)|(simp only [go_sem];omega));(case hc=>((repeat' (first|exact CvL.nil|exact Cv.nil_view|refine CvL.cons ?_ ?_|exact Cv.imm rfl|(refine Cv.free ?_;simp [Free,FreeL] <;> assumption)|(refine Cv.free (fun _ _=>FreeL_nth ?_ _);simp [Free,FreeL];done)|refine Cv.agg ?_|(apply Cv.own;(case hob=>(with_unfolding_all exact rfl));(case hz=>decide);(case hE=>(first|(intro _ _ _ _;rfl)|(intro i j hi hj;(rcases i with _ | _|i) <;> (rcases j with _ | _ | _ | _|j) <;> first|rfl|(exfalso;omega))));(case hf=>(intro _ _;simp;done)))|(refine Cv.pvE ?_ ?_ (by decide);(focus (first|(intro _ _ _ _;rfl)|(intro i j hi hj;(rcases i with _ | _|i) <;> (rcases j with _ | _ | _ | _|j) <;> first|rfl|(exfalso;omega))));(focus (intro _ _;simp;done)))|(apply Cv.ownS;(case hob=>(with_unfolding_all exact rfl));(case hz=>decide);(case hle=>(first|omega|(simp only [decide_eq_true_eq] at hg;omega)|(simp;omega)));(case hE=>(intro _ _ _ _;first|(rw [Nat.zero_add];done)|(rw [Nat.zero_add];rfl)));(case hf=>(intro _ _;simp;done)))|(refine Cv.viewE (by decide) ?_ ?_;(focus (intro _ _ _ _;first|rfl));(focus (intro _ _;simp;done)))|refine Cv.ptr (by with_unfolding_all rfl) (by with_unfolding_all rfl) ?_|refine Cv.fn ?_ ?_));done)))
    | ((with_reducible first|apply gC_lookA (fun hg=>(voted_tc _ ⟨_,_,_,_⟩))|apply dCall_lookGA (fun hg=>(voted_tc _ ⟨_,_,_,_⟩))|apply gC_lookA (fun hg=>(isDesk_tc _ _))|apply dCall_lookGA (fun hg=>(isDesk_tc _ _))|apply gC_lookA (fun hg=>(isBallot_tc _))|apply dCall_lookGA (fun hg=>(isBallot_tc _)));(case hC=>(intro hg;first|exact trivial|exact hg|(simp only [hg,and_self,implies_true];done)|(simp only [go_sem,hg,and_self,implies_true];done)));(case hc=>(intro hg;((repeat' (first|exact CvL.nil|exact Cv.nil_view|refine CvL.cons ?_ ?_|exact Cv.imm rfl|(refine Cv.free ?_;simp [Free,FreeL] <;> assumption)|(refine Cv.free (fun _ _=>FreeL_nth ?_ _);simp [Free,FreeL];done)|refine Cv.agg ?_|(apply Cv.own;(case hob=>(with_unfolding_all exact rfl));(case hz=>decide);(case hE=>(first|(intro _ _ _ _;rfl)|(intro i j hi hj;(rcases i with _ | _|i) <;> (rcases j with _ | _ | _ | _|j) <;> first|rfl|(exfalso;omega))));(case hf=>(intro _ _;simp;done)))|(refine Cv.pvE ?_ ?_ (by decide);(focus (first|(intro _ _ _ _;rfl)|(intro i j hi hj;(rcases i with _ | _|i) <;> (rcases j with _ | _ | _ | _|j) <;> first|rfl|(exfalso;omega))));(focus (intro _ _;simp;done)))|(apply Cv.ownS;(case hob=>(with_unfolding_all exact rfl));(case hz=>decide);(case hle=>(first|omega|(simp only [decide_eq_true_eq] at hg;omega)|(simp;omega)));(case hE=>(intro _ _ _ _;first|(rw [Nat.zero_add];done)|(rw [Nat.zero_add];rfl)));(case hf=>(intro _ _;simp;done)))|(refine Cv.viewE (by decide) ?_ ?_;(focus (intro _ _ _ _;first|rfl));(focus (intro _ _;simp;done)))|refine Cv.ptr (by with_unfolding_all rfl) (by with_unfolding_all rfl) ?_|refine Cv.fn ?_ ?_));done))))
    | ((with_reducible apply DC_call);(focus exact rfl);(focus exact rfl);(focus exact rfl);intro N hN;(simp only [go_sem,↓reduceIte,Nat.reduceAdd,Nat.reduceSub,Nat.reduceMul,Nat.reduceLT,Nat.reduceLeDiff,Nat.reduceEqDiff,Nat.reduceGT,Int.reduceToNat,Int.reduceBEq,Int.reduceBNe];try simp (disch := omega) only [wrapI,wrapU,half_sum,toNat_sub1,toNat_add1,Int.toNat_natCast]))
    | ((with_reducible first|refine T_seq_region Γ_ok (fun K hK=>?_)|refine T_last_region Γ_ok (fun K hK=>?_)|refine T_seq_draw (id := 10) Γ_ok drawsAny [(0,[],[]),(1,[0],[]),(2,[],[]),(3,[2],[]),(4,[0,1],[]),(5,[0,1,2,3,4],[])] (by kernel_rfl) (fun K hK=>?_)|refine T_last_draw (id := 10) Γ_ok drawsAny [(0,[],[]),(1,[0],[]),(2,[],[]),(3,[2],[]),(4,[0,1],[]),(5,[0,1,2,3,4],[])] (by kernel_rfl) (fun K hK=>?_)|refine TO_callN rfl (fun N hN=>?_)|refine DCT_fork Γ_ok (fun K2 hK2=>?_)|refine DCT_last Γ_ok ?_|refine DC_ev Γ_ok ?_|refine TO_ev Γ_ok ?_|refine retQ_r ?_|refine retQ_n ?_);(simp only [go_sem,↓reduceIte,Nat.reduceAdd,Nat.reduceSub,Nat.reduceMul,Nat.reduceLT,Nat.reduceLeDiff,Nat.reduceEqDiff,Nat.reduceGT,Int.reduceToNat,Int.reduceBEq,Int.reduceBNe];try simp (disch := omega) only [wrapI,wrapU,half_sum,toNat_sub1,toNat_add1,Int.toNat_natCast]))
    | (with_reducible refine hK2 _ ?_ ?_ <;> clear hK2 K2)
    | with_reducible refine gC_false ?_ | with_reducible refine gC_true ?_ | with_reducible refine dCall_true ?_
    | (with_reducible refine hN _ _ ?_; clear hN N)
    | (with_reducible refine hN _ _ (dInl rfl) ?_; clear hN N)
    | ((with_reducible refine hN _ _ (.inr ?_) ?_);(focus (simp only [go_sem,↓reduceIte,Nat.reduceAdd,Nat.reduceSub,Nat.reduceMul,Nat.reduceLT,Nat.reduceLeDiff,Nat.reduceEqDiff,Nat.reduceGT,Int.reduceToNat,Int.reduceBEq,Int.reduceBNe];try simp (disch := omega) only [wrapI,wrapU,half_sum,toNat_sub1,toNat_add1,Int.toNat_natCast]));all_goals (try clear hN N))
    | with_reducible refine T_seq ?_|with_reducible refine T_block ?_|with_reducible refine T_ret ?_|with_reducible refine T_exit ?_|with_reducible refine T_skip ?_|with_reducible refine T_label ?_
    | with_reducible refine thenQ_n ?_|with_reducible refine thenQ_e ?_|with_reducible refine thenQ_r ?_|with_reducible refine blockQ_n ?_|with_reducible refine blockQ_e ?_|with_reducible refine blockQ_r ?_
    | with_reducible refine blockQ_o (by decide) ?_
    | ((with_reducible refine T_cond _ rfl (fun hb=>?_) (fun hb=>?_)) <;> first|(cases hb;done)|(simp only [decide_eq_true_eq,decide_eq_false_iff_not,Bool.and_eq_true,Bool.or_eq_true,Bool.and_eq_false_imp,Bool.or_eq_false_iff,Bool.not_eq_true',Bool.not_eq_false',beq_iff_eq,bne_iff_ne,ne_eq,beq_eq_false_iff_ne,bne_eq_false_iff_eq,Int.not_lt,Int.not_le,ge_iff_le,gt_iff_lt] at hb)|skip)
    | (with_reducible refine And.intro (by first | exact trivial | omega | (intro hg;simp at hg ⊢ <;> omega) | (simp <;> omega)) ?_)
    | assumption | omega)
  · have e : chooseR n b ps own = (tk0, 1) := by
      unfold chooseR; rw [if_neg (fun h => h hn), if_pos]
      refine ⟨gP ps i, gP_mem (by omega), ?_⟩
      unfold Pro.bad balB
      simp only [Bool.and_eq_true, decide_eq_true_eq]
      grind
    rw [e]
  all_goals try have hs := lastP_succ (b := b) (ps := ps) (own := own) (i := i) (by omega)
  · rw [if_pos hb] at hs
    refine ⟨ps.length - (i + 1), by omega, _, ?_, i + 1, by omega, by omega, fun j hj => ?_, rfl⟩
    · rw [hs];((try simp only [List.length_append,List.length_cons,List.length_nil,Nat.zero_add]);refine Wk.intro [0,1,2,3] (by decide) (by decide) (by intro o ho;simp at ho ⊢ <;> omega) ?_ ?_ <;> repeat' (first|exact WkVL.nil|refine WkVL.cons ?_ ?_|exact WkV.top|exact WkV.imm rfl|exact WkV.imm (by simp)|exact WkV.optr rfl|exact WkV.own rfl (by simp)|exact WkV.nil_own (.inl rfl)|exact WkV.map rfl|(refine WkV.free ?_;simp [Free,FreeL] <;> assumption)|(refine WkV.free (fun _ _=>FreeL_nth ?_ _);simp [Free,FreeL];done)|refine WkV.agg ?_|refine WkV.tup ?_|refine WkV.fn ?_ ?_|exact WkO.dead|exact WkO.raw|refine WkO.ghost ?_|exact WkO.mpE rfl trivial|refine WkO.box ?_ rfl|refine WkO.arr ?_|refine And.intro ?_ (And.intro (by first|exact fun h=>h|exact fun _=>rfl|exact nofun) ?_)|exact trivial|(intro i j hi hj)))
    · by_cases hji : j = i
      · subst hji; unfold Pro.bad balB; simp only [Bool.and_eq_true, decide_eq_true_eq]; grind
      · exact h3 j (by omega)
  · rw [if_neg (by grind)] at hs
    refine ⟨ps.length - (i + 1), by omega, _, ?_, i + 1, by omega, by omega, fun j hj => ?_, rfl⟩
    · rw [hs];((try simp only [List.length_append,List.length_cons,List.length_nil,Nat.zero_add]);refine Wk.intro [0,1,2,3] (by decide) (by decide) (by intro o ho;simp at ho ⊢ <;> omega) ?_ ?_ <;> repeat' (first|exact WkVL.nil|refine WkVL.cons ?_ ?_|exact WkV.top|exact WkV.imm rfl|exact WkV.imm (by simp)|exact WkV.optr rfl|exact WkV.own rfl (by simp)|exact WkV.nil_own (.inl rfl)|exact WkV.map rfl|(refine WkV.free ?_;simp [Free,FreeL] <;> assumption)|(refine WkV.free (fun _ _=>FreeL_nth ?_ _);simp [Free,FreeL];done)|refine WkV.agg ?_|refine WkV.tup ?_|refine WkV.fn ?_ ?_|exact WkO.dead|exact WkO.raw|refine WkO.ghost ?_|exact WkO.mpE rfl trivial|refine WkO.box ?_ rfl|refine WkO.arr ?_|refine And.intro ?_ (And.intro (by first|exact fun h=>h|exact fun _=>rfl|exact nofun) ?_)|exact trivial|(intro i j hi hj)))
    · by_cases hji : j = i
      · subst hji; unfold Pro.bad balB; simp only [Bool.and_eq_true, decide_eq_true_eq]; grind
      · exact h3 j (by omega)
  all_goals
    have hi : i = ps.length := by omega
  · have e : chooseR n b ps own = (tk0, 25) := by
      unfold chooseR; rw [if_neg (fun h => h hn), if_neg (hnb hi), if_pos hb]
    rw [e]
  · have e : chooseR n b ps own = ((lastP b ps own).2, 0) := by
      unfold chooseR; rw [if_neg (fun h => h hn), if_neg (hnb hi), if_neg (by omega)]
    rw [e, hi, List.take_length]
end Go.Proofs.Ytgljhmnmmaclaaa.Q
