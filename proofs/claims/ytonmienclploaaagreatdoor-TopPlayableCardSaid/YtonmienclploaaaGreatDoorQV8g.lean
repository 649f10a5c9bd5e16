/-
 organ.together (printed by mk8g.py).
-/
import Derived.Test.YtonmienclploaaaGreatDoorQGo2
import Derived.Test.YtonmienclploaaaGreatDoorQU7
set_option linter.unusedSimpArgs false
set_option linter.unusedVariables false
namespace Go.Proofs.YtonmienclploaaaGreatDoor
open Go.Ab
theorem dem_nn {o : Og} (ho : ogB o = true) (ids : List Int) (hl : ids.length ≤ 1000) : 0 ≤ lacR o ids ∧ lacR o ids ≤ 1000000 := by
 have h1 := demK_bd ho ids ids.length
 have h2 := (ogB_iff.1 ho).2.2.1
 unfold lacR
 split <;> omega
@[go_sem, reducible] def opO (o : Og) : AObj := .box 49 (ogL o)
@[go_sem,reducible] def sd0 : AObj := .box 150 [.imm (.slice none 0 0),.imm (.int .i64 0),.imm (.int .i64 0),.imm (.slice none 0 0),.imm (.int .i64 0)]
theorem dCall_tc {P : Program} {σ σ' : List AObj} {N : AV → List AObj → Prop} {k : FuncId} {args : List AV} {C : Prop} {v : AV} (h : TC P k args σ (fun u s=>u = v ∧ s = σ')) (hC : C) (hn : N v σ') : dCall P σ N (some (k,args,C)) (some none) := ⟨v,σ',callGoal_mk hC h fun _ _ h=>h,hn⟩
set_option maxRecDepth 100000 in
set_option maxHeartbeats 4000000 in
theorem together_tc (o : Og) (ids : List Int) (ho : ogB o = true) (hl : ids.length ≤ 1000) : TC Tryz.prog 98 [ogA o,its ids] [opO o] (fun v σ' => v = sdA o ids (lacR o ids) ∧ σ' = [opO o]) := by
 have hps := (ogB_iff.1 ho).2.1
 have hsu := (ogB_iff.1 ho).2.2.1
 refine TC.weak (Q := fun u σ'=>u = sdA o ids (lacR o ids) ∧ nthO σ' 0 = opO o ∧ 0 < σ'.length) ?_ fun u σ' h=>⟨[0],_,[opO o],rfl,by simp,by have := h.2.2;simp;omega,?_,⟨?_,fun _=>by rw [h.2.1];rfl,trivial⟩,rfl,rfl⟩
 ·unfold lacR
  (refine TC_of_TM Γ_ok Tryz.func98 rfl (by kernel_rfl) ?_;simp only [Tryz.ntmps98,Tryz.results98,List.length_cons,List.length_nil,Nat.reduceSub,Nat.reduceAdd,List.replicate,List.cons_append,List.nil_append])
  repeat' (first
  | (with_reducible refine hK _ ?_; clear hK K)
  | ((with_reducible first|refine retQM_r ?_|refine retQM_n ?_);try refine sgo ?_)
  | ((with_reducible refine callGoal_inline Γ_ok Tryz.func120 rfl (by kernel_rfl) (by exact hC2) ?_);simp only [Tryz.ntmps120,Tryz.results120,List.length_cons,List.length_nil,Nat.reduceSub,Nat.reduceAdd,List.replicate,List.cons_append,List.nil_append])
  | ((refine T_rangeFunc (fnI := Tryz.f131) (.inl rfl) rfl trivial Tryz.func131 rfl (by kernel_rfl) rfl (fun l r tc lo hi ds hL=>?_));simp only [Tryz.ntmps131,List.length_cons,List.length_nil,Nat.reduceSub,Nat.reduceAdd,List.replicate,List.cons_append,List.nil_append];try refine sgo ?_)
  | ((with_reducible apply DC_call);(focus exact rfl);(focus exact rfl);(focus exact rfl);intro N hN;refine sgo ?_)
  | ((with_reducible first|refine T_seq_region Γ_ok (fun K hK=>?_)|refine T_last_region Γ_ok (fun K hK=>?_)|refine TO_callN rfl (fun N hN=>?_)|refine DCT_fork Γ_ok (fun K2 hK2=>?_)|refine DCT_last Γ_ok ?_|refine DC_ev Γ_ok ?_|refine TO_ev Γ_ok ?_|refine retQ_r ?_|refine retQ_n ?_);refine sgo ?_)
  | (with_reducible refine hK2 _ ?_ ?_ <;> clear hK2 K2)
  | with_reducible first|refine gC_false ?_|refine gC_true ?_|refine dCall_true ?_
  | (with_reducible refine hN _ _ ?_; clear hN N)
  | (with_reducible refine hN _ _ (dInl rfl) ?_; clear hN N)
  | ((with_reducible refine hN _ _ (.inr ?_) ?_);(focus (refine sgo ?_;try exact True.intro));all_goals (try clear hN N))
  | with_reducible first|refine T_seq ?_|refine T_block ?_|refine T_ret ?_|refine T_exit ?_|refine T_skip ?_|refine T_label ?_
  | with_reducible first|refine thenQ_n ?_|refine thenQ_e ?_|refine thenQ_r ?_|refine blockQ_n ?_|refine blockQ_e ?_|refine blockQ_r ?_
  | with_reducible refine blockQ_o (by decide) ?_
  | ((with_reducible refine T_cond _ rfl (fun hb=>?_) (fun hb=>?_)) <;> first|(cases hb;done)|replace hb:=sgh hb|skip)
  | (with_reducible refine And.intro aG ?_)
  | assumption | omega | exact True.intro)
  refine T_loopW (fun m st=>∃ i : Nat,i ≤ ids.length ∧ m + i = ids.length ∧ st = ⟨[.fn (.yield l) [] [],.optr 5 0 0,.optr 4 0 0] ++ List.replicate 5 .top ++ [its ids,.imm (.int .i64 ids.length),.imm (.int .i64 i)] ++ List.replicate 17 .top,
    [opO o, .box 49 (ogL o), sd0, .box 3 [.imm (.int .i64 (demK o.ps ids i))], .box 49 (ogL o), .box 26 [its ids],
     .ghost ([.top,its ids,.optr 1 0 0,.top,.optr 2 0 0,.optr 3 0 0] ++ List.replicate 17 .top) tc.toList lo hi ds,.raw l (.loop (r.at .ready none))]⟩)
   ids.length ⟨_, ?_, 0, by omega, rfl, rfl⟩ ?_
  ·((try refine sgl ?_);exact wkI [0,1,2,3,4,5,6,7])
  rintro m st ⟨i, g0, g1, rfl⟩
  have hd := demK_bd ho ids i
  by_cases hi : i < ids.length
  ·have h1 := pipe_tc o (gL ids i) (by omega)
   have hw := (pip_ok ho (gL ids i)).2.1
   have hs : demK o.ps ids (i + 1) = demK o.ps ids i + (if (pipR o.ps (gL ids i)).2 = true then (pipR o.ps (gL ids i)).1.wind else 0) := rfl
   generalize demK o.ps ids i = dk at hd hs
   generalize pipR o.ps (gL ids i) = pp at h1 hs hw
   obtain ⟨x, ok⟩ := pp
   simp only [] at h1 hs hw
   cases ok with
   | true =>
    rw [if_pos rfl] at hs
    refine sgo ?_
    repeat' (first
  | (with_reducible refine hK _ ?_; clear hK K)
  | ((refine TO_yield hL 7 6 rfl rfl rfl (by first|exact Or.inl rfl|exact Or.inr rfl) rfl rfl rfl (by simp only [go_sem,and_self]) (fun ti lo' hi' ds'=>?_));try refine sgo ?_)
  | ((with_reducible refine assignQ_mk 7 (by with_unfolding_all rfl) ?_);try refine sgo ?_)
  | ((with_reducible first|refine roundQ_n 7 9 (by with_unfolding_all rfl) (by with_unfolding_all rfl) ?_|refine roundQ_r 7 9 (by with_unfolding_all rfl) (by with_unfolding_all rfl) ?_|refine roundQ_e 7 9 (by with_unfolding_all rfl) (by with_unfolding_all rfl) ?_);try refine sgo ?_)
  | ((with_reducible first|apply callGoal_lookA (h1)|apply dCall_lookA (h1));(case hC=>exact hC2);(case hc=>exact cvl))
  | ((with_reducible first|apply gC_lookA (fun hg=>(h1))|apply dCall_lookGA (fun hg=>(h1)));(case hC=>exact hC1);(case hc=>(intro hg;exact cvl)))
  | ((with_reducible apply DC_call);(focus exact rfl);(focus exact rfl);(focus exact rfl);intro N hN;refine sgo ?_)
  | ((with_reducible first|refine T_seq_region Γ_ok (fun K hK=>?_)|refine T_last_region Γ_ok (fun K hK=>?_)|refine TO_callN rfl (fun N hN=>?_)|refine DCT_fork Γ_ok (fun K2 hK2=>?_)|refine DCT_last Γ_ok ?_|refine DC_ev Γ_ok ?_|refine TO_ev Γ_ok ?_|refine retQ_r ?_|refine retQ_n ?_);refine sgo ?_)
  | (with_reducible refine hK2 _ ?_ ?_ <;> clear hK2 K2)
  | with_reducible first|refine gC_false ?_|refine gC_true ?_|refine dCall_true ?_
  | (with_reducible refine hN _ _ ?_; clear hN N)
  | (with_reducible refine hN _ _ (dInl rfl) ?_; clear hN N)
  | ((with_reducible refine hN _ _ (.inr ?_) ?_);(focus (refine sgo ?_;try exact True.intro));all_goals (try clear hN N))
  | with_reducible first|refine T_seq ?_|refine T_block ?_|refine T_ret ?_|refine T_exit ?_|refine T_skip ?_|refine T_label ?_
  | with_reducible first|refine thenQ_n ?_|refine thenQ_e ?_|refine thenQ_r ?_|refine blockQ_n ?_|refine blockQ_e ?_|refine blockQ_r ?_
  | with_reducible refine blockQ_o (by decide) ?_
  | ((with_reducible refine T_cond _ rfl (fun hb=>?_) (fun hb=>?_)) <;> first|(cases hb;done)|replace hb:=sgh hb|skip)
  | (with_reducible refine And.intro aG ?_)
  | assumption | omega | exact True.intro)
    refine ⟨ids.length - (i + 1), by omega, _, ?_, i + 1, by omega, by omega, rfl⟩
    rw [hs]
    ((try refine sgl ?_);exact wkI [0,1,2,3,4,5,6,7])
   | false =>
    rw [if_neg (by simp), Int.add_zero] at hs
    refine sgo ?_
    (have cl1 := h1;((have sx1:=sx0;refine goB1 _ _ _ _ _ _ _ _ ?_ ?_ ?_ ?_ ?_ ?_ ?_ ?_)<;>(repeat intro hb)<;>first|exact True.intro|refine Lf.mk ?_))
    refine ⟨ids.length - (i + 1), by omega, _, ?_, i + 1, by omega, by omega, rfl⟩
    rw [hs]
    ((try refine sgl ?_);exact wkI [0,1,2,3,4,5,6,7])
  ·obtain rfl : i = ids.length := by omega
   refine sgo ?_
   repeat' (first
  | (with_reducible refine hK _ ?_; clear hK K)
  | ((with_reducible first|refine iterQ_r 7 6 (by with_unfolding_all rfl) (by with_unfolding_all rfl) ?_|refine iterQ_n 7 6 (by with_unfolding_all rfl) (by with_unfolding_all rfl) ?_|refine iterQ_rr 7 6 (by with_unfolding_all rfl) (by with_unfolding_all rfl) ?_|refine iterQ_nr 7 6 (by with_unfolding_all rfl) (by with_unfolding_all rfl) ?_|refine iterQ_re 7 6 (by with_unfolding_all rfl) (by with_unfolding_all rfl) ?_|refine iterQ_ne 7 6 (by with_unfolding_all rfl) (by with_unfolding_all rfl) ?_);try refine sgo ?_)
  | ((with_reducible first|refine retQM_r ?_|refine retQM_n ?_);try refine sgo ?_)
  | ((with_reducible apply DC_call);(focus exact rfl);(focus exact rfl);(focus exact rfl);intro N hN;refine sgo ?_)
  | ((with_reducible first|refine T_seq_region Γ_ok (fun K hK=>?_)|refine T_last_region Γ_ok (fun K hK=>?_)|refine TO_callN rfl (fun N hN=>?_)|refine DCT_fork Γ_ok (fun K2 hK2=>?_)|refine DCT_last Γ_ok ?_|refine DC_ev Γ_ok ?_|refine TO_ev Γ_ok ?_|refine retQ_r ?_|refine retQ_n ?_);refine sgo ?_)
  | (with_reducible refine hK2 _ ?_ ?_ <;> clear hK2 K2)
  | with_reducible first|refine gC_false ?_|refine gC_true ?_|refine dCall_true ?_
  | (with_reducible refine hN _ _ ?_; clear hN N)
  | (with_reducible refine hN _ _ (dInl rfl) ?_; clear hN N)
  | ((with_reducible refine hN _ _ (.inr ?_) ?_);(focus (refine sgo ?_;try exact True.intro));all_goals (try clear hN N))
  | with_reducible first|refine T_seq ?_|refine T_block ?_|refine T_ret ?_|refine T_exit ?_|refine T_skip ?_|refine T_label ?_
  | with_reducible first|refine thenQ_n ?_|refine thenQ_e ?_|refine thenQ_r ?_|refine blockQ_n ?_|refine blockQ_e ?_|refine blockQ_r ?_
  | with_reducible refine blockQ_o (by decide) ?_
  | ((with_reducible refine T_cond _ rfl (fun hb=>?_) (fun hb=>?_)) <;> first|(cases hb;done)|replace hb:=sgh hb|skip)
  | (with_reducible refine And.intro aG ?_)
  | assumption | omega | exact True.intro)
 ·rw [h.1]
  exact WkV.free (by simp [Free, FreeL])
 ·rw [h.2.1]
  (repeat' (first|(exact WkV.free (by simp [Free]))|refine WkVL.cons ?_ ?_|exact wkT|refine WkV.agg ?_|refine WkV.tup ?_|refine WkV.fn ?_ ?_|exact WkO.dead|exact WkO.raw|refine WkO.ghost ?_|exact WkO.mpE rfl trivial|refine WkO.box ?_ rfl|refine WkO.arr ?_|refine And.intro ?_ (And.intro aF ?_)|exact trivial|(intro i j hi hj)))
set_option maxRecDepth 100000 in
set_option maxHeartbeats 4000000 in
theorem together_tc2 (o : Og) (ids : List Int) (ho : ogB o = true) (hl : ids.length ≤ 1000) : TC Tryz.prog 98 [ogA o,its ids] [opO o,sd0] (fun v σ'=>v = sdA o ids (lacR o ids) ∧ σ' = [opO o,sd0]) := by
 have hps := (ogB_iff.1 ho).2.1
 have hsu := (ogB_iff.1 ho).2.2.1
 refine TC.weak (Q := fun u σ'=>u = sdA o ids (lacR o ids) ∧ nthO σ' 0 = opO o ∧ nthO σ' 1 = sd0 ∧ 1 < σ'.length) ?_ fun u σ' h=>⟨[0,1],_,[opO o,sd0],rfl,by simp,by have := h.2.2.2;simp;omega,?_,⟨?_,fun _=>by rw [h.2.1];rfl,?_,fun _=>by rw [h.2.2.1];rfl,trivial⟩,rfl,rfl⟩
 ·unfold lacR
  (refine TC_of_TM Γ_ok Tryz.func98 rfl (by kernel_rfl) ?_;simp only [Tryz.ntmps98,Tryz.results98,List.length_cons,List.length_nil,Nat.reduceSub,Nat.reduceAdd,List.replicate,List.cons_append,List.nil_append])
  repeat' (first
  | (with_reducible refine hK _ ?_; clear hK K)
  | ((with_reducible first|refine retQM_r ?_|refine retQM_n ?_);try refine sgo ?_)
  | ((with_reducible refine callGoal_inline Γ_ok Tryz.func120 rfl (by kernel_rfl) (by exact hC2) ?_);simp only [Tryz.ntmps120,Tryz.results120,List.length_cons,List.length_nil,Nat.reduceSub,Nat.reduceAdd,List.replicate,List.cons_append,List.nil_append])
  | ((refine T_rangeFunc (fnI := Tryz.f131) (.inl rfl) rfl trivial Tryz.func131 rfl (by kernel_rfl) rfl (fun l r tc lo hi ds hL=>?_));simp only [Tryz.ntmps131,List.length_cons,List.length_nil,Nat.reduceSub,Nat.reduceAdd,List.replicate,List.cons_append,List.nil_append];try refine sgo ?_)
  | ((with_reducible apply DC_call);(focus exact rfl);(focus exact rfl);(focus exact rfl);intro N hN;refine sgo ?_)
  | ((with_reducible first|refine T_seq_region Γ_ok (fun K hK=>?_)|refine T_last_region Γ_ok (fun K hK=>?_)|refine TO_callN rfl (fun N hN=>?_)|refine DCT_fork Γ_ok (fun K2 hK2=>?_)|refine DCT_last Γ_ok ?_|refine DC_ev Γ_ok ?_|refine TO_ev Γ_ok ?_|refine retQ_r ?_|refine retQ_n ?_);refine sgo ?_)
  | (with_reducible refine hK2 _ ?_ ?_ <;> clear hK2 K2)
  | with_reducible first|refine gC_false ?_|refine gC_true ?_|refine dCall_true ?_
  | (with_reducible refine hN _ _ ?_; clear hN N)
  | (with_reducible refine hN _ _ (dInl rfl) ?_; clear hN N)
  | ((with_reducible refine hN _ _ (.inr ?_) ?_);(focus (refine sgo ?_;try exact True.intro));all_goals (try clear hN N))
  | with_reducible first|refine T_seq ?_|refine T_block ?_|refine T_ret ?_|refine T_exit ?_|refine T_skip ?_|refine T_label ?_
  | with_reducible first|refine thenQ_n ?_|refine thenQ_e ?_|refine thenQ_r ?_|refine blockQ_n ?_|refine blockQ_e ?_|refine blockQ_r ?_
  | with_reducible refine blockQ_o (by decide) ?_
  | ((with_reducible refine T_cond _ rfl (fun hb=>?_) (fun hb=>?_)) <;> first|(cases hb;done)|replace hb:=sgh hb|skip)
  | (with_reducible refine And.intro aG ?_)
  | assumption | omega | exact True.intro)
  refine T_loopW (fun m st=>∃ i : Nat,i ≤ ids.length ∧ m + i = ids.length ∧ st = ⟨[.fn (.yield l) [] [],.optr 6 0 0,.optr 5 0 0] ++ List.replicate 5 .top ++ [its ids,.imm (.int .i64 ids.length),.imm (.int .i64 i)] ++ List.replicate 17 .top,
    [opO o,sd0,.box 49 (ogL o),sd0,.box 3 [.imm (.int .i64 (demK o.ps ids i))],.box 49 (ogL o),.box 26 [its ids],
     .ghost ([.top,its ids,.optr 2 0 0,.top,.optr 3 0 0,.optr 4 0 0] ++ List.replicate 17 .top) tc.toList lo hi ds,.raw l (.loop (r.at .ready none))]⟩)
   ids.length ⟨_, ?_, 0, by omega, rfl, rfl⟩ ?_
  ·((try refine sgl ?_);exact wkI [0,1,2,3,4,5,6,7,8])
  rintro m st ⟨i, g0, g1, rfl⟩
  have hd := demK_bd ho ids i
  by_cases hi : i < ids.length
  ·have h1 := pipe_tc o (gL ids i) (by omega)
   have hw := (pip_ok ho (gL ids i)).2.1
   have hs : demK o.ps ids (i + 1) = demK o.ps ids i + (if (pipR o.ps (gL ids i)).2 = true then (pipR o.ps (gL ids i)).1.wind else 0) := rfl
   generalize demK o.ps ids i = dk at hd hs
   generalize pipR o.ps (gL ids i) = pp at h1 hs hw
   obtain ⟨x, ok⟩ := pp
   simp only [] at h1 hs hw
   cases ok with
   | true =>
    rw [if_pos rfl] at hs
    refine sgo ?_
    repeat' (first
  | (with_reducible refine hK _ ?_; clear hK K)
  | ((refine TO_yield hL 8 7 rfl rfl rfl (by first|exact Or.inl rfl|exact Or.inr rfl) rfl rfl rfl (by simp only [go_sem,and_self]) (fun ti lo' hi' ds'=>?_));try refine sgo ?_)
  | ((with_reducible refine assignQ_mk 8 (by with_unfolding_all rfl) ?_);try refine sgo ?_)
  | ((with_reducible first|refine roundQ_n 8 10 (by with_unfolding_all rfl) (by with_unfolding_all rfl) ?_|refine roundQ_r 8 10 (by with_unfolding_all rfl) (by with_unfolding_all rfl) ?_|refine roundQ_e 8 10 (by with_unfolding_all rfl) (by with_unfolding_all rfl) ?_);try refine sgo ?_)
  | ((with_reducible first|apply callGoal_lookA (h1)|apply dCall_lookA (h1));(case hC=>exact hC2);(case hc=>exact cvl))
  | ((with_reducible first|apply gC_lookA (fun hg=>(h1))|apply dCall_lookGA (fun hg=>(h1)));(case hC=>exact hC1);(case hc=>(intro hg;exact cvl)))
  | ((with_reducible apply DC_call);(focus exact rfl);(focus exact rfl);(focus exact rfl);intro N hN;refine sgo ?_)
  | ((with_reducible first|refine T_seq_region Γ_ok (fun K hK=>?_)|refine T_last_region Γ_ok (fun K hK=>?_)|refine TO_callN rfl (fun N hN=>?_)|refine DCT_fork Γ_ok (fun K2 hK2=>?_)|refine DCT_last Γ_ok ?_|refine DC_ev Γ_ok ?_|refine TO_ev Γ_ok ?_|refine retQ_r ?_|refine retQ_n ?_);refine sgo ?_)
  | (with_reducible refine hK2 _ ?_ ?_ <;> clear hK2 K2)
  | with_reducible first|refine gC_false ?_|refine gC_true ?_|refine dCall_true ?_
  | (with_reducible refine hN _ _ ?_; clear hN N)
  | (with_reducible refine hN _ _ (dInl rfl) ?_; clear hN N)
  | ((with_reducible refine hN _ _ (.inr ?_) ?_);(focus (refine sgo ?_;try exact True.intro));all_goals (try clear hN N))
  | with_reducible first|refine T_seq ?_|refine T_block ?_|refine T_ret ?_|refine T_exit ?_|refine T_skip ?_|refine T_label ?_
  | with_reducible first|refine thenQ_n ?_|refine thenQ_e ?_|refine thenQ_r ?_|refine blockQ_n ?_|refine blockQ_e ?_|refine blockQ_r ?_
  | with_reducible refine blockQ_o (by decide) ?_
  | ((with_reducible refine T_cond _ rfl (fun hb=>?_) (fun hb=>?_)) <;> first|(cases hb;done)|replace hb:=sgh hb|skip)
  | (with_reducible refine And.intro aG ?_)
  | assumption | omega | exact True.intro)
    refine ⟨ids.length - (i + 1), by omega, _, ?_, i + 1, by omega, by omega, rfl⟩
    rw [hs]
    ((try refine sgl ?_);exact wkI [0,1,2,3,4,5,6,7,8])
   | false =>
    rw [if_neg (by simp), Int.add_zero] at hs
    refine sgo ?_
    (have cl1 := h1;((have sx1:=sx0;refine goB1 _ _ _ _ _ _ _ _ ?_ ?_ ?_ ?_ ?_ ?_ ?_ ?_)<;>(repeat intro hb)<;>first|exact True.intro|refine Lf.mk ?_))
    refine ⟨ids.length - (i + 1), by omega, _, ?_, i + 1, by omega, by omega, rfl⟩
    rw [hs]
    ((try refine sgl ?_);exact wkI [0,1,2,3,4,5,6,7,8])
  ·obtain rfl : i = ids.length := by omega
   refine sgo ?_
   repeat' (first
  | (with_reducible refine hK _ ?_; clear hK K)
  | ((with_reducible first|refine iterQ_r 8 7 (by with_unfolding_all rfl) (by with_unfolding_all rfl) ?_|refine iterQ_n 8 7 (by with_unfolding_all rfl) (by with_unfolding_all rfl) ?_|refine iterQ_rr 8 7 (by with_unfolding_all rfl) (by with_unfolding_all rfl) ?_|refine iterQ_nr 8 7 (by with_unfolding_all rfl) (by with_unfolding_all rfl) ?_|refine iterQ_re 8 7 (by with_unfolding_all rfl) (by with_unfolding_all rfl) ?_|refine iterQ_ne 8 7 (by with_unfolding_all rfl) (by with_unfolding_all rfl) ?_);try refine sgo ?_)
  | ((with_reducible first|refine retQM_r ?_|refine retQM_n ?_);try refine sgo ?_)
  | ((with_reducible apply DC_call);(focus exact rfl);(focus exact rfl);(focus exact rfl);intro N hN;refine sgo ?_)
  | ((with_reducible first|refine T_seq_region Γ_ok (fun K hK=>?_)|refine T_last_region Γ_ok (fun K hK=>?_)|refine TO_callN rfl (fun N hN=>?_)|refine DCT_fork Γ_ok (fun K2 hK2=>?_)|refine DCT_last Γ_ok ?_|refine DC_ev Γ_ok ?_|refine TO_ev Γ_ok ?_|refine retQ_r ?_|refine retQ_n ?_);refine sgo ?_)
  | (with_reducible refine hK2 _ ?_ ?_ <;> clear hK2 K2)
  | with_reducible first|refine gC_false ?_|refine gC_true ?_|refine dCall_true ?_
  | (with_reducible refine hN _ _ ?_; clear hN N)
  | (with_reducible refine hN _ _ (dInl rfl) ?_; clear hN N)
  | ((with_reducible refine hN _ _ (.inr ?_) ?_);(focus (refine sgo ?_;try exact True.intro));all_goals (try clear hN N))
  | with_reducible first|refine T_seq ?_|refine T_block ?_|refine T_ret ?_|refine T_exit ?_|refine T_skip ?_|refine T_label ?_
  | with_reducible first|refine thenQ_n ?_|refine thenQ_e ?_|refine thenQ_r ?_|refine blockQ_n ?_|refine blockQ_e ?_|refine blockQ_r ?_
  | with_reducible refine blockQ_o (by decide) ?_
  | ((with_reducible refine T_cond _ rfl (fun hb=>?_) (fun hb=>?_)) <;> first|(cases hb;done)|replace hb:=sgh hb|skip)
  | (with_reducible refine And.intro aG ?_)
  | assumption | omega | exact True.intro)
 ·rw [h.1]
  exact WkV.free (by simp [Free, FreeL])
 ·rw [h.2.1]
  (repeat' (first|(exact WkV.free (by simp [Free]))|refine WkVL.cons ?_ ?_|exact wkT|refine WkV.agg ?_|refine WkV.tup ?_|refine WkV.fn ?_ ?_|exact WkO.dead|exact WkO.raw|refine WkO.ghost ?_|exact WkO.mpE rfl trivial|refine WkO.box ?_ rfl|refine WkO.arr ?_|refine And.intro ?_ (And.intro aF ?_)|exact trivial|(intro i j hi hj)))
 ·rw [h.2.2.1]
  (repeat' (first|(fail)|refine WkVL.cons ?_ ?_|exact wkT|refine WkV.agg ?_|refine WkV.tup ?_|refine WkV.fn ?_ ?_|exact WkO.dead|exact WkO.raw|refine WkO.ghost ?_|exact WkO.mpE rfl trivial|refine WkO.box ?_ rfl|refine WkO.arr ?_|refine And.intro ?_ (And.intro aF ?_)|exact trivial|(intro i j hi hj)))
end Go.Proofs.YtonmienclploaaaGreatDoor
