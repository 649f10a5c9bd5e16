/-
 brass.Sound of a blow that there is.
-/
import Derived.Test.YtonmienclploaaaGreatDoorQGo
import Derived.Test.YtonmienclploaaaGreatDoorQH4
set_option linter.unusedSimpArgs false
set_option linter.unusedVariables false
namespace Go.Proofs.YtonmienclploaaaGreatDoor
open Go.Ab
def bsdR (h : Hn) (b : Bw) : P6 × Int := if pOk (sndB h b) = true then (sndB h b, 0) else (zP, 3)
set_option maxRecDepth 100000 in
set_option maxHeartbeats 8000000 in
theorem bSound_tc (h : Hn) (b : Bw) (hh : hnB h = true) (h1 : 1 ≤ b.h ∧ b.h ≤ h.most) (h2 : 0 ≤ b.v ∧ b.v < ((2 ^ h.vl.length : Nat) : Int)) : Look Tryz.prog 18 [hnA h,bwA b] (.tup [p6A (bsdR h b).1,.imm (.int .i64 (bsdR h b).2)]) := by
 have hs := hnS_iff.1 (hnB_s hh)
 have hp := pow_le16 hs.2.1
 have hsh : IntKind.i64.wrap (1 * 2 ^ min h.vl.length 64) = ((2 ^ h.vl.length : Nat) : Int) := by
  rw [Nat.min_eq_left (by omega), Int.one_mul, show (2 : Int) ^ h.vl.length = ((2 ^ h.vl.length : Nat) : Int) by simp]
  exact wrapI (by omega) (by omega)
 have c1 := bvalid_tc h (by omega)
 rw [hh] at c1
 have c2 := bsound_tc h b (hnB_s hh) (VlOk_of hh) h1.1 (by omega) (by omega)
 have c3 := valid_p (sndB h b)
 have hR : bsdR h b = if pOk (sndB h b) = true then (sndB h b, 0) else (zP, 3) := rfl
 refine Look.mk (by simp [Pl, PlL]) ?_
 generalize bsdR h b = R at *
 generalize sndB h b = x at *
 (refine TC_of_TM Γ_ok Tryz.func18 rfl (by kernel_rfl) ?_;simp only [Tryz.ntmps18,Tryz.results18,List.length_cons,List.length_nil,Nat.reduceSub,Nat.reduceAdd,List.replicate,List.cons_append,List.nil_append])
 repeat' (first
  | (with_reducible refine hK _ ?_; clear hK K)
  | ((with_reducible first|refine retQM_r ?_|refine retQM_n ?_);try refine sgo ?_)
  | ((with_reducible refine callGoal_inline Γ_ok Tryz.func48 rfl (by kernel_rfl) (by exact hC2) ?_);simp only [Tryz.ntmps48,Tryz.results48,List.length_cons,List.length_nil,Nat.reduceSub,Nat.reduceAdd,List.replicate,List.cons_append,List.nil_append])
  | ((refine T_rangeFunc (fnI := Tryz.f73) (.inl rfl) rfl trivial Tryz.func73 rfl (by kernel_rfl) rfl (fun l r tc lo hi ds hL=>?_));simp only [Tryz.ntmps73,List.length_cons,List.length_nil,Nat.reduceSub,Nat.reduceAdd,List.replicate,List.cons_append,List.nil_append];try refine sgo ?_)
  | ((with_reducible first|apply callGoal_lookA (c1)|apply dCall_lookA (c1));(case hC=>exact hC2);(case hc=>exact cvl))
  | ((with_reducible first|apply gC_lookA (fun hg=>(c1))|apply dCall_lookGA (fun hg=>(c1)));(case hC=>exact hC1);(case hc=>(intro hg;exact cvl)))
  | ((with_reducible apply DC_call);(focus exact rfl);(focus exact rfl);(focus exact rfl);intro N hN;refine sgo ?_)
  | ((with_reducible first|refine T_seq_region Γ_ok (fun K hK=>?_)|refine T_last_region Γ_ok (fun K hK=>?_)|refine TO_callN rfl (fun N hN=>?_)|refine DCT_fork Γ_ok (fun K2 hK2=>?_)|refine DCT_last Γ_ok ?_|refine DC_ev Γ_ok ?_|refine TO_ev Γ_ok ?_|refine retQ_r ?_|refine retQ_n ?_);refine sgo ?_)
  | (with_reducible refine hK2 _ ?_ ?_ <;> clear hK2 K2)
  | with_reducible first|refine gC_false ?_|refine gC_true ?_|refine dCall_true ?_
  | (with_reducible refine hN _ _ ?_; clear hN N)
  | (with_reducible refine hN _ _ (dInl rfl) ?_; clear hN N)
  | ((with_reducible refine hN _ _ (.inr ?_) ?_);(focus (refine sgo ?_;try exact True.intro));all_goals (try clear hN N))
  | with_reducible first|refine T_seq ?_|refine T_block ?_|refine T_ret ?_|refine T_exit ?_|refine T_skip ?_|refine T_label ?_
  | with_reducible first|refine thenQ_n ?_|refine thenQ_e ?_|refine thenQ_r ?_|refine blockQ_n ?_|refine blockQ_e ?_|refine blockQ_r ?_
  | with_reducible refine blockQ_o (by decide) ?_
  | ((with_reducible refine T_cond _ rfl (fun hb=>?_) (fun hb=>?_)) <;> first|(cases hb;done)|replace hb:=sgh hb|skip)
  | (with_reducible refine And.intro aG ?_)
  | assumption | omega | exact True.intro)
 refine T_loopW (fun m st=>∃ n : Nat,(n : Int) < b.h ∧ m + n = h.most.toNat ∧ st = ⟨[.fn (.yield l) [] [],.optr 4 0 0] ++ List.replicate 4 .top ++ [.imm (.int .i64 h.most),.imm (.int .i64 n)] ++ List.replicate 18 .top,
   [.box 54 (hnL h), .box 69 (bwL b), .box 23 (p6L zP), .box 30 [.imm (.int .i64 0)], .box 54 (hnL h),
    .ghost ([.top,.top,.optr 0 0 0,.optr 1 0 0,.optr 2 0 0,.optr 3 0 0] ++ List.replicate 20 .top) tc.toList lo hi ds,.raw l (.loop (r.at .ready none))]⟩)
  h.most.toNat ⟨_, ?_, 0, by omega, rfl, rfl⟩ ?_
 ·((try refine sgl ?_);exact wkI [0,1,2,3,4,5,6])
 rintro m st ⟨n, g0, g1, rfl⟩
 refine sgo ?_
 (have sx1 := hsh;have sx2:=sx0;((obtain ⟨sx3,sx4,sx5,sx6,sx7,sx8,sx9⟩:=sx0_7;refine goR9 _ _ _ _ _ _ _ _ ?_ ?_ ?_ ?_ ?_ ?_ ?_ ?_)<;>(repeat intro hb)<;>first|exact True.intro|refine Lf.mk ?_))
 refine T_loopW (fun m2 st=>∃ s : Nat,s ≤ 2 ^ h.vl.length ∧ m2 + s = 2 ^ h.vl.length ∧ ((n : Int) + 1 = b.h → (s : Int) ≤ b.v) ∧ st = ⟨[.fn (.yield l) [] [],.optr 4 0 0,.top,.imm (.int .i64 n),.top,.top,.imm (.int .i64 h.most),.imm (.int .i64 n)] ++ List.replicate 5 .top ++ [.imm (.int .i64 ((2 ^ h.vl.length : Nat) : Int)),.imm (.int .i64 s)] ++ List.replicate 11 .top,
   [.box 54 (hnL h), .box 69 (bwL b), .box 23 (p6L zP), .box 30 [.imm (.int .i64 0)], .box 54 (hnL h),
    .ghost ([.top,.top,.optr 0 0 0,.optr 1 0 0,.optr 2 0 0,.optr 3 0 0] ++ List.replicate 20 .top) tc.toList lo hi ds,.raw l (.loop (r.at .ready none))]⟩)
  (2 ^ h.vl.length) ⟨_, ?_, 0, by omega, rfl, fun _ => by omega, rfl⟩ ?_
 ·((try refine sgl ?_);exact wkI [0,1,2,3,4,5,6])
 rintro m2 st ⟨s, f0, f1, f2, rfl⟩
 by_cases hs2 : s < 2 ^ h.vl.length
 ·by_cases hx : (n : Int) + 1 = b.h ∧ (s : Int) = b.v
  ·have e1 : ((n : Int) + 1 == b.h) = true := beq_iff_eq.2 hx.1
   have e2 : ((s : Int) == b.v) = true := beq_iff_eq.2 hx.2
   by_cases hok : pOk x = true
   ·rw [if_pos hok] at hR
    subst hR
    rw [hok] at c3
    refine sgo ?_
    repeat' (first
  | (with_reducible refine hK _ ?_; clear hK K)
  | ((refine TO_yield hL 6 5 rfl rfl rfl (by first|exact Or.inl rfl|exact Or.inr rfl) rfl rfl rfl (by simp only [go_sem,and_self]) (fun ti lo' hi' ds'=>?_));try refine sgo ?_)
  | ((with_reducible refine assignQ_mk 6 (by with_unfolding_all rfl) ?_);try refine sgo ?_)
  | ((with_reducible first|refine roundQ_n 6 7 (by with_unfolding_all rfl) (by with_unfolding_all rfl) ?_|refine roundQ_r 6 7 (by with_unfolding_all rfl) (by with_unfolding_all rfl) ?_|refine roundQ_e 6 7 (by with_unfolding_all rfl) (by with_unfolding_all rfl) ?_);try refine sgo ?_)
  | ((with_reducible first|refine iterQ_r 6 5 (by with_unfolding_all rfl) (by with_unfolding_all rfl) ?_|refine iterQ_n 6 5 (by with_unfolding_all rfl) (by with_unfolding_all rfl) ?_|refine iterQ_rr 6 5 (by with_unfolding_all rfl) (by with_unfolding_all rfl) ?_|refine iterQ_nr 6 5 (by with_unfolding_all rfl) (by with_unfolding_all rfl) ?_|refine iterQ_re 6 5 (by with_unfolding_all rfl) (by with_unfolding_all rfl) ?_|refine iterQ_ne 6 5 (by with_unfolding_all rfl) (by with_unfolding_all rfl) ?_);try refine sgo ?_)
  | ((with_reducible first|refine retQM_r ?_|refine retQM_n ?_);try refine sgo ?_)
  | ((with_reducible first|apply callGoal_lookA (c2)|apply dCall_lookA (c2)|apply callGoal_lookA (c3)|apply dCall_lookA (c3));(case hC=>exact hC2);(case hc=>exact cvl))
  | ((with_reducible first|apply gC_lookA (fun hg=>(c2))|apply dCall_lookGA (fun hg=>(c2))|apply gC_lookA (fun hg=>(c3))|apply dCall_lookGA (fun hg=>(c3)));(case hC=>exact hC1);(case hc=>(intro hg;exact cvl)))
  | ((with_reducible apply DC_call);(focus exact rfl);(focus exact rfl);(focus exact rfl);intro N hN;refine sgo1 ?_)
  | ((with_reducible first|refine T_seq_region Γ_ok (fun K hK=>?_)|refine T_last_region Γ_ok (fun K hK=>?_)|refine TO_callN rfl (fun N hN=>?_)|refine DCT_fork Γ_ok (fun K2 hK2=>?_)|refine DCT_last Γ_ok ?_|refine DC_ev Γ_ok ?_|refine TO_ev Γ_ok ?_|refine retQ_r ?_|refine retQ_n ?_);refine sgo1 ?_)
  | (with_reducible refine hK2 _ ?_ ?_ <;> clear hK2 K2)
  | with_reducible first|refine gC_false ?_|refine gC_true ?_|refine dCall_true ?_
  | (with_reducible refine hN _ _ ?_; clear hN N)
  | (with_reducible refine hN _ _ (dInl rfl) ?_; clear hN N)
  | ((with_reducible refine hN _ _ (.inr ?_) ?_);(focus (refine sgo1 ?_;try exact True.intro));all_goals (try clear hN N))
  | with_reducible first|refine T_seq ?_|refine T_block ?_|refine T_ret ?_|refine T_exit ?_|refine T_skip ?_|refine T_label ?_
  | with_reducible first|refine thenQ_n ?_|refine thenQ_e ?_|refine thenQ_r ?_|refine blockQ_n ?_|refine blockQ_e ?_|refine blockQ_r ?_
  | with_reducible refine blockQ_o (by decide) ?_
  | ((with_reducible refine T_cond _ rfl (fun hb=>?_) (fun hb=>?_)) <;> first|(cases hb;done)|replace hb:=sgh hb|skip)
  | (with_reducible refine And.intro aG ?_)
  | assumption | omega | exact True.intro)
   ·rw [if_neg hok] at hR
    subst hR
    rw [Bool.not_eq_true] at hok
    rw [hok] at c3
    simp only [zP]
    refine sgo ?_
    repeat' (first
  | (with_reducible refine hK _ ?_; clear hK K)
  | ((refine TO_yield hL 6 5 rfl rfl rfl (by first|exact Or.inl rfl|exact Or.inr rfl) rfl rfl rfl (by simp only [go_sem,and_self]) (fun ti lo' hi' ds'=>?_));try refine sgo ?_)
  | ((with_reducible refine assignQ_mk 6 (by with_unfolding_all rfl) ?_);try refine sgo ?_)
  | ((with_reducible first|refine roundQ_n 6 7 (by with_unfolding_all rfl) (by with_unfolding_all rfl) ?_|refine roundQ_r 6 7 (by with_unfolding_all rfl) (by with_unfolding_all rfl) ?_|refine roundQ_e 6 7 (by with_unfolding_all rfl) (by with_unfolding_all rfl) ?_);try refine sgo ?_)
  | ((with_reducible first|refine iterQ_r 6 5 (by with_unfolding_all rfl) (by with_unfolding_all rfl) ?_|refine iterQ_n 6 5 (by with_unfolding_all rfl) (by with_unfolding_all rfl) ?_|refine iterQ_rr 6 5 (by with_unfolding_all rfl) (by with_unfolding_all rfl) ?_|refine iterQ_nr 6 5 (by with_unfolding_all rfl) (by with_unfolding_all rfl) ?_|refine iterQ_re 6 5 (by with_unfolding_all rfl) (by with_unfolding_all rfl) ?_|refine iterQ_ne 6 5 (by with_unfolding_all rfl) (by with_unfolding_all rfl) ?_);try refine sgo ?_)
  | ((with_reducible first|refine retQM_r ?_|refine retQM_n ?_);try refine sgo ?_)
  | ((with_reducible first|apply callGoal_lookA (c2)|apply dCall_lookA (c2)|apply callGoal_lookA (c3)|apply dCall_lookA (c3));(case hC=>exact hC2);(case hc=>exact cvl))
  | ((with_reducible first|apply gC_lookA (fun hg=>(c2))|apply dCall_lookGA (fun hg=>(c2))|apply gC_lookA (fun hg=>(c3))|apply dCall_lookGA (fun hg=>(c3)));(case hC=>exact hC1);(case hc=>(intro hg;exact cvl)))
  | ((with_reducible apply DC_call);(focus exact rfl);(focus exact rfl);(focus exact rfl);intro N hN;refine sgo1 ?_)
  | ((with_reducible first|refine T_seq_region Γ_ok (fun K hK=>?_)|refine T_last_region Γ_ok (fun K hK=>?_)|refine TO_callN rfl (fun N hN=>?_)|refine DCT_fork Γ_ok (fun K2 hK2=>?_)|refine DCT_last Γ_ok ?_|refine DC_ev Γ_ok ?_|refine TO_ev Γ_ok ?_|refine retQ_r ?_|refine retQ_n ?_);refine sgo1 ?_)
  | (with_reducible refine hK2 _ ?_ ?_ <;> clear hK2 K2)
  | with_reducible first|refine gC_false ?_|refine gC_true ?_|refine dCall_true ?_
  | (with_reducible refine hN _ _ ?_; clear hN N)
  | (with_reducible refine hN _ _ (dInl rfl) ?_; clear hN N)
  | ((with_reducible refine hN _ _ (.inr ?_) ?_);(focus (refine sgo1 ?_;try exact True.intro));all_goals (try clear hN N))
  | with_reducible first|refine T_seq ?_|refine T_block ?_|refine T_ret ?_|refine T_exit ?_|refine T_skip ?_|refine T_label ?_
  | with_reducible first|refine thenQ_n ?_|refine thenQ_e ?_|refine thenQ_r ?_|refine blockQ_n ?_|refine blockQ_e ?_|refine blockQ_r ?_
  | with_reducible refine blockQ_o (by decide) ?_
  | ((with_reducible refine T_cond _ rfl (fun hb=>?_) (fun hb=>?_)) <;> first|(cases hb;done)|replace hb:=sgh hb|skip)
  | (with_reducible refine And.intro aG ?_)
  | assumption | omega | exact True.intro)
  ·have e1 : (((n : Int) + 1 == b.h) && ((s : Int) == b.v)) = false := by
    rw [Bool.and_eq_false_iff]
    by_cases h9 : (n : Int) + 1 = b.h
    ·exact .inr (beq_eq_false_iff_ne.2 fun h => hx ⟨h9, h⟩)
    ·exact .inl (beq_eq_false_iff_ne.2 h9)
   refine sgo ?_
   repeat' (first
  | (with_reducible refine hK _ ?_; clear hK K)
  | ((refine TO_yield hL 6 5 rfl rfl rfl (by first|exact Or.inl rfl|exact Or.inr rfl) rfl rfl rfl (by simp only [go_sem,and_self]) (fun ti lo' hi' ds'=>?_));try refine sgo ?_)
  | ((with_reducible refine assignQ_mk 6 (by with_unfolding_all rfl) ?_);try refine sgo ?_)
  | ((with_reducible first|refine roundQ_n 6 7 (by with_unfolding_all rfl) (by with_unfolding_all rfl) ?_|refine roundQ_r 6 7 (by with_unfolding_all rfl) (by with_unfolding_all rfl) ?_|refine roundQ_e 6 7 (by with_unfolding_all rfl) (by with_unfolding_all rfl) ?_);try refine sgo ?_)
  | ((with_reducible apply DC_call);(focus exact rfl);(focus exact rfl);(focus exact rfl);intro N hN;refine sgo2 ?_)
  | ((with_reducible first|refine T_seq_region Γ_ok (fun K hK=>?_)|refine T_last_region Γ_ok (fun K hK=>?_)|refine TO_callN rfl (fun N hN=>?_)|refine DCT_fork Γ_ok (fun K2 hK2=>?_)|refine DCT_last Γ_ok ?_|refine DC_ev Γ_ok ?_|refine TO_ev Γ_ok ?_|refine retQ_r ?_|refine retQ_n ?_);refine sgo2 ?_)
  | (with_reducible refine hK2 _ ?_ ?_ <;> clear hK2 K2)
  | with_reducible first|refine gC_false ?_|refine gC_true ?_|refine dCall_true ?_
  | (with_reducible refine hN _ _ ?_; clear hN N)
  | (with_reducible refine hN _ _ (dInl rfl) ?_; clear hN N)
  | ((with_reducible refine hN _ _ (.inr ?_) ?_);(focus (refine sgo2 ?_;try exact True.intro));all_goals (try clear hN N))
  | with_reducible first|refine T_seq ?_|refine T_block ?_|refine T_ret ?_|refine T_exit ?_|refine T_skip ?_|refine T_label ?_
  | with_reducible first|refine thenQ_n ?_|refine thenQ_e ?_|refine thenQ_r ?_|refine blockQ_n ?_|refine blockQ_e ?_|refine blockQ_r ?_
  | with_reducible refine blockQ_o (by decide) ?_
  | ((with_reducible refine T_cond _ rfl (fun hb=>?_) (fun hb=>?_)) <;> first|(cases hb;done)|replace hb:=sgh hb|skip)
  | (with_reducible refine And.intro aG ?_)
  | assumption | omega | exact True.intro)
   refine ⟨2 ^ h.vl.length - (s + 1),by omega,_,?_,s + 1,by omega,by omega,fun h9 => by have := f2 h9;have : ¬ (s : Int) = b.v := fun h => hx ⟨h9,h⟩;omega,rfl⟩
   ((try refine sgl ?_);exact wkI [0,1,2,3,4,5,6])
 ·obtain rfl : s = 2 ^ h.vl.length := by omega
  have hn9 : ¬ ((n : Int) + 1 = b.h) := fun h9 => by have := f2 h9; omega
  refine sgo ?_
  (((refine goR0 _ _ _ _ _ _ _ _ ?_ ?_ ?_ ?_ ?_ ?_ ?_ ?_)<;>(repeat intro hb)<;>first|exact True.intro|refine Lf.mk ?_))
  refine ⟨h.most.toNat - (n + 1), by omega, _, ?_, n + 1, by omega, by omega, rfl⟩
  ((try refine sgl ?_);exact wkI [0,1,2,3,4,5,6])
end Go.Proofs.YtonmienclploaaaGreatDoor
