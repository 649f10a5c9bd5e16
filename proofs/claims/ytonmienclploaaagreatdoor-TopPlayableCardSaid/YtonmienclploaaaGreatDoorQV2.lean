/-
 voice.Breaths of a singer who may breathe behind each note.
-/
import Derived.Test.YtonmienclploaaaGreatDoorQGo
import Derived.Test.YtonmienclploaaaGreatDoorQU4
import Derived.Test.YtonmienclploaaaGreatDoorQA5
import Derived.Test.YtonmienclploaaaGreatDoorQA6
set_option linter.unusedSimpArgs false
set_option linter.unusedVariables false
namespace Go.Proofs.YtonmienclploaaaGreatDoor
open Go.Ab
def itE (l : List Int) (i _j : Nat) : AV := .imm (.int .i64 (gL l i))
@[go_sem] theorem itE_eq (l : List Int) (i j : Nat) : itE l i j = .imm (.int .i64 (gL l i)) := rfl
@[simp] theorem itE_free (l : List Int) (i j : Nat) : Free (itE l i j) := trivial
@[simp] theorem itE_pl (l : List Int) (i j : Nat) : Pl (itE l i j) := trivial
@[go_sem, reducible] def its (l : List Int) : AV := .view l.length 1 (itE l)
@[go_sem, reducible] def itO (l : List Int) : AObj := .arr 3 1 l.length (itE l)
theorem it_snoc (l : List Int) (x : Int) {i j : Nat} (h : i < l.length + 1) (hj : j < 1) : catE l.length (itE l) (fun i j => nth [AV.imm (.int .i64 x)] (i * 1 + j)) i j = itE (l ++ [x]) i j := by
 obtain rfl : j = 0 := by omega
 unfold catE itE gL
 split
 ·rename_i h1; simp [List.getElem?_append_left h1]
 ·obtain rfl : i = l.length := by omega
  simp [nth]
@[go_sem, reducible] def alls (n : Nat) : AV := .view n 1 (fun _ _ => .imm (.bool true))
set_option maxRecDepth 100000 in
set_option maxHeartbeats 4000000 in
theorem wrong_tc (n : Int) : Look Tryz.prog 21 [.imm (.int .i64 n)] (.imm (.bool (!(okLen n)))) := by
 refine Look.mk trivial ?_
 unfold okLen
 (refine TC_of_T Γ_ok Tryz.func21 rfl (by kernel_rfl) ?_;simp only [Tryz.ntmps21,Tryz.results21,List.length_cons,List.length_nil,Nat.reduceSub,Nat.reduceAdd,List.replicate,List.cons_append,List.nil_append])
 (((refine goR0 _ _ _ _ _ _ _ _ ?_ ?_ ?_ ?_ ?_ ?_ ?_ ?_)<;>(repeat intro hb)<;>first|exact True.intro|refine Lf.mk ?_))
 all_goals (congr 2; try grind)
def anyB (g : Int → Bool) (l : List Int) : Bool := decide (fstF (fun i => g (gL l i)) 0 l.length < l.length)
theorem anyB_no {g : Int → Bool} {l : List Int} : anyB g l = false ↔ ∀ x ∈ l, g x = false := by
 have h := fstF_spec (f := fun i => g (gL l i)) (d := l.length) (i := 0)
 unfold anyB
 rw [decide_eq_false_iff_not]
 refine ⟨fun hn x hx => ?_, fun ha hlt => ?_⟩
 ·obtain ⟨k, hk, rfl⟩ := List.getElem_of_mem hx
  have := h.2.2.1 k (by omega) (by omega)
  simpa [gL, hk] using this
 ·have := h.2.2.2 (by omega)
  rw [ha _ (gL_mem hlt)] at this
  cases this
set_option maxRecDepth 100000 in
set_option maxHeartbeats 4000000 in
theorem idxF_tc (f : FuncId) (g : Int → Bool) (l : List Int) (hl : l.length ≤ 1000000) (hf : ∀ x,Look Tryz.prog f [.imm (.int .i64 x)] (.imm (.bool (g x)))) :
  Look Tryz.prog 52 [its l,.fn (.func f) [] []] (.imm (.int .i64 (if fstF (fun i => g (gL l i)) 0 l.length < l.length then (fstF (fun i => g (gL l i)) 0 l.length : Int) else -1))) := by
 refine Look.mk trivial ?_
 generalize hr : fstF (fun i => g (gL l i)) 0 l.length = r
 (refine TC_of_T Γ_ok Tryz.func52 rfl (by kernel_rfl) ?_;simp only [Tryz.ntmps52,Tryz.results52,List.length_cons,List.length_nil,Nat.reduceSub,Nat.reduceAdd,List.replicate,List.cons_append,List.nil_append])
 (((refine goR0 _ _ _ _ _ _ _ _ ?_ ?_ ?_ ?_ ?_ ?_ ?_ ?_)<;>(repeat intro hb)<;>first|exact True.intro|refine Lf.mk ?_))
 refine T_loopW (fun m st=>∃ i : Nat,i ≤ l.length ∧ m + i = l.length ∧ fstF (fun i=>g (gL l i)) i (l.length - i) = r ∧ st = ⟨[its l,.fn (.func f) [] [],.top,.top,.imm (.int .i64 0),.top,its l,.imm (.int .i64 l.length),.imm (.int .i64 i)] ++ List.replicate 10 .top,[]⟩)
  l.length ⟨_, ?_, 0, by omega, rfl, hr, rfl⟩ ?_
 ·((try refine sgl ?_);exact wkI [])
 rintro m st ⟨i, g0, g1, g2, rfl⟩
 refine sgo ?_
 by_cases hi : i < l.length
 ·have h1 := hf (gL l i)
  cases hg : g (gL l i) with
  | true =>
   rw [hg] at h1
   rw [fstF_yes hg (by omega)] at g2
   subst g2
   (have cl1 := h1;((refine goR0 _ _ _ _ _ _ _ _ ?_ ?_ ?_ ?_ ?_ ?_ ?_ ?_)<;>(repeat intro hb)<;>first|exact True.intro|refine Lf.mk ?_))
   rw [if_pos hi] at *
  | false =>
   rw [hg] at h1
   rw [show l.length - i = l.length - (i + 1) + 1 by omega, fstF_no hg] at g2
   (have cl1 := h1;((refine goR0 _ _ _ _ _ _ _ _ ?_ ?_ ?_ ?_ ?_ ?_ ?_ ?_)<;>(repeat intro hb)<;>first|exact True.intro|refine Lf.mk ?_))
   refine ⟨l.length - (i + 1), by omega, _, ?_, i + 1, by omega, by omega, g2, rfl⟩
   ((try refine sgl ?_);exact wkI [])
 ·have : r = l.length := by
   rw [show l.length - i = 0 by omega, fstF] at g2
   omega
  (((refine goR0 _ _ _ _ _ _ _ _ ?_ ?_ ?_ ?_ ?_ ?_ ?_ ?_)<;>(repeat intro hb)<;>first|exact True.intro|refine Lf.mk ?_))
  rw [if_neg (by omega)]
set_option maxRecDepth 100000 in
set_option maxHeartbeats 4000000 in
theorem anyF_tc (f : FuncId) (g : Int → Bool) (l : List Int) (hl : l.length ≤ 1000000) (hf : ∀ x,Look Tryz.prog f [.imm (.int .i64 x)] (.imm (.bool (g x)))) : Look Tryz.prog 23 [its l,.fn (.func f) [] []] (.imm (.bool (anyB g l))) := by
 have h := idxF_tc f g l hl hf
 unfold anyB
 generalize fstF (fun i => g (gL l i)) 0 l.length = r at h ⊢
 refine Look.mk trivial ?_
 by_cases hr : r < l.length
 ·rw [if_pos hr] at h
  rw [decide_eq_true hr]
  (refine TC_of_T Γ_ok Tryz.func23 rfl (by kernel_rfl) ?_;simp only [Tryz.ntmps23,Tryz.results23,List.length_cons,List.length_nil,Nat.reduceSub,Nat.reduceAdd,List.replicate,List.cons_append,List.nil_append])
  (have cl1 := h;((refine goR0 _ _ _ _ _ _ _ _ ?_ ?_ ?_ ?_ ?_ ?_ ?_ ?_)<;>(repeat intro hb)<;>first|exact True.intro|refine Lf.mk ?_))
  simp
 ·rw [if_neg hr] at h
  rw [decide_eq_false hr]
  (refine TC_of_T Γ_ok Tryz.func23 rfl (by kernel_rfl) ?_;simp only [Tryz.ntmps23,Tryz.results23,List.length_cons,List.length_nil,Nat.reduceSub,Nat.reduceAdd,List.replicate,List.cons_append,List.nil_append])
  (have cl1 := h;((refine goR0 _ _ _ _ _ _ _ _ ?_ ?_ ?_ ?_ ?_ ?_ ?_ ?_)<;>(repeat intro hb)<;>first|exact True.intro|refine Lf.mk ?_))
  simp
@[go_sem,reducible] def fxB (v : Vc) (ls out : List Int) (tc : List Value) (lo hi : Nat) (ds : List Deferred) (rw : AObj) : List AObj :=
 [.box 26 [.imm (.slice none 0 0)],.box 30 [.imm (.int .i64 0)],.box 26 [.own 8 0 out.length none],.box 3 [.imm (.int .i64 v.br)],.box 26 [its ls],.box 29 [alls ls.length],
  .ghost (List.replicate 6 .top ++ [.optr 0 0 0,.optr 1 0 0,.top,.optr 2 0 0] ++ List.replicate 36 .top) tc lo hi ds,rw,itO out]
theorem vcB_br {v : Vc} (h : vcB v = true) : 0 < v.br ∧ v.br ≤ 100000 := by
 unfold vcB at h
 simp only [Bool.and_eq_true, decide_eq_true_eq] at h
 exact h.2.2.2.2
set_option maxRecDepth 100000 in
set_option maxHeartbeats 4000000 in
theorem breaths_raw (v : Vc) (ls : List Int) (hl : ls.length ≤ 24) (hv : vcB v = true ∧ anyB (fun x => !okLen x) ls = false) : TC Tryz.prog 6 [vcA v,its ls,alls ls.length] [] (fun u σ' =>
  (u = .tup [.imm (.slice none 0 0), .imm (.int .i64 (breR v.br ls).2)] ∧ (breR v.br ls).1.length = 0) ∨
   ∃ k E',u = .tup [.own k 0 (breR v.br ls).1.length none,.imm (.int .i64 (breR v.br ls).2)] ∧ nthO σ' k = .arr 3 1 (breR v.br ls).1.length E' ∧ ∀ i j,i < (breR v.br ls).1.length → j < 1 → E' i j = itE (breR v.br ls).1 i j) := by
 have c1 := vvalid_tc v
 have c2 := anyF_tc _ _ ls (by omega) wrong_tc
 have d5 : ((ls.length : Int) != ls.length) = false := by simp
 have d6 : decide ((ls.length : Int) > 200) = false := decide_eq_false (by omega)
 rw [hv.1] at c1
 rw [hv.2] at c2
 have hbr := vcB_br hv.1
 have hok : ∀ i, i < ls.length → 1 ≤ gL ls i ∧ gL ls i ≤ 100000 := fun i hi => by
  have := anyB_no.1 hv.2 _ (gL_mem hi)
  unfold okLen at this
  simp only [Bool.not_eq_false', Bool.and_eq_true, decide_eq_true_eq] at this
  exact this
 (refine TC_of_TM Γ_ok Tryz.func6 rfl (by kernel_rfl) ?_;simp only [Tryz.ntmps6,Tryz.results6,List.length_cons,List.length_nil,Nat.reduceSub,Nat.reduceAdd,List.replicate,List.cons_append,List.nil_append])
 repeat' (first
  | (with_reducible refine hK _ ?_; clear hK K)
  | ((with_reducible first|apply gC_lookA (fun hg=>(c2))|apply dCall_lookGA (fun hg=>(c2)));(case hC=>exact hC1);(case hc=>(intro hg;exact cvl)))
  | ((with_reducible first|apply callGoal_lookA (c2)|apply dCall_lookA (c2));(case hC=>exact hC2);(case hc=>exact cvl))
  | ((with_reducible first|refine retQM_r ?_|refine retQM_n ?_);try refine sgo ?_)
  | ((with_reducible refine callGoal_inline Γ_ok Tryz.func24 rfl (by kernel_rfl) (by exact hC2) ?_);simp only [Tryz.ntmps24,Tryz.results24,List.length_cons,List.length_nil,Nat.reduceSub,Nat.reduceAdd,List.replicate,List.cons_append,List.nil_append])
  | ((refine T_rangeFunc (fnI := Tryz.f53) (.inl rfl) rfl trivial Tryz.func53 rfl (by kernel_rfl) rfl (fun l r tc lo hi ds hL=>?_));simp only [Tryz.ntmps53,List.length_cons,List.length_nil,Nat.reduceSub,Nat.reduceAdd,List.replicate,List.cons_append,List.nil_append];try refine sgo ?_)
  | ((with_reducible first|apply callGoal_lookA (c1)|apply dCall_lookA (c1));(case hC=>exact hC2);(case hc=>exact cvl))
  | ((with_reducible first|apply gC_lookA (fun hg=>(c1))|apply dCall_lookGA (fun hg=>(c1)));(case hC=>exact hC1);(case hc=>(intro hg;exact cvl)))
  | ((with_reducible apply DC_call);(focus exact rfl);(focus exact rfl);(focus exact rfl);intro N hN;(simp only [go_sem,d5,d6,↓reduceIte,Nat.reduceAdd,Nat.reduceSub,Nat.reduceMul,Nat.reduceLT,Nat.reduceLeDiff,Nat.reduceEqDiff,Nat.reduceGT,Int.reduceToNat,Int.reduceBEq,Int.reduceBNe];try simp (disch := omega) only [wrapI,wrapU,half_sum,toNat_sub1,toNat_add1,Int.toNat_natCast]))
  | ((with_reducible first|refine T_seq_region Γ_ok (fun K hK=>?_)|refine T_last_region Γ_ok (fun K hK=>?_)|refine TO_callN rfl (fun N hN=>?_)|refine DCT_fork Γ_ok (fun K2 hK2=>?_)|refine DCT_last Γ_ok ?_|refine DC_ev Γ_ok ?_|refine TO_ev Γ_ok ?_|refine retQ_r ?_|refine retQ_n ?_);(simp only [go_sem,d5,d6,↓reduceIte,Nat.reduceAdd,Nat.reduceSub,Nat.reduceMul,Nat.reduceLT,Nat.reduceLeDiff,Nat.reduceEqDiff,Nat.reduceGT,Int.reduceToNat,Int.reduceBEq,Int.reduceBNe];try simp (disch := omega) only [wrapI,wrapU,half_sum,toNat_sub1,toNat_add1,Int.toNat_natCast]))
  | (with_reducible refine hK2 _ ?_ ?_ <;> clear hK2 K2)
  | with_reducible first|refine gC_false ?_|refine gC_true ?_|refine dCall_true ?_
  | (with_reducible refine hN _ _ ?_; clear hN N)
  | (with_reducible refine hN _ _ (dInl rfl) ?_; clear hN N)
  | ((with_reducible refine hN _ _ (.inr ?_) ?_);(focus (simp only [go_sem,d5,d6,↓reduceIte,Nat.reduceAdd,Nat.reduceSub,Nat.reduceMul,Nat.reduceLT,Nat.reduceLeDiff,Nat.reduceEqDiff,Nat.reduceGT,Int.reduceToNat,Int.reduceBEq,Int.reduceBNe];try simp (disch := omega) only [wrapI,wrapU,half_sum,toNat_sub1,toNat_add1,Int.toNat_natCast]));all_goals (try clear hN N))
  | with_reducible first|refine T_seq ?_|refine T_block ?_|refine T_ret ?_|refine T_exit ?_|refine T_skip ?_|refine T_label ?_
  | with_reducible first|refine thenQ_n ?_|refine thenQ_e ?_|refine thenQ_r ?_|refine blockQ_n ?_|refine blockQ_e ?_|refine blockQ_r ?_
  | with_reducible refine blockQ_o (by decide) ?_
  | ((with_reducible refine T_cond _ rfl (fun hb=>?_) (fun hb=>?_)) <;> first|(cases hb;done)|replace hb:=sgh hb|skip)
  | (with_reducible refine And.intro aG ?_)
  | assumption | omega | exact True.intro)
 refine T_loopW (fun m st => ∃ (i : Nat) (out : List Int),i ≤ ls.length ∧ out.length ≤ i ∧ m + i = ls.length ∧ brk ls v.br 0 = (out ++ (brk ls v.br i).1,(brk ls v.br i).2) ∧
   st = ⟨[.fn (.yield l) [] [],.optr 4 0 0,.optr 3 0 0,.optr 5 0 0,.top,.imm (.int .i64 i)] ++ List.replicate 50 .top,fxB v ls out tc.toList lo hi ds (.raw l (.loop (r.at .ready none)))⟩)
  ls.length ⟨_, Wk.trans (Wk.push 3 1 (itE [])) ?_, 0, [], by omega, by simp, rfl, by simp, rfl⟩ ?_
 ·((try refine sgl ?_);exact wkI [1,2,3,4,5,6,7,8,9])
 rintro m st ⟨i, out, h1, h2, h3, h4, rfl⟩
 refine sgo ?_
 have fin : brk ls v.br i = ([], 0) → breR v.br ls = (out, 0) := fun e => by unfold breR; rw [h4, e]; simp
 by_cases hlt : i < ls.length
 ·(repeat' (first|with_reducible refine T_seq_drawT (id := 2) Γ_ok drawsAny pl53_2 (by kernel_rfl) (fun K hK=>?_)|with_reducible refine T_last_drawT (id := 2) Γ_ok drawsAny pl53_2 (by kernel_rfl) (fun K hK=>?_)|((refine goR0 _ _ _ _ _ _ _ _ ?_ ?_ ?_ ?_ ?_ ?_ ?_ ?_)<;>(repeat intro hb)<;>first|exact True.intro|refine Lf.mk ?_)))
  refine T_loopW (fun m2 st=>∃ j : Nat,(i ≤ j ∧ j ≤ ls.length) ∧ m2 + j = ls.length ∧ fitN (ls.drop i) v.br = (j - i) + fitN (ls.drop j) (v.br - smL ls i (j - i)) ∧ (0 ≤ smL ls i (j - i) ∧ smL ls i (j - i) ≤ v.br) ∧
    st = ⟨[.fn (.yield l) [] [],.optr 4 0 0,.optr 3 0 0,.optr 5 0 0,.top,.imm (.int .i64 i),.imm (.int .i64 j),.imm (.int .i64 (if j = i then -1 else (j : Int) - 1)),.imm (.int .i64 (v.br - smL ls i (j - i)))] ++ List.replicate 47 .top,fxB v ls out tc.toList lo hi ds (.raw l (.loop (r.at .ready none)))⟩)
   (ls.length - i) ⟨_, ?_, i, by omega, by omega, by simp [smL], by simp [smL]; omega, rfl⟩ ?_
  ·((try refine sgl ?_);refine Wk.intro [0,1,2,3,4,5,6,7,8] (by decide) (by decide) wkH ?_ ?_ <;> repeat' (first|(refine WkV.imm ?_;congr 1;simp [smL])|refine WkVL.cons ?_ ?_|exact wkT|refine WkV.agg ?_|refine WkV.tup ?_|refine WkV.fn ?_ ?_|exact WkO.dead|exact WkO.raw|refine WkO.ghost ?_|exact WkO.mpE rfl trivial|refine WkO.box ?_ rfl|refine WkO.arr ?_|refine And.intro ?_ (And.intro aF ?_)|exact trivial|(intro i j hi hj)))
  rintro m2 st ⟨j, f0, f1, f2, f3, rfl⟩
  generalize hLe : v.br - smL ls i (j - i) = L at f2
  have hLb : 0 ≤ L ∧ L ≤ 100000 := by omega
  refine sgo ?_
  by_cases hj : j < ls.length
  ·have hg := hok j hj
   by_cases hx : gL ls j ≤ L
   ·have e7 : decide (gL ls j ≤ L) = true := decide_eq_true hx
    rw [fitN_yes hj hx] at f2
    have hs : smL ls i (j + 1 - i) = smL ls i (j - i) + gL ls j := by rw [show j + 1 - i = (j - i) + 1 by omega,smL,show i + (j - i) = j by omega]
    (have sx1 := e7;have sx2:=sx0;repeat' (first|with_reducible refine T_seq_drawT (id := 2) Γ_ok drawsAny pl53_2 (by kernel_rfl) (fun K hK=>?_)|with_reducible refine T_last_drawT (id := 2) Γ_ok drawsAny pl53_2 (by kernel_rfl) (fun K hK=>?_)|((obtain ⟨sx3,sx4,sx5,sx6,sx7,sx8,sx9⟩:=sx0_7;refine goR9 _ _ _ _ _ _ _ _ ?_ ?_ ?_ ?_ ?_ ?_ ?_ ?_)<;>(repeat intro hb)<;>first|exact True.intro|refine Lf.mk ?_)))
    refine ⟨ls.length - (j + 1),by omega,_,?_,j + 1,by omega,by omega,by rw [hs,show v.br - (smL ls i (j - i) + gL ls j) = L - gL ls j by omega];omega,by omega,rfl⟩
    ((try refine sgl ?_);refine Wk.intro [0,1,2,3,4,5,6,7,8] (by decide) (by decide) wkH ?_ ?_ <;> repeat' (first|(refine WkV.imm ?_;congr 1;first|omega|(rw [if_neg (by omega)];omega))|refine WkVL.cons ?_ ?_|exact wkT|refine WkV.agg ?_|refine WkV.tup ?_|refine WkV.fn ?_ ?_|exact WkO.dead|exact WkO.raw|refine WkO.ghost ?_|exact WkO.mpE rfl trivial|refine WkO.box ?_ rfl|refine WkO.arr ?_|refine And.intro ?_ (And.intro aF ?_)|exact trivial|(intro i j hi hj)))
   ·have e7 : decide (gL ls j ≤ L) = false := decide_eq_false hx
    rw [fitN_no hj hx] at f2
    have e10 : ((j : Int) == (ls.length : Int)) = false := by simp; omega
    by_cases hji : j = i
    ·have hr : breR v.br ls = ([], 22) := by unfold breR; rw [h4, brk_long (by omega) (by omega)]; rfl
     have e8 : decide ((-1 : Int) ≥ 0) = false := by decide
     rw [if_pos hji]
     repeat' (first
  | (with_reducible refine hK _ ?_; clear hK K)
  | ((with_reducible first|refine retQM_r ?_|refine retQM_n ?_);try refine sgo ?_)
  | ((refine TO_yield hL 7 6 rfl rfl rfl (by first|exact Or.inl rfl|exact Or.inr rfl) rfl rfl rfl (by simp only [go_sem,and_self]) (fun ti lo' hi' ds'=>?_));try refine sgo ?_)
  | ((with_reducible refine assignQ_mk 7 (by with_unfolding_all rfl) ?_);try refine sgo ?_)
  | ((with_reducible first|refine roundQ_n 7 9 (by with_unfolding_all rfl) (by with_unfolding_all rfl) ?_|refine roundQ_r 7 9 (by with_unfolding_all rfl) (by with_unfolding_all rfl) ?_|refine roundQ_e 7 9 (by with_unfolding_all rfl) (by with_unfolding_all rfl) ?_);try refine sgo ?_)
  | ((with_reducible first|refine iterQ_r 7 6 (by with_unfolding_all rfl) (by with_unfolding_all rfl) ?_|refine iterQ_n 7 6 (by with_unfolding_all rfl) (by with_unfolding_all rfl) ?_|refine iterQ_rr 7 6 (by with_unfolding_all rfl) (by with_unfolding_all rfl) ?_|refine iterQ_nr 7 6 (by with_unfolding_all rfl) (by with_unfolding_all rfl) ?_|refine iterQ_re 7 6 (by with_unfolding_all rfl) (by with_unfolding_all rfl) ?_|refine iterQ_ne 7 6 (by with_unfolding_all rfl) (by with_unfolding_all rfl) ?_);try refine sgo ?_)
  | ((with_reducible apply DC_call);(focus exact rfl);(focus exact rfl);(focus exact rfl);intro N hN;(simp only [go_sem,e7,e8,e10,↓reduceIte,Nat.reduceAdd,Nat.reduceSub,Nat.reduceMul,Nat.reduceLT,Nat.reduceLeDiff,Nat.reduceEqDiff,Nat.reduceGT,Int.reduceToNat,Int.reduceBEq,Int.reduceBNe];try simp (disch := omega) only [wrapI,wrapU,half_sum,toNat_sub1,toNat_add1,Int.toNat_natCast]))
  | ((with_reducible first|refine T_seq_region Γ_ok (fun K hK=>?_)|refine T_last_region Γ_ok (fun K hK=>?_)|refine TO_callN rfl (fun N hN=>?_)|refine DCT_fork Γ_ok (fun K2 hK2=>?_)|refine DCT_last Γ_ok ?_|refine DC_ev Γ_ok ?_|refine TO_ev Γ_ok ?_|refine retQ_r ?_|refine retQ_n ?_);(simp only [go_sem,e7,e8,e10,↓reduceIte,Nat.reduceAdd,Nat.reduceSub,Nat.reduceMul,Nat.reduceLT,Nat.reduceLeDiff,Nat.reduceEqDiff,Nat.reduceGT,Int.reduceToNat,Int.reduceBEq,Int.reduceBNe];try simp (disch := omega) only [wrapI,wrapU,half_sum,toNat_sub1,toNat_add1,Int.toNat_natCast]))
  | (with_reducible refine hK2 _ ?_ ?_ <;> clear hK2 K2)
  | with_reducible first|refine gC_false ?_|refine gC_true ?_|refine dCall_true ?_
  | (with_reducible refine hN _ _ ?_; clear hN N)
  | (with_reducible refine hN _ _ (dInl rfl) ?_; clear hN N)
  | ((with_reducible refine hN _ _ (.inr ?_) ?_);(focus (simp only [go_sem,e7,e8,e10,↓reduceIte,Nat.reduceAdd,Nat.reduceSub,Nat.reduceMul,Nat.reduceLT,Nat.reduceLeDiff,Nat.reduceEqDiff,Nat.reduceGT,Int.reduceToNat,Int.reduceBEq,Int.reduceBNe];try simp (disch := omega) only [wrapI,wrapU,half_sum,toNat_sub1,toNat_add1,Int.toNat_natCast]));all_goals (try clear hN N))
  | with_reducible first|refine T_seq ?_|refine T_block ?_|refine T_ret ?_|refine T_exit ?_|refine T_skip ?_|refine T_label ?_
  | with_reducible first|refine thenQ_n ?_|refine thenQ_e ?_|refine thenQ_r ?_|refine blockQ_n ?_|refine blockQ_e ?_|refine blockQ_r ?_
  | with_reducible refine blockQ_o (by decide) ?_
  | ((with_reducible refine T_cond _ rfl (fun hb=>?_) (fun hb=>?_)) <;> first|(cases hb;done)|replace hb:=sgh hb|skip)
  | (with_reducible refine And.intro aG ?_)
  | assumption | omega | exact True.intro)
     exact .inl ⟨by rw [hr], by rw [hr]; rfl⟩
    ·rw [if_neg hji]
     have hst := brk_step (l := ls) (b := v.br) (i := i) (by omega) (by omega)
     rw [show i + fitN (ls.drop i) v.br = j by omega] at hst
     have hsn := fun p q => it_snoc out ((j : Int) - 1) (i := p) (j := q)
     have e8 : decide ((j : Int) - 1 ≥ 0) = true := decide_eq_true (by omega)
     have e9 : decide ((j : Int) - 1 < 0) = false := decide_eq_false (by omega)
     repeat' (first
  | (with_reducible refine hK _ ?_; clear hK K)
  | ((with_reducible first|refine retQM_r ?_|refine retQM_n ?_);try refine sgo ?_)
  | ((refine TO_yield hL 7 6 rfl rfl rfl (by first|exact Or.inl rfl|exact Or.inr rfl) rfl rfl rfl (by simp only [go_sem,and_self]) (fun ti lo' hi' ds'=>?_));try refine sgo ?_)
  | ((with_reducible refine assignQ_mk 7 (by with_unfolding_all rfl) ?_);try refine sgo ?_)
  | ((with_reducible first|refine roundQ_n 7 9 (by with_unfolding_all rfl) (by with_unfolding_all rfl) ?_|refine roundQ_r 7 9 (by with_unfolding_all rfl) (by with_unfolding_all rfl) ?_|refine roundQ_e 7 9 (by with_unfolding_all rfl) (by with_unfolding_all rfl) ?_);try refine sgo ?_)
  | ((with_reducible apply DC_call);(focus exact rfl);(focus exact rfl);(focus exact rfl);intro N hN;(simp only [go_sem,e7,e8,e9,e10,↓reduceIte,Nat.reduceAdd,Nat.reduceSub,Nat.reduceMul,Nat.reduceLT,Nat.reduceLeDiff,Nat.reduceEqDiff,Nat.reduceGT,Int.reduceToNat,Int.reduceBEq,Int.reduceBNe];try simp (disch := omega) only [wrapI,wrapU,half_sum,toNat_sub1,toNat_add1,Int.toNat_natCast]))
  | ((with_reducible first|refine T_seq_region Γ_ok (fun K hK=>?_)|refine T_last_region Γ_ok (fun K hK=>?_)|refine TO_callN rfl (fun N hN=>?_)|refine DCT_fork Γ_ok (fun K2 hK2=>?_)|refine DCT_last Γ_ok ?_|refine DC_ev Γ_ok ?_|refine TO_ev Γ_ok ?_|refine retQ_r ?_|refine retQ_n ?_);(simp only [go_sem,e7,e8,e9,e10,↓reduceIte,Nat.reduceAdd,Nat.reduceSub,Nat.reduceMul,Nat.reduceLT,Nat.reduceLeDiff,Nat.reduceEqDiff,Nat.reduceGT,Int.reduceToNat,Int.reduceBEq,Int.reduceBNe];try simp (disch := omega) only [wrapI,wrapU,half_sum,toNat_sub1,toNat_add1,Int.toNat_natCast]))
  | (with_reducible refine hK2 _ ?_ ?_ <;> clear hK2 K2)
  | with_reducible first|refine gC_false ?_|refine gC_true ?_|refine dCall_true ?_
  | (with_reducible refine hN _ _ ?_; clear hN N)
  | (with_reducible refine hN _ _ (dInl rfl) ?_; clear hN N)
  | ((with_reducible refine hN _ _ (.inr ?_) ?_);(focus (simp only [go_sem,e7,e8,e9,e10,↓reduceIte,Nat.reduceAdd,Nat.reduceSub,Nat.reduceMul,Nat.reduceLT,Nat.reduceLeDiff,Nat.reduceEqDiff,Nat.reduceGT,Int.reduceToNat,Int.reduceBEq,Int.reduceBNe];try simp (disch := omega) only [wrapI,wrapU,half_sum,toNat_sub1,toNat_add1,Int.toNat_natCast]));all_goals (try clear hN N))
  | with_reducible first|refine T_seq ?_|refine T_block ?_|refine T_ret ?_|refine T_exit ?_|refine T_skip ?_|refine T_label ?_
  | with_reducible first|refine thenQ_n ?_|refine thenQ_e ?_|refine thenQ_r ?_|refine blockQ_n ?_|refine blockQ_e ?_|refine blockQ_r ?_
  | with_reducible refine blockQ_o (by decide) ?_
  | ((with_reducible refine T_cond _ rfl (fun hb=>?_) (fun hb=>?_)) <;> first|(cases hb;done)|replace hb:=sgh hb|skip)
  | (with_reducible refine And.intro aG ?_)
  | assumption | omega | exact True.intro)
     refine ⟨ls.length - j,by omega,_,?_,j,out ++ [(j : Int) - 1],by omega,by simp;omega,by omega,?_,rfl⟩
     ·((try refine sgl ?_);refine Wk.intro [0,1,2,3,4,5,6,7,11] (by decide) (by decide) wkH ?_ ?_ <;> repeat' (first|(exact WkV.eqF (hsn _ _ (by simpa using hi) hj) (by simp))|refine WkVL.cons ?_ ?_|exact wkT|refine WkV.agg ?_|refine WkV.tup ?_|refine WkV.fn ?_ ?_|exact WkO.dead|exact WkO.raw|refine WkO.ghost ?_|exact WkO.mpE rfl trivial|refine WkO.box ?_ rfl|refine WkO.arr ?_|refine And.intro ?_ (And.intro aF ?_)|exact trivial|(intro i j hi hj)))
     ·rw [h4, hst, show ((j - 1 : Nat) : Int) = (j : Int) - 1 by omega]
      simp
  ·have hf := fin (brk_end (by omega))
   repeat' (first
  | (with_reducible refine hK _ ?_; clear hK K)
  | ((with_reducible first|refine iterQ_r 7 6 (by with_unfolding_all rfl) (by with_unfolding_all rfl) ?_|refine iterQ_n 7 6 (by with_unfolding_all rfl) (by with_unfolding_all rfl) ?_|refine iterQ_rr 7 6 (by with_unfolding_all rfl) (by with_unfolding_all rfl) ?_|refine iterQ_nr 7 6 (by with_unfolding_all rfl) (by with_unfolding_all rfl) ?_|refine iterQ_re 7 6 (by with_unfolding_all rfl) (by with_unfolding_all rfl) ?_|refine iterQ_ne 7 6 (by with_unfolding_all rfl) (by with_unfolding_all rfl) ?_);try refine sgo ?_)
  | ((with_reducible first|refine retQM_r ?_|refine retQM_n ?_);try refine sgo ?_)
  | ((with_reducible apply DC_call);(focus exact rfl);(focus exact rfl);(focus exact rfl);intro N hN;refine sgo ?_)
  | ((with_reducible first|refine T_seq_region Γ_ok (fun K hK=>?_)|refine T_last_region Γ_ok (fun K hK=>?_)|refine T_seq_draw (id := 2) Γ_ok drawsAny [(0,[],[]),(1,[],[]),(2,[0],[]),(3,[0,2],[]),(4,[0,1,2,3],[])] (by kernel_rfl) (fun K hK=>?_)|refine T_last_draw (id := 2) Γ_ok drawsAny [(0,[],[]),(1,[],[]),(2,[0],[]),(3,[0,2],[]),(4,[0,1,2,3],[])] (by kernel_rfl) (fun K hK=>?_)|refine TO_callN rfl (fun N hN=>?_)|refine DCT_fork Γ_ok (fun K2 hK2=>?_)|refine DCT_last Γ_ok ?_|refine DC_ev Γ_ok ?_|refine TO_ev Γ_ok ?_|refine retQ_r ?_|refine retQ_n ?_);refine sgo ?_)
  | (with_reducible refine hK2 _ ?_ ?_ <;> clear hK2 K2)
  | with_reducible first|refine gC_false ?_|refine gC_true ?_|refine dCall_true ?_
  | (with_reducible refine hN _ _ ?_; clear hN N)
  | (with_reducible refine hN _ _ (dInl rfl) ?_; clear hN N)
  | ((with_reducible refine hN _ _ (.inr ?_) ?_);(focus (refine sgo ?_;try exact True.intro));all_goals (try clear hN N))
  | with_reducible first|refine T_seq ?_|refine T_block ?_|refine T_ret ?_|refine T_exit ?_|refine T_skip ?_|refine T_label ?_
  | with_reducible first|refine thenQ_n ?_|refine thenQ_e ?_|refine thenQ_r ?_|refine blockQ_n ?_|refine blockQ_e ?_|refine blockQ_r ?_
  | with_reducible refine blockQ_o (by decide) ?_
  | ((with_reducible refine T_cond _ rfl (fun hb=>?_) (fun hb=>?_)) <;> first|(cases hb;done)|replace hb:=sgh hb|skip)
  | (with_reducible refine And.intro aG ?_)
  | assumption | omega | exact True.intro)
   exact .inr ⟨8, _, by rw [hf], by rw [hf]; rfl, fun _ _ _ _ => by rw [hf]; rfl⟩
 ·have hf := fin (brk_end (by omega))
  repeat' (first
  | (with_reducible refine hK _ ?_; clear hK K)
  | ((with_reducible first|refine iterQ_r 7 6 (by with_unfolding_all rfl) (by with_unfolding_all rfl) ?_|refine iterQ_n 7 6 (by with_unfolding_all rfl) (by with_unfolding_all rfl) ?_|refine iterQ_rr 7 6 (by with_unfolding_all rfl) (by with_unfolding_all rfl) ?_|refine iterQ_nr 7 6 (by with_unfolding_all rfl) (by with_unfolding_all rfl) ?_|refine iterQ_re 7 6 (by with_unfolding_all rfl) (by with_unfolding_all rfl) ?_|refine iterQ_ne 7 6 (by with_unfolding_all rfl) (by with_unfolding_all rfl) ?_);try refine sgo ?_)
  | ((with_reducible first|refine retQM_r ?_|refine retQM_n ?_);try refine sgo ?_)
  | ((with_reducible apply DC_call);(focus exact rfl);(focus exact rfl);(focus exact rfl);intro N hN;refine sgo ?_)
  | ((with_reducible first|refine T_seq_region Γ_ok (fun K hK=>?_)|refine T_last_region Γ_ok (fun K hK=>?_)|refine TO_callN rfl (fun N hN=>?_)|refine DCT_fork Γ_ok (fun K2 hK2=>?_)|refine DCT_last Γ_ok ?_|refine DC_ev Γ_ok ?_|refine TO_ev Γ_ok ?_|refine retQ_r ?_|refine retQ_n ?_);refine sgo ?_)
  | (with_reducible refine hK2 _ ?_ ?_ <;> clear hK2 K2)
  | with_reducible first|refine gC_false ?_|refine gC_true ?_|refine dCall_true ?_
  | (with_reducible refine hN _ _ ?_; clear hN N)
  | (with_reducible refine hN _ _ (dInl rfl) ?_; clear hN N)
  | ((with_reducible refine hN _ _ (.inr ?_) ?_);(focus (refine sgo ?_;try exact True.intro));all_goals (try clear hN N))
  | with_reducible first|refine T_seq ?_|refine T_block ?_|refine T_ret ?_|refine T_exit ?_|refine T_skip ?_|refine T_label ?_
  | with_reducible first|refine thenQ_n ?_|refine thenQ_e ?_|refine thenQ_r ?_|refine blockQ_n ?_|refine blockQ_e ?_|refine blockQ_r ?_
  | with_reducible refine blockQ_o (by decide) ?_
  | ((with_reducible refine T_cond _ rfl (fun hb=>?_) (fun hb=>?_)) <;> first|(cases hb;done)|replace hb:=sgh hb|skip)
  | (with_reducible refine And.intro aG ?_)
  | assumption | omega | exact True.intro)
  exact .inr ⟨8, _, by rw [hf], by rw [hf]; rfl, fun _ _ _ _ => by rw [hf]; rfl⟩
theorem breaths_tc (v : Vc) (ls : List Int) (hl : ls.length ≤ 24) (hv : vcB v = true ∧ anyB (fun x=>!okLen x) ls = false) : Makes Tryz.prog 6 [vcA v,its ls,alls ls.length] (.tup [.own 0 0 (breR v.br ls).1.length none,.imm (.int .i64 (breR v.br ls).2)]) [itO (breR v.br ls).1] :=
 Makes.lstJ (itE_pl _) trivial (breaths_raw v ls hl hv)
end Go.Proofs.YtonmienclploaaaGreatDoor
