/-
 Parts joined: R2 R3.
-/
import Derived.Test.YtonmienclploaaaGreatDoorQR1
import Derived.Test.YtonmienclploaaaGreatDoorQU5
import Derived.Test.YtonmienclploaaaGreatDoorQGo
set_option linter.unusedSimpArgs false
set_option linter.unusedVariables false
namespace Go.Proofs.YtonmienclploaaaGreatDoor
open Go.Ab
set_option maxRecDepth 100000 in
set_option maxHeartbeats 4000000 in
theorem rb_ok {k : Int} {p : Ply} {t : TypeId} {cs : AV} {kb : FuncId} (vs : List P6) (hof : TC Tryz.prog 29 [plyA k p] [plyO k p] (fun u σ'=>u = .tup [.ifc t cs,.imm (.bool true)] ∧ σ' = [plyO k p]))
  (hv : vs.length ≤ 12) (ha : anyV (fun x => !vOk x) vs = false) (hm : methB Tryz.prog t "schisma/reach.best" kb = true) {l : List Int} {n : Nat} (hn : n = l.length) {e : Int} (hb' : Makes Tryz.prog kb [cs, vts vs] (.tup [.own 0 0 n none, .imm (.int .i64 e)]) [.arr 3 1 n (itE l)]) (hc : Cv [plyO k p] cs cs) :
  Makes Tryz.prog 13 [plyA k p, vts vs] (.tup [.own 0 0 l.length none, .imm (.int .i64 e)]) [itO l] := by
 subst hn
 simp only [go_sem] at hof
 have h2 := anyV_tc _ _ vs (by omega) rbad_tc
 rw [ha] at h2
 have e1 : decide ((vs.length : Int) > 12) = false := decide_eq_false (by omega)
 refine Makes.lstJ (itE_pl _) trivial ?_
 (refine TC_of_T Γ_ok Tryz.func13 rfl (by kernel_rfl) ?_;simp only [Tryz.ntmps13,Tryz.results13,List.length_cons,List.length_nil,Nat.reduceSub,Nat.reduceAdd,List.replicate,List.cons_append,List.nil_append])
 repeat' (first
  | (with_reducible refine hK _ ?_; clear hK K)
  | ((with_reducible refine callGoal_mk ?_ hof ?_);(focus (exact hC2));(rintro _ _ ⟨rfl,rfl⟩;try refine sgo ?_))
  | (with_reducible refine TO_invN (name := "schisma/reach.best") (t := t) (k := kb) rfl rfl (by with_unfolding_all rfl) hm (fun N hN => ?_); try (simp only [go_sem, ↓reduceIte, Nat.reduceAdd, Nat.reduceSub, Nat.reduceMul, Nat.reduceLT, Nat.reduceLeDiff, Nat.reduceEqDiff, Nat.reduceGT, Int.reduceToNat, Int.reduceBEq, Int.reduceBNe]; try simp (disch := omega) only [wrapI, wrapU, half_sum, toNat_sub1, toNat_add1, Int.toNat_natCast]))
  | ((with_reducible apply callGoal_makeA hb');(case hC=>exact hC2);(case hc=>(exact CvL.cons hc (CvL.cons (Cv.free (by simp [Free])) CvL.nil)));(case' hn=>refine sgo ?_))
  | ((with_reducible first|apply callGoal_lookA (h2)|apply dCall_lookA (h2));(case hC=>exact hC2);(case hc=>exact cvl))
  | ((with_reducible first|apply gC_lookA (fun hg=>(h2))|apply dCall_lookGA (fun hg=>(h2)));(case hC=>exact hC1);(case hc=>(intro hg;exact cvl)))
  | ((with_reducible apply DC_call);(focus exact rfl);(focus exact rfl);(focus exact rfl);intro N hN;refine sgo2 ?_)
  | ((with_reducible first|refine T_seq_region Γ_ok (fun K hK=>?_)|refine T_last_region Γ_ok (fun K hK=>?_)|refine TO_callN rfl (fun N hN=>?_)|refine DCT_fork Γ_ok (fun K2 hK2=>?_)|refine DCT_last Γ_ok ?_|refine DC_ev Γ_ok ?_|refine TO_ev Γ_ok ?_|refine retQ_r ?_|refine retQ_n ?_);refine sgo2 ?_)
  | (with_reducible refine hK2 _ ?_ ?_ <;> clear hK2 K2)
  | with_reducible first|refine gC_false ?_|refine gC_true ?_|refine dCall_true ?_
  | (with_reducible refine hN _ _ ?_; clear hN N)
  | (with_reducible refine hN _ _ (dInl rfl) ?_; clear hN N)
  | ((with_reducible refine hN _ _ (.inr ?_) ?_);(focus (refine sgo2 ?_;try exact True.intro));all_goals (try clear hN N))
  | with_reducible first|refine T_seq ?_|refine T_block ?_|refine T_ret ?_|refine T_exit ?_|refine T_skip ?_|refine T_label ?_
  | with_reducible first|refine thenQ_n ?_|refine thenQ_e ?_|refine thenQ_r ?_|refine blockQ_n ?_|refine blockQ_e ?_|refine blockQ_r ?_
  | with_reducible refine blockQ_o (by decide) ?_
  | ((with_reducible refine T_cond _ rfl (fun hb=>?_) (fun hb=>?_)) <;> first|(cases hb;done)|replace hb:=sgh hb|skip)
  | (with_reducible refine And.intro aG ?_)
  | assumption | omega | exact True.intro)
 exact .inr ⟨1, _, rfl, rfl, fun _ _ _ _ => rfl⟩
theorem of_top {k : Int} {p : Ply} {f : FuncId} {args : List AV} {iv b : AV} (hb' : Free b) (h : TC Tryz.prog f args [plyO k p] (fun u σ'=>u = .tup [iv,b] ∧ σ' = [plyO k p])) : TC Tryz.prog f args [plyO k p] (fun u σ'=>u = .tup [.top,b] ∧ σ' = [plyO k p]) := by
 refine TC.weak h fun u σ' h => ⟨[0],_,[plyO k p],rfl,by simp,by rw [h.2];simp,?_,⟨?_,fun _ => by rw [h.2];rfl,trivial⟩,rfl,rfl⟩
 ·rw [h.1]
  exact WkV.tup (WkVL.cons WkV.top (WkVL.cons (WkV.free hb') WkVL.nil))
 ·rw [h.2]
  (repeat' (first|(exact WkV.free (by simp [Free]))|refine WkVL.cons ?_ ?_|exact wkT|refine WkV.agg ?_|refine WkV.tup ?_|refine WkV.fn ?_ ?_|exact WkO.dead|exact WkO.raw|refine WkO.ghost ?_|exact WkO.mpE rfl trivial|refine WkO.box ?_ rfl|refine WkO.arr ?_|refine And.intro ?_ (And.intro aF ?_)|exact trivial|(intro i j hi hj)))
set_option maxRecDepth 100000 in
set_option maxHeartbeats 4000000 in
theorem rb_no {k : Int} {p : Ply} {iv : AV} {vb : Bool} (vs : List P6) (hof : TC Tryz.prog 29 [plyA k p] [plyO k p] (fun u σ' => u = .tup [iv,.imm (.bool vb)] ∧ σ' = [plyO k p]))
  (hv : vs.length ≤ 1000000) (h : ¬ (vb = true ∧ vs.length ≤ 12 ∧ anyV (fun x => !vOk x) vs = false)) : Look Tryz.prog 13 [plyA k p,vts vs] (.tup [.imm (.slice none 0 0),.imm (.int .i64 1)]) := by
 replace hof := of_top (by simp [Free]) hof
 simp only [go_sem] at hof
 have h2 := anyV_tc _ _ vs hv rbad_tc
 generalize anyV (fun x => !vOk x) vs = ab at h2 h
 refine Look.mk (by simp [Pl, PlL]) ?_
 (refine TC_of_T Γ_ok Tryz.func13 rfl (by kernel_rfl) ?_;simp only [Tryz.ntmps13,Tryz.results13,List.length_cons,List.length_nil,Nat.reduceSub,Nat.reduceAdd,List.replicate,List.cons_append,List.nil_append])
 repeat' (first
  | (with_reducible refine hK _ ?_; clear hK K)
  | ((with_reducible refine callGoal_mk ?_ hof ?_);(focus (exact hC2));(rintro _ _ ⟨rfl,rfl⟩;try refine sgo ?_))
  | ((with_reducible first|apply callGoal_lookA (h2)|apply dCall_lookA (h2));(case hC=>exact hC2);(case hc=>exact cvl))
  | ((with_reducible first|apply gC_lookA (fun hg=>(h2))|apply dCall_lookGA (fun hg=>(h2)));(case hC=>exact hC1);(case hc=>(intro hg;exact cvl)))
  | ((with_reducible apply DC_call);(focus exact rfl);(focus exact rfl);(focus exact rfl);intro N hN;refine sgo ?_)
  | ((with_reducible first|refine T_seq_region Γ_ok (fun K hK=>?_)|refine T_last_region Γ_ok (fun K hK=>?_)|refine TO_callN rfl (fun N hN=>?_)|refine DCT_fork Γ_ok (fun K2 hK2=>?_)|refine DCT_last Γ_ok ?_|refine DC_ev Γ_ok ?_|refine TO_ev Γ_ok ?_|refine retQ_r ?_|refine retQ_n ?_);refine sgo ?_)
  | (with_reducible refine hK2 _ ?_ ?_ <;> clear hK2 K2)
  | with_reducible first|refine gC_false ?_|refine gC_true ?_|refine dCall_true ?_
  | (with_reducible refine hN _ _ ?_; clear hN N)
  | (with_reducible refine hN _ _ (dInl rfl) ?_; clear hN N)
  | ((with_reducible refine hN _ _ (.inr ?_) ?_);(focus (refine sgo ?_;try exact True.intro));all_goals (try clear hN N))
  | with_reducible first|refine T_seq ?_|refine T_block ?_|refine T_ret ?_|refine T_exit ?_|refine T_skip ?_|refine T_label ?_
  | with_reducible first|refine thenQ_n ?_|refine thenQ_e ?_|refine thenQ_r ?_|refine blockQ_n ?_|refine blockQ_e ?_|refine blockQ_r ?_
  | with_reducible refine blockQ_o (by decide) ?_
  | ((with_reducible refine T_cond _ rfl (fun hb=>?_) (fun hb=>?_)) <;> first|(cases hb;done)|replace hb:=sgh hb|skip)
  | (with_reducible refine And.intro aG ?_)
  | assumption | omega | exact True.intro)
 exact absurd ⟨hb.1.1, by omega, hb.2⟩ h
end Go.Proofs.YtonmienclploaaaGreatDoor
namespace Go.Proofs.YtonmienclploaaaGreatDoor
open Go.Ab
set_option maxRecDepth 100000 in
set_option maxHeartbeats 4000000 in
theorem kbbest_tc (b : Bd) (vs : List P6) (hl : b.ks.length ≤ 1000000) (hv : vs.length ≤ 12) : Makes Tryz.prog 153 [B.bdA b,vts vs] (.tup [.own 0 0 (B.chordR b vs).1.length none,.imm (.int .i64 (B.chordR b vs).2)]) [itO (B.chordR b vs).1] := by
 have c : Makes Tryz.prog 156 [B.bdA b,vts vs] (.tup [.own 0 0 (B.chordR b vs).1.length none,.imm (.int .i64 (B.chordR b vs).2)]) [itO (B.chordR b vs).1] := B.chord_tc b vs (by omega) (by omega)
 refine Makes.lstJ (itE_pl _) trivial ?_
 (refine TC_of_T Γ_ok Tryz.func153 rfl (by kernel_rfl) ?_;simp only [Tryz.ntmps153,Tryz.results153,List.length_cons,List.length_nil,Nat.reduceSub,Nat.reduceAdd,List.replicate,List.cons_append,List.nil_append])
 (have cm1 := c;((refine goR0 _ _ _ _ _ _ _ _ ?_ ?_ ?_ ?_ ?_ ?_ ?_ ?_)<;>(repeat intro hb)<;>first|exact True.intro|refine Lf.mk ?_))
 exact .inr ⟨1, _, rfl, rfl, fun _ _ _ _ => rfl⟩
set_option maxRecDepth 100000 in
set_option maxHeartbeats 4000000 in
theorem ppbest_tc (o : Og) (vs : List P6) (hl : o.ps.length ≤ 1000000) (hv : vs.length ≤ 12) : Makes Tryz.prog 160 [ogA o,vts vs] (.tup [.own 0 0 (ochR o vs 0).1.length none,.imm (.int .i64 (ochR o vs 0).2)]) [itO (ochR o vs 0).1] := by
 have c := ochord_tc o vs 0 hl (by omega)
 refine Makes.lstJ (itE_pl _) trivial ?_
 (refine TC_of_T Γ_ok Tryz.func160 rfl (by kernel_rfl) ?_;simp only [Tryz.ntmps160,Tryz.results160,List.length_cons,List.length_nil,Nat.reduceSub,Nat.reduceAdd,List.replicate,List.cons_append,List.nil_append])
 (have cm1 := c;((refine goR0 _ _ _ _ _ _ _ _ ?_ ?_ ?_ ?_ ?_ ?_ ?_ ?_)<;>(repeat intro hb)<;>first|exact True.intro|refine Lf.mk ?_))
 exact .inr ⟨1, _, rfl, rfl, fun _ _ _ _ => rfl⟩
def sgR (v : Vc) (vs : List P6) : List Int × Int := if vs.length = 0 then ([],0) else if vs.length = 1 then (if (hasR v (gV vs 0)).1 = true then ([0],0) else ([],4)) else ([],20)
set_option maxRecDepth 100000 in
set_option maxHeartbeats 4000000 in
theorem sgbest_tc (v : Vc) (vs : List P6) (hv : vs.length ≤ 12) : Makes Tryz.prog 186 [vcA v,vts vs] (.tup [.own 0 0 (sgR v vs).1.length none,.imm (.int .i64 (sgR v vs).2)]) [itO (sgR v vs).1] := by
 refine lstC (itE_pl _) trivial ?_
 unfold sgR
 by_cases h0 : vs.length = 0
 ·rw [if_pos h0]
  have e1 : ((vs.length : Int) == 0) = true := beq_iff_eq.2 (by omega)
  (refine TC_of_T Γ_ok Tryz.func186 rfl (by kernel_rfl) ?_;simp only [Tryz.ntmps186,Tryz.results186,List.length_cons,List.length_nil,Nat.reduceSub,Nat.reduceAdd,List.replicate,List.cons_append,List.nil_append])
  (have sx1 := e1;have sx2:=sx0;repeat' (first|with_reducible refine T_seq_drawT (id := 5) Γ_ok drawsAny pl186_5 (by kernel_rfl) (fun K hK=>?_)|with_reducible refine T_last_drawT (id := 5) Γ_ok drawsAny pl186_5 (by kernel_rfl) (fun K hK=>?_)|((obtain ⟨sx3,sx4,sx5,sx6,sx7,sx8,sx9⟩:=sx0_7;refine goR9 _ _ _ _ _ _ _ _ ?_ ?_ ?_ ?_ ?_ ?_ ?_ ?_)<;>(repeat intro hb)<;>first|exact True.intro|refine Lf.mk ?_)))
  exact .inl trivial
 ·rw [if_neg h0]
  have e1 : ((vs.length : Int) == 0) = false := beq_eq_false_iff_ne.2 (by omega)
  by_cases h1 : vs.length = 1
  ·rw [if_pos h1]
   have e2 : decide ((vs.length : Int) > 1) = false := decide_eq_false (by omega)
   by_cases h2 : (hasR v (gV vs 0)).1 = true
   ·rw [if_pos h2]
    have c := sopt_yes v (gV vs 0) h2
    (refine TC_of_T Γ_ok Tryz.func186 rfl (by kernel_rfl) ?_;simp only [Tryz.ntmps186,Tryz.results186,List.length_cons,List.length_nil,Nat.reduceSub,Nat.reduceAdd,List.replicate,List.cons_append,List.nil_append])
    (have cm1 := c;have sx1 := e1;have sx2 := e2;repeat' (first|with_reducible refine T_seq_drawT (id := 5) Γ_ok drawsAny pl186_5 (by kernel_rfl) (fun K hK=>?_)|with_reducible refine T_last_drawT (id := 5) Γ_ok drawsAny pl186_5 (by kernel_rfl) (fun K hK=>?_)|((obtain ⟨sx3,sx4,sx5,sx6,sx7,sx8,sx9⟩:=sx0_7;refine goR9 _ _ _ _ _ _ _ _ ?_ ?_ ?_ ?_ ?_ ?_ ?_ ?_)<;>(repeat intro hb)<;>first|exact True.intro|refine Lf.mk ?_)))
    exact .inr ⟨1, _, _, rfl, rfl, fun _ _ _ _ => rfl⟩
   ·rw [if_neg h2]
    rw [Bool.not_eq_true] at h2
    have c := sopt_no v (gV vs 0) h2
    (refine TC_of_T Γ_ok Tryz.func186 rfl (by kernel_rfl) ?_;simp only [Tryz.ntmps186,Tryz.results186,List.length_cons,List.length_nil,Nat.reduceSub,Nat.reduceAdd,List.replicate,List.cons_append,List.nil_append])
    (have cl1 := c;have sx1 := e1;have sx2 := e2;repeat' (first|with_reducible refine T_seq_drawT (id := 5) Γ_ok drawsAny pl186_5 (by kernel_rfl) (fun K hK=>?_)|with_reducible refine T_last_drawT (id := 5) Γ_ok drawsAny pl186_5 (by kernel_rfl) (fun K hK=>?_)|((obtain ⟨sx3,sx4,sx5,sx6,sx7,sx8,sx9⟩:=sx0_7;refine goR9 _ _ _ _ _ _ _ _ ?_ ?_ ?_ ?_ ?_ ?_ ?_ ?_)<;>(repeat intro hb)<;>first|exact True.intro|refine Lf.mk ?_)))
    exact .inl trivial
  ·rw [if_neg h1]
   have e2 : decide ((vs.length : Int) > 1) = true := decide_eq_true (by omega)
   (refine TC_of_T Γ_ok Tryz.func186 rfl (by kernel_rfl) ?_;simp only [Tryz.ntmps186,Tryz.results186,List.length_cons,List.length_nil,Nat.reduceSub,Nat.reduceAdd,List.replicate,List.cons_append,List.nil_append])
   (have sx1 := e1;have sx2 := e2;repeat' (first|with_reducible refine T_seq_drawT (id := 5) Γ_ok drawsAny pl186_5 (by kernel_rfl) (fun K hK=>?_)|with_reducible refine T_last_drawT (id := 5) Γ_ok drawsAny pl186_5 (by kernel_rfl) (fun K hK=>?_)|((obtain ⟨sx3,sx4,sx5,sx6,sx7,sx8,sx9⟩:=sx0_7;refine goR9 _ _ _ _ _ _ _ _ ?_ ?_ ?_ ?_ ?_ ?_ ?_ ?_)<;>(repeat intro hb)<;>first|exact True.intro|refine Lf.mk ?_)))
   exact .inl trivial
end Go.Proofs.YtonmienclploaaaGreatDoor
