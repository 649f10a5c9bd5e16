/-
 Parts joined: V8k V8.
-/
import Derived.Test.YtonmienclploaaaGreatDoorQGo
import Derived.Test.YtonmienclploaaaGreatDoorQV8j
set_option linter.unusedSimpArgs false
set_option linter.unusedVariables false
namespace Go.Proofs.YtonmienclploaaaGreatDoor
open Go.Ab
@[go_sem,reducible] def plO (o : Og) : AV := .agg ([.imm (.int .i64 2),nil1,i0,i0] ++ ogL o ++ [nil1,nil1,i0,i0,i0,i0,i0,i0,i0,i0,nil1,i0,i0,i0,i0,i0,i0,i0,i0,i0,i0,i0,i0,i0,i0,i0,i0])
set_option maxRecDepth 100000 in
set_option maxHeartbeats 4000000 in
theorem pvalid_tc (o : Og) (hl : o.ps.length ≤ 9223372036854775807) : Look Tryz.prog 162 [ogA o] (.imm (.bool (ogB o))) := by
 refine Look.mk trivial ?_
 (refine TC_of_T Γ_ok Tryz.func162 rfl (by kernel_rfl) ?_;simp only [Tryz.ntmps162,Tryz.results162,List.length_cons,List.length_nil,Nat.reduceSub,Nat.reduceAdd,List.replicate,List.cons_append,List.nil_append])
 (have cl1 := ovalid_tc o hl;((refine goR0 _ _ _ _ _ _ _ _ ?_ ?_ ?_ ?_ ?_ ?_ ?_ ?_)<;>(repeat intro hb)<;>first|exact True.intro|refine Lf.mk ?_))
set_option maxRecDepth 100000 in
set_option maxHeartbeats 4000000 in
theorem pbest_tc (o : Og) (vs : List P6) (hl : o.ps.length ≤ 1000000) (hv : vs.length ≤ 1000000) : Makes Tryz.prog 160 [ogA o,vts vs] (.tup [.own 0 0 (ochR o vs 0).1.length none,.imm (.int .i64 (ochR o vs 0).2)]) [itO (ochR o vs 0).1] := by
 have c := ochord_tc o vs 0 hl hv
 refine Makes.lstJ (itE_pl _) trivial ?_
 (refine TC_of_T Γ_ok Tryz.func160 rfl (by kernel_rfl) ?_;simp only [Tryz.ntmps160,Tryz.results160,List.length_cons,List.length_nil,Nat.reduceSub,Nat.reduceAdd,List.replicate,List.cons_append,List.nil_append])
 (have cm1 := c;((refine goR0 _ _ _ _ _ _ _ _ ?_ ?_ ?_ ?_ ?_ ?_ ?_ ?_)<;>(repeat intro hb)<;>first|exact True.intro|refine Lf.mk ?_))
 exact .inr ⟨1, _, rfl, rfl, fun _ _ _ _ => rfl⟩
set_option maxRecDepth 100000 in
set_option maxHeartbeats 4000000 in
theorem rbestO_tc (o : Og) (vs : List P6) (hl : o.ps.length ≤ 1000000) (hv : vs.length ≤ 12) (h : ogB o = true) (ha : anyV (fun x=>!vOk x) vs = false) : Makes Tryz.prog 13 [plO o,vts vs] (.tup [.own 0 0 (ochR o vs 0).1.length none,.imm (.int .i64 (ochR o vs 0).2)]) [itO (ochR o vs 0).1] := by
 have h1 := pvalid_tc o (by omega)
 have h2 := anyV_tc _ _ vs (by omega) rbad_tc
 rw [ha] at h2
 rw [h] at h1
 have h3 := pbest_tc o vs hl (by omega)
 have e1 : decide ((vs.length : Int) > 12) = false := decide_eq_false (by omega)
 refine Makes.lstJ (itE_pl _) trivial ?_
 (refine TC_of_T Γ_ok Tryz.func13 rfl (by kernel_rfl) ?_;simp only [Tryz.ntmps13,Tryz.results13,List.length_cons,List.length_nil,Nat.reduceSub,Nat.reduceAdd,List.replicate,List.cons_append,List.nil_append])
 repeat' (first
  | (with_reducible refine hK _ ?_; clear hK K)
  | ((with_reducible refine callGoal_inline Γ_ok Tryz.func29 rfl (by kernel_rfl) (by exact hC2) ?_);simp only [Tryz.ntmps29,Tryz.results29,List.length_cons,List.length_nil,Nat.reduceSub,Nat.reduceAdd,List.replicate,List.cons_append,List.nil_append])
  | (with_reducible refine TO_invN (name := "schisma/reach.valid") (t := 130) (k := 162) rfl rfl (by with_unfolding_all rfl) (by kernel_rfl) (fun N hN => ?_); try (simp only [go_sem, ↓reduceIte, Nat.reduceAdd, Nat.reduceSub, Nat.reduceMul, Nat.reduceLT, Nat.reduceLeDiff, Nat.reduceEqDiff, Nat.reduceGT, Int.reduceToNat, Int.reduceBEq, Int.reduceBNe]; try simp (disch := omega) only [wrapI, wrapU, half_sum, toNat_sub1, toNat_add1, Int.toNat_natCast]))
  | (with_reducible refine TO_invN (name := "schisma/reach.best") (t := 130) (k := 160) rfl rfl (by with_unfolding_all rfl) (by kernel_rfl) (fun N hN => ?_); try (simp only [go_sem, ↓reduceIte, Nat.reduceAdd, Nat.reduceSub, Nat.reduceMul, Nat.reduceLT, Nat.reduceLeDiff, Nat.reduceEqDiff, Nat.reduceGT, Int.reduceToNat, Int.reduceBEq, Int.reduceBNe]; try simp (disch := omega) only [wrapI, wrapU, half_sum, toNat_sub1, toNat_add1, Int.toNat_natCast]))
  | ((with_reducible apply callGoal_makeA (h3));(case hC=>exact hC2);(case hc=>exact cvl);(case' hn=>refine sgo ?_))
  | ((with_reducible apply dCall_makeA (h3));(case hC=>exact hC2);(case hc=>exact cvl);(case' hn=>refine sgo ?_))
  | ((with_reducible first|apply callGoal_lookA (h1)|apply dCall_lookA (h1)|apply callGoal_lookA (h2)|apply dCall_lookA (h2));(case hC=>exact hC2);(case hc=>exact cvl))
  | ((with_reducible first|apply gC_lookA (fun hg=>(h1))|apply dCall_lookGA (fun hg=>(h1))|apply gC_lookA (fun hg=>(h2))|apply dCall_lookGA (fun hg=>(h2)));(case hC=>exact hC1);(case hc=>(intro hg;exact cvl)))
  | ((with_reducible apply DC_call);(focus exact rfl);(focus exact rfl);(focus exact rfl);intro N hN;(simp only [go_sem,e1,↓reduceIte,Nat.reduceAdd,Nat.reduceSub,Nat.reduceMul,Nat.reduceLT,Nat.reduceLeDiff,Nat.reduceEqDiff,Nat.reduceGT,Int.reduceToNat,Int.reduceBEq,Int.reduceBNe];try simp (disch := omega) only [wrapI,wrapU,half_sum,toNat_sub1,toNat_add1,Int.toNat_natCast]))
  | ((with_reducible first|refine T_seq_region Γ_ok (fun K hK=>?_)|refine T_last_region Γ_ok (fun K hK=>?_)|refine TO_callN rfl (fun N hN=>?_)|refine DCT_fork Γ_ok (fun K2 hK2=>?_)|refine DCT_last Γ_ok ?_|refine DC_ev Γ_ok ?_|refine TO_ev Γ_ok ?_|refine retQ_r ?_|refine retQ_n ?_);(simp only [go_sem,e1,↓reduceIte,Nat.reduceAdd,Nat.reduceSub,Nat.reduceMul,Nat.reduceLT,Nat.reduceLeDiff,Nat.reduceEqDiff,Nat.reduceGT,Int.reduceToNat,Int.reduceBEq,Int.reduceBNe];try simp (disch := omega) only [wrapI,wrapU,half_sum,toNat_sub1,toNat_add1,Int.toNat_natCast]))
  | (with_reducible refine hK2 _ ?_ ?_ <;> clear hK2 K2)
  | with_reducible first|refine gC_false ?_|refine gC_true ?_|refine dCall_true ?_
  | (with_reducible refine hN _ _ ?_; clear hN N)
  | (with_reducible refine hN _ _ (dInl rfl) ?_; clear hN N)
  | ((with_reducible refine hN _ _ (.inr ?_) ?_);(focus (simp only [go_sem,e1,↓reduceIte,Nat.reduceAdd,Nat.reduceSub,Nat.reduceMul,Nat.reduceLT,Nat.reduceLeDiff,Nat.reduceEqDiff,Nat.reduceGT,Int.reduceToNat,Int.reduceBEq,Int.reduceBNe];try simp (disch := omega) only [wrapI,wrapU,half_sum,toNat_sub1,toNat_add1,Int.toNat_natCast]));all_goals (try clear hN N))
  | with_reducible first|refine T_seq ?_|refine T_block ?_|refine T_ret ?_|refine T_exit ?_|refine T_skip ?_|refine T_label ?_
  | with_reducible first|refine thenQ_n ?_|refine thenQ_e ?_|refine thenQ_r ?_|refine blockQ_n ?_|refine blockQ_e ?_|refine blockQ_r ?_
  | with_reducible refine blockQ_o (by decide) ?_
  | ((with_reducible refine T_cond _ rfl (fun hb=>?_) (fun hb=>?_)) <;> first|(cases hb;done)|replace hb:=sgh hb|skip)
  | (with_reducible refine And.intro aG ?_)
  | assumption | omega | exact True.intro)
 exact .inr ⟨2, _, rfl, rfl, fun _ _ _ _ => rfl⟩
end Go.Proofs.YtonmienclploaaaGreatDoor
namespace Go.Proofs.YtonmienclploaaaGreatDoor
open Go.Ab
def zV : P6 := ⟨0, 0, 0, 0, 0, 0⟩
def og1 : Og := ⟨[⟨1, zV, 5, 1000000, 0⟩, ⟨2, ⟨-12, 12, 0, 0, 0, 0⟩, 4, 1000000, 0⟩], 8, 100⟩
def vs1 : List P6 := [⟨-1, 1, 0, 0, 0, 0⟩, zV]
def vc1 : Vc := ⟨⟨-12, 0, 0, 0, 0, 0⟩, ⟨12, 0, 0, 0, 0, 0⟩, 702000, 10⟩
def ln1 : List Sg := [⟨0, 4, zV⟩, ⟨4, 8, zV⟩, ⟨9, 13, zV⟩]
theorem og1_ok : ogB og1 = true := by decide
theorem vs1_ok : anyV (fun x => !vOk x) vs1 = false := by decide
theorem och1 : ochR og1 vs1 0 = ([2, 1], 0) := by decide
theorem vc1_ok : vcB vc1 = true := by decide
theorem bre1 : breR vc1.br [4, 4, 4] = ([1], 0) := by decide
theorem ln1_ok : lokB ln1 = true := by decide
theorem ln1_fst : fstF (badS vc1 ln1) 0 ln1.length = 3 := by decide
theorem og1_E : ∀ i j,i < 2 → j < 10 → nth [AV.imm (.int .i64 1),.imm (.int .i64 0),.imm (.int .i64 0),.imm (.int .i64 0),.imm (.int .i64 0),.imm (.int .i64 0),.imm (.int .i64 0),.imm (.int .i64 5),.imm (.int .i64 1000000),.imm (.int .i64 0),.imm (.int .i64 2),.imm (.int .i64 (-12)),.imm (.int .i64 12),.imm (.int .i64 0),.imm (.int .i64 0),.imm (.int .i64 0),.imm (.int .i64 0),.imm (.int .i64 4),.imm (.int .i64 1000000),.imm (.int .i64 0)] (i * 10 + j) = ppE og1.ps i j := by
 intro i j hi hj
 rcases i with _ | _ | i
 ·iterate 10 (rcases j with _ | j; (focus rfl))
  omega
 ·iterate 10 (rcases j with _ | j; (focus rfl))
  omega
 ·omega
def trE (_i _j : Nat) : AV := .imm (.bool true)
@[simp] theorem trE_free (i j : Nat) : Free (trE i j) := trivial
set_option maxRecDepth 100000 in
set_option maxHeartbeats 8000000 in
theorem head_tc : Look Tryz.prog 5 [] (.imm (.bool true)) := by
 have c1 := rbestO_tc og1 vs1 (by decide) (by decide) og1_ok vs1_ok
 rw [och1] at c1
 have c2 : Makes Tryz.prog 6 [vcA vc1,its [4,4,4],.view 3 1 trE] _ _ := breaths_tc vc1 [4,4,4] (by decide) ⟨vc1_ok,by decide⟩
 rw [bre1] at c2
 have c3 := line_tc vc1 ln1 (by decide) vc1_ok ln1_ok
 rw [ln1_fst, if_neg (by decide)] at c3
 have c4 := equalI_tc [2, 1] [2, 1] (by decide) (by decide) rfl
 have c5 := equalI_tc [1] [1] (by decide) (by decide) rfl
 have hv5 := og1_E
 refine Look.mk trivial ?_
 (refine TC_of_T Γ_ok Tryz.func5 rfl (by kernel_rfl) ?_;simp only [Tryz.ntmps5,Tryz.results5,List.length_cons,List.length_nil,Nat.reduceSub,Nat.reduceAdd,List.replicate,List.cons_append,List.nil_append])
 (have cm1 := c1;have cm2 := c2;have cl1 := c3;have dl1 := c4;have dl2 := c5;((refine goL0 _ _ _ _ _ _ _ _ ?_ ?_ ?_ ?_ ?_ ?_ ?_ ?_)<;>(repeat intro hb)<;>first|exact True.intro|refine Lf.mk ?_))
end Go.Proofs.YtonmienclploaaaGreatDoor
