/-
 Players; reach.of.
-/
import Derived.Test.YtonmienclploaaaGreatDoorQGo
import Derived.Test.YtonmienclploaaaGreatDoorQV8j
import Derived.Test.YtonmienclploaaaGreatDoorQU5
import Derived.Test.YtonmienclploaaaGreatDoorQW3
import Derived.Test.YtonmienclploaaaGreatDoorQX2
import Derived.Test.YtonmienclploaaaGreatDoorQY4
set_option linter.unusedSimpArgs false
set_option linter.unusedVariables false
namespace Go.Proofs.YtonmienclploaaaGreatDoor
open Go.Ab
structure Ply where
 bd : Bd
 og : Og
 nk : Nk
 hn : Hn
 vc : Vc
@[go_sem,reducible] def plyL (k : Int) (p : Ply) : List AV := [.imm (.int .i64 k)] ++ B.bdL p.bd ++ ogL p.og ++ nkL p.nk ++ hnL p.hn ++ vcL p.vc
@[go_sem, reducible] def plyA (k : Int) (p : Ply) : AV := .agg (plyL k p)
@[go_sem, reducible] def plyO (k : Int) (p : Ply) : AObj := .box 56 (plyL k p)
structure PlOk (p : Ply) : Prop where
 b : p.bd.ks.length ≤ 1000000
 o : p.og.ps.length ≤ 1000000
 n1 : p.nk.op.length ≤ 9223372036854775807
 n2 : p.nk.fr.length ≤ 1000000
 h : p.hn.vl.length ≤ 1000000
structure PlW (p : Ply) : Prop where
 b : p.bd.ks.length ≤ 9223372036854775807
 o : p.og.ps.length ≤ 9223372036854775807
 n1 : p.nk.op.length ≤ 9223372036854775807
 n2 : p.nk.fr.length ≤ 9223372036854775807
 h : p.hn.vl.length ≤ 9223372036854775807
theorem PlOk.w {p : Ply} (h : PlOk p) : PlW p := ⟨by have := h.b;omega,by have := h.o;omega,h.n1,by have := h.n2;omega,by have := h.h;omega⟩
theorem of_weak {k : Int} {p : Ply} {f : FuncId} {args : List AV} {v : AV} (hv : Free v) (h : TC Tryz.prog f args [plyO k p] (fun u σ'=>u = v ∧ nthO σ' 0 = plyO k p ∧ 0 < σ'.length)) : TC Tryz.prog f args [plyO k p] (fun u σ'=>u = v ∧ σ' = [plyO k p]) := by
 refine TC.weak h fun u σ' h => ⟨[0],_,[plyO k p],rfl,by simp,by have := h.2.2;simp;omega,?_,⟨?_,fun _ => by rw [h.2.1];rfl,trivial⟩,rfl,rfl⟩
 ·rw [h.1]
  exact WkV.free hv
 ·rw [h.2.1]
  (repeat' (first|(exact WkV.free (by simp [Free]))|refine WkVL.cons ?_ ?_|exact wkT|refine WkV.agg ?_|refine WkV.tup ?_|refine WkV.fn ?_ ?_|exact WkO.dead|exact WkO.raw|refine WkO.ghost ?_|exact WkO.mpE rfl trivial|refine WkO.box ?_ rfl|refine WkO.arr ?_|refine And.intro ?_ (And.intro aF ?_)|exact trivial|(intro i j hi hj)))
set_option maxRecDepth 100000 in
set_option maxHeartbeats 4000000 in
theorem kbvalid_tc (b : Bd) (hl : b.ks.length ≤ 1000000) : Look Tryz.prog 155 [B.bdA b] (.imm (.bool (bdB b))) := by
 refine Look.mk trivial ?_
 (refine TC_of_T Γ_ok Tryz.func155 rfl (by kernel_rfl) ?_;simp only [Tryz.ntmps155,Tryz.results155,List.length_cons,List.length_nil,Nat.reduceSub,Nat.reduceAdd,List.replicate,List.cons_append,List.nil_append])
 (have cl1 := B.valid_tc b (by omega);((refine goR0 _ _ _ _ _ _ _ _ ?_ ?_ ?_ ?_ ?_ ?_ ?_ ?_)<;>(repeat intro hb)<;>first|exact True.intro|refine Lf.mk ?_))
set_option maxRecDepth 100000 in
set_option maxHeartbeats 4000000 in
theorem ppvalid_tc (o : Og) (hl : o.ps.length ≤ 1000000) : Look Tryz.prog 162 [ogA o] (.imm (.bool (ogB o))) := by
 refine Look.mk trivial ?_
 (refine TC_of_T Γ_ok Tryz.func162 rfl (by kernel_rfl) ?_;simp only [Tryz.ntmps162,Tryz.results162,List.length_cons,List.length_nil,Nat.reduceSub,Nat.reduceAdd,List.replicate,List.cons_append,List.nil_append])
 (have cl1 := ovalid_tc o (by omega);((refine goR0 _ _ _ _ _ _ _ _ ?_ ?_ ?_ ?_ ?_ ?_ ?_ ?_)<;>(repeat intro hb)<;>first|exact True.intro|refine Lf.mk ?_))
set_option maxRecDepth 100000 in
set_option maxHeartbeats 4000000 in
theorem of1_tc (p : Ply) (hp : PlOk p) : TC Tryz.prog 29 [plyA 1 p] [plyO 1 p] (fun u σ' => u = .tup [.ifc 128 (B.bdA p.bd),.imm (.bool (bdB p.bd))] ∧ σ' = [plyO 1 p]) := by
 have h1 := kbvalid_tc p.bd hp.b
 refine of_weak (by simp [Free, FreeL]) ?_
 (refine TC_of_T Γ_ok Tryz.func29 rfl (by kernel_rfl) ?_;simp only [Tryz.ntmps29,Tryz.results29,List.length_cons,List.length_nil,Nat.reduceSub,Nat.reduceAdd,List.replicate,List.cons_append,List.nil_append])
 repeat' (first
  | (with_reducible refine hK _ ?_; clear hK K)
  | (with_reducible refine TO_invN (t := 128) (k := 155) rfl rfl (by with_unfolding_all rfl) (by kernel_rfl) (fun N hN=>?_);try refine sgo ?_)
  | ((with_reducible first|apply callGoal_lookA (h1)|apply dCall_lookA (h1));(case hC=>exact hC2);(case hc=>exact cvl))
  | ((with_reducible first|apply gC_lookA (fun hg=>(h1))|apply dCall_lookGA (fun hg=>(h1)));(case hC=>exact hC1);(case hc=>(intro hg;exact cvl)))
  | ((with_reducible apply DC_call);(focus exact rfl);(focus exact rfl);(focus exact rfl);intro N hN;refine sgo ?_)
  | ((with_reducible first|refine T_seq_region Γ_ok (fun K hK=>?_)|refine T_last_region Γ_ok (fun K hK=>?_)|refine TO_callN rfl (fun N hN=>?_)|refine DCT_fork Γ_ok (fun K2 hK2=>?_)|refine DCT_last Γ_ok ?_|refine DC_ev Γ_ok ?_|refine TO_ev Γ_ok ?_|refine retQ_r ?_|refine retQ_n ?_);refine sgo ?_)
  | (with_reducible refine hK2 _ ?_ ?_ <;> clear hK2 K2)
  | with_reducible first|refine gC_false ?_|refine gC_true ?_|refine dCall_true ?_
  | (with_reducible refine hN _ _ ?_; clear hN N)
  | (with_reducible refine hN _ _ (dInl rfl) ?_; clear hN N)
  | ((with_reducible refine hN _ _ (.inr ?_) ?_);(focus (refine sgo ?_;try exact True.intro));all_goals (try clear hN N))
  | with_reducible first|refine T_seq ?_|refine T_block ?_|refine T_ret ?_|refine T_exit ?_|refine T_skip ?_|refine T_label ?_
  | with_reducible first|refine thenQ_n ?_|refine thenQ_e ?_|refine thenQ_r ?_|refine blockQ_n ?_|refine blockQ_e ?_|refine blockQ_r ?_
  | with_reducible refine blockQ_o (by decide) ?_
  | ((with_reducible refine T_cond _ rfl (fun hb=>?_) (fun hb=>?_)) <;> first|(cases hb;done)|replace hb:=sgh hb|skip)
  | (with_reducible refine And.intro aG ?_)
  | assumption | omega | exact True.intro)
 all_goals exact ⟨rfl, rfl, by simp⟩
set_option maxRecDepth 100000 in
set_option maxHeartbeats 4000000 in
theorem of2_tc (p : Ply) (hp : PlOk p) : TC Tryz.prog 29 [plyA 2 p] [plyO 2 p] (fun u σ' => u = .tup [.ifc 130 (ogA p.og),.imm (.bool (ogB p.og))] ∧ σ' = [plyO 2 p]) := by
 have h1 := ppvalid_tc p.og hp.o
 refine of_weak (by simp [Free, FreeL]) ?_
 (refine TC_of_T Γ_ok Tryz.func29 rfl (by kernel_rfl) ?_;simp only [Tryz.ntmps29,Tryz.results29,List.length_cons,List.length_nil,Nat.reduceSub,Nat.reduceAdd,List.replicate,List.cons_append,List.nil_append])
 repeat' (first
  | (with_reducible refine hK _ ?_; clear hK K)
  | (with_reducible refine TO_invN (t := 130) (k := 162) rfl rfl (by with_unfolding_all rfl) (by kernel_rfl) (fun N hN=>?_);try refine sgo ?_)
  | ((with_reducible first|apply callGoal_lookA (h1)|apply dCall_lookA (h1));(case hC=>exact hC2);(case hc=>exact cvl))
  | ((with_reducible first|apply gC_lookA (fun hg=>(h1))|apply dCall_lookGA (fun hg=>(h1)));(case hC=>exact hC1);(case hc=>(intro hg;exact cvl)))
  | ((with_reducible apply DC_call);(focus exact rfl);(focus exact rfl);(focus exact rfl);intro N hN;refine sgo ?_)
  | ((with_reducible first|refine T_seq_region Γ_ok (fun K hK=>?_)|refine T_last_region Γ_ok (fun K hK=>?_)|refine TO_callN rfl (fun N hN=>?_)|refine DCT_fork Γ_ok (fun K2 hK2=>?_)|refine DCT_last Γ_ok ?_|refine DC_ev Γ_ok ?_|refine TO_ev Γ_ok ?_|refine retQ_r ?_|refine retQ_n ?_);refine sgo ?_)
  | (with_reducible refine hK2 _ ?_ ?_ <;> clear hK2 K2)
  | with_reducible first|refine gC_false ?_|refine gC_true ?_|refine dCall_true ?_
  | (with_reducible refine hN _ _ ?_; clear hN N)
  | (with_reducible refine hN _ _ (dInl rfl) ?_; clear hN N)
  | ((with_reducible refine hN _ _ (.inr ?_) ?_);(focus (refine sgo ?_;try exact True.intro));all_goals (try clear hN N))
  | with_reducible first|refine T_seq ?_|refine T_block ?_|refine T_ret ?_|refine T_exit ?_|refine T_skip ?_|refine T_label ?_
  | with_reducible first|refine thenQ_n ?_|refine thenQ_e ?_|refine thenQ_r ?_|refine blockQ_n ?_|refine blockQ_e ?_|refine blockQ_r ?_
  | with_reducible refine blockQ_o (by decide) ?_
  | ((with_reducible refine T_cond _ rfl (fun hb=>?_) (fun hb=>?_)) <;> first|(cases hb;done)|replace hb:=sgh hb|skip)
  | (with_reducible refine And.intro aG ?_)
  | assumption | omega | exact True.intro)
 all_goals exact ⟨rfl, rfl, by simp⟩
set_option maxRecDepth 100000 in
set_option maxHeartbeats 4000000 in
theorem of3_tc (p : Ply) (hp : PlOk p) : TC Tryz.prog 29 [plyA 3 p] [plyO 3 p] (fun u σ' => u = .tup [.ifc 132 (nkA p.nk),.imm (.bool (nkB p.nk))] ∧ σ' = [plyO 3 p]) := by
 have h1 := strvalid_tc p.nk hp.n1 hp.n2
 refine of_weak (by simp [Free, FreeL]) ?_
 (refine TC_of_T Γ_ok Tryz.func29 rfl (by kernel_rfl) ?_;simp only [Tryz.ntmps29,Tryz.results29,List.length_cons,List.length_nil,Nat.reduceSub,Nat.reduceAdd,List.replicate,List.cons_append,List.nil_append])
 repeat' (first
  | (with_reducible refine hK _ ?_; clear hK K)
  | (with_reducible refine TO_invN (t := 132) (k := 173) rfl rfl (by with_unfolding_all rfl) (by kernel_rfl) (fun N hN=>?_);try refine sgo ?_)
  | ((with_reducible first|apply callGoal_lookA (h1)|apply dCall_lookA (h1));(case hC=>exact hC2);(case hc=>exact cvl))
  | ((with_reducible first|apply gC_lookA (fun hg=>(h1))|apply dCall_lookGA (fun hg=>(h1)));(case hC=>exact hC1);(case hc=>(intro hg;exact cvl)))
  | ((with_reducible apply DC_call);(focus exact rfl);(focus exact rfl);(focus exact rfl);intro N hN;refine sgo ?_)
  | ((with_reducible first|refine T_seq_region Γ_ok (fun K hK=>?_)|refine T_last_region Γ_ok (fun K hK=>?_)|refine TO_callN rfl (fun N hN=>?_)|refine DCT_fork Γ_ok (fun K2 hK2=>?_)|refine DCT_last Γ_ok ?_|refine DC_ev Γ_ok ?_|refine TO_ev Γ_ok ?_|refine retQ_r ?_|refine retQ_n ?_);refine sgo ?_)
  | (with_reducible refine hK2 _ ?_ ?_ <;> clear hK2 K2)
  | with_reducible first|refine gC_false ?_|refine gC_true ?_|refine dCall_true ?_
  | (with_reducible refine hN _ _ ?_; clear hN N)
  | (with_reducible refine hN _ _ (dInl rfl) ?_; clear hN N)
  | ((with_reducible refine hN _ _ (.inr ?_) ?_);(focus (refine sgo ?_;try exact True.intro));all_goals (try clear hN N))
  | with_reducible first|refine T_seq ?_|refine T_block ?_|refine T_ret ?_|refine T_exit ?_|refine T_skip ?_|refine T_label ?_
  | with_reducible first|refine thenQ_n ?_|refine thenQ_e ?_|refine thenQ_r ?_|refine blockQ_n ?_|refine blockQ_e ?_|refine blockQ_r ?_
  | with_reducible refine blockQ_o (by decide) ?_
  | ((with_reducible refine T_cond _ rfl (fun hb=>?_) (fun hb=>?_)) <;> first|(cases hb;done)|replace hb:=sgh hb|skip)
  | (with_reducible refine And.intro aG ?_)
  | assumption | omega | exact True.intro)
 all_goals exact ⟨rfl, rfl, by simp⟩
set_option maxRecDepth 100000 in
set_option maxHeartbeats 4000000 in
theorem of4_tc (p : Ply) (hp : PlOk p) : TC Tryz.prog 29 [plyA 4 p] [plyO 4 p] (fun u σ' => u = .tup [.ifc 134 (hnA p.hn),.imm (.bool (hnB p.hn))] ∧ σ' = [plyO 4 p]) := by
 have h1 := hvalid_tc p.hn hp.h
 refine of_weak (by simp [Free, FreeL]) ?_
 (refine TC_of_T Γ_ok Tryz.func29 rfl (by kernel_rfl) ?_;simp only [Tryz.ntmps29,Tryz.results29,List.length_cons,List.length_nil,Nat.reduceSub,Nat.reduceAdd,List.replicate,List.cons_append,List.nil_append])
 repeat' (first
  | (with_reducible refine hK _ ?_; clear hK K)
  | (with_reducible refine TO_invN (t := 134) (k := 180) rfl rfl (by with_unfolding_all rfl) (by kernel_rfl) (fun N hN=>?_);try refine sgo ?_)
  | ((with_reducible first|apply callGoal_lookA (h1)|apply dCall_lookA (h1));(case hC=>exact hC2);(case hc=>exact cvl))
  | ((with_reducible first|apply gC_lookA (fun hg=>(h1))|apply dCall_lookGA (fun hg=>(h1)));(case hC=>exact hC1);(case hc=>(intro hg;exact cvl)))
  | ((with_reducible apply DC_call);(focus exact rfl);(focus exact rfl);(focus exact rfl);intro N hN;refine sgo ?_)
  | ((with_reducible first|refine T_seq_region Γ_ok (fun K hK=>?_)|refine T_last_region Γ_ok (fun K hK=>?_)|refine TO_callN rfl (fun N hN=>?_)|refine DCT_fork Γ_ok (fun K2 hK2=>?_)|refine DCT_last Γ_ok ?_|refine DC_ev Γ_ok ?_|refine TO_ev Γ_ok ?_|refine retQ_r ?_|refine retQ_n ?_);refine sgo ?_)
  | (with_reducible refine hK2 _ ?_ ?_ <;> clear hK2 K2)
  | with_reducible first|refine gC_false ?_|refine gC_true ?_|refine dCall_true ?_
  | (with_reducible refine hN _ _ ?_; clear hN N)
  | (with_reducible refine hN _ _ (dInl rfl) ?_; clear hN N)
  | ((with_reducible refine hN _ _ (.inr ?_) ?_);(focus (refine sgo ?_;try exact True.intro));all_goals (try clear hN N))
  | with_reducible first|refine T_seq ?_|refine T_block ?_|refine T_ret ?_|refine T_exit ?_|refine T_skip ?_|refine T_label ?_
  | with_reducible first|refine thenQ_n ?_|refine thenQ_e ?_|refine thenQ_r ?_|refine blockQ_n ?_|refine blockQ_e ?_|refine blockQ_r ?_
  | with_reducible refine blockQ_o (by decide) ?_
  | ((with_reducible refine T_cond _ rfl (fun hb=>?_) (fun hb=>?_)) <;> first|(cases hb;done)|replace hb:=sgh hb|skip)
  | (with_reducible refine And.intro aG ?_)
  | assumption | omega | exact True.intro)
 all_goals exact ⟨rfl, rfl, by simp⟩
set_option maxRecDepth 100000 in
set_option maxHeartbeats 4000000 in
theorem of5_tc (p : Ply) (hp : PlOk p) : TC Tryz.prog 29 [plyA 5 p] [plyO 5 p] (fun u σ' => u = .tup [.ifc 136 (vcA p.vc),.imm (.bool (vcB p.vc))] ∧ σ' = [plyO 5 p]) := by
 have h1 := rsvalid_tc p.vc
 refine of_weak (by simp [Free, FreeL]) ?_
 (refine TC_of_T Γ_ok Tryz.func29 rfl (by kernel_rfl) ?_;simp only [Tryz.ntmps29,Tryz.results29,List.length_cons,List.length_nil,Nat.reduceSub,Nat.reduceAdd,List.replicate,List.cons_append,List.nil_append])
 repeat' (first
  | (with_reducible refine hK _ ?_; clear hK K)
  | (with_reducible refine TO_invN (t := 136) (k := 188) rfl rfl (by with_unfolding_all rfl) (by kernel_rfl) (fun N hN=>?_);try refine sgo ?_)
  | ((with_reducible first|apply callGoal_lookA (h1)|apply dCall_lookA (h1));(case hC=>exact hC2);(case hc=>exact cvl))
  | ((with_reducible first|apply gC_lookA (fun hg=>(h1))|apply dCall_lookGA (fun hg=>(h1)));(case hC=>exact hC1);(case hc=>(intro hg;exact cvl)))
  | ((with_reducible apply DC_call);(focus exact rfl);(focus exact rfl);(focus exact rfl);intro N hN;refine sgo ?_)
  | ((with_reducible first|refine T_seq_region Γ_ok (fun K hK=>?_)|refine T_last_region Γ_ok (fun K hK=>?_)|refine TO_callN rfl (fun N hN=>?_)|refine DCT_fork Γ_ok (fun K2 hK2=>?_)|refine DCT_last Γ_ok ?_|refine DC_ev Γ_ok ?_|refine TO_ev Γ_ok ?_|refine retQ_r ?_|refine retQ_n ?_);refine sgo ?_)
  | (with_reducible refine hK2 _ ?_ ?_ <;> clear hK2 K2)
  | with_reducible first|refine gC_false ?_|refine gC_true ?_|refine dCall_true ?_
  | (with_reducible refine hN _ _ ?_; clear hN N)
  | (with_reducible refine hN _ _ (dInl rfl) ?_; clear hN N)
  | ((with_reducible refine hN _ _ (.inr ?_) ?_);(focus (refine sgo ?_;try exact True.intro));all_goals (try clear hN N))
  | with_reducible first|refine T_seq ?_|refine T_block ?_|refine T_ret ?_|refine T_exit ?_|refine T_skip ?_|refine T_label ?_
  | with_reducible first|refine thenQ_n ?_|refine thenQ_e ?_|refine thenQ_r ?_|refine blockQ_n ?_|refine blockQ_e ?_|refine blockQ_r ?_
  | with_reducible refine blockQ_o (by decide) ?_
  | ((with_reducible refine T_cond _ rfl (fun hb=>?_) (fun hb=>?_)) <;> first|(cases hb;done)|replace hb:=sgh hb|skip)
  | (with_reducible refine And.intro aG ?_)
  | assumption | omega | exact True.intro)
 all_goals exact ⟨rfl, rfl, by simp⟩
set_option maxRecDepth 100000 in
set_option maxHeartbeats 4000000 in
theorem of0_tc (k : Int) (p : Ply) (h : k ≠ 1 ∧ k ≠ 2 ∧ k ≠ 3 ∧ k ≠ 4 ∧ k ≠ 5) : TC Tryz.prog 29 [plyA k p] [plyO k p] (fun u σ'=>u = .tup [.imm .nilIface,.imm (.bool false)] ∧ σ' = [plyO k p]) := by
 have e1 : (k == 1) = false := beq_eq_false_iff_ne.2 h.1
 have e2 : (k == 2) = false := beq_eq_false_iff_ne.2 h.2.1
 have e3 : (k == 3) = false := beq_eq_false_iff_ne.2 h.2.2.1
 have e4 : (k == 4) = false := beq_eq_false_iff_ne.2 h.2.2.2.1
 have e5 : (k == 5) = false := beq_eq_false_iff_ne.2 h.2.2.2.2
 refine of_weak (by simp [Free, FreeL]) ?_
 (refine TC_of_T Γ_ok Tryz.func29 rfl (by kernel_rfl) ?_;simp only [Tryz.ntmps29,Tryz.results29,List.length_cons,List.length_nil,Nat.reduceSub,Nat.reduceAdd,List.replicate,List.cons_append,List.nil_append])
 (have sx1 := e1;have sx2 := e2;have sx3 := e3;have sx4 := e4;have sx5 := e5;have sx6:=sx0;((obtain ⟨sx7,sx8,sx9⟩:=sx0_3;refine goR9 _ _ _ _ _ _ _ _ ?_ ?_ ?_ ?_ ?_ ?_ ?_ ?_)<;>(repeat intro hb)<;>first|exact True.intro|refine Lf.mk ?_))
 all_goals first | exact ⟨rfl, rfl, by simp⟩ | rfl | simp
end Go.Proofs.YtonmienclploaaaGreatDoor
