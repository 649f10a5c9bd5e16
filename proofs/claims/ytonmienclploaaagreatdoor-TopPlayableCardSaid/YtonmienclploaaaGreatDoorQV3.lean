/-
 voice.Line.
-/
import Derived.Test.YtonmienclploaaaGreatDoorQGo
import Derived.Test.YtonmienclploaaaGreatDoorQGo2
import Derived.Test.YtonmienclploaaaGreatDoorQV2
set_option linter.unusedSimpArgs false
set_option linter.unusedVariables false
namespace Go.Proofs.YtonmienclploaaaGreatDoor
open Go.Ab
@[go_sem,reducible] def sgL (n : Sg) : List AV := [.imm (.int .i64 n.f),.imm (.int .i64 n.u),.imm (.int .i64 n.p.a),.imm (.int .i64 n.p.b),.imm (.int .i64 n.p.c),.imm (.int .i64 n.p.d),.imm (.int .i64 n.p.e),.imm (.int .i64 n.p.f)]
def sgE (l : List Sg) (i j : Nat) : AV := nth (sgL (gS l i)) j
@[go_sem] theorem sgE_0 (l : List Sg) (i : Nat) : sgE l i 0 = .imm (.int .i64 (gS l i).f) := rfl
@[go_sem] theorem sgE_1 (l : List Sg) (i : Nat) : sgE l i 1 = .imm (.int .i64 (gS l i).u) := rfl
@[go_sem] theorem sgE_2 (l : List Sg) (i : Nat) : sgE l i 2 = .imm (.int .i64 (gS l i).p.a) := rfl
@[go_sem] theorem sgE_3 (l : List Sg) (i : Nat) : sgE l i 3 = .imm (.int .i64 (gS l i).p.b) := rfl
@[go_sem] theorem sgE_4 (l : List Sg) (i : Nat) : sgE l i 4 = .imm (.int .i64 (gS l i).p.c) := rfl
@[go_sem] theorem sgE_5 (l : List Sg) (i : Nat) : sgE l i 5 = .imm (.int .i64 (gS l i).p.d) := rfl
@[go_sem] theorem sgE_6 (l : List Sg) (i : Nat) : sgE l i 6 = .imm (.int .i64 (gS l i).p.e) := rfl
@[go_sem] theorem sgE_7 (l : List Sg) (i : Nat) : sgE l i 7 = .imm (.int .i64 (gS l i).p.f) := rfl
theorem FreeL_sg (n : Sg) : FreeL (sgL n) := by simp [FreeL, Free]
@[simp] theorem sgE_free (l : List Sg) (i j : Nat) : Free (sgE l i j) := FreeL_nth (FreeL_sg _) _
@[simp] theorem sgE_pl (l : List Sg) (i j : Nat) : Pl (sgE l i j) := by
 unfold sgE
 rcases j with _ | _ | _ | _ | _ | _ | _ | _ | j <;> simp [nth, Pl]
@[go_sem, reducible] def sgs (l : List Sg) : AV := .view l.length 8 (sgE l)
@[go_sem, reducible] def sgO (l : List Sg) : AObj := .arr 36 8 l.length (sgE l)
def lokB (l : List Sg) : Bool := decide (fstF (fun i => !sgB l i) 0 l.length = l.length)
theorem lokB_iff {l : List Sg} : lokB l = true ↔ ∀ i, i < l.length → sgB l i = true := by
 have h := fstF_spec (f := fun i => !sgB l i) (d := l.length) (i := 0)
 unfold lokB
 rw [decide_eq_true_eq]
 refine ⟨fun e i hi => ?_, fun ha => ?_⟩
 ·have := h.2.2.1 i (by omega) (by omega)
  simpa using this
 ·by_cases hlt : fstF (fun i => !sgB l i) 0 l.length < l.length
  ·have := h.2.2.2 (by omega)
   rw [ha _ hlt] at this
   cases this
  ·omega
theorem sgB_iff {l : List Sg} {i : Nat} : sgB l i = true ↔ enS l i ≤ (gS l i).f ∧ (gS l i).f < (gS l i).u ∧ (gS l i).u ≤ 100000 ∧ vOk (gS l i).p = true := by
 unfold sgB
 simp only [Bool.and_eq_true, decide_eq_true_eq]
theorem sg_bd {l : List Sg} (h : ∀ i,i < l.length → sgB l i = true) : ∀ i,i < l.length → 0 ≤ (gS l i).f ∧ (0 ≤ btS l i ∧ btS l i ≤ (gS l i).f)
 | 0, hi => by
  have := (sgB_iff.1 (h 0 hi)).1
  simp only [enS, btS] at this ⊢
  omega
 | i + 1, hi => by
  have h1 := sg_bd h i (by omega)
  have h2 := sgB_iff.1 (h i (by omega))
  have h3 := (sgB_iff.1 (h (i + 1) hi)).1
  simp only [enS, btS] at h3 ⊢
  split <;> omega
def badS (v : Vc) (l : List Sg) (k : Nat) : Bool := decide (v.br < (gS l k).u - btS l k) || (!(hsB v (gS l k).p) || (decide (0 < k) && !(fdB v (gS l (k - 1)).p (gS l k).p)))
set_option maxRecDepth 100000 in
set_option maxHeartbeats 4000000 in
theorem line_tc (v : Vc) (l : List Sg) (hl : l.length ≤ 24) (hv : vcB v = true) (hk : lokB l = true) : Look Tryz.prog 8 [vcA v,sgs l] (.tup [.imm (.int .i64 (if fstF (badS v l) 0 l.length < l.length then (fstF (badS v l) 0 l.length : Int) else -1)),.imm (.int .i64 0)]) := by
 have c1 := vvalid_tc v
 rw [hv] at c1
 have hbr := vcB_br hv
 have hok := lokB_iff.1 hk
 have hbd := sg_bd hok
 have d6 : decide ((l.length : Int) > 200) = false := decide_eq_false (by omega)
 generalize hr : fstF (badS v l) 0 l.length = r
 refine Look.mk (by simp [Pl, PlL]) ?_
 (refine TC_of_T Γ_ok Tryz.func8 rfl (by kernel_rfl) ?_;simp only [Tryz.ntmps8,Tryz.results8,List.length_cons,List.length_nil,Nat.reduceSub,Nat.reduceAdd,List.replicate,List.cons_append,List.nil_append])
 (have cl1 := c1;have sx1 := d6;have sx2:=sx0;((obtain ⟨sx3,sx4,sx5,sx6,sx7,sx8,sx9⟩:=sx0_7;refine goR9 _ _ _ _ _ _ _ _ ?_ ?_ ?_ ?_ ?_ ?_ ?_ ?_)<;>(repeat intro hb)<;>first|exact True.intro|refine Lf.mk ?_))
 refine T_loopW (fun m st=>∃ i : Nat,i ≤ l.length ∧ m + i = l.length ∧ st = ⟨[.top,sgs l,.optr 0 0 0,.top,.top,.top,.imm (.int .i64 (enS l i))] ++ List.replicate 14 .top ++ [sgs l,.imm (.int .i64 l.length),.imm (.int .i64 i)] ++ List.replicate 86 .top,[.box 25 (vcL v)]⟩)
  l.length ⟨_, ?_, 0, by omega, rfl, rfl⟩ ?_
 ·((try refine sgl ?_);exact wkI [0])
 rintro m st ⟨i, g0, g1, rfl⟩
 have hb1 := fun hi => sgB_iff.1 (hok i hi)
 have hb2 := hbd i
 have hen : enS l (i + 1) = (gS l i).u := rfl
 generalize enS l i = en at hb1
 refine sgo ?_
 by_cases hi : i < l.length
 ·have c2 := valid_v (gS l i).p
  obtain ⟨q1, q2, q3, q4⟩ := hb1 hi
  rw [q4] at c2
  have q5 := hb2 hi
  have e1 : decide ((gS l i).f < en) = false := decide_eq_false (by omega)
  have e2 : decide ((gS l i).u ≤ (gS l i).f) = false := decide_eq_false (by omega)
  have e3 : decide ((gS l i).u > 100000) = false := decide_eq_false (by omega)
  (have cl1 := c2;have sx1 := e1;have sx2 := e2;have sx3 := e3;have sx4:=sx0;repeat' (first|with_reducible refine T_seq_drawT (id := 15) Γ_ok drawsAny pl8_15 (by kernel_rfl) (fun K hK=>?_)|with_reducible refine T_last_drawT (id := 15) Γ_ok drawsAny pl8_15 (by kernel_rfl) (fun K hK=>?_)|with_reducible refine T_seq_drawT (id := 17) Γ_ok drawsAny pl8_17 (by kernel_rfl) (fun K hK=>?_)|with_reducible refine T_last_drawT (id := 17) Γ_ok drawsAny pl8_17 (by kernel_rfl) (fun K hK=>?_)|((obtain ⟨sx5,sx6,sx7,sx8,sx9⟩:=sx0_5;refine goR9 _ _ _ _ _ _ _ _ ?_ ?_ ?_ ?_ ?_ ?_ ?_ ?_)<;>(repeat intro hb)<;>first|exact True.intro|refine Lf.mk ?_)))
  refine ⟨l.length - (i + 1), by omega, _, ?_, i + 1, by omega, by omega, rfl⟩
  rw [hen]
  ((try refine sgl ?_);exact wkI [0])
 ·(((refine goR0 _ _ _ _ _ _ _ _ ?_ ?_ ?_ ?_ ?_ ?_ ?_ ?_)<;>(repeat intro hb)<;>first|exact True.intro|refine Lf.mk ?_))
  refine T_loopW (fun m2 st=>∃ k : Nat,k ≤ l.length ∧ m2 + k = l.length ∧ fstF (badS v l) k (l.length - k) = r ∧ st = ⟨[.top,sgs l] ++ List.replicate 7 .top ++ [.optr 0 0 0,.imm (.int .i64 (if k = 0 then 0 else btS l (k - 1)))] ++ List.replicate 43 .top ++ [sgs l,.imm (.int .i64 l.length),.imm (.int .i64 k)] ++ List.replicate 53 .top,[.box 84 (vcL v ++ [.imm (.slice none 0 0)])]⟩)
   l.length ⟨_, ?_, 0, by omega, rfl, hr, rfl⟩ ?_
  ·((try refine sgl ?_);exact wkI [1])
  rintro m2 st ⟨k, f0, f1, f2, rfl⟩
  by_cases hk : k < l.length
  ·have q1 := hbd k hk
   have q2 := sgB_iff.1 (hok k hk)
   have c3 := shas_tc v (gS l k).p
   have c4 := sfinds_tc v (gS l (k - 1)).p (gS l k).p
   have hbad : badS v l k = (decide (v.br < (gS l k).u - btS l k) || (!(hsB v (gS l k).p) || (decide (0 < k) && !(fdB v (gS l (k - 1)).p (gS l k).p)))) := rfl
   by_cases h0 : k = 0
   ·have e0 : ((k : Int) == 0) = true := by simp; omega
    have e3 : decide ((k : Int) > 0) = false := decide_eq_false (by omega)
    have e4 : btS l k = (gS l k).f := by rw [h0]; rfl
    rw [decide_eq_false (show ¬ 0 < k by omega), e4] at hbad
    rw [if_pos h0]
    refine sgo ?_
    repeat' (first
  | (with_reducible refine hK _ ?_; clear hK K)
  | ((with_reducible first|apply gC_lookA (fun hg=>(c3))|apply dCall_lookGA (fun hg=>(c3)));(case hC=>exact hC1);(case hc=>(intro hg;exact cvl)))
  | ((with_reducible first|apply callGoal_lookA (c3)|apply dCall_lookA (c3));(case hC=>exact hC2);(case hc=>exact cvl))
  | (with_reducible refine dCall_lookG (g := false) (args0 := []) (v := .imm (.bool false)) (fun hg=>nomatch hg) ?_;try refine sgo ?_)
  | ((with_reducible apply DC_call);(focus exact rfl);(focus exact rfl);(focus exact rfl);intro N hN;(simp only [go_sem,e0,e3,↓reduceIte,Nat.reduceAdd,Nat.reduceSub,Nat.reduceMul,Nat.reduceLT,Nat.reduceLeDiff,Nat.reduceEqDiff,Nat.reduceGT,Int.reduceToNat,Int.reduceBEq,Int.reduceBNe];try simp (disch := omega) only [wrapI,wrapU,half_sum,toNat_sub1,toNat_add1,Int.toNat_natCast]))
  | ((with_reducible first|refine T_seq_region Γ_ok (fun K hK=>?_)|refine T_last_region Γ_ok (fun K hK=>?_)|refine T_seq_draw (id := 15) Γ_ok drawsAny [(0,[],[]),(1,[0],[]),(2,[0,1],[]),(3,[0,1,2],[]),(4,[0,1,2,3],[]),(5,[0,1,2],[]),(6,[0,1,2],[]),(7,[0,1,2,6],[]),(8,[0,1,2,5,6,7],[]),(9,[0,1,2,5,6,7,8],[]),(10,[0,1,2,5,6,7,8,9],[]),(11,[0,1,2,3,4,5,6,7,8,9,10],[]),(12,[0,1,2,3,4,5,6,7,8,9,10,11],[])] (by kernel_rfl) (fun K hK=>?_)|refine T_last_draw (id := 15) Γ_ok drawsAny [(0,[],[]),(1,[0],[]),(2,[0,1],[]),(3,[0,1,2],[]),(4,[0,1,2,3],[]),(5,[0,1,2],[]),(6,[0,1,2],[]),(7,[0,1,2,6],[]),(8,[0,1,2,5,6,7],[]),(9,[0,1,2,5,6,7,8],[]),(10,[0,1,2,5,6,7,8,9],[]),(11,[0,1,2,3,4,5,6,7,8,9,10],[]),(12,[0,1,2,3,4,5,6,7,8,9,10,11],[])] (by kernel_rfl) (fun K hK=>?_)|refine T_seq_draw (id := 17) Γ_ok drawsAny [(0,[],[]),(1,[0],[]),(2,[],[]),(3,[0,1,2],[]),(4,[],[]),(5,[4],[]),(6,[4,5],[]),(7,[0,1,2,3,4,5,6],[]),(8,[0,1,2,3,4,5,6,7],[]),(9,[0,1,2,3,4,5,6,7,8],[]),(10,[0,1,2,3,4,5,6,7,8],[]),(11,[0,1,2,3,4,5,6,7,8,10],[]),(12,[0,1,2,3,4,5,6,7,8,9,10,11],[]),(13,[0,1,2,3,4,5,6,7,8,9,10,11,12],[]),(14,[0,1,2,3,4,5,6,7,8,9,10,11,12,13],[]),(15,[0,1,2,3,4,5,6,7,8,9,10,11,12,13,14],[]),(16,[0,1,2,3,4,5,6,7,8,9,10,11,12,13,14,15],[]),(17,[0,1,2,3,4,5,6,7,8,9,10,11,12,13,14,15,16],[]),(18,[0,1,2,3,4,5,6,7,8,9,10,11,12,13,14,15,16,17],[]),(19,[0,1,2,3,4,5,6,7,8,9,10,11,12,13,14,15,16,17,18],[]),(20,[0,1,2,3,4,5,6,7,8,9,10,11,12,13,14,15,16,17,18],[]),(21,[0,1,2,3,4,5,6,7,8,9,10,11,12,13,14,15,16,17,18],[]),(22,[0,1,2,3,4,5,6,7,8,9,10,11,12,13,14,15,16,17,18,21],[]),(23,[0,1,2,3,4,5,6,7,8,9,10,11,12,13,14,15,16,17,18,20,21,22],[]),(24,[0,1,2,3,4,5,6,7,8,9,10,11,12,13,14,15,16,17,18,20,21,22,23],[]),(25,[0,1,2,3,4,5,6,7,8,9,10,11,12,13,14,15,16,17,18,20,21,22,23,24],[]),(26,[0,1,2,3,4,5,6,7,8,9,10,11,12,13,14,15,16,17,18],[]),(27,[0,1,2,3,4,5,6,7,8,9,10,11,12,13,14,15,16,17,18,26],[]),(28,[0,1,2,3,4,5,6,7,8,9,10,11,12,13,14,15,16,17,18,19,20,21,22,23,24,25,26,27],[]),(29,[0,1,2,3,4,5,6,7,8,9,10,11,12,13,14,15,16,17,18,19,20,21,22,23,24,25,26,27,28],[]),(30,[0,1,2,3,4,5,6,7,8,9,10,11,12,13,14,15,16,17,18,19,20,21,22,23,24,25,26,27,28,29],[]),(31,[0,1,2,3,4,5,6,7,8,9,10,11,12,13,14,15,16,17,18,19,20,21,22,23,24,25,26,27,28,29,30],[])] (by kernel_rfl) (fun K hK=>?_)|refine T_last_draw (id := 17) Γ_ok drawsAny [(0,[],[]),(1,[0],[]),(2,[],[]),(3,[0,1,2],[]),(4,[],[]),(5,[4],[]),(6,[4,5],[]),(7,[0,1,2,3,4,5,6],[]),(8,[0,1,2,3,4,5,6,7],[]),(9,[0,1,2,3,4,5,6,7,8],[]),(10,[0,1,2,3,4,5,6,7,8],[]),(11,[0,1,2,3,4,5,6,7,8,10],[]),(12,[0,1,2,3,4,5,6,7,8,9,10,11],[]),(13,[0,1,2,3,4,5,6,7,8,9,10,11,12],[]),(14,[0,1,2,3,4,5,6,7,8,9,10,11,12,13],[]),(15,[0,1,2,3,4,5,6,7,8,9,10,11,12,13,14],[]),(16,[0,1,2,3,4,5,6,7,8,9,10,11,12,13,14,15],[]),(17,[0,1,2,3,4,5,6,7,8,9,10,11,12,13,14,15,16],[]),(18,[0,1,2,3,4,5,6,7,8,9,10,11,12,13,14,15,16,17],[]),(19,[0,1,2,3,4,5,6,7,8,9,10,11,12,13,14,15,16,17,18],[]),(20,[0,1,2,3,4,5,6,7,8,9,10,11,12,13,14,15,16,17,18],[]),(21,[0,1,2,3,4,5,6,7,8,9,10,11,12,13,14,15,16,17,18],[]),(22,[0,1,2,3,4,5,6,7,8,9,10,11,12,13,14,15,16,17,18,21],[]),(23,[0,1,2,3,4,5,6,7,8,9,10,11,12,13,14,15,16,17,18,20,21,22],[]),(24,[0,1,2,3,4,5,6,7,8,9,10,11,12,13,14,15,16,17,18,20,21,22,23],[]),(25,[0,1,2,3,4,5,6,7,8,9,10,11,12,13,14,15,16,17,18,20,21,22,23,24],[]),(26,[0,1,2,3,4,5,6,7,8,9,10,11,12,13,14,15,16,17,18],[]),(27,[0,1,2,3,4,5,6,7,8,9,10,11,12,13,14,15,16,17,18,26],[]),(28,[0,1,2,3,4,5,6,7,8,9,10,11,12,13,14,15,16,17,18,19,20,21,22,23,24,25,26,27],[]),(29,[0,1,2,3,4,5,6,7,8,9,10,11,12,13,14,15,16,17,18,19,20,21,22,23,24,25,26,27,28],[]),(30,[0,1,2,3,4,5,6,7,8,9,10,11,12,13,14,15,16,17,18,19,20,21,22,23,24,25,26,27,28,29],[]),(31,[0,1,2,3,4,5,6,7,8,9,10,11,12,13,14,15,16,17,18,19,20,21,22,23,24,25,26,27,28,29,30],[])] (by kernel_rfl) (fun K hK=>?_)|refine TO_callN rfl (fun N hN=>?_)|refine DCT_fork Γ_ok (fun K2 hK2=>?_)|refine DCT_last Γ_ok ?_|refine DC_ev Γ_ok ?_|refine TO_ev Γ_ok ?_|refine retQ_r ?_|refine retQ_n ?_);(simp only [go_sem,e0,e3,↓reduceIte,Nat.reduceAdd,Nat.reduceSub,Nat.reduceMul,Nat.reduceLT,Nat.reduceLeDiff,Nat.reduceEqDiff,Nat.reduceGT,Int.reduceToNat,Int.reduceBEq,Int.reduceBNe];try simp (disch := omega) only [wrapI,wrapU,half_sum,toNat_sub1,toNat_add1,Int.toNat_natCast]))
  | (with_reducible refine hK2 _ ?_ ?_ <;> clear hK2 K2)
  | with_reducible first|refine gC_false ?_|refine gC_true ?_|refine dCall_true ?_
  | (with_reducible refine hN _ _ ?_; clear hN N)
  | (with_reducible refine hN _ _ (dInl rfl) ?_; clear hN N)
  | ((with_reducible refine hN _ _ (.inr ?_) ?_);(focus (simp only [go_sem,e0,e3,↓reduceIte,Nat.reduceAdd,Nat.reduceSub,Nat.reduceMul,Nat.reduceLT,Nat.reduceLeDiff,Nat.reduceEqDiff,Nat.reduceGT,Int.reduceToNat,Int.reduceBEq,Int.reduceBNe];try simp (disch := omega) only [wrapI,wrapU,half_sum,toNat_sub1,toNat_add1,Int.toNat_natCast]));all_goals (try clear hN N))
  | with_reducible first|refine T_seq ?_|refine T_block ?_|refine T_ret ?_|refine T_exit ?_|refine T_skip ?_|refine T_label ?_
  | with_reducible first|refine thenQ_n ?_|refine thenQ_e ?_|refine thenQ_r ?_|refine blockQ_n ?_|refine blockQ_e ?_|refine blockQ_r ?_
  | with_reducible refine blockQ_o (by decide) ?_
  | ((with_reducible refine T_cond _ rfl (fun hb=>?_) (fun hb=>?_)) <;> first|(cases hb;done)|replace hb:=sgh hb|skip)
  | (with_reducible refine And.intro aG ?_)
  | assumption | omega | exact True.intro)
    ·have hbt : badS v l k = true := by rw [hbad]; rcases hb with h | h <;> simp [h]
     rw [fstF_yes hbt (by omega)] at f2
     rw [← f2, if_pos hk]
    ·have hbf : badS v l k = false := by rw [hbad,decide_eq_false (show ¬ v.br < (gS l k).u - (gS l k).f by omega),hb.2];rfl
     rw [show l.length - k = l.length - (k + 1) + 1 by omega, fstF_no hbf] at f2
     refine ⟨l.length - (k + 1), by omega, _, ?_, k + 1, by omega, by omega, f2, rfl⟩
     rw [if_neg (show ¬ k + 1 = 0 by omega), Nat.add_sub_cancel, e4]
     ((try refine sgl ?_);exact wkI [0])
   ·have e0 : ((k : Int) == 0) = false := by simp; omega
    have e3 : decide ((k : Int) > 0) = true := decide_eq_true (by omega)
    have q3 := hbd (k - 1) (by omega)
    have q4 := sgB_iff.1 (hok (k - 1) (by omega))
    rw [decide_eq_true (show 0 < k by omega)] at hbad
    have hbt0 : btS l k = if (gS l (k - 1)).u < (gS l k).f then (gS l k).f else btS l (k - 1) := by
     obtain ⟨q, rfl⟩ : ∃ q, k = q + 1 := ⟨k - 1, by omega⟩
     rfl
    rw [if_neg h0]
    generalize btS l (k - 1) = B at *
    by_cases he : (gS l (k - 1)).u < (gS l k).f
    ·have e5 : decide ((gS l k).f > (gS l (k - 1)).u) = true := decide_eq_true (by omega)
     rw [if_pos he] at hbt0
     rw [hbt0] at hbad
     refine sgo ?_
     (have dl1 := c3;have dl2 := c4;have sx1 := e0;have sx2 := e3;have sx3 := e5;have sx4:=sx0;repeat' (first|with_reducible refine T_seq_drawT (id := 15) Γ_ok drawsAny pl8_15 (by kernel_rfl) (fun K hK=>?_)|with_reducible refine T_last_drawT (id := 15) Γ_ok drawsAny pl8_15 (by kernel_rfl) (fun K hK=>?_)|with_reducible refine T_seq_drawT (id := 17) Γ_ok drawsAny pl8_17 (by kernel_rfl) (fun K hK=>?_)|with_reducible refine T_last_drawT (id := 17) Γ_ok drawsAny pl8_17 (by kernel_rfl) (fun K hK=>?_)|((obtain ⟨sx5,sx6,sx7,sx8,sx9⟩:=sx0_5;refine goR9 _ _ _ _ _ _ _ _ ?_ ?_ ?_ ?_ ?_ ?_ ?_ ?_)<;>(repeat intro hb)<;>first|exact True.intro|refine Lf.mk ?_)))
     ·have hbt : badS v l k = true := by rw [hbad]; rcases hb with (h | h) | h <;> simp [h]
      rw [fstF_yes hbt (by omega)] at f2
      rw [← f2, if_pos hk]
     ·have hbf : badS v l k = false := by rw [hbad,decide_eq_false (show ¬ v.br < (gS l k).u - (gS l k).f by omega),hb.1.2,hb.2];rfl
      rw [show l.length - k = l.length - (k + 1) + 1 by omega, fstF_no hbf] at f2
      refine ⟨l.length - (k + 1), by omega, _, ?_, k + 1, by omega, by omega, f2, rfl⟩
      rw [if_neg (show ¬ k + 1 = 0 by omega), Nat.add_sub_cancel, hbt0]
      ((try refine sgl ?_);exact wkI [0])
    ·have e5 : decide ((gS l k).f > (gS l (k - 1)).u) = false := decide_eq_false (by omega)
     rw [if_neg he] at hbt0
     rw [hbt0] at hbad
     refine sgo ?_
     (have dl1 := c3;have dl2 := c4;have sx1 := e0;have sx2 := e3;have sx3 := e5;have sx4:=sx0;repeat' (first|with_reducible refine T_seq_drawT (id := 15) Γ_ok drawsAny pl8_15 (by kernel_rfl) (fun K hK=>?_)|with_reducible refine T_last_drawT (id := 15) Γ_ok drawsAny pl8_15 (by kernel_rfl) (fun K hK=>?_)|with_reducible refine T_seq_drawT (id := 17) Γ_ok drawsAny pl8_17 (by kernel_rfl) (fun K hK=>?_)|with_reducible refine T_last_drawT (id := 17) Γ_ok drawsAny pl8_17 (by kernel_rfl) (fun K hK=>?_)|((obtain ⟨sx5,sx6,sx7,sx8,sx9⟩:=sx0_5;refine goR9 _ _ _ _ _ _ _ _ ?_ ?_ ?_ ?_ ?_ ?_ ?_ ?_)<;>(repeat intro hb)<;>first|exact True.intro|refine Lf.mk ?_)))
     ·have hbt : badS v l k = true := by rw [hbad]; rcases hb with (h | h) | h <;> simp [h]
      rw [fstF_yes hbt (by omega)] at f2
      rw [← f2, if_pos hk]
     ·have hbf : badS v l k = false := by rw [hbad,decide_eq_false (show ¬ v.br < (gS l k).u - B by omega),hb.1.2,hb.2];rfl
      rw [show l.length - k = l.length - (k + 1) + 1 by omega, fstF_no hbf] at f2
      refine ⟨l.length - (k + 1), by omega, _, ?_, k + 1, by omega, by omega, f2, rfl⟩
      rw [if_neg (show ¬ k + 1 = 0 by omega), Nat.add_sub_cancel, hbt0]
      ((try refine sgl ?_);exact wkI [0])
  ·have hkl : k = l.length := by omega
   rw [show l.length - k = 0 by omega, fstF] at f2
   refine sgo ?_
   (((refine goR0 _ _ _ _ _ _ _ _ ?_ ?_ ?_ ?_ ?_ ?_ ?_ ?_)<;>(repeat intro hb)<;>first|exact True.intro|refine Lf.mk ?_))
   rw [if_neg (by omega)]
end Go.Proofs.YtonmienclploaaaGreatDoor
