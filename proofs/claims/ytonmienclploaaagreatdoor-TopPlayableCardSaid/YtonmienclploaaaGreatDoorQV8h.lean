/-
 organ.plays.
-/
import Derived.Test.YtonmienclploaaaGreatDoorQGo
import Derived.Test.YtonmienclploaaaGreatDoorQV8g
set_option linter.unusedSimpArgs false
set_option linter.unusedVariables false
namespace Go.Proofs.YtonmienclploaaaGreatDoor
open Go.Ab
def plK (o : Og) (ids : List Int) (vs : List P6) (w : Int) (k : Nat) : Int × Int :=
 witR ((gapR (pipR o.ps (gL ids k)).1.p (ofR (gV vs k)).1).1.1 + shR (pipR o.ps (gL ids k)).1 (lacR o ids) w) ((gapR (pipR o.ps (gL ids k)).1.p (ofR (gV vs k)).1).1.2 + shR (pipR o.ps (gL ids k)).1 (lacR o ids) w) (0 - o.tol * 10000) (o.tol * 10000)
def plBad (o : Og) (ids : List Int) (vs : List P6) (w : Int) (k : Nat) : Bool := !(decide ((plK o ids vs w k).2 = 0) && decide ((plK o ids vs w k).1 = 1))
def plB (o : Og) (ids : List Int) (vs : List P6) (w : Int) : Bool := decide (fstF (plBad o ids vs w) 0 ids.length = ids.length)
theorem gap_bd (p q : P6) : (-30000000000000 ≤ (gapR p q).1.1 ∧ (gapR p q).1.1 ≤ 30000000000000) ∧ (-30000000000000 ≤ (gapR p q).1.2 ∧ (gapR p q).1.2 ≤ 30000000000000) := by
 unfold gapR
 split
 ·rename_i h
  have h1 := loS_bd (pOk_sub h.1 h.2) 6
  have h2 := hiS_bd (pOk_sub h.1 h.2) 6
  rw [loS_6] at h1
  rw [hiS_6] at h2
  simp only []
  omega
 ·simp
theorem sh_bd {x : Pp} {n w : Int} (hx : PpOk x) (hn : 0 ≤ n ∧ n ≤ 1000000) (hw : -100 ≤ w ∧ w ≤ 100) : -110000000000000 ≤ shR x n w ∧ shR x n w ≤ 110000000000000 := by
 obtain ⟨_, _, h1, h2⟩ := hx
 have a1 := Int.mul_le_mul_of_nonneg_left hw.2 h2.1
 have a2 := Int.mul_le_mul_of_nonneg_left hw.1 h2.1
 have a3 := Int.mul_le_mul_of_nonneg_left hn.2 h1.1
 have a4 := Int.mul_nonneg h1.1 hn.1
 unfold shR
 omega
set_option maxRecDepth 100000 in
set_option maxHeartbeats 4000000 in
theorem plays_tc (o : Og) (ids : List Int) (vs : List P6) (w : Int) (ho : ogB o = true) (hl : ids.length ≤ 1000) (hv : ids.length ≤ vs.length) (hw : -100 ≤ w ∧ w ≤ 100) : Look Tryz.prog 167 [ogA o,its ids,vts vs,.imm (.int .i64 w)] (.imm (.bool (plB o ids vs w))) := by
 have hps := (ogB_iff.1 ho).2.1
 have hto := (ogB_iff.1 ho).2.2.2
 have ht := together_tc o ids ho hl
 have ht2 := together_tc2 o ids ho hl
 have hn := dem_nn ho ids hl
 refine Look.mk trivial ?_
 unfold plB
 generalize hr : fstF (plBad o ids vs w) 0 ids.length = r
 (refine TC_of_T Γ_ok Tryz.func167 rfl (by kernel_rfl) ?_;simp only [Tryz.ntmps167,Tryz.results167,List.length_cons,List.length_nil,Nat.reduceSub,Nat.reduceAdd,List.replicate,List.cons_append,List.nil_append])
 repeat' (first
  | (with_reducible refine hK _ ?_; clear hK K)
  | ((with_reducible refine dCall_tc ht ?_ ?_);(focus (exact hC2));refine sgo ?_)
  | ((with_reducible refine dCall_tc ht2 ?_ ?_);(focus (exact hC2));refine sgo ?_)
  | with_reducible refine T_seq_drawT (id := 1) Γ_ok drawsAny (.fork [(0,[],[]),(1,[],[]),(3,[],[]),(4,[3],[]),(5,[3,4],[])] (.last [(2,[0,1],[3,4,5]),(6,[],[0,1,3,4,5]),(7,[0,1,2,6],[3,4,5]),(8,[0,1,2,3,4,5,6,7],[])]) (.last [(6,[],[0,1,3,4,5]),(2,[0,1],[3,4,5]),(7,[0,1,2,6],[3,4,5]),(8,[0,1,2,3,4,5,6,7],[])])) (by kernel_rfl) (fun K hK=>?_)
  | with_reducible refine T_last_drawT (id := 1) Γ_ok drawsAny (.fork [(0,[],[]),(1,[],[]),(3,[],[]),(4,[3],[]),(5,[3,4],[])] (.last [(2,[0,1],[3,4,5]),(6,[],[0,1,3,4,5]),(7,[0,1,2,6],[3,4,5]),(8,[0,1,2,3,4,5,6,7],[])]) (.last [(6,[],[0,1,3,4,5]),(2,[0,1],[3,4,5]),(7,[0,1,2,6],[3,4,5]),(8,[0,1,2,3,4,5,6,7],[])])) (by kernel_rfl) (fun K hK=>?_)
  | ((with_reducible apply DC_call);(focus exact rfl);(focus exact rfl);(focus exact rfl);intro N hN;refine sgo ?_)
  | ((with_reducible first|refine T_seq_region Γ_ok (fun K hK=>?_)|refine T_last_region Γ_ok (fun K hK=>?_)|refine T_seq_draw (id := 8) Γ_ok drawsAny [(0,[],[]),(1,[],[]),(2,[],[]),(3,[],[]),(6,[],[]),(7,[6],[]),(8,[],[]),(4,[1,2,3],[0,6,7,8]),(5,[0,1,2,3,4],[6,7,8]),(9,[0,1,2,3,4,5,6,7,8],[]),(10,[0,1,2,3,4,5,6,7,8,9],[]),(11,[0,1,2,3,4,5,6,7,8,9,10],[]),(12,[0,1,2,3,4,5,6,7,8,9,10],[]),(13,[0,1,2,3,4,5,6,7,8,9,10,11],[]),(14,[0,1,2,3,4,5,6,7,8,9,10,11,12,13],[])] (by kernel_rfl) (fun K hK=>?_)|refine T_last_draw (id := 8) Γ_ok drawsAny [(0,[],[]),(1,[],[]),(2,[],[]),(3,[],[]),(6,[],[]),(7,[6],[]),(8,[],[]),(4,[1,2,3],[0,6,7,8]),(5,[0,1,2,3,4],[6,7,8]),(9,[0,1,2,3,4,5,6,7,8],[]),(10,[0,1,2,3,4,5,6,7,8,9],[]),(11,[0,1,2,3,4,5,6,7,8,9,10],[]),(12,[0,1,2,3,4,5,6,7,8,9,10],[]),(13,[0,1,2,3,4,5,6,7,8,9,10,11],[]),(14,[0,1,2,3,4,5,6,7,8,9,10,11,12,13],[])] (by kernel_rfl) (fun K hK=>?_)|refine TO_callN rfl (fun N hN=>?_)|refine DCT_fork Γ_ok (fun K2 hK2=>?_)|refine DCT_last Γ_ok ?_|refine DC_ev Γ_ok ?_|refine TO_ev Γ_ok ?_|refine retQ_r ?_|refine retQ_n ?_);refine sgo ?_)
  | (with_reducible refine hK2 _ ?_ ?_ <;> clear hK2 K2)
  | with_reducible first|refine gC_false ?_|refine gC_true ?_|refine dCall_true ?_
  | (with_reducible refine hN _ _ ?_; clear hN N)
  | (with_reducible refine hN _ _ (dInl rfl) ?_; clear hN N)
  | ((with_reducible refine hN _ _ (.inr ?_) ?_);(focus (refine sgo ?_;try exact True.intro));all_goals (try clear hN N))
  | with_reducible first|refine T_seq ?_|refine T_block ?_|refine T_ret ?_|refine T_exit ?_|refine T_skip ?_|refine T_label ?_
  | with_reducible first|refine thenQ_n ?_|refine thenQ_e ?_|refine thenQ_r ?_|refine blockQ_n ?_|refine blockQ_e ?_|refine blockQ_r ?_
  | with_reducible refine blockQ_o (by decide) ?_
  | ((with_reducible refine T_cond _ rfl (fun hb=>?_) (fun hb=>?_)) <;> first|(cases hb;done)|replace hb:=sgh hb|skip)
  | (with_reducible refine And.intro aG ?_)
  | assumption | omega | exact True.intro)
 all_goals
  refine T_loopW (fun m st=>∃ i : Nat,i ≤ ids.length ∧ m + i = ids.length ∧ fstF (plBad o ids vs w) i (ids.length - i) = r ∧ st = ⟨[.top,its ids,vts vs,.imm (.int .i64 w),.optr 0 0 0,.top,.top,.top,.top,.optr 1 0 0,.imm (.int .i64 (o.tol * 10000))] ++ List.replicate 16 .top ++ [its ids,.imm (.int .i64 ids.length),.imm (.int .i64 i)] ++ List.replicate 45 .top,
    [.box 49 (ogL o), .box 150 (cellsOf (sdA o ids (lacR o ids)))]⟩)
   ids.length ⟨_, ?_, 0, by omega, rfl, hr, rfl⟩ ?_
  ·((try refine sgl ?_);exact wkI [0,1])
  rintro m st ⟨i, g0, g1, g2, rfl⟩
  by_cases hi : i < ids.length
  ·have h1 := pipe_tc o (gL ids i) (by omega)
   have h2 := of_tc (gV vs i)
   have hpo := pip_ok ho (gL ids i)
   have hpl : plK o ids vs w i = witR ((gapR (pipR o.ps (gL ids i)).1.p (ofR (gV vs i)).1).1.1 + shR (pipR o.ps (gL ids i)).1 (lacR o ids) w) ((gapR (pipR o.ps (gL ids i)).1.p (ofR (gV vs i)).1).1.2 + shR (pipR o.ps (gL ids i)).1 (lacR o ids) w) (0 - o.tol * 10000) (o.tol * 10000) := rfl
   generalize (pipR o.ps (gL ids i)).1 = x at h1 hpo hpl
   generalize (pipR o.ps (gL ids i)).2 = ok at h1
   generalize (ofR (gV vs i)).1 = q at h2 hpl
   generalize (ofR (gV vs i)).2 = e at h2
   have h3 := gap_tc x.p q
   have hgb := gap_bd x.p q
   generalize (gapR x.p q).1.1 = ga at h3 hgb hpl
   generalize (gapR x.p q).1.2 = gb at h3 hgb hpl
   have h4 := shift_tc o ids x _ w hpo hn hw
   have hsb := sh_bd hpo hn hw
   generalize shR x (lacR o ids) w = sh at h4 hpl hsb
   have h5 := moved_tc ga gb sh (by omega) (by omega) (by omega)
   have h6 := within_sz (ga + sh) (gb + sh) (0 - o.tol * 10000) (o.tol * 10000)
   rw [← hpl] at h6
   have hbd : plBad o ids vs w i = !(decide ((plK o ids vs w i).2 = 0) && decide ((plK o ids vs w i).1 = 1)) := rfl
   generalize (plK o ids vs w i).1 = wn at h6 hbd
   generalize (plK o ids vs w i).2 = we at h6 hbd
   refine sgo ?_
   (have cl1 := h1;have cl2 := h2;have cl3 := h3;have cl4 := h4;have cl5 := h5;have cl6 := h6;repeat' (first|with_reducible refine T_seq_drawT (id := 1) Γ_ok drawsAny pl167_1 (by kernel_rfl) (fun K hK=>?_)|with_reducible refine T_last_drawT (id := 1) Γ_ok drawsAny pl167_1 (by kernel_rfl) (fun K hK=>?_)|with_reducible refine T_seq_drawT (id := 8) Γ_ok drawsAny pl167_8 (by kernel_rfl) (fun K hK=>?_)|with_reducible refine T_last_drawT (id := 8) Γ_ok drawsAny pl167_8 (by kernel_rfl) (fun K hK=>?_)|((refine goR0 _ _ _ _ _ _ _ _ ?_ ?_ ?_ ?_ ?_ ?_ ?_ ?_)<;>(repeat intro hb)<;>first|exact True.intro|refine Lf.mk ?_)))
   ·rw [fstF_yes (by rw [hbd]; simp; omega) (by omega)] at g2
    rw [decide_eq_false (show ¬ r = ids.length by omega)]
   ·rw [show ids.length - i = ids.length - (i + 1) + 1 by omega, fstF_no (by rw [hbd]; simp; omega)] at g2
    refine ⟨ids.length - (i + 1), by omega, _, ?_, i + 1, by omega, by omega, g2, rfl⟩
    ((try refine sgl ?_);exact wkI [0,1])
  ·refine sgo ?_
   (((refine goR0 _ _ _ _ _ _ _ _ ?_ ?_ ?_ ?_ ?_ ?_ ?_ ?_)<;>(repeat intro hb)<;>first|exact True.intro|refine Lf.mk ?_))
   rw [show ids.length - i = 0 by omega, fstF] at g2
   rw [decide_eq_true (show r = ids.length by omega)]
end Go.Proofs.YtonmienclploaaaGreatDoor
