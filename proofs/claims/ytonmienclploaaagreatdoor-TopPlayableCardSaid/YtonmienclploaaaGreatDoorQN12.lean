/-
 pitch.fraction.
-/
import Derived.Test.YtonmienclploaaaGreatDoorQGo2
import Derived.Test.YtonmienclploaaaGreatDoorQU3
import Derived.Test.YtonmienclploaaaGreatDoorQA5
set_option linter.unusedSimpArgs false
set_option linter.unusedVariables false
namespace Go.Proofs.YtonmienclploaaaGreatDoor.Q
open Go.Ab
@[go_sem] theorem gA_2 : gA 2 = .rptr 6 (gcell .i64 primL) := rfl
def ovL (p : P6) : Nat → List Nat
 | 0 => []
 | i + 1 => if 0 < p.at i then ovL p i ++ [prm i ^ (p.at i).toNat] else ovL p i
theorem ovL_len (p : P6) (i : Nat) : (ovL p i).length ≤ i := by
 induction i with
 | zero => simp [ovL]
 | succ i ih => rw [ovL]; split <;> (try simp) <;> omega
theorem ovL_prod (p : P6) (i : Nat) : prodN (ovL p i) = numK p i := by
 induction i with
 | zero => rfl
 | succ i ih =>
  rw [ovL, numK, ← ih]
  split
  ·unfold prodN; rw [List.foldl_append]; rfl
  ·rename_i h
   rw [show (p.at i).toNat = 0 by omega, Nat.pow_zero, Nat.mul_one]
theorem at_neg (p : P6) (i : Nat) : p.neg.at i = -p.at i := by
 rcases i with _ | _ | _ | _ | _ | _ | i <;> simp [P6.at, P6.neg]
theorem prm_2 {i : Nat} (h : i < 6) : 2 ≤ prm i := by
 rcases i with _ | _ | _ | _ | _ | _ | i <;> first | (simp [prm]; done) | omega
theorem nv_snoc {π : List Nat} {σ : List AObj} {L : List Nat} {x o : Nat} (hob : nthO σ o = natO (lmN x) x) (ho : ∀ q ∈ π,q ≠ o ∧ ((nthO σ q).alive = true ∨ ∃ vs xs lo hi ds,nthO σ q = .ghost vs xs lo hi ds)) {i j : Nat} (hi : i < L.length + 1) (hj : j < 1) :
  WkV π σ (catE L.length (nvE L) (fun i j => nth [AV.own o 0 (lmN x) none] (i * 1 + j)) i j) (nvE (L ++ [x]) i j) := by
 obtain rfl : j = 0 := by omega
 unfold catE
 split
 ·rename_i h1
  refine WkV.eqF ?_ (nvE_free _ _ _)
  unfold nvE gN
  simp [List.getElem?_append_left h1]
 ·obtain rfl : i = L.length := by omega
  rw [show nvE (L ++ [x]) L.length 0 = natV x by unfold nvE gN; simp]
  rw [Nat.sub_self]
  exact WkV.freezeG (o := o) hob (by omega) ho (fun a b _ _ => by rw [Nat.zero_add]; exact WkV.free (lmE_free _ _ _))
theorem ovL_mem {p : P6} (h : Bd6 1152 p) : ∀ {i : Nat} {x : Nat}, x ∈ ovL p i → ∃ j e, e ≤ 1152 ∧ j < i ∧ x = prm j ^ e
 | 0, x, hx => by simp [ovL] at hx
 | i + 1, x, hx => by
  rw [ovL] at hx
  split at hx
  ·rcases List.mem_append.1 hx with hx | hx
   ·obtain ⟨j, e, h1, h2, h3⟩ := ovL_mem h hx
    exact ⟨j, e, h1, by omega, h3⟩
   ·rw [List.mem_singleton] at hx
    have := at_bd h (by omega) i
    exact ⟨i, _, by omega, by omega, hx⟩
  ·obtain ⟨j, e, h1, h2, h3⟩ := ovL_mem h hx
   exact ⟨j, e, h1, by omega, h3⟩
theorem gN_mem {l : List Nat} {i : Nat} (h : i < l.length) : gN l i ∈ l := by
 unfold gN
 rw [List.getD_eq_getElem?_getD, List.getElem?_eq_getElem h]
 exact List.getElem_mem h
theorem ovL_lim {p : P6} (h : Bd6 1152 p) {i : Nat} (hi : i < (ovL p 6).length) : lmN (gN (ovL p 6) i) ≤ 640 := by
 obtain ⟨j, e, h1, h2, h3⟩ := ovL_mem h (gN_mem hi)
 rw [h3]; exact pow_lim j h1
theorem ovL_pre {p : P6} (h : Bd6 1152 p) {i : Nat} (hi : i ≤ (ovL p 6).length) : lmN (prK (ovL p 6) i) ≤ 640 := by
 have key : ∀ d i, i + d = (ovL p 6).length → prK (ovL p 6) i ≤ prodN (ovL p 6) := by
  intro d
  induction d with
  | zero => intro i hi; rw [← prK_end, show i = (ovL p 6).length by omega]; exact Nat.le_refl _
  | succ d ih =>
   intro i hi
   refine Nat.le_trans ?_ (ih (i + 1) (by omega))
   rw [prK_s (by omega)]
   obtain ⟨j, e, h1, h2, h3⟩ := ovL_mem h (gN_mem (l := ovL p 6) (i := i) (by omega))
   rw [h3]
   exact Nat.le_mul_of_pos_right _ (Nat.pow_pos (by have := prm_2 h2; omega))
 have := key ((ovL p 6).length - i) i (by omega)
 rw [ovL_prod, numK_6] at this
 exact Nat.le_trans (lmN_mono this) (num_lim h)
@[go_sem,reducible] def enY (l : Nat) (p : P6) (i : Nat) : List AV := [.fn (.yield l) [] [],.optr 3 0 0,.top,.top,.top,p6A p,.imm (.int .i64 i)] ++ List.replicate 15 .top
@[go_sem, reducible] def nvO (L : List Nat) : AObj := .arr 166 1 L.length (nvE L)
@[go_sem,reducible] def fxY (p : P6) (A B : List Nat) (tc : List Value) (lo hi : Nat) (ds : List Deferred) (rw : AObj) : List AObj :=
 [.box 22 (p6L p), .box 196 [.own 6 0 A.length none], .box 196 [.own 7 0 B.length none], .box 22 (p6L p),
  .ghost ([p6A p,.optr 0 0 0,.imm (.slice none 0 0),.imm (.slice none 0 0),.optr 1 0 0,.optr 2 0 0] ++ List.replicate 33 .top) tc lo hi ds,rw,nvO A,nvO B]
set_option maxRecDepth 100000 in
set_option maxHeartbeats 4000000 in
theorem fraction_raw (p : P6) (h : Bd6 1152 p) (Q : AV → List AObj → Prop)
  (hQ : ∀ σ' k1 k2,k1 ≠ k2 → nthO σ' k1 = natO (lmN (num p)) (num p) → nthO σ' k2 = natO (lmN (den p)) (den p) → Q (.tup [.own k1 0 (lmN (num p)) none,.own k2 0 (lmN (den p)) none]) σ') : TC Tryz.prog 74 [p6A p] [] Q := by
 (refine TC_of_TM Γ_ok Tryz.func74 rfl (by kernel_rfl) ?_;simp only [Tryz.ntmps74,Tryz.results74,List.length_cons,List.length_nil,Nat.reduceSub,Nat.reduceAdd,List.replicate,List.cons_append,List.nil_append])
 repeat' (first
  | (with_reducible refine hK _ ?_; clear hK K)
  | ((with_reducible first|refine retQM_r ?_|refine retQM_n ?_);try refine sgo ?_)
  | ((with_reducible refine callGoal_inline Γ_ok Tryz.func105 rfl (by kernel_rfl) (by exact hC2) ?_);simp only [Tryz.ntmps105,Tryz.results105,List.length_cons,List.length_nil,Nat.reduceSub,Nat.reduceAdd,List.replicate,List.cons_append,List.nil_append])
  | ((refine T_rangeFunc (fnI := Tryz.f122) (.inl rfl) rfl trivial Tryz.func122 rfl (by kernel_rfl) rfl (fun l r tc lo hi ds hL=>?_));simp only [Tryz.ntmps122,List.length_cons,List.length_nil,Nat.reduceSub,Nat.reduceAdd,List.replicate,List.cons_append,List.nil_append];try refine sgo ?_)
  | ((with_reducible apply DC_call);(focus exact rfl);(focus exact rfl);(focus exact rfl);intro N hN;refine sgo ?_)
  | ((with_reducible first|refine T_seq_region Γ_ok (fun K hK=>?_)|refine T_last_region Γ_ok (fun K hK=>?_)|refine T_seq_draw (id := 9) Γ_ok drawsAny [(0,[],[]),(2,[],[]),(1,[0],[2]),(3,[0,1,2],[]),(4,[0,1,2,3],[]),(5,[0,1,2,3,4],[])] (by kernel_rfl) (fun K hK=>?_)|refine T_last_draw (id := 9) Γ_ok drawsAny [(0,[],[]),(2,[],[]),(1,[0],[2]),(3,[0,1,2],[]),(4,[0,1,2,3],[]),(5,[0,1,2,3,4],[])] (by kernel_rfl) (fun K hK=>?_)|refine TO_callN rfl (fun N hN=>?_)|refine DCT_fork Γ_ok (fun K2 hK2=>?_)|refine DCT_last Γ_ok ?_|refine DC_ev Γ_ok ?_|refine TO_ev Γ_ok ?_|refine retQ_r ?_|refine retQ_n ?_);refine sgo ?_)
  | (with_reducible refine hK2 _ ?_ ?_ <;> clear hK2 K2)
  | with_reducible first|refine gC_false ?_|refine gC_true ?_|refine dCall_true ?_
  | (with_reducible refine hN _ _ ?_; clear hN N)
  | (with_reducible refine hN _ _ (dInl rfl) ?_; clear hN N)
  | ((with_reducible refine hN _ _ (.inr ?_) ?_);(focus (refine sgo ?_;try exact True.intro));all_goals (try clear hN N))
  | with_reducible first|refine T_seq ?_|refine T_block ?_|refine T_ret ?_|refine T_exit ?_|refine T_skip ?_|refine T_label ?_
  | with_reducible first|refine thenQ_n ?_|refine thenQ_e ?_|refine thenQ_r ?_|refine blockQ_n ?_|refine blockQ_e ?_|refine blockQ_r ?_
  | with_reducible refine blockQ_o (by decide) ?_
  | ((with_reducible refine T_cond _ rfl (fun hb=>?_) (fun hb=>?_)) <;> first|(cases hb;done)|replace hb:=sgh hb|skip)
  | (with_reducible refine And.intro aG ?_)
  | assumption | omega | exact True.intro)
 refine T_loopW (fun m st => ∃ i : Nat,i ≤ 6 ∧ m + i = 6 ∧ st = ⟨enY l p i,fxY p (ovL p i) (ovL p.neg i) tc.toList lo hi ds (.raw l (.loop (r.at .ready none)))⟩)
  6 ⟨_, Wk.trans (Wk.push 166 1 (nvE [])) (Wk.trans (Wk.push 166 1 (nvE [])) ?_), 0, by omega, rfl, rfl⟩ ?_
 ·((try refine sgl ?_);exact wkI [0,1,2,3,4,5,6,7])
 rintro m st ⟨i, h0, h1, rfl⟩
 by_cases hi : i < 6
 ·have hp2 := prm_2 hi
  have hp4 := prm_le i
  have hab := at_bd h (by omega) i
  have hnb := at_neg p i
  have hn : ∀ e : Int,p.at i = e → nth [AV.imm (.int .i64 p.a),.imm (.int .i64 p.b),.imm (.int .i64 p.c),.imm (.int .i64 p.d),.imm (.int .i64 p.e),.imm (.int .i64 p.f)] (i * 1) = .imm (.int .i64 e) := fun e he=>by
   subst he
   rw [Nat.mul_one]
   rcases i with _ | _ | _ | _ | _ | _ | i <;> first | rfl | omega
  have hg : gcell .i64 primL (i * 1) = .imm (.int .i64 (prm i)) := by
   rw [Nat.mul_one]
   rcases i with _ | _ | _ | _ | _ | _ | i <;> first | rfl | omega
  have hw : IntKind.u64.wrap (prm i : Int) = (prm i : Int) := wrapU (by omega) (by omega)
  have c1 := make_mk (prm i) (by omega)
  have hol := ovL_len p i
  have hol2 := ovL_len p.neg i
  have hpi : lmN (prm i) ≤ 640 := Nat.le_trans (lt_pow.1 (show prm i < Bs ^ 1 by rw [Nat.pow_one];unfold Bs;omega)) (by omega)
  rcases Int.lt_trichotomy (p.at i) 0 with hs | hs | hs
  ·obtain ⟨e, he⟩ : ∃ e : Nat, p.at i = -(e : Int) := ⟨(-(p.at i)).toNat, by omega⟩
   have hn := hn (-(e : Int)) he
   have e1 : ((-(e : Int)) != 0) = true := by rw [bne_iff_ne]; omega
   have e2 : (if 0 - (-(e : Int)) > (-(e : Int)) then 0 - (-(e : Int)) else (-(e : Int))) = (e : Int) := by rw [if_pos (by omega)];omega
   have e3 : decide ((-(e : Int)) > 0) = false := decide_eq_false (by omega)
   have c2 := pow_mk (prm i) e hp2 (by omega) hpi (pow_lim i (by omega))
   refine sgo ?_
   repeat' (first
  | (with_reducible refine hK _ ?_; clear hK K)
  | ((with_reducible first|refine retQM_r ?_|refine retQM_n ?_);try refine sgo ?_)
  | ((refine TO_yield hL 5 4 rfl rfl rfl (by first|exact Or.inl rfl|exact Or.inr rfl) rfl rfl rfl (by simp only [go_sem,and_self]) (fun ti lo' hi' ds'=>?_));try refine sgo ?_)
  | ((with_reducible refine assignQ_mk 5 (by with_unfolding_all rfl) ?_);try refine sgo ?_)
  | ((with_reducible apply callGoal_makeA (c1));(case hC=>exact hC2);(case hc=>exact cvl);(case' hn=>refine sgo ?_))
  | ((with_reducible apply dCall_makeA (c1));(case hC=>exact hC2);(case hc=>exact cvl);(case' hn=>refine sgo ?_))
  | ((with_reducible apply callGoal_makeA (c2));(case hC=>exact hC2);(case hc=>exact cvl);(case' hn=>refine sgo ?_))
  | ((with_reducible apply dCall_makeA (c2));(case hC=>exact hC2);(case hc=>exact cvl);(case' hn=>refine sgo ?_))
  | ((with_reducible first|refine roundQ_n 5 8 (by with_unfolding_all rfl) (by with_unfolding_all rfl) ?_|refine roundQ_r 5 8 (by with_unfolding_all rfl) (by with_unfolding_all rfl) ?_|refine roundQ_e 5 8 (by with_unfolding_all rfl) (by with_unfolding_all rfl) ?_);try refine sgo ?_)
  | ((with_reducible apply DC_call);(focus exact rfl);(focus exact rfl);(focus exact rfl);intro N hN;refine sgo3 ?_)
  | ((with_reducible first|refine T_seq_region Γ_ok (fun K hK=>?_)|refine T_last_region Γ_ok (fun K hK=>?_)|refine T_seq_draw (id := 9) Γ_ok drawsAny [(0,[],[]),(2,[],[]),(1,[0],[2]),(3,[0,1,2],[]),(4,[0,1,2,3],[]),(5,[0,1,2,3,4],[])] (by kernel_rfl) (fun K hK=>?_)|refine T_last_draw (id := 9) Γ_ok drawsAny [(0,[],[]),(2,[],[]),(1,[0],[2]),(3,[0,1,2],[]),(4,[0,1,2,3],[]),(5,[0,1,2,3,4],[])] (by kernel_rfl) (fun K hK=>?_)|refine TO_callN rfl (fun N hN=>?_)|refine DCT_fork Γ_ok (fun K2 hK2=>?_)|refine DCT_last Γ_ok ?_|refine DC_ev Γ_ok ?_|refine TO_ev Γ_ok ?_|refine retQ_r ?_|refine retQ_n ?_);refine sgo3 ?_)
  | (with_reducible refine hK2 _ ?_ ?_ <;> clear hK2 K2)
  | with_reducible first|refine gC_false ?_|refine gC_true ?_|refine dCall_true ?_
  | (with_reducible refine hN _ _ ?_; clear hN N)
  | (with_reducible refine hN _ _ (dInl rfl) ?_; clear hN N)
  | ((with_reducible refine hN _ _ (.inr ?_) ?_);(focus (refine sgo3 ?_;try exact True.intro));all_goals (try clear hN N))
  | with_reducible first|refine T_seq ?_|refine T_block ?_|refine T_ret ?_|refine T_exit ?_|refine T_skip ?_|refine T_label ?_
  | with_reducible first|refine thenQ_n ?_|refine thenQ_e ?_|refine thenQ_r ?_|refine blockQ_n ?_|refine blockQ_e ?_|refine blockQ_r ?_
  | with_reducible refine blockQ_o (by decide) ?_
  | ((with_reducible refine T_cond _ rfl (fun hb=>?_) (fun hb=>?_)) <;> first|(cases hb;done)|replace hb:=sgh hb|skip)
  | (with_reducible refine And.intro aG ?_)
  | assumption | omega | exact True.intro)
   refine ⟨6 - (i + 1),by omega,⟨enY l p (i + 1),fxY p (ovL p (i + 1)) (ovL p.neg (i + 1)) tc.toList lo _ ds (.raw l (.loop (r.at .ready none)))⟩,?_,i + 1,by omega,by omega,rfl⟩
   rw [show ovL p (i + 1) = ovL p i by rw [ovL,if_neg (by omega)],show ovL p.neg (i + 1) = ovL p.neg i ++ [prm i ^ e] by rw [ovL,if_pos (by omega),hnb,he,Int.neg_neg,Int.toNat_natCast]]
   simp only [fxY, nvO]
   ((try refine sgl ?_);refine Wk.intro [0,1,2,3,4,5,6,12] (by decide) (by decide) wkH ?_ ?_ <;> repeat' (first|(refine nv_snoc (o := 10) rfl (fun q hq=>?_) hi hj;simp only [List.mem_cons,List.not_mem_nil,or_false] at hq;rcases hq with rfl|rfl|rfl|rfl|rfl|rfl|rfl|rfl <;> first|exact ⟨by omega,.inl rfl⟩|exact ⟨by omega,.inr ⟨_,_,_,_,_,rfl⟩⟩)|(refine WkV.imm ?_;congr 1;omega)|refine WkVL.cons ?_ ?_|exact wkT|refine WkV.agg ?_|refine WkV.tup ?_|refine WkV.fn ?_ ?_|exact WkO.dead|exact WkO.raw|refine WkO.ghost ?_|exact WkO.mpE rfl trivial|refine WkO.box ?_ rfl|refine WkO.arr ?_|refine And.intro ?_ (And.intro aF ?_)|exact trivial|(intro i j hi hj)))
  ·have hn := hn 0 hs
   refine sgo ?_
   (have sx1 := hn;repeat' (first|with_reducible refine T_seq_drawT (id := 9) Γ_ok drawsAny pl74_9 (by kernel_rfl) (fun K hK=>?_)|with_reducible refine T_last_drawT (id := 9) Γ_ok drawsAny pl74_9 (by kernel_rfl) (fun K hK=>?_)|((refine goB1 _ _ _ _ _ _ _ _ ?_ ?_ ?_ ?_ ?_ ?_ ?_ ?_)<;>(repeat intro hb)<;>first|exact True.intro|refine Lf.mk ?_)))
   refine ⟨6 - (i + 1),by omega,⟨enY l p (i + 1),fxY p (ovL p (i + 1)) (ovL p.neg (i + 1)) tc.toList lo _ ds (.raw l (.loop (r.at .ready none)))⟩,?_,i + 1,by omega,by omega,rfl⟩
   rw [show ovL p (i + 1) = ovL p i by rw [ovL,if_neg (by omega)],show ovL p.neg (i + 1) = ovL p.neg i by rw [ovL,if_neg (by omega)]]
   ((try refine sgl ?_);refine Wk.intro [0,1,2,3,4,5,6,7] (by decide) (by decide) wkH ?_ ?_ <;> repeat' (first|(refine WkV.imm ?_;congr 1;omega)|refine WkVL.cons ?_ ?_|exact wkT|refine WkV.agg ?_|refine WkV.tup ?_|refine WkV.fn ?_ ?_|exact WkO.dead|exact WkO.raw|refine WkO.ghost ?_|exact WkO.mpE rfl trivial|refine WkO.box ?_ rfl|refine WkO.arr ?_|refine And.intro ?_ (And.intro aF ?_)|exact trivial|(intro i j hi hj)))
  ·obtain ⟨e, he⟩ : ∃ e : Nat, p.at i = e := ⟨(p.at i).toNat, by omega⟩
   have hn := hn e he
   have e1 : ((e : Int) != 0) = true := by rw [bne_iff_ne]; omega
   have e2 : (if 0 - (e : Int) > (e : Int) then 0 - (e : Int) else (e : Int)) = (e : Int) := if_neg (by omega)
   have e3 : decide ((e : Int) > 0) = true := decide_eq_true (by omega)
   have c2 := pow_mk (prm i) e hp2 (by omega) hpi (pow_lim i (by omega))
   refine sgo ?_
   repeat' (first
  | (with_reducible refine hK _ ?_; clear hK K)
  | ((with_reducible first|refine retQM_r ?_|refine retQM_n ?_);try refine sgo ?_)
  | ((refine TO_yield hL 5 4 rfl rfl rfl (by first|exact Or.inl rfl|exact Or.inr rfl) rfl rfl rfl (by simp only [go_sem,and_self]) (fun ti lo' hi' ds'=>?_));try refine sgo ?_)
  | ((with_reducible refine assignQ_mk 5 (by with_unfolding_all rfl) ?_);try refine sgo ?_)
  | ((with_reducible apply callGoal_makeA (c1));(case hC=>exact hC2);(case hc=>exact cvl);(case' hn=>refine sgo ?_))
  | ((with_reducible apply dCall_makeA (c1));(case hC=>exact hC2);(case hc=>exact cvl);(case' hn=>refine sgo ?_))
  | ((with_reducible apply callGoal_makeA (c2));(case hC=>exact hC2);(case hc=>exact cvl);(case' hn=>refine sgo ?_))
  | ((with_reducible apply dCall_makeA (c2));(case hC=>exact hC2);(case hc=>exact cvl);(case' hn=>refine sgo ?_))
  | ((with_reducible first|refine roundQ_n 5 8 (by with_unfolding_all rfl) (by with_unfolding_all rfl) ?_|refine roundQ_r 5 8 (by with_unfolding_all rfl) (by with_unfolding_all rfl) ?_|refine roundQ_e 5 8 (by with_unfolding_all rfl) (by with_unfolding_all rfl) ?_);try refine sgo ?_)
  | ((with_reducible apply DC_call);(focus exact rfl);(focus exact rfl);(focus exact rfl);intro N hN;refine sgo3 ?_)
  | ((with_reducible first|refine T_seq_region Γ_ok (fun K hK=>?_)|refine T_last_region Γ_ok (fun K hK=>?_)|refine T_seq_draw (id := 9) Γ_ok drawsAny [(0,[],[]),(2,[],[]),(1,[0],[2]),(3,[0,1,2],[]),(4,[0,1,2,3],[]),(5,[0,1,2,3,4],[])] (by kernel_rfl) (fun K hK=>?_)|refine T_last_draw (id := 9) Γ_ok drawsAny [(0,[],[]),(2,[],[]),(1,[0],[2]),(3,[0,1,2],[]),(4,[0,1,2,3],[]),(5,[0,1,2,3,4],[])] (by kernel_rfl) (fun K hK=>?_)|refine TO_callN rfl (fun N hN=>?_)|refine DCT_fork Γ_ok (fun K2 hK2=>?_)|refine DCT_last Γ_ok ?_|refine DC_ev Γ_ok ?_|refine TO_ev Γ_ok ?_|refine retQ_r ?_|refine retQ_n ?_);refine sgo3 ?_)
  | (with_reducible refine hK2 _ ?_ ?_ <;> clear hK2 K2)
  | with_reducible first|refine gC_false ?_|refine gC_true ?_|refine dCall_true ?_
  | (with_reducible refine hN _ _ ?_; clear hN N)
  | (with_reducible refine hN _ _ (dInl rfl) ?_; clear hN N)
  | ((with_reducible refine hN _ _ (.inr ?_) ?_);(focus (refine sgo3 ?_;try exact True.intro));all_goals (try clear hN N))
  | with_reducible first|refine T_seq ?_|refine T_block ?_|refine T_ret ?_|refine T_exit ?_|refine T_skip ?_|refine T_label ?_
  | with_reducible first|refine thenQ_n ?_|refine thenQ_e ?_|refine thenQ_r ?_|refine blockQ_n ?_|refine blockQ_e ?_|refine blockQ_r ?_
  | with_reducible refine blockQ_o (by decide) ?_
  | ((with_reducible refine T_cond _ rfl (fun hb=>?_) (fun hb=>?_)) <;> first|(cases hb;done)|replace hb:=sgh hb|skip)
  | (with_reducible refine And.intro aG ?_)
  | assumption | omega | exact True.intro)
   refine ⟨6 - (i + 1),by omega,⟨enY l p (i + 1),fxY p (ovL p (i + 1)) (ovL p.neg (i + 1)) tc.toList lo _ ds (.raw l (.loop (r.at .ready none)))⟩,?_,i + 1,by omega,by omega,rfl⟩
   rw [show ovL p (i + 1) = ovL p i ++ [prm i ^ e] by rw [ovL,if_pos (by omega),he,Int.toNat_natCast],show ovL p.neg (i + 1) = ovL p.neg i by rw [ovL,if_neg (by omega)]]
   simp only [fxY, nvO]
   ((try refine sgl ?_);refine Wk.intro [0,1,2,3,4,5,12,7] (by decide) (by decide) wkH ?_ ?_ <;> repeat' (first|(refine nv_snoc (o := 10) rfl (fun q hq=>?_) hi hj;simp only [List.mem_cons,List.not_mem_nil,or_false] at hq;rcases hq with rfl|rfl|rfl|rfl|rfl|rfl|rfl|rfl <;> first|exact ⟨by omega,.inl rfl⟩|exact ⟨by omega,.inr ⟨_,_,_,_,_,rfl⟩⟩)|(refine WkV.imm ?_;congr 1;omega)|refine WkVL.cons ?_ ?_|exact wkT|refine WkV.agg ?_|refine WkV.tup ?_|refine WkV.fn ?_ ?_|exact WkO.dead|exact WkO.raw|refine WkO.ghost ?_|exact WkO.mpE rfl trivial|refine WkO.box ?_ rfl|refine WkO.arr ?_|refine And.intro ?_ (And.intro aF ?_)|exact trivial|(intro i j hi hj)))
 ·obtain rfl : i = 6 := by omega
  have l1 := ovL_len p 6
  have l2 := ovL_len p.neg 6
  have m1 := multiply_mk (ovL p 6) (by omega) (fun i hi => ovL_lim h hi) (fun i hi => ovL_pre h hi)
  have m2 := multiply_mk (ovL p.neg 6) (by omega) (fun i hi => ovL_lim h.neg hi) (fun i hi => ovL_pre h.neg hi)
  rw [ovL_prod, numK_6] at m1 m2
  refine sgo ?_
  repeat' (first
  | (with_reducible refine hK _ ?_; clear hK K)
  | ((with_reducible first|refine retQM_r ?_|refine retQM_n ?_);try refine sgo ?_)
  | ((with_reducible first|refine iterQ_r 5 4 (by with_unfolding_all rfl) (by with_unfolding_all rfl) ?_|refine iterQ_n 5 4 (by with_unfolding_all rfl) (by with_unfolding_all rfl) ?_|refine iterQ_rr 5 4 (by with_unfolding_all rfl) (by with_unfolding_all rfl) ?_|refine iterQ_nr 5 4 (by with_unfolding_all rfl) (by with_unfolding_all rfl) ?_|refine iterQ_re 5 4 (by with_unfolding_all rfl) (by with_unfolding_all rfl) ?_|refine iterQ_ne 5 4 (by with_unfolding_all rfl) (by with_unfolding_all rfl) ?_);try refine sgo ?_)
  | ((with_reducible apply callGoal_makeA (m1));(case hC=>exact hC2);(case hc=>exact cvl);(case' hn=>refine sgo ?_))
  | ((with_reducible apply dCall_makeA (m1));(case hC=>exact hC2);(case hc=>exact cvl);(case' hn=>refine sgo ?_))
  | ((with_reducible apply callGoal_makeA (m2));(case hC=>exact hC2);(case hc=>exact cvl);(case' hn=>refine sgo ?_))
  | ((with_reducible apply dCall_makeA (m2));(case hC=>exact hC2);(case hc=>exact cvl);(case' hn=>refine sgo ?_))
  | ((with_reducible apply DC_call);(focus exact rfl);(focus exact rfl);(focus exact rfl);intro N hN;refine sgo ?_)
  | ((with_reducible first|refine T_seq_region Γ_ok (fun K hK=>?_)|refine T_last_region Γ_ok (fun K hK=>?_)|refine T_seq_draw (id := 9) Γ_ok drawsAny [(0,[],[]),(2,[],[]),(1,[0],[2]),(3,[0,1,2],[]),(4,[0,1,2,3],[]),(5,[0,1,2,3,4],[])] (by kernel_rfl) (fun K hK=>?_)|refine T_last_draw (id := 9) Γ_ok drawsAny [(0,[],[]),(2,[],[]),(1,[0],[2]),(3,[0,1,2],[]),(4,[0,1,2,3],[]),(5,[0,1,2,3,4],[])] (by kernel_rfl) (fun K hK=>?_)|refine TO_callN rfl (fun N hN=>?_)|refine DCT_fork Γ_ok (fun K2 hK2=>?_)|refine DCT_last Γ_ok ?_|refine DC_ev Γ_ok ?_|refine TO_ev Γ_ok ?_|refine retQ_r ?_|refine retQ_n ?_);refine sgo ?_)
  | (with_reducible refine hK2 _ ?_ ?_ <;> clear hK2 K2)
  | with_reducible first|refine gC_false ?_|refine gC_true ?_|refine dCall_true ?_
  | (with_reducible refine hN _ _ ?_; clear hN N)
  | (with_reducible refine hN _ _ (dInl rfl) ?_; clear hN N)
  | ((with_reducible refine hN _ _ (.inr ?_) ?_);(focus (refine sgo ?_;try exact True.intro));all_goals (try clear hN N))
  | with_reducible first|refine T_seq ?_|refine T_block ?_|refine T_ret ?_|refine T_exit ?_|refine T_skip ?_|refine T_label ?_
  | with_reducible first|refine thenQ_n ?_|refine thenQ_e ?_|refine thenQ_r ?_|refine blockQ_n ?_|refine blockQ_e ?_|refine blockQ_r ?_
  | with_reducible refine blockQ_o (by decide) ?_
  | ((with_reducible refine T_cond _ rfl (fun hb=>?_) (fun hb=>?_)) <;> first|(cases hb;done)|replace hb:=sgh hb|skip)
  | (with_reducible refine And.intro aG ?_)
  | assumption | omega | exact True.intro)
  exact hQ _ 8 9 (by omega) rfl rfl
theorem fraction_mk (p : P6) (h : Bd6 1152 p) : Makes Tryz.prog 74 [p6A p] (.tup [.own 0 0 (lmN (num p)) none,.own 1 0 (lmN (den p)) none]) [natO (lmN (num p)) (num p),natO (lmN (den p)) (den p)] := by
 refine Makes.gen [] (by simp [VF, VFL]) (fun a ha => by
  simp only [List.mem_cons, List.not_mem_nil, or_false] at ha
  rcases ha with rfl | rfl <;> exact fun q r => lmE_pl _ q r) (fraction_raw p h _ fun σ' k1 k2 hk h1 h2 => ?_)
 have l1 : k1 < σ'.length := (List.getElem?_eq_some_iff.1 (nthO_eq h1 rfl)).1
 have l2 : k2 < σ'.length := (List.getElem?_eq_some_iff.1 (nthO_eq h2 rfl)).1
 refine ⟨[k1,k2],by simp [hk],by simp [l1,l2],WkV.tup (WkVL.cons (WkV.own rfl (by simp)) (WkVL.cons (WkV.own rfl (by simp)) WkVL.nil)),?_⟩
 rw [List.map_nil, List.append_nil]
 refine ⟨?_, fun _ => by rw [h1]; rfl, ?_, fun _ => by rw [h2]; rfl, trivial⟩
 ·rw [h1]; exact WkO.arr fun i j _ _ => WkV.free (lmE_free _ _ _)
 ·rw [h2]; exact WkO.arr fun i j _ _ => WkV.free (lmE_free _ _ _)
end Go.Proofs.YtonmienclploaaaGreatDoor.Q
