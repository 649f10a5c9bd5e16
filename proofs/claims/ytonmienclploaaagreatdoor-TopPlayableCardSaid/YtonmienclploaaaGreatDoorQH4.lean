/-
 brass.Find.
-/
import Derived.Test.YtonmienclploaaaGreatDoorQGo
import Derived.Test.YtonmienclploaaaGreatDoorQX1
import Derived.Test.YtonmienclploaaaGreatDoorQA5
set_option linter.unusedSimpArgs false
set_option linter.unusedVariables false
namespace Go.Proofs.YtonmienclploaaaGreatDoor
open Go.Ab
def bw0 : Bw := ⟨0, 0⟩
def gB (l : List Bw) (i : Nat) : Bw := l.getD i bw0
def bwE (l : List Bw) (i j : Nat) : AV := nth (bwL (gB l i)) j
@[go_sem] theorem bwE_0 (l : List Bw) (i : Nat) : bwE l i 0 = .imm (.int .i64 (gB l i).h) := rfl
@[go_sem] theorem bwE_1 (l : List Bw) (i : Nat) : bwE l i 1 = .imm (.int .i64 (gB l i).v) := rfl
@[simp] theorem bwE_pl (l : List Bw) (i j : Nat) : Pl (bwE l i j) := by rcases j with _ | _ | j <;> trivial
@[simp] theorem bwE_free (l : List Bw) (i j : Nat) : Free (bwE l i j) := Pl.free _ (bwE_pl l i j)
@[go_sem, reducible] def bws (l : List Bw) : AV := .view l.length 2 (bwE l)
@[go_sem, reducible] def bwO (l : List Bw) : AObj := .arr 69 2 l.length (bwE l)
theorem bw_snoc (l : List Bw) (x : Bw) {i j : Nat} (h : i < l.length + 1) (hj : j < 2) : catE l.length (bwE l) (fun i j => nth (bwL x) (i * 2 + j)) i j = bwE (l ++ [x]) i j := by
 unfold catE bwE gB
 split
 ·rename_i h1; simp [List.getElem?_append_left h1]
 ·obtain rfl : i = l.length := by omega
  simp
def okBw (h : Hn) (v : P6) (b : Bw) : Bool := decide ((nearI (ofR v).1 (sndB h b) h.tol).2 = 0) && decide ((nearI (ofR v).1 (sndB h b) h.tol).1 = 1)
def bwS (h : Hn) (v : P6) (n : Nat) : Nat → List Bw
 | 0 => []
 | s + 1 => bwS h v n s ++ (if okBw h v ⟨(n : Int) + 1, s⟩ = true then [⟨(n : Int) + 1, s⟩] else [])
def bwH (h : Hn) (v : P6) : Nat → List Bw
 | 0 => []
 | n + 1 => bwH h v n ++ bwS h v n (2 ^ h.vl.length)
theorem bwS_len (h : Hn) (v : P6) (n : Nat) : ∀ s, (bwS h v n s).length ≤ s
 | 0 => Nat.le_refl _
 | s + 1 => by
  have := bwS_len h v n s
  unfold bwS; rw [List.length_append]; split <;> simp <;> omega
theorem pow_le16 {n : Nat} (h : n ≤ 4) : 1 ≤ 2 ^ n ∧ 2 ^ n ≤ 16 := by
 match n, h with
 | 0, _ | 1, _ | 2, _ | 3, _ | 4, _ => decide
theorem bwH_len (h : Hn) (v : P6) (hl : h.vl.length ≤ 4) : ∀ n, (bwH h v n).length ≤ 16 * n
 | 0 => by simp [bwH]
 | n + 1 => by
  have := bwH_len h v hl n
  have := bwS_len h v n (2 ^ h.vl.length)
  have := (pow_le16 hl).2
  unfold bwH; rw [List.length_append]; omega
theorem VlOk_of {h : Hn} (hh : hnB h = true) : VlOk h := by
 intro k hk
 unfold hnB at hh
 simp only [Bool.and_eq_true, decide_eq_true_eq] at hh
 have q := fstF_spec (f := vlBad h.vl) (d := h.vl.length) (i := 0)
 have := q.2.2.1 k (by omega) (by omega)
 unfold vlBad at this
 simp only [Bool.not_eq_false', Bool.and_eq_true, decide_eq_true_eq] at this
 have h2 := this.1
 by_cases hp : pOk (gV h.vl k) = true
 ·exact hp
 ·exfalso
  have e : (cmR (gV h.vl k) zP).2 ≠ 0 := by
   unfold cmR Q.cmpR
   rw [if_neg]
   ·simp
   ·intro hq
    apply hp
    have h9 := hq.1
    unfold Q.Bd6 tQ at h9
    rw [pOk_iff]
    exact h9
  exact e h2
set_option maxRecDepth 100000 in
set_option maxHeartbeats 8000000 in
theorem bfind_raw (h : Hn) (v : P6) (hh : hnB h = true) (hv : vOk v = true) : TC Tryz.prog 182 [hnA h,p6A v] [] (fun u σ' =>
  (u = .tup [.imm (.slice none 0 0), .imm (.int .i64 0)] ∧ (bwH h v h.most.toNat).length = 0) ∨
  ∃ k E',u = .tup [.own k 0 (bwH h v h.most.toNat).length none,.imm (.int .i64 0)] ∧ nthO σ' k = .arr 69 2 (bwH h v h.most.toNat).length E' ∧ ∀ i j,i < (bwH h v h.most.toNat).length → j < 2 → E' i j = bwE (bwH h v h.most.toNat) i j) := by
 have hs := hnS_iff.1 (hnB_s hh)
 have hvl := VlOk_of hh
 have hp := pow_le16 hs.2.1
 have hsh : IntKind.i64.wrap (1 * 2 ^ min h.vl.length 64) = ((2 ^ h.vl.length : Nat) : Int) := by
  rw [Nat.min_eq_left (by omega), Int.one_mul, show (2 : Int) ^ h.vl.length = ((2 ^ h.vl.length : Nat) : Int) by simp]
  exact wrapI (by omega) (by omega)
 have c0 := of_tc v
 have c1 := bvalid_tc h (by omega)
 rw [hh] at c1
 have ho : (ofR v).2 = 0 := by unfold ofR; rw [if_pos hv]
 rw [ho] at c0
 (refine TC_of_TM Γ_ok Tryz.func182 rfl (by kernel_rfl) ?_;simp only [Tryz.ntmps182,Tryz.results182,List.length_cons,List.length_nil,Nat.reduceSub,Nat.reduceAdd,List.replicate,List.cons_append,List.nil_append])
 repeat' (first
  | (with_reducible refine hK _ ?_; clear hK K)
  | ((with_reducible first|refine retQM_r ?_|refine retQM_n ?_);try refine sgo ?_)
  | ((with_reducible refine callGoal_inline Γ_ok Tryz.func48 rfl (by kernel_rfl) (by exact hC2) ?_);simp only [Tryz.ntmps48,Tryz.results48,List.length_cons,List.length_nil,Nat.reduceSub,Nat.reduceAdd,List.replicate,List.cons_append,List.nil_append])
  | ((refine T_rangeFunc (fnI := Tryz.f73) (.inl rfl) rfl trivial Tryz.func73 rfl (by kernel_rfl) rfl (fun l r tc lo hi ds hL=>?_));simp only [Tryz.ntmps73,List.length_cons,List.length_nil,Nat.reduceSub,Nat.reduceAdd,List.replicate,List.cons_append,List.nil_append];try refine sgo ?_)
  | ((with_reducible first|apply callGoal_lookA (c0)|apply dCall_lookA (c0)|apply callGoal_lookA (c1)|apply dCall_lookA (c1));(case hC=>exact hC2);(case hc=>exact cvl))
  | ((with_reducible first|apply gC_lookA (fun hg=>(c0))|apply dCall_lookGA (fun hg=>(c0))|apply gC_lookA (fun hg=>(c1))|apply dCall_lookGA (fun hg=>(c1)));(case hC=>exact hC1);(case hc=>(intro hg;exact cvl)))
  | ((with_reducible apply DC_call);(focus exact rfl);(focus exact rfl);(focus exact rfl);intro N hN;refine sgo ?_)
  | ((with_reducible first|refine T_seq_region Γ_ok (fun K hK=>?_)|refine T_last_region Γ_ok (fun K hK=>?_)|refine T_seq_draw (id := 7) Γ_ok drawsAny [(0,[],[]),(1,[],[]),(2,[],[]),(4,[],[]),(5,[4],[]),(3,[1,2],[0,4,5]),(6,[0,1,2,3,4,5],[]),(7,[0,1,2,3,4,5,6],[]),(8,[0,1,2,3,4,5,6,7],[]),(9,[0,1,2,3,4,5,6,7],[]),(10,[0,1,2,3,4,5,6,7,8],[]),(11,[0,1,2,3,4,5,6,7,8,9,10],[])] (by kernel_rfl) (fun K hK=>?_)|refine T_last_draw (id := 7) Γ_ok drawsAny [(0,[],[]),(1,[],[]),(2,[],[]),(4,[],[]),(5,[4],[]),(3,[1,2],[0,4,5]),(6,[0,1,2,3,4,5],[]),(7,[0,1,2,3,4,5,6],[]),(8,[0,1,2,3,4,5,6,7],[]),(9,[0,1,2,3,4,5,6,7],[]),(10,[0,1,2,3,4,5,6,7,8],[]),(11,[0,1,2,3,4,5,6,7,8,9,10],[])] (by kernel_rfl) (fun K hK=>?_)|refine TO_callN rfl (fun N hN=>?_)|refine DCT_fork Γ_ok (fun K2 hK2=>?_)|refine DCT_last Γ_ok ?_|refine DC_ev Γ_ok ?_|refine TO_ev Γ_ok ?_|refine retQ_r ?_|refine retQ_n ?_);refine sgo ?_)
  | (with_reducible refine hK2 _ ?_ ?_ <;> clear hK2 K2)
  | with_reducible first|refine gC_false ?_|refine gC_true ?_|refine dCall_true ?_
  | (with_reducible refine hN _ _ ?_; clear hN N)
  | (with_reducible refine hN _ _ (dInl rfl) ?_; clear hN N)
  | ((with_reducible refine hN _ _ (.inr ?_) ?_);(focus (refine sgo ?_;try exact True.intro));all_goals (try clear hN N))
  | with_reducible first|refine T_seq ?_|refine T_block ?_|refine T_ret ?_|refine T_exit ?_|refine T_skip ?_|refine T_label ?_
  | with_reducible first|refine thenQ_n ?_|refine thenQ_e ?_|refine thenQ_r ?_|refine blockQ_n ?_|refine blockQ_e ?_|refine blockQ_r ?_
  | with_reducible refine blockQ_o (by decide) ?_
  | ((with_reducible refine T_cond _ rfl (fun hb=>?_) (fun hb=>?_)) <;> first|(cases hb;done)|replace hb:=sgh hb|skip)
  | (with_reducible refine And.intro aG ?_)
  | assumption | omega | exact True.intro)
 refine T_loopW (fun m st=>∃ n : Nat,n ≤ h.most.toNat ∧ m + n = h.most.toNat ∧ st = ⟨[.fn (.yield l) [] [],.optr 4 0 0] ++ List.replicate 4 .top ++ [.imm (.int .i64 h.most),.imm (.int .i64 n)] ++ List.replicate 18 .top,
   [.box 54 (hnL h),.box 34 (p6L v),.box 23 (p6L (ofR v).1),.box 268 [.own 7 0 (bwH h v n).length none],.box 54 (hnL h),
    .ghost ([.top,.top,.optr 0 0 0,.optr 1 0 0,.imm (.slice none 0 0),.imm (.int .i64 0),.optr 2 0 0,.top,.optr 3 0 0] ++ List.replicate 39 .top) tc.toList lo hi ds,.raw l (.loop (r.at .ready none)),bwO (bwH h v n)]⟩)
  h.most.toNat ⟨_, Wk.trans (Wk.push 69 2 (bwE [])) ?_, 0, by omega, rfl, rfl⟩ ?_
 ·((try refine sgl ?_);exact wkI [0,1,2,3,4,5,6,7])
 rintro m st ⟨n, g0, g1, rfl⟩
 have hbl := bwH_len h v hs.2.1 n
 by_cases hn : n < h.most.toNat
 ·refine sgo ?_
  (have sx1 := hsh;have sx2:=sx0;((obtain ⟨sx3,sx4,sx5,sx6,sx7,sx8,sx9⟩:=sx0_7;refine goR9 _ _ _ _ _ _ _ _ ?_ ?_ ?_ ?_ ?_ ?_ ?_ ?_)<;>(repeat intro hb)<;>first|exact True.intro|refine Lf.mk ?_))
  refine T_loopW (fun m2 st=>∃ (s : Nat) (M : List Bw),s ≤ 2 ^ h.vl.length ∧ m2 + s = 2 ^ h.vl.length ∧ M = bwH h v n ++ bwS h v n s ∧ st = ⟨[.fn (.yield l) [] [],.optr 4 0 0,.top,.imm (.int .i64 n),.top,.top,.imm (.int .i64 h.most),.imm (.int .i64 n)] ++ List.replicate 5 .top ++ [.imm (.int .i64 ((2 ^ h.vl.length : Nat) : Int)),.imm (.int .i64 s)] ++ List.replicate 11 .top,
   [.box 54 (hnL h), .box 34 (p6L v), .box 23 (p6L (ofR v).1), .box 268 [.own 7 0 M.length none], .box 54 (hnL h),
    .ghost ([.top,.top,.optr 0 0 0,.optr 1 0 0,.imm (.slice none 0 0),.imm (.int .i64 0),.optr 2 0 0,.top,.optr 3 0 0] ++ List.replicate 39 .top) tc.toList lo hi ds,.raw l (.loop (r.at .ready none)),bwO M]⟩)
   (2 ^ h.vl.length) ⟨_, ?_, 0, bwH h v n, by omega, rfl, by simp [bwS], rfl⟩ ?_
  ·((try refine sgl ?_);exact wkI [0,1,2,3,4,5,6,7])
  rintro m2 st ⟨s, M, f0, f1, hM, rfl⟩
  have hlM : M.length ≤ 300 := by
   have := bwS_len h v n s
   rw [hM, List.length_append]
   omega
  by_cases hs2 : s < 2 ^ h.vl.length
  ·have c2 := bsound_tc h ⟨(n : Int) + 1,s⟩ (hnB_s hh) hvl (by simp only [];omega) (by simp only [];omega) (by simp only [];omega)
   have c3 := near_tc (ofR v).1 (sndB h ⟨(n : Int) + 1, s⟩) h.tol
   have hok : okBw h v ⟨(n : Int) + 1,s⟩ = (decide ((nearI (ofR v).1 (sndB h ⟨(n : Int) + 1,s⟩) h.tol).2 = 0) && decide ((nearI (ofR v).1 (sndB h ⟨(n : Int) + 1,s⟩) h.tol).1 = 1)) := rfl
   have hM2 : bwH h v n ++ bwS h v n (s + 1) = M ++ (if okBw h v ⟨(n : Int) + 1,s⟩ = true then [⟨(n : Int) + 1,s⟩] else []) := by rw [bwS,← List.append_assoc,← hM]
   have hsn := fun p q => bw_snoc M ⟨(n : Int) + 1, s⟩ (i := p) (j := q)
   generalize sndB h ⟨(n : Int) + 1, s⟩ = x at c2 c3 hok
   generalize (nearI (ofR v).1 x h.tol).1 = a at c3 hok
   generalize (nearI (ofR v).1 x h.tol).2 = e at c3 hok
   refine sgo ?_
   repeat' (first
  | (with_reducible refine hK _ ?_; clear hK K)
  | ((refine TO_yield hL 6 5 rfl rfl rfl (by first|exact Or.inl rfl|exact Or.inr rfl) rfl rfl rfl (by simp only [go_sem,and_self]) (fun ti lo' hi' ds'=>?_));try refine sgo ?_)
  | ((with_reducible refine assignQ_mk 6 (by with_unfolding_all rfl) ?_);try refine sgo ?_)
  | ((with_reducible first|refine roundQ_n 6 8 (by with_unfolding_all rfl) (by with_unfolding_all rfl) ?_|refine roundQ_r 6 8 (by with_unfolding_all rfl) (by with_unfolding_all rfl) ?_|refine roundQ_e 6 8 (by with_unfolding_all rfl) (by with_unfolding_all rfl) ?_);try refine sgo ?_)
  | ((with_reducible first|apply callGoal_lookA (c2)|apply dCall_lookA (c2)|apply callGoal_lookA (c3)|apply dCall_lookA (c3));(case hC=>exact hC2);(case hc=>exact cvl))
  | ((with_reducible first|apply gC_lookA (fun hg=>(c2))|apply dCall_lookGA (fun hg=>(c2))|apply gC_lookA (fun hg=>(c3))|apply dCall_lookGA (fun hg=>(c3)));(case hC=>exact hC1);(case hc=>(intro hg;exact cvl)))
  | ((with_reducible apply DC_call);(focus exact rfl);(focus exact rfl);(focus exact rfl);intro N hN;refine sgo ?_)
  | ((with_reducible first|refine T_seq_region Γ_ok (fun K hK=>?_)|refine T_last_region Γ_ok (fun K hK=>?_)|refine T_seq_draw (id := 7) Γ_ok drawsAny [(0,[],[]),(1,[],[]),(2,[],[]),(4,[],[]),(5,[4],[]),(3,[1,2],[0,4,5]),(6,[0,1,2,3,4,5],[]),(7,[0,1,2,3,4,5,6],[]),(8,[0,1,2,3,4,5,6,7],[]),(9,[0,1,2,3,4,5,6,7],[]),(10,[0,1,2,3,4,5,6,7,8],[]),(11,[0,1,2,3,4,5,6,7,8,9,10],[])] (by kernel_rfl) (fun K hK=>?_)|refine T_last_draw (id := 7) Γ_ok drawsAny [(0,[],[]),(1,[],[]),(2,[],[]),(4,[],[]),(5,[4],[]),(3,[1,2],[0,4,5]),(6,[0,1,2,3,4,5],[]),(7,[0,1,2,3,4,5,6],[]),(8,[0,1,2,3,4,5,6,7],[]),(9,[0,1,2,3,4,5,6,7],[]),(10,[0,1,2,3,4,5,6,7,8],[]),(11,[0,1,2,3,4,5,6,7,8,9,10],[])] (by kernel_rfl) (fun K hK=>?_)|refine TO_callN rfl (fun N hN=>?_)|refine DCT_fork Γ_ok (fun K2 hK2=>?_)|refine DCT_last Γ_ok ?_|refine DC_ev Γ_ok ?_|refine TO_ev Γ_ok ?_|refine retQ_r ?_|refine retQ_n ?_);refine sgo ?_)
  | (with_reducible refine hK2 _ ?_ ?_ <;> clear hK2 K2)
  | with_reducible first|refine gC_false ?_|refine gC_true ?_|refine dCall_true ?_
  | (with_reducible refine hN _ _ ?_; clear hN N)
  | (with_reducible refine hN _ _ (dInl rfl) ?_; clear hN N)
  | ((with_reducible refine hN _ _ (.inr ?_) ?_);(focus (refine sgo ?_;try exact True.intro));all_goals (try clear hN N))
  | with_reducible first|refine T_seq ?_|refine T_block ?_|refine T_ret ?_|refine T_exit ?_|refine T_skip ?_|refine T_label ?_
  | with_reducible first|refine thenQ_n ?_|refine thenQ_e ?_|refine thenQ_r ?_|refine blockQ_n ?_|refine blockQ_e ?_|refine blockQ_r ?_
  | with_reducible refine blockQ_o (by decide) ?_
  | ((with_reducible refine T_cond _ rfl (fun hb=>?_) (fun hb=>?_)) <;> first|(cases hb;done)|replace hb:=sgh hb|skip)
  | (with_reducible refine And.intro aG ?_)
  | assumption | omega | exact True.intro)
   ·have hq : e = 0 ∧ a = 1 := by assumption
    refine ⟨2 ^ h.vl.length - (s + 1),by omega,_,?_,s + 1,M ++ [⟨(n : Int) + 1,s⟩],by omega,by omega,by rw [hM2,hok,if_pos (by simp [hq])],rfl⟩
    simp only [bwO, List.length_append, List.length_cons, List.length_nil, Nat.zero_add]
    ((try refine sgl ?_);refine Wk.intro [0,1,2,3,4,5,6,11] (by decide) (by decide) wkH ?_ ?_ <;> repeat' (first|(exact WkV.eqF (hsn _ _ (by simpa using hi) hj) (by simp))|refine WkVL.cons ?_ ?_|exact wkT|refine WkV.agg ?_|refine WkV.tup ?_|refine WkV.fn ?_ ?_|exact WkO.dead|exact WkO.raw|refine WkO.ghost ?_|exact WkO.mpE rfl trivial|refine WkO.box ?_ rfl|refine WkO.arr ?_|refine And.intro ?_ (And.intro aF ?_)|exact trivial|(intro i j hi hj)))
   ·have hq : e = 0 → ¬ a = 1 := by assumption
    refine ⟨2 ^ h.vl.length - (s + 1),by omega,_,?_,s + 1,M,by omega,by omega,by rw [hM2,hok,if_neg (by simpa using hq),List.append_nil],rfl⟩
    ((try refine sgl ?_);exact wkI [0,1,2,3,4,5,6,7])
  ·obtain rfl : s = 2 ^ h.vl.length := by omega
   have hM3 : M = bwH h v (n + 1) := hM
   refine sgo ?_
   (((refine goR0 _ _ _ _ _ _ _ _ ?_ ?_ ?_ ?_ ?_ ?_ ?_ ?_)<;>(repeat intro hb)<;>first|exact True.intro|refine Lf.mk ?_))
   refine ⟨h.most.toNat - (n + 1), by omega, _, ?_, n + 1, by omega, by omega, rfl⟩
   rw [← hM3]
   ((try refine sgl ?_);exact wkI [0,1,2,3,4,5,6,7])
 ·obtain rfl : n = h.most.toNat := by omega
  refine sgo ?_
  repeat' (first
  | (with_reducible refine hK _ ?_; clear hK K)
  | ((with_reducible first|refine iterQ_r 6 5 (by with_unfolding_all rfl) (by with_unfolding_all rfl) ?_|refine iterQ_n 6 5 (by with_unfolding_all rfl) (by with_unfolding_all rfl) ?_|refine iterQ_rr 6 5 (by with_unfolding_all rfl) (by with_unfolding_all rfl) ?_|refine iterQ_nr 6 5 (by with_unfolding_all rfl) (by with_unfolding_all rfl) ?_|refine iterQ_re 6 5 (by with_unfolding_all rfl) (by with_unfolding_all rfl) ?_|refine iterQ_ne 6 5 (by with_unfolding_all rfl) (by with_unfolding_all rfl) ?_);try refine sgo ?_)
  | ((with_reducible first|refine retQM_r ?_|refine retQM_n ?_);try refine sgo ?_)
  | ((with_reducible apply DC_call);(focus exact rfl);(focus exact rfl);(focus exact rfl);intro N hN;refine sgo ?_)
  | ((with_reducible first|refine T_seq_region Γ_ok (fun K hK=>?_)|refine T_last_region Γ_ok (fun K hK=>?_)|refine T_seq_draw (id := 7) Γ_ok drawsAny [(0,[],[]),(1,[],[]),(2,[],[]),(4,[],[]),(5,[4],[]),(3,[1,2],[0,4,5]),(6,[0,1,2,3,4,5],[]),(7,[0,1,2,3,4,5,6],[]),(8,[0,1,2,3,4,5,6,7],[]),(9,[0,1,2,3,4,5,6,7],[]),(10,[0,1,2,3,4,5,6,7,8],[]),(11,[0,1,2,3,4,5,6,7,8,9,10],[])] (by kernel_rfl) (fun K hK=>?_)|refine T_last_draw (id := 7) Γ_ok drawsAny [(0,[],[]),(1,[],[]),(2,[],[]),(4,[],[]),(5,[4],[]),(3,[1,2],[0,4,5]),(6,[0,1,2,3,4,5],[]),(7,[0,1,2,3,4,5,6],[]),(8,[0,1,2,3,4,5,6,7],[]),(9,[0,1,2,3,4,5,6,7],[]),(10,[0,1,2,3,4,5,6,7,8],[]),(11,[0,1,2,3,4,5,6,7,8,9,10],[])] (by kernel_rfl) (fun K hK=>?_)|refine TO_callN rfl (fun N hN=>?_)|refine DCT_fork Γ_ok (fun K2 hK2=>?_)|refine DCT_last Γ_ok ?_|refine DC_ev Γ_ok ?_|refine TO_ev Γ_ok ?_|refine retQ_r ?_|refine retQ_n ?_);refine sgo ?_)
  | (with_reducible refine hK2 _ ?_ ?_ <;> clear hK2 K2)
  | with_reducible first|refine gC_false ?_|refine gC_true ?_|refine dCall_true ?_
  | (with_reducible refine hN _ _ ?_; clear hN N)
  | (with_reducible refine hN _ _ (dInl rfl) ?_; clear hN N)
  | ((with_reducible refine hN _ _ (.inr ?_) ?_);(focus (refine sgo ?_;try exact True.intro));all_goals (try clear hN N))
  | with_reducible first|refine T_seq ?_|refine T_block ?_|refine T_ret ?_|refine T_exit ?_|refine T_skip ?_|refine T_label ?_
  | with_reducible first|refine thenQ_n ?_|refine thenQ_e ?_|refine thenQ_r ?_|refine blockQ_n ?_|refine blockQ_e ?_|refine blockQ_r ?_
  | with_reducible refine blockQ_o (by decide) ?_
  | ((with_reducible refine T_cond _ rfl (fun hb=>?_) (fun hb=>?_)) <;> first|(cases hb;done)|replace hb:=sgh hb|skip)
  | (with_reducible refine And.intro aG ?_)
  | assumption | omega | exact True.intro)
  exact .inr ⟨7, _, rfl, rfl, fun _ _ _ _ => rfl⟩
theorem bfind_tc (h : Hn) (v : P6) (hh : hnB h = true) (hv : vOk v = true) : Makes Tryz.prog 182 [hnA h,p6A v] (.tup [.own 0 0 (bwH h v h.most.toNat).length none,.imm (.int .i64 0)]) [bwO (bwH h v h.most.toNat)] :=
 Makes.lstJ (bwE_pl _) trivial (bfind_raw h v hh hv)
end Go.Proofs.YtonmienclploaaaGreatDoor
