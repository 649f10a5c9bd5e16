/-
  Parts joined: T12 T13.
-/
import Derived.Test.YtngfnogoicfmaaaGreatDoorQV4
import Derived.Test.YtngfnogoicfmaaaGreatDoorQGo
set_option linter.unusedSimpArgs false
set_option linter.unusedVariables false
namespace Go.Proofs.YtngfnogoicfmaaaGreatDoor
open Go.Ab
theorem Cv.top {σ : List AObj} {v : AV} : Cv σ v .top := fun _ _ _ _ _ => trivial
def dtO (l : List P6) : List AObj := [.box 25 [rowsV l], .box 102 [.fn (.func 50) [] [.optr 0 0 0, .optr 1 0 0]]]
theorem dt_0 (l : List P6) : Cv (dtO l) (.optr 0 0 0) (dRw l) := Cv.ptr (ety := 25) (cells := [rowsV l]) rfl rfl (CvL.cons (Cv.free (by simp [Free])) CvL.nil)
theorem dt_1 (l : List P6) : ∀ r, Cv (dtO l) (.optr 1 0 0) (dEp l r)
  | 0 => Cv.ptr (ety := 102) (cells := [.fn (.func 50) [] [.optr 0 0 0, .optr 1 0 0]]) rfl rfl (CvL.cons Cv.top CvL.nil)
  | r + 1 => Cv.ptr (ety := 102) (cells := [.fn (.func 50) [] [.optr 0 0 0,.optr 1 0 0]]) rfl rfl (CvL.cons (Cv.fn CvL.nil (CvL.cons (dt_0 l) (CvL.cons (dt_1 l r) CvL.nil))) CvL.nil)
theorem dt_args (l : List P6) (m r : Nat) : CvL (dtO l) [.imm (.int .i64 0),.imm (.int .i64 (m : Int)),.optr 0 0 0,.optr 1 0 0] [.imm (.int .i64 ((0 : Nat) : Int)),.imm (.int .i64 (m : Int)),dRw l,dEp l r] :=
  CvL.cons (Cv.imm rfl) (CvL.cons (Cv.imm rfl) (CvL.cons (dt_0 l) (CvL.cons (dt_1 l r) CvL.nil)))
set_option maxRecDepth 100000 in
set_option maxHeartbeats 4000000 in
theorem det_tc (l : List P6) (hbd : ∀ p ∈ l,Bd6 48 p) (h6 : l.length ≤ 6) (m : Nat) (hm : m < 64) : Look Tryz.prog 31 [rowsV l,.imm (.int .i64 (m : Int))] (.imm (.int .i64 (det (rowsR l) (colM m)))) := by
  have h := dexp_tc l hbd h6 l.length 0 (by omega) m hm
  rw [List.drop_zero] at h
  refine Look.mk trivial ?_
  (refine TC_of_T Γ_ok Tryz.func31 rfl (by kernel_rfl) ?_;simp only [Tryz.ntmps31,Tryz.results31,List.length_cons,List.length_nil,Nat.reduceSub,Nat.reduceAdd,List.replicate,List.cons_append,List.nil_append])
  repeat' (first
    | (with_reducible refine hK _ ?_; clear hK K)
    | (refine callGoal_lookA h trivial (dt_args l m l.length) ?_)
    | ((with_reducible apply DC_call);(focus exact rfl);(focus exact rfl);(focus exact rfl);intro N hN;(simp only [go_sem,↓reduceIte,Nat.reduceAdd,Nat.reduceSub,Nat.reduceMul,Nat.reduceLT,Nat.reduceLeDiff,Nat.reduceEqDiff,Nat.reduceGT,Int.reduceToNat,Int.reduceBEq,Int.reduceBNe];try simp (disch := omega) only [wrapI,wrapU,half_sum,toNat_sub1,toNat_add1,Int.toNat_natCast]))
    | ((with_reducible first|refine T_seq_region Γ_ok (fun K hK=>?_)|refine T_last_region Γ_ok (fun K hK=>?_)|refine TO_callN rfl (fun N hN=>?_)|refine DCT_fork Γ_ok (fun K2 hK2=>?_)|refine DCT_last Γ_ok ?_|refine DC_ev Γ_ok ?_|refine TO_ev Γ_ok ?_|refine retQ_r ?_|refine retQ_n ?_);(simp only [go_sem,↓reduceIte,Nat.reduceAdd,Nat.reduceSub,Nat.reduceMul,Nat.reduceLT,Nat.reduceLeDiff,Nat.reduceEqDiff,Nat.reduceGT,Int.reduceToNat,Int.reduceBEq,Int.reduceBNe];try simp (disch := omega) only [wrapI,wrapU,half_sum,toNat_sub1,toNat_add1,Int.toNat_natCast]))
    | (with_reducible refine hK2 _ ?_ ?_ <;> clear hK2 K2)
    | with_reducible refine gC_false ?_ | with_reducible refine gC_true ?_ | with_reducible refine dCall_true ?_
    | (with_reducible refine hN _ _ ?_; clear hN N)
    | (with_reducible refine hN _ _ (dInl rfl) ?_; clear hN N)
    | ((with_reducible refine hN _ _ (.inr ?_) ?_);(focus (simp only [go_sem,↓reduceIte,Nat.reduceAdd,Nat.reduceSub,Nat.reduceMul,Nat.reduceLT,Nat.reduceLeDiff,Nat.reduceEqDiff,Nat.reduceGT,Int.reduceToNat,Int.reduceBEq,Int.reduceBNe];try simp (disch := omega) only [wrapI,wrapU,half_sum,toNat_sub1,toNat_add1,Int.toNat_natCast]));all_goals (try clear hN N))
    | with_reducible refine T_seq ?_|with_reducible refine T_block ?_|with_reducible refine T_ret ?_|with_reducible refine T_exit ?_|with_reducible refine T_skip ?_|with_reducible refine T_label ?_
    | with_reducible refine thenQ_n ?_|with_reducible refine thenQ_e ?_|with_reducible refine thenQ_r ?_|with_reducible refine blockQ_n ?_|with_reducible refine blockQ_e ?_|with_reducible refine blockQ_r ?_
    | with_reducible refine blockQ_o (by decide) ?_
    | ((with_reducible refine T_cond _ rfl (fun hb=>?_) (fun hb=>?_)) <;> first|(cases hb;done)|(simp only [decide_eq_true_eq,decide_eq_false_iff_not,Bool.and_eq_true,Bool.or_eq_true,Bool.and_eq_false_imp,Bool.or_eq_false_iff,Bool.not_eq_true',Bool.not_eq_false',beq_iff_eq,bne_iff_ne,ne_eq,beq_eq_false_iff_ne,bne_eq_false_iff_eq,Int.not_lt,Int.not_le,ge_iff_le,gt_iff_lt] at hb)|skip)
    | (with_reducible refine And.intro (by first | exact trivial | omega | (intro hg;simp at hg ⊢ <;> omega) | (simp <;> omega)) ?_)
    | assumption | omega)
end Go.Proofs.YtngfnogoicfmaaaGreatDoor
namespace Go.Proofs.YtngfnogoicfmaaaGreatDoor
open Go.Ab
theorem p6_upd {l : List P6} {k : Nat} (hk : k < l.length) (x : P6) (i j : Nat) (hj : j < 6) : updE (p6E l) k 0 (p6L x) i j = p6E (l.set k x) i j := by
  unfold updE p6E gP
  by_cases h : i = k
  · subst h
    rw [if_pos ⟨rfl, by omega, by simp; omega⟩]
    simp [hk]
  · rw [if_neg (fun hh => h hh.1)]
    simp [List.getElem?_set, Ne.symm h]
theorem gP_vs (l : List Nm) (i : Nat) : gP (vsN l) i = (gN l i).v := by
  unfold gP vsN gN
  rw [List.getD_eq_getElem?_getD, List.getD_eq_getElem?_getD, List.getElem?_map]
  cases l[i]? <;> rfl
theorem set_same {l : List P6} {k : Nat} (hk : k < l.length) (x : P6) : (l.set k x).set k (gP l k) = l := by
  rw [List.set_set]
  refine List.ext_getElem (by simp) fun i h1 h2 => ?_
  rw [List.getElem_set]
  split
  · rename_i e; subst e; simp [gP, hk]
  · rfl
theorem rowsR_set (l : List P6) (k : Nat) (x : P6) : rowsR (l.set k x) = (rowsR l).set k (rwP x) := by unfold rowsR;rw [List.map_set]
def fiE (l : List P6) (k : Nat) (i j : Nat) : AV := if i < k then p6E l i j else nth (p6L z6) j
theorem fiE_free (l : List P6) (k i j : Nat) : Free (fiE l k i j) := by
  unfold fiE; split
  · simp
  · exact FreeL_nth (by simp [FreeL, Free]) _
theorem fiE_upd (l : List P6) (k i j : Nat) (hj : j < 6) : updE (fiE l k) k 0 (p6L (gP l k)) i j = fiE l (k + 1) i j := by
  unfold updE fiE
  by_cases h : i = k
  · subst h
    rw [if_pos ⟨rfl, by omega, by simp; omega⟩, if_pos (by omega)]
    rfl
  · rw [if_neg (fun hh => h hh.1)]
    by_cases h2 : i < k
    · rw [if_pos h2, if_pos (by omega)]
    · rw [if_neg h2, if_neg (by omega)]
def rsK (l : List Nm) (v : P6) (ks : List Int) : Nat → P6
  | 0 => v
  | k + 1 => (rsK l v ks k).addN (gN l k).v (0 - gI ks k)
def ouE (ks : List Int) (k i _j : Nat) : AV := .imm (.int .i64 (if i < k then gI ks i else 0))
@[simp] theorem ouE_free (ks : List Int) (k i j : Nat) : Free (ouE ks k i j) := trivial
@[go_sem] theorem ouE_eq (ks : List Int) (k i j : Nat) : ouE ks k i j = .imm (.int .i64 (if i < k then gI ks i else 0)) := rfl
theorem ouE_upd (ks : List Int) (k i j : Nat) (hj : j < 1) : updE (ouE ks k) k 0 [.imm (.int .i64 (gI ks k))] i j = ouE ks (k + 1) i j := by
  obtain rfl : j = 0 := by omega
  unfold updE ouE
  by_cases h : i = k
  · subst h
    rw [if_pos ⟨rfl, by omega, by simp⟩, if_pos (by omega)]
    rfl
  · rw [if_neg (fun hh => h hh.1)]
    by_cases h2 : i < k
    · rw [if_pos h2, if_pos (by omega)]
    · rw [if_neg h2, if_neg (by omega)]
theorem rsK_bd {l : List Nm} {v : P6} {ks : List Int} (hl : ∀ n ∈ l,Bd6 48 n.v) (hk : ks.all cntB = true) (hv : Bd6 48 v) : ∀ k,k ≤ l.length → k ≤ ks.length → Bd6 (48 + 48000 * k) (rsK l v ks k)
  | 0, _, _ => hv.le (by omega)
  | k + 1, h, h2 => by
    have h1 := rsK_bd hl hk hv k (by omega) (by omega)
    have h3 := of_decide_eq_true (List.all_eq_true.1 hk _ (gI_mem (l := ks) (i := k) (by omega)))
    exact (addN_bd h1 (hl _ (gN_mem (by omega))) (show -1000 ≤ 0 - gI ks k ∧ 0 - gI ks k ≤ 1000 by omega)).le (by omega)
theorem rwP_addN (v c : P6) (n : Int) (j : Nat) : rwP (v.addN c n) j = rwP v j + n * rwP c j := by
  rcases j with _ | _ | _ | _ | _ | _ | j
  · rfl
  · rfl
  · rfl
  · rfl
  · rfl
  · rfl
  · show (0 : Int) = 0 + n * 0; simp
theorem rwP_zero {p : P6} (h : ∀ j, rwP p j = 0) : p = z6 := by
  obtain ⟨a, b, c, d, e, f⟩ := p
  have h0 : a = 0 := h 0
  have h1 : b = 0 := h 1
  have h2 : c = 0 := h 2
  have h3 : d = 0 := h 3
  have h4 : e = 0 := h 4
  have h5 : f = 0 := h 5
  subst h0 h1 h2 h3 h4 h5
  rfl
theorem rsK_lin (l : List Nm) (v : P6) (ks : List Int) (hk : ks.length = l.length) : ∀ k,k ≤ l.length → ∀ j,rwP (rsK l v ks k) j = rwP v j - lin (ks.take k) ((rowsR (vsN l)).take k) j
  | 0, _, j => by
    show rwP v j = rwP v j - 0
    omega
  | k + 1, h, j => by
    have h1 := rsK_lin l v ks hk k (by omega) j
    have e1 : ks.take (k + 1) = ks.take k ++ [gI ks k] := by rw [List.take_add_one,List.getElem?_eq_getElem (by omega)];simp [gI,show k < ks.length by omega]
    have e2 : (rowsR (vsN l)).take (k + 1) = (rowsR (vsN l)).take k ++ [rwP (gN l k).v] := by
      have hl : k < (rowsR (vsN l)).length := by simp [rowsR, vsN]; omega
      rw [List.take_add_one, List.getElem?_eq_getElem hl]
      simp [rowsR, vsN, gN, show k < l.length by omega]
    rw [e1, e2, lin_app _ _ (by simp [rowsR, vsN, hk]), rsK, rwP_addN, h1]
    show _ = _ - (_ + (gI ks k * rwP (gN l k).v j + 0))
    rw [Int.sub_mul]
    omega
theorem rsK_end {l : List Nm} {v : P6} {ks : List Int} (hk : ks.length = l.length) (he : rwP v = lin ks (rowsR (vsN l))) : rsK l v ks l.length = z6 := rwP_zero fun j => by
  rw [rsK_lin l v ks hk _ (Nat.le_refl _) j,List.take_of_length_le (by omega),List.take_of_length_le (by simp [rowsR,vsN]),← he]
  omega
structure AcOf (l : List Nm) (v : P6) (ks : List Int) : Prop where
  cv : cvB l = true
  bv : Bd6 48 v
  len : ks.length = l.length
  sm : ks.all cntB = true
  eq : rwP v = lin ks (rowsR (vsN l))
set_option maxRecDepth 100000 in
set_option maxHeartbeats 8000000 in
theorem counts_raw (l : List Nm) (v : P6) (ks : List Int) (ha : AcOf l v ks) : TC Tryz.prog 12 [nmV l,p6A v] [] (fun x σ'=>∃ k E',x = .tup [.own k 0 l.length (some l.length),.imm (.int .i64 0)] ∧ nthO σ' k = .arr 3 1 l.length E' ∧ ∀ i j,i < l.length → j < 1 → E' i j = itE ks i j) := by
  have hcv := cvB_ok ha.cv
  have h1 := cvalid_tc l
  rw [ha.cv] at h1
  have h2 := interval_tc v
  rw [decide_eq_true ha.bv] at h2
  have hl6 := hcv.l6
  have hl1 := hcv.l1
  (refine TC_of_T Γ_ok Tryz.func12 rfl (by kernel_rfl) ?_;simp only [Tryz.ntmps12,Tryz.results12,List.length_cons,List.length_nil,Nat.reduceSub,Nat.reduceAdd,List.replicate,List.cons_append,List.nil_append])
  (have cl1 := h1;have cl2 := h2;((refine goR0 _ _ _ _ _ _ _ _ ?_ ?_ ?_ ?_ ?_ ?_ ?_ ?_) <;> (repeat intro hb) <;> first | exact True.intro | refine Lf.mk ?_))
  refine T_loopW (fun f st=>∃ i : Nat,i ≤ l.length ∧ f + i = l.length ∧ st = ⟨[nmV l,.top,.top,.optr 0 0 0,.imm (.slice none 0 0),.imm (.int .i64 0),.own 1 0 l.length (some l.length)] ++ List.replicate 21 .top ++ [nmV l,.imm (.int .i64 l.length),.imm (.int .i64 i)] ++ List.replicate 82 .top,[.box 37 (p6L v),.arr 37 6 l.length (fiE (vsN l) i)]⟩)
    l.length ⟨_, ?_, 0, by omega, rfl, rfl⟩ ?_
  · ((try simp only [List.length_append,List.length_cons,List.length_nil,Nat.zero_add]);refine Wk.intro [0,1] (by decide) (by decide) (by intro o ho;simp at ho ⊢ <;> omega) ?_ ?_ <;> repeat' (first|(exact WkV.eqF rfl (fiE_free _ _ _ _))|exact WkVL.nil|refine WkVL.cons ?_ ?_|exact WkV.top|exact WkV.imm rfl|exact WkV.imm (by simp)|exact WkV.optr rfl|exact WkV.own rfl (by simp)|exact WkV.nil_own (.inl rfl)|exact WkV.map rfl|(refine WkV.free ?_;simp [Free,FreeL] <;> assumption)|(refine WkV.free (fun _ _=>FreeL_nth ?_ _);simp [Free,FreeL];done)|refine WkV.agg ?_|refine WkV.tup ?_|refine WkV.fn ?_ ?_|exact WkO.dead|exact WkO.raw|refine WkO.ghost ?_|exact WkO.mpE rfl trivial|refine WkO.box ?_ rfl|refine WkO.arr ?_|refine And.intro ?_ (And.intro (by first|exact fun h=>h|exact fun _=>rfl|exact nofun) ?_)|exact trivial|(intro i j hi hj)))
  rintro f st ⟨i, g0, g1, rfl⟩
  (simp only [go_sem,↓reduceIte,Nat.reduceAdd,Nat.reduceSub,Nat.reduceMul,Nat.reduceLT,Nat.reduceLeDiff,Nat.reduceEqDiff,Nat.reduceGT,Int.reduceToNat,Int.reduceBEq,Int.reduceBNe];try simp (disch := omega) only [wrapI,wrapU,half_sum,toNat_sub1,toNat_add1,Int.toNat_natCast])
  have hvl := vsN_len l
  by_cases hi : i < l.length
  · have hup := fun p q => fiE_upd (vsN l) i p q
    rw [gP_vs] at hup
    (((refine goR0 _ _ _ _ _ _ _ _ ?_ ?_ ?_ ?_ ?_ ?_ ?_ ?_) <;> (repeat intro hb) <;> first | exact True.intro | refine Lf.mk ?_))
    refine ⟨l.length - (i + 1), by omega, _, ?_, i + 1, by omega, by omega, rfl⟩
    ((try simp only [List.length_append,List.length_cons,List.length_nil,Nat.zero_add]);refine Wk.intro [0,1] (by decide) (by decide) (by intro o ho;simp at ho ⊢ <;> omega) ?_ ?_ <;> repeat' (first|(exact WkV.eqF (hup _ _ hj) (fiE_free _ _ _ _))|exact WkVL.nil|refine WkVL.cons ?_ ?_|exact WkV.top|exact WkV.imm rfl|exact WkV.imm (by simp)|exact WkV.optr rfl|exact WkV.own rfl (by simp)|exact WkV.nil_own (.inl rfl)|exact WkV.map rfl|(refine WkV.free ?_;simp [Free,FreeL] <;> assumption)|(refine WkV.free (fun _ _=>FreeL_nth ?_ _);simp [Free,FreeL];done)|refine WkV.agg ?_|refine WkV.tup ?_|refine WkV.fn ?_ ?_|exact WkO.dead|exact WkO.raw|refine WkO.ghost ?_|exact WkO.mpE rfl trivial|refine WkO.box ?_ rfl|refine WkO.arr ?_|refine And.intro ?_ (And.intro (by first|exact fun h=>h|exact fun _=>rfl|exact nofun) ?_)|exact trivial|(intro i j hi hj)))
  have hie : i = l.length := by omega
  subst hie
  have hbd : ∀ p ∈ vsN l, Bd6 48 p := fun p hp => by
    obtain ⟨n, hn, rfl⟩ := List.mem_map.1 hp
    exact hcv.bd n hn
  have hrk : (frmP (rowsR (vsN l))).1.length = (rowsR (vsN l)).length := by
    rw [hcv.rk]; simp [rowsR, vsN]
  have hrl : (rowsR (vsN l)).length = l.length := by simp [rowsR, vsN]
  obtain ⟨M, hM, hok, hno⟩ := first_mask hrk
  have hkl : ks.length = (rowsR (vsN l)).length := by rw [hrl]; exact ha.len
  have hat := fun i hi => counts_at hkl hok (i := i) hi
  rw [← ha.eq] at hat
  have hdt := fun q hq => det_tc (vsN l) hbd (by rw [hvl]; exact hl6) q hq
  unfold rowsV at hdt
  rw [hvl] at hdt
  clear h1 h2
  have hw0 : det (rowsR (vsN l)) (colM M) ≠ 0 := by
    unfold okM at hok
    simp only [Bool.and_eq_true, decide_eq_true_eq] at hok
    exact hok.2
  have hcM : (colM M).length = l.length := by
    unfold okM at hok
    simp only [Bool.and_eq_true, decide_eq_true_eq] at hok
    rw [hok.1, hrl]
  have hno2 : ∀ q, q < M → (colM q).length = l.length → det (rowsR (vsN l)) (colM q) = 0 := fun q hq he => by
    have := hno q hq
    unfold okM at this
    rw [hrl, decide_eq_true he, Bool.true_and] at this
    have := of_decide_eq_false this
    omega
  generalize hW : det (rowsR (vsN l)) (colM M) = W at *
  (((refine goR0 _ _ _ _ _ _ _ _ ?_ ?_ ?_ ?_ ?_ ?_ ?_ ?_) <;> (repeat intro hb) <;> first | exact True.intro | refine Lf.mk ?_))
  refine T_loopW (fun f st=>∃ (q : Nat) (w : Int),q ≤ M + 1 ∧ f + q = M + 1 ∧ (q ≤ M → w = 0) ∧ (q = M + 1 → w = W) ∧ st = ⟨[nmV l,.top,.top,.optr 0 0 0,.imm (.slice none 0 0),.imm (.int .i64 0),.own 1 0 l.length (some l.length),.top,.top,.imm (.int .i64 (q : Int)),.imm (.int .i64 w)] ++ List.replicate 102 .top,[.box 37 (p6L v),.arr 37 6 l.length (p6E (vsN l))]⟩)
    (M + 1) ⟨_, ?_, 0, 0, by omega, rfl, fun _ => rfl, fun h => by omega, rfl⟩ ?_
  · have hfi : ∀ p q,p < l.length → fiE (vsN l) l.length p q = p6E (vsN l) p q := fun p q hp => by unfold fiE;rw [if_pos hp]
    ((try simp only [List.length_append,List.length_cons,List.length_nil,Nat.zero_add]);refine Wk.intro [0,1] (by decide) (by decide) (by intro o ho;simp at ho ⊢ <;> omega) ?_ ?_ <;> repeat' (first|(exact WkV.eqF (hfi _ _ hi) (by simp))|exact WkVL.nil|refine WkVL.cons ?_ ?_|exact WkV.top|exact WkV.imm rfl|exact WkV.imm (by simp)|exact WkV.optr rfl|exact WkV.own rfl (by simp)|exact WkV.nil_own (.inl rfl)|exact WkV.map rfl|(refine WkV.free ?_;simp [Free,FreeL] <;> assumption)|(refine WkV.free (fun _ _=>FreeL_nth ?_ _);simp [Free,FreeL];done)|refine WkV.agg ?_|refine WkV.tup ?_|refine WkV.fn ?_ ?_|exact WkO.dead|exact WkO.raw|refine WkO.ghost ?_|exact WkO.mpE rfl trivial|refine WkO.box ?_ rfl|refine WkO.arr ?_|refine And.intro ?_ (And.intro (by first|exact fun h=>h|exact fun _=>rfl|exact nofun) ?_)|exact trivial|(intro i j hi hj)))
  rintro f st ⟨q, w, g0, g1, g2, g3, rfl⟩
  by_cases hq : q ≤ M
  · obtain rfl := g2 hq
    have hbt := bits_tc q (by omega)
    have hd := hdt q (by omega)
    have hce := ieq (colM q).length l.length
    (simp only [go_sem,↓reduceIte,Nat.reduceAdd,Nat.reduceSub,Nat.reduceMul,Nat.reduceLT,Nat.reduceLeDiff,Nat.reduceEqDiff,Nat.reduceGT,Int.reduceToNat,Int.reduceBEq,Int.reduceBNe];try simp (disch := omega) only [wrapI,wrapU,half_sum,toNat_sub1,toNat_add1,Int.toNat_natCast])
    by_cases he : (colM q).length = l.length
    · rw [decide_eq_true he] at hce
      (have cl1 := hbt;have cl2 := hd;have sx1 := hce;have sx2 : (0 : Nat) + 0 = 0 := rfl;((have sx3 : (0 : Nat) + 0 = 0 := rfl;have sx4 : (0 : Nat) + 0 = 0 := rfl;have sx5 : (0 : Nat) + 0 = 0 := rfl;have sx6 : (0 : Nat) + 0 = 0 := rfl;have sx7 : (0 : Nat) + 0 = 0 := rfl;have sx8 : (0 : Nat) + 0 = 0 := rfl;have sx9 : (0 : Nat) + 0 = 0 := rfl;refine goR9 _ _ _ _ _ _ _ _ ?_ ?_ ?_ ?_ ?_ ?_ ?_ ?_) <;> (repeat intro hb) <;> first|exact True.intro|refine Lf.mk ?_))
      refine ⟨M + 1 - (q + 1),by omega,_,?_,q + 1,det (rowsR (vsN l)) (colM q),by omega,by omega,fun h => hno2 q (by omega) he,fun h => by rw [show q = M by omega,hW],rfl⟩
      ((try simp only [List.length_append,List.length_cons,List.length_nil,Nat.zero_add]);refine Wk.intro [0,1] (by decide) (by decide) (by intro o ho;simp at ho ⊢ <;> omega) ?_ ?_ <;> repeat' (first|exact WkVL.nil|refine WkVL.cons ?_ ?_|exact WkV.top|exact WkV.imm rfl|exact WkV.imm (by simp)|exact WkV.optr rfl|exact WkV.own rfl (by simp)|exact WkV.nil_own (.inl rfl)|exact WkV.map rfl|(refine WkV.free ?_;simp [Free,FreeL] <;> assumption)|(refine WkV.free (fun _ _=>FreeL_nth ?_ _);simp [Free,FreeL];done)|refine WkV.agg ?_|refine WkV.tup ?_|refine WkV.fn ?_ ?_|exact WkO.dead|exact WkO.raw|refine WkO.ghost ?_|exact WkO.mpE rfl trivial|refine WkO.box ?_ rfl|refine WkO.arr ?_|refine And.intro ?_ (And.intro (by first|exact fun h=>h|exact fun _=>rfl|exact nofun) ?_)|exact trivial|(intro i j hi hj)))
    · rw [decide_eq_false he] at hce
      (have cl1 := hbt;have sx1 := hce;have sx2 : (0 : Nat) + 0 = 0 := rfl;((have sx3 : (0 : Nat) + 0 = 0 := rfl;have sx4 : (0 : Nat) + 0 = 0 := rfl;have sx5 : (0 : Nat) + 0 = 0 := rfl;have sx6 : (0 : Nat) + 0 = 0 := rfl;have sx7 : (0 : Nat) + 0 = 0 := rfl;have sx8 : (0 : Nat) + 0 = 0 := rfl;have sx9 : (0 : Nat) + 0 = 0 := rfl;refine goR9 _ _ _ _ _ _ _ _ ?_ ?_ ?_ ?_ ?_ ?_ ?_ ?_) <;> (repeat intro hb) <;> first|exact True.intro|refine Lf.mk ?_))
      refine ⟨M + 1 - (q + 1), by omega, _, ?_, q + 1, 0, by omega, by omega, fun _ => rfl, fun h => ?_, rfl⟩
      · ((try simp only [List.length_append,List.length_cons,List.length_nil,Nat.zero_add]);refine Wk.intro [0,1] (by decide) (by decide) (by intro o ho;simp at ho ⊢ <;> omega) ?_ ?_ <;> repeat' (first|exact WkVL.nil|refine WkVL.cons ?_ ?_|exact WkV.top|exact WkV.imm rfl|exact WkV.imm (by simp)|exact WkV.optr rfl|exact WkV.own rfl (by simp)|exact WkV.nil_own (.inl rfl)|exact WkV.map rfl|(refine WkV.free ?_;simp [Free,FreeL] <;> assumption)|(refine WkV.free (fun _ _=>FreeL_nth ?_ _);simp [Free,FreeL];done)|refine WkV.agg ?_|refine WkV.tup ?_|refine WkV.fn ?_ ?_|exact WkO.dead|exact WkO.raw|refine WkO.ghost ?_|exact WkO.mpE rfl trivial|refine WkO.box ?_ rfl|refine WkO.arr ?_|refine And.intro ?_ (And.intro (by first|exact fun h=>h|exact fun _=>rfl|exact nofun) ?_)|exact trivial|(intro i j hi hj)))
      · exfalso; exact he (by rw [show q = M by omega, hcM])
  have hqe : q = M + 1 := by omega
  have hwe := g3 hqe
  clear g3 g2
  subst hwe
  subst hqe
  (simp only [go_sem,↓reduceIte,Nat.reduceAdd,Nat.reduceSub,Nat.reduceMul,Nat.reduceLT,Nat.reduceLeDiff,Nat.reduceEqDiff,Nat.reduceGT,Int.reduceToNat,Int.reduceBEq,Int.reduceBNe];try simp (disch := omega) only [wrapI,wrapU,half_sum,toNat_sub1,toNat_add1,Int.toNat_natCast])
  (((refine goR0 _ _ _ _ _ _ _ _ ?_ ?_ ?_ ?_ ?_ ?_ ?_ ?_) <;> (repeat intro hb) <;> first | exact True.intro | refine Lf.mk ?_))
  have hbr := rsK_bd (v := v) (ks := ks) hcv.bd ha.sm ha.bv
  have hkl2 := ha.len
  refine T_loopW (fun f st=>∃ i : Nat,i ≤ l.length ∧ f + i = l.length ∧ st = ⟨[nmV l,.top,.top,.optr 0 0 0,.imm (.slice none 0 0),.imm (.int .i64 0),.own 1 0 l.length (some l.length),.top,.top,.imm (.int .i64 (M : Int)),.imm (.int .i64 w),.own 2 0 l.length (some l.length),.imm (.bool false),.optr 3 0 0] ++ List.replicate 45 .top ++ [nmV l,.imm (.int .i64 l.length),.imm (.int .i64 i)] ++ List.replicate 51 .top,
      [.box 37 (p6L v), .arr 37 6 l.length (p6E (vsN l)), .arr 3 1 l.length (ouE ks i), .box 37 (p6L (rsK l v ks i))]⟩)
    l.length ⟨_, ?_, 0, by omega, rfl, rfl⟩ ?_
  · have h0 : ∀ i j, j < 1 → nth [AV.imm (.int .i64 0)] j = ouE ks 0 i j := fun i j hj => by
      obtain rfl : j = 0 := by omega
      rfl
    ((try simp only [List.length_append,List.length_cons,List.length_nil,Nat.zero_add]);refine Wk.intro [0,1,2,3] (by decide) (by decide) (by intro o ho;simp at ho ⊢ <;> omega) ?_ ?_ <;> repeat' (first|(refine WkV.imm ?_;congr 1;omega)|(exact WkV.eqF (h0 _ _ hj) (by simp))|exact WkVL.nil|refine WkVL.cons ?_ ?_|exact WkV.top|exact WkV.imm rfl|exact WkV.imm (by simp)|exact WkV.optr rfl|exact WkV.own rfl (by simp)|exact WkV.nil_own (.inl rfl)|exact WkV.map rfl|(refine WkV.free ?_;simp [Free,FreeL] <;> assumption)|(refine WkV.free (fun _ _=>FreeL_nth ?_ _);simp [Free,FreeL];done)|refine WkV.agg ?_|refine WkV.tup ?_|refine WkV.fn ?_ ?_|exact WkO.dead|exact WkO.raw|refine WkO.ghost ?_|exact WkO.mpE rfl trivial|refine WkO.box ?_ rfl|refine WkO.arr ?_|refine And.intro ?_ (And.intro (by first|exact fun h=>h|exact fun _=>rfl|exact nofun) ?_)|exact trivial|(intro i j hi hj)))
  rintro f st ⟨i, g0, g1, rfl⟩
  by_cases hi : i < l.length
  · have hgi := of_decide_eq_true (List.all_eq_true.1 ha.sm _ (gI_mem (l := ks) (i := i) (by omega)))
    have had := add_tu (rsK l v ks i) (gN l i).v (0 - gI ks i) ((hbr i (by omega) (by omega)).le (by omega)) (hcv.bd _ (gN_mem hi)) (by omega)
    have hes : (rsK l v ks i).addN (gN l i).v (0 - gI ks i) = rsK l v ks (i + 1) := rfl
    rw [hes] at had
    have hdd := det_tc ((vsN l).set i v) (fun p hp => by
      rcases List.mem_or_eq_of_mem_set hp with h | h
      · exact hbd p h
      · rw [h]; exact ha.bv) (by simp [hvl]; omega) M hM
    rw [rowsR_set] at hdd
    have hc1 := (hat i (by omega)).1
    rw [hc1] at hdd
    unfold rowsV at hdd
    rw [List.length_set, hvl] at hdd
    have hgk : gK ks i = gI ks i := rfl
    rw [hgk] at hdd
    have hmod : Int.tmod (gI ks i * w) w = 0 := (tdiv_whole hw0).2
    have hdiv : Int.tdiv (gI ks i * w) w = gI ks i := (tdiv_whole hw0).1
    have hld : updE (ouE ks i) i 0 [.imm (.int .i64 (gI ks i))] i 0 = .imm (.int .i64 (gI ks i)) := by
      rw [ouE_upd ks i i 0 (by omega), ouE_eq, if_pos (by omega)]
    have hv5 := fun p q (_ : p < l.length) hq => p6_upd (l := vsN l) (k := i) (by omega) v p q hq
    have hou := fun p q => ouE_upd ks i p q
    have hrow : ∀ p q,q < 6 → updE (updE (p6E (vsN l)) i 0 (p6L v)) i 0 (p6L (gN l i).v) p q = p6E (vsN l) p q := fun p q hq => by
      have e1 : ∀ p q,q < 6 → updE (p6E ((vsN l).set i v)) i 0 (p6L (gN l i).v) p q = p6E (vsN l) p q := fun p q hq => by
        rw [p6_upd (by simp; omega) _ _ _ hq, ← gP_vs, set_same (by omega)]
      rw [← e1 p q hq]
      unfold updE
      by_cases hh : p = i ∧ 0 ≤ q ∧ q < 0 + (p6L (gN l i).v).length
      · rw [if_pos hh, if_pos hh]
      · rw [if_neg hh, if_neg hh]
        have := p6_upd (l := vsN l) (k := i) (by omega) v p q hq
        unfold updE at this
        exact this
    generalize hR2 : (vsN l).set i v = R2 at *
    generalize hrs : rsK l v ks (i + 1) = R3 at *
    (simp only [go_sem,↓reduceIte,Nat.reduceAdd,Nat.reduceSub,Nat.reduceMul,Nat.reduceLT,Nat.reduceLeDiff,Nat.reduceEqDiff,Nat.reduceGT,Int.reduceToNat,Int.reduceBEq,Int.reduceBNe];try simp (disch := omega) only [wrapI,wrapU,half_sum,toNat_sub1,toNat_add1,Int.toNat_natCast])
    (have cl1 := hdd;have ct1 := TurnsAt.mk [3] (had);have sx1 := hmod;have sx2 := hdiv;have sx3 := hld;have sx4 : (0 : Nat) + 0 = 0 := rfl;repeat' (first|with_reducible refine T_seq_drawT (id := 25) Γ_ok drawsAny pl12_25 (by kernel_rfl) (fun K hK=>?_)|with_reducible refine T_last_drawT (id := 25) Γ_ok drawsAny pl12_25 (by kernel_rfl) (fun K hK=>?_)|((have sx5 : (0 : Nat) + 0 = 0 := rfl;have sx6 : (0 : Nat) + 0 = 0 := rfl;have sx7 : (0 : Nat) + 0 = 0 := rfl;have sx8 : (0 : Nat) + 0 = 0 := rfl;have sx9 : (0 : Nat) + 0 = 0 := rfl;refine goR9 _ _ _ _ _ _ _ _ ?_ ?_ ?_ ?_ ?_ ?_ ?_ ?_) <;> (repeat intro hb) <;> first|exact True.intro|refine Lf.mk ?_)))
    refine ⟨l.length - (i + 1), by omega, _, ?_, i + 1, by omega, by omega, rfl⟩
    rw [hrs]
    ((try simp only [List.length_append,List.length_cons,List.length_nil,Nat.zero_add]);refine Wk.intro [0,1,2,3] (by decide) (by decide) (by intro o ho;simp at ho ⊢ <;> omega) ?_ ?_ <;> repeat' (first|(exact WkV.eqF (hrow _ _ hj) (by simp))|(exact WkV.eqF (hou _ _ hj) (by simp))|exact WkVL.nil|refine WkVL.cons ?_ ?_|exact WkV.top|exact WkV.imm rfl|exact WkV.imm (by simp)|exact WkV.optr rfl|exact WkV.own rfl (by simp)|exact WkV.nil_own (.inl rfl)|exact WkV.map rfl|(refine WkV.free ?_;simp [Free,FreeL] <;> assumption)|(refine WkV.free (fun _ _=>FreeL_nth ?_ _);simp [Free,FreeL];done)|refine WkV.agg ?_|refine WkV.tup ?_|refine WkV.fn ?_ ?_|exact WkO.dead|exact WkO.raw|refine WkO.ghost ?_|exact WkO.mpE rfl trivial|refine WkO.box ?_ rfl|refine WkO.arr ?_|refine And.intro ?_ (And.intro (by first|exact fun h=>h|exact fun _=>rfl|exact nofun) ?_)|exact trivial|(intro i j hi hj)))
  · have hie : i = l.length := by omega
    subst hie
    have hacc := account_tc l ks (by omega)
    have hac : acB l ks = true := by unfold acB; rw [ha.sm, decide_eq_true ha.len, ha.cv]; rfl
    rw [hac] at hacc
    unfold its at hacc
    rw [ha.len] at hacc
    have hz := rsK_end ha.len ha.eq
    have hv5 : ∀ p q,p < l.length → q < 1 → ouE ks l.length p q = itE ks p q := fun p q hp _ => by unfold ouE itE;rw [if_pos hp]
    simp only [hz]
    (simp only [go_sem,↓reduceIte,Nat.reduceAdd,Nat.reduceSub,Nat.reduceMul,Nat.reduceLT,Nat.reduceLeDiff,Nat.reduceEqDiff,Nat.reduceGT,Int.reduceToNat,Int.reduceBEq,Int.reduceBNe];try simp (disch := omega) only [wrapI,wrapU,half_sum,toNat_sub1,toNat_add1,Int.toNat_natCast])
    simp only [z6]
    (have cl1 := hacc;((refine goR0 _ _ _ _ _ _ _ _ ?_ ?_ ?_ ?_ ?_ ?_ ?_ ?_) <;> (repeat intro hb) <;> first | exact True.intro | refine Lf.mk ?_))
    exact ⟨2, _, rfl, rfl, hv5⟩
theorem nthO_lt2 {a : AObj} (hd : a ≠ .dead) : ∀ {σ : List AObj} {k : Nat}, nthO σ k = a → k < σ.length
  | [], _, h => absurd h.symm hd
  | _ :: _, 0, _ => Nat.succ_pos _
  | _ :: σ, k + 1, h => Nat.succ_lt_succ (nthO_lt2 hd h)
theorem counts_tc (l : List Nm) (v : P6) (ks : List Int) (ha : AcOf l v ks) : Makes Tryz.prog 12 [nmV l,p6A v] (.tup [.own 0 0 ks.length none,.imm (.int .i64 0)]) [itO ks] :=
  Makes.gen [] (by simp [VF,VFL]) (fun a h => by simp only [List.mem_singleton] at h;subst h;exact itE_pl _) ((counts_raw l v ks ha).mono fun x σ' ⟨k,E',hx,hs,hE⟩ => by
    refine ⟨[k], by simp, fun o ho => ?_, ?_, ?_⟩
    · simp only [List.mem_singleton] at ho
      subst ho
      simpa using nthO_lt2 (by simp) hs
    · rw [hx, ha.len]; exact WkV.tup (WkVL.cons (WkV.own rfl (by simp)) (WkVL.cons (WkV.imm rfl) WkVL.nil))
    · simp only [List.map_nil, List.append_nil]
      refine ⟨?_, fun _ => by rw [hs]; rfl, trivial⟩
      rw [hs]
      show WkO _ _ _ (.arr 3 1 ks.length (itE ks))
      rw [ha.len]
      exact WkO.arr fun i j hi hj => WkV.eqF (hE i j hi hj) (by simp))
end Go.Proofs.YtngfnogoicfmaaaGreatDoor
