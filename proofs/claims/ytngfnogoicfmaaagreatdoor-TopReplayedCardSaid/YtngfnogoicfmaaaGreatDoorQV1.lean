/-
  Parts joined: T6 T7.
-/
import Derived.Test.YtngfnogoicfmaaaGreatDoorQT5
import Derived.Test.YtngfnogoicfmaaaGreatDoorQGo
import Derived.Test.YtngfnogoicfmaaaGreatDoorQA5
set_option linter.unusedSimpArgs false
set_option linter.unusedVariables false
namespace Go.Proofs.YtngfnogoicfmaaaGreatDoor
open Go.Ab
def mnO (l : List P6) (is js : List Nat) : List AObj := [.box 25 [rowsV l],.box 33 [nts is],.box 33 [nts js],.arr 4 1 js.length (fun _ j=>nth [AV.imm (.bool false)] j),.box 163 [.own 3 0 js.length (some js.length)],
  .box 77 [.fn (.func 99) [] [.optr 1 0 0, .optr 2 0 0, .optr 4 0 0, .optr 0 0 0, .optr 5 0 0]]]
theorem mn_al (l : List P6) (is js : List Nat) {o : Nat} (h : o ≠ 3) : ∀ q ∈ [3],q ≠ o ∧ (nthO (mnO l is js) q).alive = true := by
  intro q hq
  simp only [List.mem_singleton] at hq
  subst hq
  exact ⟨Ne.symm h, rfl⟩
section
variable (l : List P6) (is js : List Nat)
theorem mn_1 : WkV [3] (mnO l is js) (.optr 1 0 0) (cI is) := WkV.freezeB (o := 1) (ety := 33) (cells := [nts is]) rfl (Nat.le_refl _) (mn_al l is js (by decide)) fun j hj => by
  obtain rfl : j = 0 := by omega
  exact WkV.free (by simp [nth, Free])
theorem mn_2 : WkV [3] (mnO l is js) (.optr 2 0 0) (cI js) := WkV.freezeB (o := 2) (ety := 33) (cells := [nts js]) rfl (Nat.le_refl _) (mn_al l is js (by decide)) fun j hj => by
  obtain rfl : j = 0 := by omega
  exact WkV.free (by simp [nth, Free])
theorem mn_0 : WkV [3] (mnO l is js) (.optr 0 0 0) (cRw l) := WkV.freezeB (o := 0) (ety := 25) (cells := [rowsV l]) rfl (Nat.le_refl _) (mn_al l is js (by decide)) fun j hj => by
  obtain rfl : j = 0 := by omega
  exact WkV.free (by simp [nth, Free])
theorem mn_4 : WkV [3] (mnO l is js) (.optr 4 0 0) (cUs js.length) := WkV.freezeB (o := 4) (ety := 163) (cells := [.own 3 0 js.length (some js.length)]) rfl (Nat.le_refl _) (mn_al l is js (by decide)) fun j hj=>by
  obtain rfl : j = 0 := by omega
  exact WkV.own rfl (by simp)
theorem mn_5 : ∀ r, WkV [3] (mnO l is js) (.optr 5 0 0) (cEp l is js r)
  | 0=>WkV.freezeB (o := 5) (ety := 77) (cells := [.fn (.func 99) [] [.optr 1 0 0,.optr 2 0 0,.optr 4 0 0,.optr 0 0 0,.optr 5 0 0]]) rfl (Nat.le_refl _) (mn_al l is js (by decide)) fun j hj=>WkV.top
  | r + 1=>WkV.freezeB (o := 5) (ety := 77) (cells := [.fn (.func 99) [] [.optr 1 0 0,.optr 2 0 0,.optr 4 0 0,.optr 0 0 0,.optr 5 0 0]]) rfl (Nat.le_refl _) (mn_al l is js (by decide)) fun j hj=>by
    obtain rfl : j = 0 := by omega
    exact WkV.fn WkVL.nil (WkVL.cons (mn_1 l is js) (WkVL.cons (mn_2 l is js) (WkVL.cons (mn_4 l is js) (WkVL.cons (mn_0 l is js) (WkVL.cons (mn_5 r) WkVL.nil)))))
theorem mn_args (r : Nat) : WkVL [3] (mnO l is js) [.imm (.int .i64 0),.optr 1 0 0,.optr 2 0 0,.optr 4 0 0,.optr 0 0 0,.optr 5 0 0] [.imm (.int .i64 ((0 : Nat) : Int)),cI is,cI js,cUs js.length,cRw l,cEp l is js r] :=
  WkVL.cons (WkV.imm rfl) (WkVL.cons (mn_1 l is js) (WkVL.cons (mn_2 l is js) (WkVL.cons (mn_4 l is js) (WkVL.cons (mn_0 l is js) (WkVL.cons (mn_5 l is js r) WkVL.nil)))))
theorem mn_objs : WkOL [3] (mnO l is js) [3] [.arr 4 1 js.length (usE (List.replicate js.length false))] := ⟨WkO.arr fun i j hi hj => by
  obtain rfl : j = 0 := by omega
  refine WkV.eqF ?_ (by simp)
  simp [nth, usE, gU, hi], fun h => h, trivial⟩
end
set_option maxRecDepth 100000 in
set_option maxHeartbeats 4000000 in
theorem minor_tc (l : List P6) (is js : List Nat) (hb : ∀ p ∈ l,Bd6 48 p) (hi : ∀ i ∈ is,i < l.length) (hj : ∀ j ∈ js,j < 6) (h6 : is.length ≤ 6) (j6 : js.length ≤ 6) :
    Look Tryz.prog 84 [rowsV l, nts is, nts js] (.imm (.int .i64 (det (rwL (rowsR l) is) js))) := by
  have hs := expand_tc l is js hb hi hj h6 j6 is.length 0 (by omega) (List.replicate js.length false) (by simp)
  rw [unU_none, List.drop_zero] at hs
  unfold usO at hs
  rw [List.length_replicate] at hs
  have hT : Turns Tryz.prog 99 _ _ _ _ := ⟨hs,trivial,fun a ha => by simp only [List.mem_cons,List.not_mem_nil,or_false] at ha;subst ha;exact fun i j => usE_pl _ i j⟩
  refine Look.mk trivial ?_
  (refine TC_of_T Γ_ok Tryz.func84 rfl (by kernel_rfl) ?_;simp only [Tryz.ntmps84,Tryz.results84,List.length_cons,List.length_nil,Nat.reduceSub,Nat.reduceAdd,List.replicate,List.cons_append,List.nil_append])
  repeat' (first
    | (with_reducible refine hK _ ?_; clear hK K)
    | ((refine callGoal_turns [3] trivial hT (by decide) ?_ (mn_args l is js _) (mn_objs l is js) ?_);(focus (simp [nthO,AObj.alive]));(simp only [go_sem,↓reduceIte,Nat.reduceAdd,Nat.reduceSub,Nat.reduceMul,Nat.reduceLT,Nat.reduceLeDiff,Nat.reduceEqDiff,Nat.reduceGT,Int.reduceToNat,Int.reduceBEq,Int.reduceBNe];try simp (disch := omega) only [wrapI,wrapU,half_sum,toNat_sub1,toNat_add1,Int.toNat_natCast]))
    | ((with_reducible apply DC_call);(focus exact rfl);(focus exact rfl);(focus exact rfl);intro N hN;(simp only [go_sem,↓reduceIte,Nat.reduceAdd,Nat.reduceSub,Nat.reduceMul,Nat.reduceLT,Nat.reduceLeDiff,Nat.reduceEqDiff,Nat.reduceGT,Int.reduceToNat,Int.reduceBEq,Int.reduceBNe];try simp (disch := omega) only [wrapI,wrapU,half_sum,toNat_sub1,toNat_add1,Int.toNat_natCast]))
    | ((with_reducible first|refine T_seq_region Γ_ok (fun K hK=>?_)|refine T_last_region Γ_ok (fun K hK=>?_)|refine TO_callN rfl (fun N hN=>?_)|refine DCT_fork Γ_ok (fun K2 hK2=>?_)|refine DCT_last Γ_ok ?_|refine DC_ev Γ_ok ?_|refine TO_ev Γ_ok ?_|refine retQ_r ?_|refine retQ_n ?_);(simp only [go_sem,↓reduceIte,Nat.reduceAdd,Nat.reduceSub,Nat.reduceMul,Nat.reduceLT,Nat.reduceLeDiff,Nat.reduceEqDiff,Nat.reduceGT,Int.reduceToNat,Int.reduceBEq,Int.reduceBNe];try simp (disch := omega) only [wrapI,wrapU,half_sum,toNat_sub1,toNat_add1,Int.toNat_natCast]))
    | (with_reducible refine hK2 _ ?_ ?_ <;> clear hK2 K2)
    | with_reducible refine gC_false ?_ | with_reducible refine gC_true ?_ | with_reducible refine dCall_true ?_
    | (with_reducible refine hN _ _ ?_; clear hN N)
    | (with_reducible refine hN _ _ (dInl rfl) ?_; clear hN N)
    | ((with_reducible refine hN _ _ (.inr ?_) ?_);(focus (simp only [go_sem,↓reduceIte,Nat.reduceAdd,Nat.reduceSub,Nat.reduceMul,Nat.reduceLT,Nat.reduceLeDiff,Nat.reduceEqDiff,Nat.reduceGT,Int.reduceToNat,Int.reduceBEq,Int.reduceBNe];try simp (disch := omega) only [wrapI,wrapU,half_sum,toNat_sub1,toNat_add1,Int.toNat_natCast]));all_goals (try clear hN N))
    | with_reducible refine T_seq ?_|with_reducible refine T_block ?_|with_reducible refine T_ret ?_|with_reducible refine T_exit ?_|with_reducible refine T_skip ?_|with_reducible refine T_label ?_
    | with_reducible refine thenQ_n ?_|with_reducible refine thenQ_e ?_|with_reducible refine thenQ_r ?_|with_reducible refine blockQ_n ?_|with_reducible refine blockQ_e ?_|with_reducible refine blockQ_r ?_
    | with_reducible refine blockQ_o (by decide) ?_
    | ((with_reducible refine T_cond _ rfl (fun hb=>?_) (fun hb=>?_)) <;> first|(cases hb;done)|(simp only [decide_eq_true_eq,decide_eq_false_iff_not,Bool.and_eq_true,Bool.or_eq_true,Bool.and_eq_false_imp,Bool.or_eq_false_iff,Bool.not_eq_true',Bool.not_eq_false',beq_iff_eq,bne_iff_ne,ne_eq,beq_eq_false_iff_ne,bne_eq_false_iff_eq,Int.not_lt,Int.not_le,ge_iff_le,gt_iff_lt] at hb)|skip)
    | (with_reducible refine And.intro (by first | exact trivial | omega | (intro hg;simp at hg ⊢ <;> omega) | (simp <;> omega)) ?_)
    | assumption | omega)
  trace_state
  done
end Go.Proofs.YtngfnogoicfmaaaGreatDoor
namespace Go.Proofs.YtngfnogoicfmaaaGreatDoor
open Go.Ab
set_option maxRecDepth 100000 in
set_option maxHeartbeats 4000000 in
theorem nclone_nil (c : Nat) : TC Tryz.prog 83 [.imm (.slice none 0 c)] [] (fun v σ' => v = .imm (.slice none 0 0) ∧ σ' = []) := by
  (refine TC_of_T Γ_ok Tryz.func83 rfl (by kernel_rfl) ?_;simp only [Tryz.ntmps83,Tryz.results83,List.length_cons,List.length_nil,Nat.reduceSub,Nat.reduceAdd,List.replicate,List.cons_append,List.nil_append])
  (((refine goR0 _ _ _ _ _ _ _ _ ?_ ?_ ?_ ?_ ?_ ?_ ?_ ?_) <;> (repeat intro hb) <;> first | exact True.intro | refine Lf.mk ?_))
  all_goals simp
set_option maxRecDepth 100000 in
set_option maxHeartbeats 4000000 in
theorem nclone_emp (a : Addr) (c : Nat) : TC Tryz.prog 83 [.imm (.slice (some a) 0 c)] [] (fun v σ' => ∃ o g,v = .own 1 0 0 none ∧ σ' = [o,.arr 3 1 0 g]) := by
  (refine TC_of_T Γ_ok Tryz.func83 rfl (by kernel_rfl) ?_;simp only [Tryz.ntmps83,Tryz.results83,List.length_cons,List.length_nil,Nat.reduceSub,Nat.reduceAdd,List.replicate,List.cons_append,List.nil_append])
  (((refine goR0 _ _ _ _ _ _ _ _ ?_ ?_ ?_ ?_ ?_ ?_ ?_ ?_) <;> (repeat intro hb) <;> first | exact True.intro | refine Lf.mk ?_))
  all_goals exact ⟨_, _, rfl⟩
set_option maxRecDepth 100000 in
set_option maxHeartbeats 4000000 in
theorem nclone_pos (n : Nat) (E : Nat → Nat → AV) (hl : n ≤ 1000000000) (h0 : 0 < n) : TC Tryz.prog 83 [.view n 1 E] [] (fun v σ' => ∃ o,v = .own 1 0 n none ∧ σ' = [o,.arr 3 1 n E]) := by
  (refine TC_of_T Γ_ok Tryz.func83 rfl (by kernel_rfl) ?_;simp only [Tryz.ntmps83,Tryz.results83,List.length_cons,List.length_nil,Nat.reduceSub,Nat.reduceAdd,List.replicate,List.cons_append,List.nil_append])
  (((refine goR0 _ _ _ _ _ _ _ _ ?_ ?_ ?_ ?_ ?_ ?_ ?_ ?_) <;> (repeat intro hb) <;> first | exact True.intro | refine Lf.mk ?_))
  all_goals exact ⟨_, rfl⟩
theorem nclone_gen (n : Nat) (E : Nat → Nat → AV) (hl : n ≤ 1000000000) (hE : ∀ i j,Pl (E i j)) : Makes Tryz.prog 83 [.view n 1 E] (.own 0 0 n none) [.arr 3 1 n E] := by
  refine Makes.lst1J hE (TC_view_cases (us1 := []) (us2 := []) (fun h0 a c => ?_) (fun h0 c => ?_) (fun h0 => ?_))
  · exact (nclone_emp a c).mono fun v σ' ⟨o,g,hv,hs⟩ => .inr ⟨1,g,by rw [hv,h0],by rw [hs,h0];rfl,fun i j hi _ => by omega⟩
  · exact (nclone_nil c).mono fun v σ' ⟨hv, hs⟩ => .inl ⟨hv, h0⟩
  · exact (nclone_pos n E hl h0).mono fun v σ' ⟨o, hv, hs⟩ => .inr ⟨1, _, hv, by rw [hs]; rfl, fun _ _ _ _ => rfl⟩
@[go_sem, reducible] def ntO (l : List Nat) : AObj := .arr 3 1 l.length (ntE l)
theorem nclone_tc (l : List Nat) (hl : l.length ≤ 1000000000) : Makes Tryz.prog 83 [nts l] (.own 0 0 l.length none) [ntO l] := nclone_gen l.length (ntE l) hl (ntE_pl l)
theorem forward_raw : TC Tryz.prog 63 [] [] (fun v σ' => v = .own 0 0 6 (some 6) ∧ ∃ E,σ' = [.arr 3 1 6 E] ∧ ∀ i j,i < 6 → j < 1 → E i j = ntE [0,1,2,3,4,5] i j) := by
  (refine TC_of_T Γ_ok Tryz.func63 rfl (by kernel_rfl) ?_;simp only [Tryz.ntmps63,Tryz.results63,List.length_cons,List.length_nil,Nat.reduceSub,Nat.reduceAdd,List.replicate,List.cons_append,List.nil_append])
  (((refine goR0 _ _ _ _ _ _ _ _ ?_ ?_ ?_ ?_ ?_ ?_ ?_ ?_) <;> (repeat intro hb) <;> first | exact True.intro | refine Lf.mk ?_))
  refine ⟨_, rfl, fun i j hi hj => ?_⟩
  obtain rfl : j = 0 := by omega
  rcases i with _ | _ | _ | _ | _ | _ | i <;> first | rfl | omega
theorem forward_tc : Makes Tryz.prog 63 [] (.own 0 0 6 (some 6)) [ntO [0, 1, 2, 3, 4, 5]] :=
  Makes.gen [] trivial (fun a ha => by simp only [List.mem_singleton] at ha;subst ha;exact ntE_pl _) (forward_raw.mono fun v σ' ⟨hv,E,hs,hE⟩ => ⟨[0],by simp,fun o ho => by
    simp only [List.mem_singleton] at ho
    subst ho
    rw [hs];simp,by rw [hv];exact WkV.own rfl (by simp),by rw [hs];exact ⟨WkO.arr fun i j hi hj => WkV.eqF (hE i j hi hj) (by simp),fun h => h,trivial⟩⟩)
theorem pickI_none {rows : List Rw} {is js : List Nat} (h : ∀ i,i < rows.length → det (rwL rows (is ++ [i])) js = 0) : pickI rows is js = none := by
  unfold pickI
  rw [List.find?_eq_none]
  intro i hi
  simp [h i (List.mem_range.1 hi)]
theorem pickI_some {rows : List Rw} {is js : List Nat} {i : Nat} (hi : i < rows.length) (hd : det (rwL rows (is ++ [i])) js ≠ 0) (h : ∀ k,k < i → det (rwL rows (is ++ [k])) js = 0) : pickI rows is js = some i := by
  unfold pickI
  rw [List.find?_eq_some_iff_append]
  refine ⟨by simpa using hd,List.range i,(List.range' (i + 1) (rows.length - (i + 1))),?_,fun a ha => by simp [h a (List.mem_range.1 ha)]⟩
  rw [List.range_eq_range',List.range_eq_range',show rows.length = i + ((rows.length - (i + 1)) + 1) by omega,← List.range'_append_1,List.range'_succ]
  simp
  congr 2
  omega
def frK (rows : List Rw) (k : Nat) : List Nat × List Nat := (List.range k).foldl (stepF rows) ([], [])
theorem frK_s (rows : List Rw) (k : Nat) : frK rows (k + 1) = stepF rows (frK rows k) k := by unfold frK;rw [List.range_succ,List.foldl_append];rfl
theorem frK_ok (rows : List Rw) (k : Nat) : FrmOk rows k (frK rows k) := by
  induction k with
  | zero => exact ⟨rfl,(by show (1 : Int) ≠ 0;decide),(fun _ h => nomatch h),⟨List.Pairwise.nil,(fun _ h => nomatch h)⟩⟩
  | succ k ih => rw [frK_s]; exact ih.step
theorem frK_len (rows : List Rw) (k : Nat) : (frK rows k).2.length ≤ k := by
  have h := (frK_ok rows k).js
  rw [← sub_filter h.1 h.2]
  exact Nat.le_trans (List.length_filter_le _ _) (by simp)
theorem nt_snoc (l : List Nat) (x : Nat) {i j : Nat} (h : i < l.length + 1) (hj : j < 1) : catE l.length (ntE l) (fun i j=>nth [AV.imm (.int .i64 ((x : Nat) : Int))] (i * 1 + j)) i j = ntE (l ++ [x]) i j := by
  obtain rfl : j = 0 := by omega
  unfold catE ntE gNt
  split
  · rename_i h1; simp [List.getElem?_append_left h1]
  · rename_i h1
    have e : i = l.length := by omega
    subst e
    simp [nth]
@[go_sem,reducible] def frC (l : List P6) (a b : Nat) (is js : List Nat) (m : Int) : List AV := [rowsV l,.own a 0 is.length none,.own b 0 js.length none,.imm (.int .i64 m)]
set_option maxRecDepth 100000 in
set_option maxHeartbeats 8000000 in
theorem framed_raw (l : List P6) (hbd : ∀ p ∈ l,Bd6 48 p) (hl : l.length ≤ 1000) : TC Tryz.prog 62 [rowsV l,nts [0,1,2,3,4,5]] [] (fun v σ'=>∃ m o0 o1 t,v = .agg (frC l 2 3 (frmP (rowsR l)).1 (frmP (rowsR l)).2 m) ∧ σ' = o0 :: o1 :: ntO (frmP (rowsR l)).1 :: ntO (frmP (rowsR l)).2 :: t) := by
  have hrl : (rowsR l).length = l.length := by simp [rowsR]
  (refine TC_of_T Γ_ok Tryz.func62 rfl (by kernel_rfl) ?_;simp only [Tryz.ntmps62,Tryz.results62,List.length_cons,List.length_nil,Nat.reduceSub,Nat.reduceAdd,List.replicate,List.cons_append,List.nil_append])
  (((refine goR0 _ _ _ _ _ _ _ _ ?_ ?_ ?_ ?_ ?_ ?_ ?_ ?_) <;> (repeat intro hb) <;> first | exact True.intro | refine Lf.mk ?_))
  refine T_loopW (fun m st=>∃ (k : Nat) (d : Int),k ≤ 6 ∧ m + k = 6 ∧ st = ⟨[rowsV l,nts [0,1,2,3,4,5],.top,.top,.optr 0 0 0,.optr 1 0 0] ++ List.replicate 8 .top ++ [nts [0,1,2,3,4,5],.imm (.int .i64 6),.imm (.int .i64 k)] ++ List.replicate 35 .top,
      [.box 120 [.imm (.slice none 0 0),.imm (.slice none 0 0),.imm (.slice none 0 0),.imm (.int .i64 0)],.box 120 (frC l 2 3 (frK (rowsR l) k).1 (frK (rowsR l) k).2 d),ntO (frK (rowsR l) k).1,ntO (frK (rowsR l) k).2]⟩)
    6 ⟨_, Wk.trans (Wk.push 3 1 (ntE [])) (Wk.trans (Wk.push 3 1 (ntE [])) ?_), 0, 1, by omega, rfl, rfl⟩ ?_
  · ((try simp only [List.length_append,List.length_cons,List.length_nil,Nat.zero_add]);refine Wk.intro [0,1,2,3] (by decide) (by decide) (by intro o ho;simp at ho ⊢ <;> omega) ?_ ?_ <;> repeat' (first|exact WkVL.nil|refine WkVL.cons ?_ ?_|exact WkV.top|exact WkV.imm rfl|exact WkV.imm (by simp)|exact WkV.optr rfl|exact WkV.own rfl (by simp)|exact WkV.nil_own (.inl rfl)|exact WkV.map rfl|(refine WkV.free ?_;simp [Free,FreeL] <;> assumption)|(refine WkV.free (fun _ _=>FreeL_nth ?_ _);simp [Free,FreeL];done)|refine WkV.agg ?_|refine WkV.tup ?_|refine WkV.fn ?_ ?_|exact WkO.dead|exact WkO.raw|refine WkO.ghost ?_|exact WkO.mpE rfl trivial|refine WkO.box ?_ rfl|refine WkO.arr ?_|refine And.intro ?_ (And.intro (by first|exact fun h=>h|exact fun _=>rfl|exact nofun) ?_)|exact trivial|(intro i j hi hj)))
  rintro m st ⟨k, d, h0, h1, rfl⟩
  have hok := frK_ok (rowsR l) k
  have hln := frK_len (rowsR l) k
  have hs := frK_s (rowsR l) k
  by_cases hk : k < 6
  · have hgk : ∀ k, k < 6 → gNt [0, 1, 2, 3, 4, 5] k = k := by decide
    have hgk := hgk k hk
    generalize frK (rowsR l) k = st at hok hln hs
    obtain ⟨is, js⟩ := st
    have hlen := hok.len
    have hok1 := hok.is
    have hok2 := hok.js.2
    simp only [] at hlen hln hok1 hok2
    rw [hrl] at hok1
    have hc := nclone_tc js (by omega)
    have hst : stepF (rowsR l) (is,js) k = match pickI (rowsR l) is (js ++ [k]) with | some i => (is ++ [i],js ++ [k]) | none => (is,js) := rfl
    rw [hst] at hs
    clear hst hok
    (simp only [go_sem,↓reduceIte,Nat.reduceAdd,Nat.reduceSub,Nat.reduceMul,Nat.reduceLT,Nat.reduceLeDiff,Nat.reduceEqDiff,Nat.reduceGT,Int.reduceToNat,Int.reduceBEq,Int.reduceBNe];try simp (disch := omega) only [wrapI,wrapU,half_sum,toNat_sub1,toNat_add1,Int.toNat_natCast])
    (have cm1 := hc;have sx1 := hgk;have sx2 : (0 : Nat) + 0 = 0 := rfl;((have sx3 : (0 : Nat) + 0 = 0 := rfl;have sx4 : (0 : Nat) + 0 = 0 := rfl;have sx5 : (0 : Nat) + 0 = 0 := rfl;have sx6 : (0 : Nat) + 0 = 0 := rfl;have sx7 : (0 : Nat) + 0 = 0 := rfl;have sx8 : (0 : Nat) + 0 = 0 := rfl;have sx9 : (0 : Nat) + 0 = 0 := rfl;refine goR9 _ _ _ _ _ _ _ _ ?_ ?_ ?_ ?_ ?_ ?_ ?_ ?_) <;> (repeat intro hb) <;> first|exact True.intro|refine Lf.mk ?_))
    have hjl : (js ++ [k]).length = js.length + 1 := by simp
    refine T_loopW (fun m2 st => ∃ i : Nat,i ≤ l.length ∧ m2 + i = l.length ∧ (∀ p,p < i → det (rwL (rowsR l) (is ++ [p])) (js ++ [k]) = 0) ∧
        st = ⟨[rowsV l,nts [0,1,2,3,4,5],.top,.top,.optr 0 0 0,.optr 1 0 0,.top,.imm (.int .i64 k),.own 4 0 (js.length + 1) none] ++ List.replicate 5 .top ++ [nts [0,1,2,3,4,5],.imm (.int .i64 6),.imm (.int .i64 k)] ++ List.replicate 9 .top ++ [rowsV l,.imm (.int .i64 l.length),.imm (.int .i64 i)] ++ List.replicate 23 .top,
        [.box 120 [.imm (.slice none 0 0),.imm (.slice none 0 0),.imm (.slice none 0 0),.imm (.int .i64 0)],.box 120 (frC l 2 3 is js d),ntO is,ntO js,.arr 3 1 (js.length + 1) (ntE (js ++ [k]))]⟩)
      l.length ⟨_, ?_, 0, by omega, rfl, fun p hp => by omega, rfl⟩ ?_
    · ((try simp only [List.length_append,List.length_cons,List.length_nil,Nat.zero_add]);refine Wk.intro [0,1,2,3,6] (by decide) (by decide) (by intro o ho;simp at ho ⊢ <;> omega) ?_ ?_ <;> repeat' (first|(exact WkV.eqF (nt_snoc js k hi hj) (by simp))|exact WkVL.nil|refine WkVL.cons ?_ ?_|exact WkV.top|exact WkV.imm rfl|exact WkV.imm (by simp)|exact WkV.optr rfl|exact WkV.own rfl (by simp)|exact WkV.nil_own (.inl rfl)|exact WkV.map rfl|(refine WkV.free ?_;simp [Free,FreeL] <;> assumption)|(refine WkV.free (fun _ _=>FreeL_nth ?_ _);simp [Free,FreeL];done)|refine WkV.agg ?_|refine WkV.tup ?_|refine WkV.fn ?_ ?_|exact WkO.dead|exact WkO.raw|refine WkO.ghost ?_|exact WkO.mpE rfl trivial|refine WkO.box ?_ rfl|refine WkO.arr ?_|refine And.intro ?_ (And.intro (by first|exact fun h=>h|exact fun _=>rfl|exact nofun) ?_)|exact trivial|(intro i j hi hj)))
    rintro m2 st ⟨i, g0, g1, g2, rfl⟩
    (simp only [go_sem,↓reduceIte,Nat.reduceAdd,Nat.reduceSub,Nat.reduceMul,Nat.reduceLT,Nat.reduceLeDiff,Nat.reduceEqDiff,Nat.reduceGT,Int.reduceToNat,Int.reduceBEq,Int.reduceBNe];try simp (disch := omega) only [wrapI,wrapU,half_sum,toNat_sub1,toNat_add1,Int.toNat_natCast])
    by_cases hi : i < l.length
    · have hm := minor_tc l (is ++ [i]) (js ++ [k]) hbd (fun q hq => by
        rcases List.mem_append.1 hq with h | h
        · exact hok1 q h
        · simp only [List.mem_singleton] at h; omega) (fun q hq => by
        rcases List.mem_append.1 hq with h | h
        · have := hok2 q h; omega
        · simp only [List.mem_singleton] at h; omega) (by simp; omega) (by simp; omega)
      have hc2 := nclone_tc is (by omega)
      have hv5 := fun p q => nt_snoc is i (i := p) (j := q)
      have hil : (is ++ [i]).length = is.length + 1 := by simp
      unfold nts at hm
      rw [hil, hjl] at hm
      have hpk := fun hd => pickI_some (rows := rowsR l) (is := is) (js := js ++ [k]) (i := i) (by omega) hd g2
      generalize hdd : det (rwL (rowsR l) (is ++ [i])) (js ++ [k]) = D at hm hpk
      generalize hjj : js ++ [k] = J at *
      generalize hii : is ++ [i] = I at *
      (have cm1 := hc2;have cl1 := hm;((refine goR0 _ _ _ _ _ _ _ _ ?_ ?_ ?_ ?_ ?_ ?_ ?_ ?_) <;> (repeat intro hb) <;> first | exact True.intro | refine Lf.mk ?_))
      · have hD : D ≠ 0 := by assumption
        rw [hpk hD] at hs
        simp only [hii] at hs
        refine ⟨6 - (k + 1), by omega, _, ?_, k + 1, D, by omega, by omega, rfl⟩
        rw [hs]
        simp only [hil, hjl]
        ((try simp only [List.length_append,List.length_cons,List.length_nil,Nat.zero_add]);refine Wk.intro [0,1,7,4] (by decide) (by decide) (by intro o ho;simp at ho ⊢ <;> omega) ?_ ?_ <;> repeat' (first|(exact WkV.eqF (hv5 _ _ hi hj) (by simp))|exact WkVL.nil|refine WkVL.cons ?_ ?_|exact WkV.top|exact WkV.imm rfl|exact WkV.imm (by simp)|exact WkV.optr rfl|exact WkV.own rfl (by simp)|exact WkV.nil_own (.inl rfl)|exact WkV.map rfl|(refine WkV.free ?_;simp [Free,FreeL] <;> assumption)|(refine WkV.free (fun _ _=>FreeL_nth ?_ _);simp [Free,FreeL];done)|refine WkV.agg ?_|refine WkV.tup ?_|refine WkV.fn ?_ ?_|exact WkO.dead|exact WkO.raw|refine WkO.ghost ?_|exact WkO.mpE rfl trivial|refine WkO.box ?_ rfl|refine WkO.arr ?_|refine And.intro ?_ (And.intro (by first|exact fun h=>h|exact fun _=>rfl|exact nofun) ?_)|exact trivial|(intro i j hi hj)))
      · have hD : D = 0 := by assumption
        refine ⟨l.length - (i + 1), by omega, _, ?_, i + 1, by omega, by omega, fun p hp => ?_, rfl⟩
        · ((try simp only [List.length_append,List.length_cons,List.length_nil,Nat.zero_add]);refine Wk.intro [0,1,2,3,4] (by decide) (by decide) (by intro o ho;simp at ho ⊢ <;> omega) ?_ ?_ <;> repeat' (first|exact WkVL.nil|refine WkVL.cons ?_ ?_|exact WkV.top|exact WkV.imm rfl|exact WkV.imm (by simp)|exact WkV.optr rfl|exact WkV.own rfl (by simp)|exact WkV.nil_own (.inl rfl)|exact WkV.map rfl|(refine WkV.free ?_;simp [Free,FreeL] <;> assumption)|(refine WkV.free (fun _ _=>FreeL_nth ?_ _);simp [Free,FreeL];done)|refine WkV.agg ?_|refine WkV.tup ?_|refine WkV.fn ?_ ?_|exact WkO.dead|exact WkO.raw|refine WkO.ghost ?_|exact WkO.mpE rfl trivial|refine WkO.box ?_ rfl|refine WkO.arr ?_|refine And.intro ?_ (And.intro (by first|exact fun h=>h|exact fun _=>rfl|exact nofun) ?_)|exact trivial|(intro i j hi hj)))
        · by_cases e : p = i
          · rw [e, hii, hdd, hD]
          · exact g2 p (by omega)
    · have hpk := pickI_none (rows := rowsR l) (is := is) (js := js ++ [k]) fun p hp => g2 p (by omega)
      rw [hpk] at hs
      (((refine goR0 _ _ _ _ _ _ _ _ ?_ ?_ ?_ ?_ ?_ ?_ ?_ ?_) <;> (repeat intro hb) <;> first | exact True.intro | refine Lf.mk ?_))
      refine ⟨6 - (k + 1), by omega, _, ?_, k + 1, d, by omega, by omega, rfl⟩
      rw [hs]
      ((try simp only [List.length_append,List.length_cons,List.length_nil,Nat.zero_add]);refine Wk.intro [0,1,2,3] (by decide) (by decide) (by intro o ho;simp at ho ⊢ <;> omega) ?_ ?_ <;> repeat' (first|exact WkVL.nil|refine WkVL.cons ?_ ?_|exact WkV.top|exact WkV.imm rfl|exact WkV.imm (by simp)|exact WkV.optr rfl|exact WkV.own rfl (by simp)|exact WkV.nil_own (.inl rfl)|exact WkV.map rfl|(refine WkV.free ?_;simp [Free,FreeL] <;> assumption)|(refine WkV.free (fun _ _=>FreeL_nth ?_ _);simp [Free,FreeL];done)|refine WkV.agg ?_|refine WkV.tup ?_|refine WkV.fn ?_ ?_|exact WkO.dead|exact WkO.raw|refine WkO.ghost ?_|exact WkO.mpE rfl trivial|refine WkO.box ?_ rfl|refine WkO.arr ?_|refine And.intro ?_ (And.intro (by first|exact fun h=>h|exact fun _=>rfl|exact nofun) ?_)|exact trivial|(intro i j hi hj)))
  · obtain rfl : k = 6 := by omega
    (simp only [go_sem,↓reduceIte,Nat.reduceAdd,Nat.reduceSub,Nat.reduceMul,Nat.reduceLT,Nat.reduceLeDiff,Nat.reduceEqDiff,Nat.reduceGT,Int.reduceToNat,Int.reduceBEq,Int.reduceBNe];try simp (disch := omega) only [wrapI,wrapU,half_sum,toNat_sub1,toNat_add1,Int.toNat_natCast])
    (((refine goR0 _ _ _ _ _ _ _ _ ?_ ?_ ?_ ?_ ?_ ?_ ?_ ?_) <;> (repeat intro hb) <;> first | exact True.intro | refine Lf.mk ?_))
    exact ⟨d, _, _, _, rfl, rfl⟩
theorem framed_tc (l : List P6) (hbd : ∀ p ∈ l,Bd6 48 p) (hl : l.length ≤ 1000) : Makes Tryz.prog 62 [rowsV l,nts [0,1,2,3,4,5]] (.agg [.top,.own 0 0 (frmP (rowsR l)).1.length none,.own 1 0 (frmP (rowsR l)).2.length none,.top]) [ntO (frmP (rowsR l)).1,ntO (frmP (rowsR l)).2] :=
  Makes.gen [] (by simp [VF,VFL]) (fun a ha=>by simp only [List.mem_cons,List.not_mem_nil,or_false] at ha;rcases ha with rfl|rfl <;> exact ntE_pl _) ((framed_raw l hbd hl).mono fun v σ' ⟨m,o0,o1,t,hv,hs⟩=>⟨[2,3],by simp,fun o ho=>by
    simp only [List.mem_cons, List.not_mem_nil, or_false] at ho
    rw [hs]
    rcases ho with rfl | rfl <;> simp,by rw [hv];exact WkV.agg (WkVL.cons WkV.top (WkVL.cons (WkV.own rfl (by simp)) (WkVL.cons (WkV.own rfl (by simp)) (WkVL.cons WkV.top WkVL.nil)))),by
    rw [hs];exact ⟨WkO.arr fun i j _ _ => WkV.free trivial,fun h => h,WkO.arr fun i j _ _ => WkV.free trivial,fun h => h,trivial⟩⟩)
def rkB (l : List P6) : Bool := matB l && decide ((frmP (rowsR l)).1.length = l.length)
set_option maxRecDepth 100000 in
set_option maxHeartbeats 4000000 in
theorem rank_tc (l : List P6) (hbd : ∀ p ∈ l,Bd6 48 p) (hl : l.length ≤ 1000) : Look Tryz.prog 41 [rowsV l] (.tup [.imm (.int .i64 (if matB l = true then ((frmP (rowsR l)).1.length : Int) else 0)),.imm (.int .i64 (if matB l = true then 0 else 1))]) := by
  refine Look.mk (by simp [Pl, PlL]) ?_
  have h1 := matValid_tc l hl hbd
  have h2 := forward_tc
  have h3 := framed_tc l hbd hl
  cases hm : matB l with
  | true =>
    rw [hm] at h1
    (refine TC_of_T Γ_ok Tryz.func41 rfl (by kernel_rfl) ?_;simp only [Tryz.ntmps41,Tryz.results41,List.length_cons,List.length_nil,Nat.reduceSub,Nat.reduceAdd,List.replicate,List.cons_append,List.nil_append])
    (have cl1 := h1;have dm1 := h2;have dm2 := h3;((refine goR0 _ _ _ _ _ _ _ _ ?_ ?_ ?_ ?_ ?_ ?_ ?_ ?_) <;> (repeat intro hb) <;> first | exact True.intro | refine Lf.mk ?_))
    trace_state
  | false =>
    rw [hm] at h1
    (refine TC_of_T Γ_ok Tryz.func41 rfl (by kernel_rfl) ?_;simp only [Tryz.ntmps41,Tryz.results41,List.length_cons,List.length_nil,Nat.reduceSub,Nat.reduceAdd,List.replicate,List.cons_append,List.nil_append])
    (have cl1 := h1;have dm1 := h2;have dm2 := h3;((refine goR0 _ _ _ _ _ _ _ _ ?_ ?_ ?_ ?_ ?_ ?_ ?_ ?_) <;> (repeat intro hb) <;> first | exact True.intro | refine Lf.mk ?_))
    trace_state
end Go.Proofs.YtngfnogoicfmaaaGreatDoor
