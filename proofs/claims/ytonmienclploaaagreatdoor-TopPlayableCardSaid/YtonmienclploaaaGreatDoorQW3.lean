/-
 Parts joined: F7 F8.
-/
import Derived.Test.YtonmienclploaaaGreatDoorQGo
import Derived.Test.YtonmienclploaaaGreatDoorQF6
set_option linter.unusedSimpArgs false
set_option linter.unusedVariables false
namespace Go.Proofs.YtonmienclploaaaGreatDoor
open Go.Ab
theorem gfl_snoc (L : List (List Ft)) (l : List Ft) (i : Nat) : gfl (L ++ [l]) i = if i < L.length then gfl L i else if i = L.length then l else [] := by
 unfold gfl
 simp only [List.getD_eq_getElem?_getD]
 split
 ·rename_i h; rw [List.getElem?_append_left h]
 ·split
  ·rename_i h1 h2; subst h2; simp
  ·rename_i h1 h2; rw [List.getElem?_eq_none (by simp; omega)]; rfl
theorem wkFl {π : List Nat} {σ : List AObj} {L : List (List Ft)} {l : List Ft} {o : Nat} (hob : nthO σ o = .arr 114 2 l.length (ftE l)) (ho : ∀ p ∈ π,p ≠ o ∧ (nthO σ p).alive = true) {x j : Nat} (hx : x < L.length + 1) (hj : j < 1) :
  WkV π σ (catE L.length (flE L) (fun i j => nth [.own o 0 l.length none] (i * 1 + j)) x j) (flE (L ++ [l]) x j) := by
 obtain rfl : j = 0 := by omega
 unfold catE
 by_cases h : x < L.length
 ·rw [if_pos h, show flE (L ++ [l]) x 0 = flE L x 0 by unfold flE; rw [gfl_snoc, if_pos h]]
  exact WkV.free (flE_free _ _ _)
 ·rw [if_neg h]
  obtain rfl : x = L.length := by omega
  rw [Nat.sub_self, show flE (L ++ [l]) L.length 0 = fts l by unfold flE; rw [gfl_snoc, if_neg h, if_pos rfl]]
  exact WkV.freeze hob (by omega) ho fun i j hi hj => by rw [Nat.zero_add]; exact WkV.free (ftE_free _ _ _)
def fdA (n : Nk) (v : P6) : List Ft := fdS n v n.op.length
def flL (n : Nk) (vs : List P6) : List (List Ft) := vs.map (fdA n)
def lsM (l : List Ft) : Int := if 1 > (l.length : Int) then 1 else l.length
def lsI (p : Int) (l : List Ft) : Int := if 10001 < p * lsM l then 10001 else p * lsM l
def lsL (L : List (List Ft)) : Int := L.foldl lsI 1
def fchR (n : Nk) (vs : List P6) : List Ft × Int :=
 if (flL n vs).any (fun l => l.isEmpty) = true then ([], 4) else if 10000 < lsL (flL n vs) then ([], 2)
 else if (fSr (hldB n.span) (flL n vs) []).1 = true then ((fSr (hldB n.span) (flL n vs) []).2, 0) else ([], 20)
theorem lsL_bd (L : List (List Ft)) : ∀ p : Int, 0 ≤ p → p ≤ 10001 → 0 ≤ L.foldl lsI p ∧ L.foldl lsI p ≤ 10001 := by
 induction L with
 | nil => intro n h0 h1; exact ⟨h0, h1⟩
 | cons l L ih =>
  intro p h0 h1
  rw [List.foldl_cons]
  have hm : 0 ≤ lsM l := by unfold lsM; split <;> omega
  have := Int.mul_nonneg h0 hm
  refine ih _ ?_ ?_ <;> unfold lsI <;> split <;> omega
theorem fdF_ok (n : Nk) (v : P6) (s : Nat) : ∀ k, ∀ x ∈ fdF n v s k, 0 ≤ x.f ∧ x.f ≤ k
 | 0, x, h => by
  unfold fdF at h
  split at h
  ·rw [List.mem_singleton] at h; subst h; exact ⟨Int.le_refl _, Int.le_refl _⟩
  ·cases h
 | k + 1, x, h => by
  unfold fdF at h
  rcases List.mem_append.1 h with h | h
  ·have := fdF_ok n v s k x h; omega
  ·split at h
   ·rw [List.mem_singleton] at h; subst h; simp only []; omega
   ·cases h
theorem fdS_ok (n : Nk) (v : P6) : ∀ s, ∀ x ∈ fdS n v s, 0 ≤ x.f ∧ x.f ≤ n.fr.length
 | 0, x, h => by cases h
 | s + 1, x, h => by
  unfold fdS at h
  rcases List.mem_append.1 h with h | h
  ·exact fdS_ok n v s x h
  ·exact fdF_ok n v s _ x h
@[go_sem, reducible] def cfC : List AV := [.optr 3 0 0, .optr 1 0 0, .optr 0 0 0, .optr 4 0 0]
def cfO (n : Nk) (L : List (List Ft)) : List AObj := [.box 52 (nkL n),.box 264 [.own 2 0 L.length none],flO L,.box 112 [.imm (.slice none 0 0)],.box 28 [.fn (.func 177) [] cfC],.arr 114 2 0 (ftE [])]
section
variable (n : Nk) (L : List (List Ft))
theorem cf_al {k : Nat} (h5 : k ≠ 3) (h7 : k ≠ 5) : ∀ q ∈ [3, 5], q ≠ k ∧ (nthO (cfO n L) q).alive = true := by
 intro q hq
 simp only [List.mem_cons, List.not_mem_nil, or_false] at hq
 rcases hq with rfl | rfl
 ·exact ⟨Ne.symm h5, rfl⟩
 ·exact ⟨Ne.symm h7, rfl⟩
theorem cf_n : WkV [3,5] (cfO n L) (.optr 0 0 0) (fN n) := WkV.freezeB (o := 0) (cells := nkL n) rfl (Nat.le_refl _) (cf_al n L (by decide) (by decide)) fun j hj => WkV.free (fN_free n j)
theorem cf_l : WkV [3, 5] (cfO n L) (.optr 1 0 0) (fA L) :=
 WkV.freezeB (o := 1) (cells := [.own 2 0 L.length none]) rfl (Nat.le_refl _) (cf_al n L (by decide) (by decide)) fun j hj => by
  obtain rfl : j = 0 := by omega
  exact WkV.freeze (o := 2) (ety := 112) (n := L.length) (e := flE L) rfl (by omega) (cf_al n L (by decide) (by decide)) fun i j hi hj => by rw [Nat.zero_add];exact WkV.free (flE_free _ _ _)
theorem cf_s : ∀ r, WkV [3, 5] (cfO n L) (.optr 4 0 0) (fS n L r)
 | 0 => WkV.freezeB (o := 4) (ety := 28) (cells := [.fn (.func 177) [] cfC]) rfl (Nat.le_refl _) (cf_al n L (by decide) (by decide)) fun j hj => WkV.top
 | r + 1 => WkV.freezeB (o := 4) (ety := 28) (cells := [.fn (.func 177) [] cfC]) rfl (Nat.le_refl _) (cf_al n L (by decide) (by decide)) fun j hj => by
  obtain rfl : j = 0 := by omega
  exact WkV.fn WkVL.nil (WkVL.cons (WkV.optr rfl) (WkVL.cons (cf_l n L) (WkVL.cons (cf_n n L) (WkVL.cons (cf_s r) WkVL.nil))))
theorem cf_args (r : Nat) : WkVL [3, 5] (cfO n L) cfC [.optr 0 0 0, fA L, fN n, fS n L r] :=
 WkVL.cons (WkV.optr rfl) (WkVL.cons (cf_l n L) (WkVL.cons (cf_n n L) (WkVL.cons (cf_s n L r) WkVL.nil)))
theorem cf_objs : WkOL [3, 5] (cfO n L) [3, 5] (fsO []) :=
 ⟨WkO.box (WkVL.cons (WkV.nil_own (.inl rfl)) WkVL.nil) rfl,fun _ => rfl,WkO.arr fun i j hi => by omega,fun _ => rfl,trivial⟩
end
set_option maxRecDepth 100000 in
set_option maxHeartbeats 8000000 in
theorem fchord_raw (n : Nk) (vs : List P6) (hn : nkB n = true) (hv : vs.length ≤ 12) (ha : ∀ i,i < vs.length → vOk (gV vs i) = true) : TC Tryz.prog 174 [nkA n,vts vs] [] (fun v σ' =>
  (v = .tup [.imm (.slice none 0 0), .imm (.int .i64 (fchR n vs).2)] ∧ (fchR n vs).1.length = 0) ∨
  ∃ k E',v = .tup [.own k 0 (fchR n vs).1.length none,.imm (.int .i64 (fchR n vs).2)] ∧ nthO σ' k = .arr 114 2 (fchR n vs).1.length E' ∧ ∀ i j,i < (fchR n vs).1.length → j < 2 → E' i j = ftE (fchR n vs).1 i j) := by
 have hs := nkS_iff.1 (nkB_iff.1 hn).1
 have c1 := fvalid_tc n (by omega) (by omega)
 rw [hn] at c1
 have e1 : decide ((vs.length : Int) > 12) = false := decide_eq_false (by omega)
 unfold fchR
 (refine TC_of_T Γ_ok Tryz.func174 rfl (by kernel_rfl) ?_;simp only [Tryz.ntmps174,Tryz.results174,List.length_cons,List.length_nil,Nat.reduceSub,Nat.reduceAdd,List.replicate,List.cons_append,List.nil_append])
 (have cl1 := c1;have sx1 := e1;have sx2:=sx0;((obtain ⟨sx3,sx4,sx5,sx6,sx7,sx8,sx9⟩:=sx0_7;refine goR9 _ _ _ _ _ _ _ _ ?_ ?_ ?_ ?_ ?_ ?_ ?_ ?_)<;>(repeat intro hb)<;>first|exact True.intro|refine Lf.mk ?_))
 refine T_loopW (fun m st => ∃ (i : Nat) (L : List (List Ft)),i ≤ vs.length ∧ m + i = vs.length ∧ L = (vs.take i).map (fdA n) ∧ L.length = i ∧
   st = ⟨[.top,vts vs,.optr 0 0 0,.top,.imm (.slice none 0 0),.imm (.int .i64 0),.optr 1 0 0,.imm (.bool (L.any (fun l=>l.isEmpty))),.imm (.int .i64 (lsL L))] ++ List.replicate 14 .top ++ [vts vs,.imm (.int .i64 vs.length),.imm (.int .i64 i)] ++ List.replicate 37 .top,
    [.box 52 (nkL n), .box 264 [.own 2 0 L.length none], flO L]⟩)
  vs.length ⟨_, Wk.trans (Wk.push 112 1 (flE [])) ?_, 0, [], by omega, rfl, rfl, rfl, rfl⟩ ?_
 ·((try refine sgl ?_);exact wkI [0,1,2])
 rintro m st ⟨i, L, f0, f1, hL, hLi, rfl⟩
 have hpb := lsL_bd L 1 (by omega) (by omega)
 have hpe : lsL L = L.foldl lsI 1 := rfl
 rw [← hpe] at hpb
 by_cases hi : i < vs.length
 ·have hf := ffind_tc n (gV vs i) hn (ha i hi)
  have hfl := fdS_len n (gV vs i) (by omega) n.op.length
  have hL2 : L ++ [fdS n (gV vs i) n.op.length] = (vs.take (i + 1)).map (fdA n) := by rw [take_gV hi,List.map_append,hL];rfl
  generalize fdS n (gV vs i) n.op.length = l at hf hfl hL2
  have hpn : lsL (L ++ [l]) = lsI (lsL L) l := by unfold lsL; rw [List.foldl_append]; rfl
  have hany : (L ++ [l]).any (fun l => l.isEmpty) = (L.any (fun l => l.isEmpty) || l.isEmpty) := by rw [List.any_append];simp
  have hle : ((l.length : Int) == 0) = l.isEmpty := by cases l <;> simp; omega
  have hlM : (if 1 > (l.length : Int) then (1 : Int) else l.length) = lsM l := rfl
  have hmb : 0 ≤ lsM l ∧ lsM l ≤ 1000 := by unfold lsM; split <;> omega
  have hli : lsI (lsL L) l = if 10001 < lsL L * lsM l then 10001 else lsL L * lsM l := rfl
  have hlL : (L ++ [l]).length = L.length + 1 := by simp
  generalize hA : L.any (fun l => l.isEmpty) = A at hany
  generalize hP : lsL L = p at hpn hpb hli
  have hmw : IntKind.i64.wrap (p * lsM l) = p * lsM l := by
   have a1 := Int.mul_nonneg hpb.1 hmb.1
   have a2 := Int.mul_le_mul hpb.2 hmb.2 hmb.1 (by omega)
   exact wrapI (by omega) (by omega)
  generalize lsM l = q at hlM hmb hli hmw
  refine sgo ?_
  (have cm1 := hf;have sx1 := hle;have sx2 := hlM;have sx3 := hmw;have sx4:=sx0;((obtain ⟨sx5,sx6,sx7,sx8,sx9⟩:=sx0_5;refine goR9 _ _ _ _ _ _ _ _ ?_ ?_ ?_ ?_ ?_ ?_ ?_ ?_)<;>(repeat intro hb)<;>first|exact True.intro|refine Lf.mk ?_))
  refine ⟨vs.length - (i + 1), by omega, _, ?_, i + 1, L ++ [l], by omega, by omega, hL2, by rw [hlL, hLi], rfl⟩
  rw [hpn, hli, hany]
  ((try refine sgl ?_);refine Wk.intro [0,1,6] (by decide) (by decide) wkH ?_ ?_ <;> repeat' (first|(exact wkFl (o := 4) rfl (by intro p hp;simp only [List.mem_cons,List.not_mem_nil,or_false] at hp;rcases hp with rfl|rfl|rfl <;> exact ⟨by decide,rfl⟩) (by simpa using hi) hj)|(refine WkV.imm ?_;congr 1;omega)|refine WkVL.cons ?_ ?_|exact wkT|refine WkV.agg ?_|refine WkV.tup ?_|refine WkV.fn ?_ ?_|exact WkO.dead|exact WkO.raw|refine WkO.ghost ?_|exact WkO.mpE rfl trivial|refine WkO.box ?_ rfl|refine WkO.arr ?_|refine And.intro ?_ (And.intro aF ?_)|exact trivial|(intro i j hi hj)))
 ·obtain rfl : i = vs.length := by omega
  rw [List.take_length] at hL
  have hLo : flL n vs = L := hL.symm
  have hlen : ∀ l ∈ L, l.length ≤ 400 := fun l hl => by
   rw [hL] at hl
   obtain ⟨v, _, rfl⟩ := List.mem_map.1 hl
   have := fdS_len n v (by omega) n.op.length
   unfold fdA; omega
  have hfo : ∀ l ∈ L, ∀ x ∈ l, 0 ≤ x.f ∧ x.f ≤ 1000 := fun l hl x hx => by
   rw [hL] at hl
   obtain ⟨v, _, rfl⟩ := List.mem_map.1 hl
   have := fdS_ok n v n.op.length x hx
   omega
  rw [hLo]
  cases hA : L.any (fun l => l.isEmpty) with
  | true =>
   rw [if_pos rfl]
   refine sgo ?_
   (((refine goR0 _ _ _ _ _ _ _ _ ?_ ?_ ?_ ?_ ?_ ?_ ?_ ?_)<;>(repeat intro hb)<;>first|exact True.intro|refine Lf.mk ?_))
   exact .inl trivial
  | false =>
   rw [if_neg (by simp)]
   by_cases hP : 10000 < lsL L
   ·rw [if_pos hP]
    have e2 : decide (lsL L > 10000) = true := decide_eq_true hP
    refine sgo ?_
    (have sx1 := e2;have sx2:=sx0;((obtain ⟨sx3,sx4,sx5,sx6,sx7,sx8,sx9⟩:=sx0_7;refine goR9 _ _ _ _ _ _ _ _ ?_ ?_ ?_ ?_ ?_ ?_ ?_ ?_)<;>(repeat intro hb)<;>first|exact True.intro|refine Lf.mk ?_))
    exact .inl trivial
   ·rw [if_neg hP]
    have e2 : decide (lsL L > 10000) = false := decide_eq_false hP
    have hsc := fsearch_tc n L (by omega) hlen hfo L.length [] (by simp) (fun x hx => by cases hx)
    generalize fSr (hldB n.span) L [] = x at hsc
    obtain ⟨xb, xl⟩ := x
    simp only [] at hsc
    have hT : Turns Tryz.prog 177 _ _ _ _ := ⟨hsc, trivial, fsP_vf _⟩
    cases xb with
    | false =>
     rw [if_neg (by simp)]
     refine sgo ?_
     repeat' (first
  | (with_reducible refine hK _ ?_; clear hK K)
  | ((refine callGoal_turns [3,5] trivial hT (by decide) ?_ (cf_args n L L.length) (cf_objs n L) ?_);(focus (simp [nthO,AObj.alive]));refine sgo ?_)
  | ((refine T_wkR 22 _ (Wk.push 114 2 (ftE [])) ?_);(refine T_seq_region Γ_ok (fun K hK=>?_));refine sgo ?_)
  | ((with_reducible apply DC_call);(focus exact rfl);(focus exact rfl);(focus exact rfl);intro N hN;(simp only [go_sem,e2,↓reduceIte,Nat.reduceAdd,Nat.reduceSub,Nat.reduceMul,Nat.reduceLT,Nat.reduceLeDiff,Nat.reduceEqDiff,Nat.reduceGT,Int.reduceToNat,Int.reduceBEq,Int.reduceBNe];try simp (disch := omega) only [wrapI,wrapU,half_sum,toNat_sub1,toNat_add1,Int.toNat_natCast]))
  | ((with_reducible first|refine T_seq_region Γ_ok (fun K hK=>?_)|refine T_last_region Γ_ok (fun K hK=>?_)|refine TO_callN rfl (fun N hN=>?_)|refine DCT_fork Γ_ok (fun K2 hK2=>?_)|refine DCT_last Γ_ok ?_|refine DC_ev Γ_ok ?_|refine TO_ev Γ_ok ?_|refine retQ_r ?_|refine retQ_n ?_);(simp only [go_sem,e2,↓reduceIte,Nat.reduceAdd,Nat.reduceSub,Nat.reduceMul,Nat.reduceLT,Nat.reduceLeDiff,Nat.reduceEqDiff,Nat.reduceGT,Int.reduceToNat,Int.reduceBEq,Int.reduceBNe];try simp (disch := omega) only [wrapI,wrapU,half_sum,toNat_sub1,toNat_add1,Int.toNat_natCast]))
  | (with_reducible refine hK2 _ ?_ ?_ <;> clear hK2 K2)
  | with_reducible first|refine gC_false ?_|refine gC_true ?_|refine dCall_true ?_
  | (with_reducible refine hN _ _ ?_; clear hN N)
  | (with_reducible refine hN _ _ (dInl rfl) ?_; clear hN N)
  | ((with_reducible refine hN _ _ (.inr ?_) ?_);(focus (simp only [go_sem,e2,↓reduceIte,Nat.reduceAdd,Nat.reduceSub,Nat.reduceMul,Nat.reduceLT,Nat.reduceLeDiff,Nat.reduceEqDiff,Nat.reduceGT,Int.reduceToNat,Int.reduceBEq,Int.reduceBNe];try simp (disch := omega) only [wrapI,wrapU,half_sum,toNat_sub1,toNat_add1,Int.toNat_natCast]));all_goals (try clear hN N))
  | with_reducible first|refine T_seq ?_|refine T_block ?_|refine T_ret ?_|refine T_exit ?_|refine T_skip ?_|refine T_label ?_
  | with_reducible first|refine thenQ_n ?_|refine thenQ_e ?_|refine thenQ_r ?_|refine blockQ_n ?_|refine blockQ_e ?_|refine blockQ_r ?_
  | with_reducible refine blockQ_o (by decide) ?_
  | ((with_reducible refine T_cond _ rfl (fun hb=>?_) (fun hb=>?_)) <;> first|(cases hb;done)|replace hb:=sgh hb|skip)
  | (with_reducible refine And.intro aG ?_)
  | assumption | omega | exact True.intro)
     exact .inl trivial
    | true =>
     rw [if_pos rfl]
     refine sgo ?_
     repeat' (first
  | (with_reducible refine hK _ ?_; clear hK K)
  | ((refine callGoal_turns [3,5] trivial hT (by decide) ?_ (cf_args n L L.length) (cf_objs n L) ?_);(focus (simp [nthO,AObj.alive]));refine sgo ?_)
  | ((refine T_wkR 22 _ (Wk.push 114 2 (ftE [])) ?_);(refine T_seq_region Γ_ok (fun K hK=>?_));refine sgo ?_)
  | ((with_reducible apply DC_call);(focus exact rfl);(focus exact rfl);(focus exact rfl);intro N hN;(simp only [go_sem,e2,↓reduceIte,Nat.reduceAdd,Nat.reduceSub,Nat.reduceMul,Nat.reduceLT,Nat.reduceLeDiff,Nat.reduceEqDiff,Nat.reduceGT,Int.reduceToNat,Int.reduceBEq,Int.reduceBNe];try simp (disch := omega) only [wrapI,wrapU,half_sum,toNat_sub1,toNat_add1,Int.toNat_natCast]))
  | ((with_reducible first|refine T_seq_region Γ_ok (fun K hK=>?_)|refine T_last_region Γ_ok (fun K hK=>?_)|refine TO_callN rfl (fun N hN=>?_)|refine DCT_fork Γ_ok (fun K2 hK2=>?_)|refine DCT_last Γ_ok ?_|refine DC_ev Γ_ok ?_|refine TO_ev Γ_ok ?_|refine retQ_r ?_|refine retQ_n ?_);(simp only [go_sem,e2,↓reduceIte,Nat.reduceAdd,Nat.reduceSub,Nat.reduceMul,Nat.reduceLT,Nat.reduceLeDiff,Nat.reduceEqDiff,Nat.reduceGT,Int.reduceToNat,Int.reduceBEq,Int.reduceBNe];try simp (disch := omega) only [wrapI,wrapU,half_sum,toNat_sub1,toNat_add1,Int.toNat_natCast]))
  | (with_reducible refine hK2 _ ?_ ?_ <;> clear hK2 K2)
  | with_reducible first|refine gC_false ?_|refine gC_true ?_|refine dCall_true ?_
  | (with_reducible refine hN _ _ ?_; clear hN N)
  | (with_reducible refine hN _ _ (dInl rfl) ?_; clear hN N)
  | ((with_reducible refine hN _ _ (.inr ?_) ?_);(focus (simp only [go_sem,e2,↓reduceIte,Nat.reduceAdd,Nat.reduceSub,Nat.reduceMul,Nat.reduceLT,Nat.reduceLeDiff,Nat.reduceEqDiff,Nat.reduceGT,Int.reduceToNat,Int.reduceBEq,Int.reduceBNe];try simp (disch := omega) only [wrapI,wrapU,half_sum,toNat_sub1,toNat_add1,Int.toNat_natCast]));all_goals (try clear hN N))
  | with_reducible first|refine T_seq ?_|refine T_block ?_|refine T_ret ?_|refine T_exit ?_|refine T_skip ?_|refine T_label ?_
  | with_reducible first|refine thenQ_n ?_|refine thenQ_e ?_|refine thenQ_r ?_|refine blockQ_n ?_|refine blockQ_e ?_|refine blockQ_r ?_
  | with_reducible refine blockQ_o (by decide) ?_
  | ((with_reducible refine T_cond _ rfl (fun hb=>?_) (fun hb=>?_)) <;> first|(cases hb;done)|replace hb:=sgh hb|skip)
  | (with_reducible refine And.intro aG ?_)
  | assumption | omega | exact True.intro)
     exact .inr ⟨6, _, rfl, rfl, fun _ _ _ _ => rfl⟩
theorem fchord_tc (n : Nk) (vs : List P6) (hn : nkB n = true) (hv : vs.length ≤ 12) (ha : ∀ i,i < vs.length → vOk (gV vs i) = true) : Makes Tryz.prog 174 [nkA n,vts vs] (.tup [.own 0 0 (fchR n vs).1.length none,.imm (.int .i64 (fchR n vs).2)]) [ftO (fchR n vs).1] :=
 Makes.lstJ (ftE_pl _) trivial (fchord_raw n vs hn hv ha)
end Go.Proofs.YtonmienclploaaaGreatDoor
namespace Go.Proofs.YtonmienclploaaaGreatDoor
open Go.Ab
theorem dfsF_spec (ok : List Ft → Bool) : ∀ (L : List (List Ft)) (c : List Ft),(dfsF ok L c).1 = true → ∃ t,(dfsF ok L c).2 = c ++ t ∧ t.length = L.length ∧ (∀ i,i < L.length → gF t i ∈ gfl L i) ∧ (L ≠ [] → ok (c ++ t) = true)
 | [], c, _ => ⟨[], by simp [dfsF], rfl, fun i hi => by simp at hi, fun h => absurd rfl h⟩
 | l :: r, c, h => by
  have key : ∀ (l : List Ft) (u : List Ft),(l.foldl (fun st f => if st.1 = true then st else if ok (c ++ [f]) = true then dfsF ok r (c ++ [f]) else (false,c ++ [f])) (false,u)).1 = true →
    ∃ f ∈ l,ok (c ++ [f]) = true ∧ (dfsF ok r (c ++ [f])).1 = true ∧ l.foldl (fun st f=>if st.1 = true then st else if ok (c ++ [f]) = true then dfsF ok r (c ++ [f]) else (false,c ++ [f])) (false,u) = dfsF ok r (c ++ [f]) := by
   intro l
   induction l with
   | nil => intro u h; simp at h
   | cons f l ih =>
    intro u h
    rw [List.foldl_cons] at h ⊢
    rw [if_neg (by simp)] at h ⊢
    by_cases hok : ok (c ++ [f]) = true
    ·rw [if_pos hok] at h ⊢
     generalize hy : dfsF ok r (c ++ [f]) = y at h ⊢
     obtain ⟨yb, yl⟩ := y
     cases yb with
     | true =>
      have e : ∀ l : List Ft,l.foldl (fun st f => if st.1 = true then st else if ok (c ++ [f]) = true then dfsF ok r (c ++ [f]) else (false,c ++ [f])) (true,yl) = (true,yl) := by
       intro l
       induction l with
       | nil => rfl
       | cons g l ih => rw [List.foldl_cons, if_pos rfl]; exact ih
      exact ⟨f, by simp, hok, by rw [hy], by rw [e, hy]⟩
     | false =>
      obtain ⟨g, hg, h1, h2, h3⟩ := ih yl h
      exact ⟨g, List.mem_cons_of_mem _ hg, h1, h2, h3⟩
    ·rw [if_neg hok] at h ⊢
     obtain ⟨g, hg, h1, h2, h3⟩ := ih _ h
     exact ⟨g, List.mem_cons_of_mem _ hg, h1, h2, h3⟩
  rw [dfsF] at h
  obtain ⟨f, hf, hok, h1, h2⟩ := key l _ h
  obtain ⟨t, e, ht, hm, hk⟩ := dfsF_spec ok r (c ++ [f]) h1
  refine ⟨f :: t, ?_, by simp [ht], fun i hi => ?_, fun _ => ?_⟩
  ·rw [dfsF, h2, e]; simp
  ·cases i with
   | zero => exact hf
   | succ i => exact hm i (by simpa using hi)
  ·by_cases hr : r = []
   ·subst hr
    have : t = [] := List.eq_nil_of_length_eq_zero (by simpa using ht)
    subst this
    exact hok
   ·have := hk hr
    simpa using this
theorem fchR_ok {n : Nk} {vs : List P6} (h : (fchR n vs).2 = 0) : (fchR n vs).1.length = vs.length ∧ (∀ i,i < vs.length → gF (fchR n vs).1 i ∈ fdA n (gV vs i)) ∧ hldB n.span (fchR n vs).1 = true := by
 unfold fchR at h ⊢
 split at h
 ·cases h
 ·rename_i h1
  split at h
  ·cases h
  ·rename_i h2
   split at h
   ·rename_i h3
    rw [if_neg h1, if_neg h2, if_pos h3]
    unfold fSr at h3 ⊢
    obtain ⟨t, e, ht, hm, hk⟩ := dfsF_spec _ _ _ h3
    simp only [List.length_nil, List.drop_zero, List.nil_append] at e ht hm hk h3 ⊢
    rw [e]
    have hl : (flL n vs).length = vs.length := List.length_map _
    refine ⟨by rw [ht, hl], fun i hi => ?_, ?_⟩
    ·have := hm i (by omega)
     rwa [show gfl (flL n vs) i = fdA n (gV vs i) by simp [gfl, flL, gV, hi]] at this
    ·by_cases hv : flL n vs = []
     ·rw [hv] at ht
      have : t = [] := List.eq_nil_of_length_eq_zero ht
      subst this
      exact decide_eq_true fun i hi => by simp at hi
     ·exact hk hv
   ·cases h
theorem fdF_mem {n : Nk} {v : P6} {s : Nat} : ∀ {k : Nat} {x : Ft},x ∈ fdF n v s k → x.s = s ∧ ((x.f = 0 ∧ nrO n v s = true) ∨ ∃ q : Nat,q < k ∧ x.f = (q : Int) + 1 ∧ nrF n v s q = true)
 | 0, x, h => by
  unfold fdF at h
  split at h
  ·rename_i h1; rw [List.mem_singleton] at h; subst h; exact ⟨rfl, .inl ⟨rfl, h1⟩⟩
  ·cases h
 | k + 1, x, h => by
  unfold fdF at h
  rcases List.mem_append.1 h with h | h
  ·obtain ⟨h1, h2⟩ := fdF_mem h
   refine ⟨h1, h2.imp id ?_⟩
   rintro ⟨q, hq, h3, h4⟩
   exact ⟨q, by omega, h3, h4⟩
  ·split at h
   ·rename_i h1; rw [List.mem_singleton] at h; subst h; exact ⟨rfl, .inr ⟨k, by omega, rfl, h1⟩⟩
   ·cases h
theorem fdS_mem {n : Nk} {v : P6} : ∀ {d : Nat} {x : Ft},x ∈ fdS n v d → ∃ s : Nat,s < d ∧ x.s = s ∧ ((x.f = 0 ∧ nrO n v s = true) ∨ ∃ q : Nat,q < n.fr.length ∧ x.f = (q : Int) + 1 ∧ nrF n v s q = true)
 | 0, x, h => by cases h
 | d + 1, x, h => by
  unfold fdS at h
  rcases List.mem_append.1 h with h | h
  ·obtain ⟨s, hs, h⟩ := fdS_mem h
   exact ⟨s, by omega, h⟩
  ·exact ⟨d, by omega, fdF_mem h⟩
def nbI (x : Ft) : Int := 100 * x.s + x.f
theorem nb_snoc {l : List Ft} {i : Nat} (h : i < l.length) : (l.take (i + 1)).map nbI = (l.take i).map nbI ++ [nbI (gF l i)] := by
 rw [take_gF h, List.map_append]; rfl
def FtBd (l : List Ft) : Prop := ∀ i,i < l.length → (0 ≤ (gF l i).s ∧ (gF l i).s ≤ 1000) ∧ 0 ≤ (gF l i).f ∧ (gF l i).f ≤ 1000
set_option maxRecDepth 100000 in
set_option maxHeartbeats 4000000 in
theorem numbers_tc (n : Nk) (l : List Ft) (hl : l.length ≤ 1000000) (ho : FtBd l) : Makes Tryz.prog 175 [nkA n,fts l] (.own 0 0 l.length none) [.arr 3 1 l.length (itE (l.map nbI))] := by
 refine Makes.lst1J (itE_pl _) ?_
 (refine TC_of_T Γ_ok Tryz.func175 rfl (by kernel_rfl) ?_;simp only [Tryz.ntmps175,Tryz.results175,List.length_cons,List.length_nil,Nat.reduceSub,Nat.reduceAdd,List.replicate,List.cons_append,List.nil_append])
 (((refine goR0 _ _ _ _ _ _ _ _ ?_ ?_ ?_ ?_ ?_ ?_ ?_ ?_)<;>(repeat intro hb)<;>first|exact True.intro|refine Lf.mk ?_))
 refine T_loopW (fun m st=>∃ i : Nat,i ≤ l.length ∧ m + i = l.length ∧ st = ⟨[.top,.top,.top,.top,.imm (.slice none 0 0),.own 1 0 i none,.top,.top,fts l,.imm (.int .i64 l.length),.imm (.int .i64 i)] ++ List.replicate 14 .top,[.box 132 (nkL n),.arr 3 1 i (itE ((l.take i).map nbI))]⟩)
  l.length ⟨_, Wk.trans (Wk.push 3 1 (itE [])) ?_, 0, by omega, rfl, rfl⟩ ?_
 ·((try refine sgl ?_);exact wkI [0,1])
 rintro m st ⟨i, g0, g1, rfl⟩
 by_cases hi : i < l.length
 ·have hb1 := ho i hi
  have hsn := fun p q => it_snoc ((l.take i).map nbI) (nbI (gF l i)) (i := p) (j := q)
  rw [← nb_snoc hi, show ((l.take i).map nbI).length = i by simp; omega] at hsn
  have hnb : nbI (gF l i) = 100 * (gF l i).s + (gF l i).f := rfl
  rw [hnb] at hsn
  refine sgo ?_
  (((refine goR0 _ _ _ _ _ _ _ _ ?_ ?_ ?_ ?_ ?_ ?_ ?_ ?_)<;>(repeat intro hb)<;>first|exact True.intro|refine Lf.mk ?_))
  refine ⟨l.length - (i + 1), by omega, _, ?_, i + 1, by omega, by omega, rfl⟩
  ((try refine sgl ?_);refine Wk.intro [0,4] (by decide) (by decide) wkH ?_ ?_ <;> repeat' (first|(exact WkV.eqF (hsn _ _ hi hj) (by simp))|refine WkVL.cons ?_ ?_|exact wkT|refine WkV.agg ?_|refine WkV.tup ?_|refine WkV.fn ?_ ?_|exact WkO.dead|exact WkO.raw|refine WkO.ghost ?_|exact WkO.mpE rfl trivial|refine WkO.box ?_ rfl|refine WkO.arr ?_|refine And.intro ?_ (And.intro aF ?_)|exact trivial|(intro i j hi hj)))
 ·obtain rfl : i = l.length := by omega
  refine sgo ?_
  (((refine goR0 _ _ _ _ _ _ _ _ ?_ ?_ ?_ ?_ ?_ ?_ ?_ ?_)<;>(repeat intro hb)<;>first|exact True.intro|refine Lf.mk ?_))
  exact .inr ⟨1, _, rfl, rfl, fun _ _ _ _ => by rw [List.take_length]; rfl⟩
set_option maxRecDepth 100000 in
set_option maxHeartbeats 4000000 in
theorem strvalid_tc (n : Nk) (h1 : n.op.length ≤ 9223372036854775807) (h2 : n.fr.length ≤ 1000000) : Look Tryz.prog 173 [nkA n] (.imm (.bool (nkB n))) := by
 refine Look.mk trivial ?_
 (refine TC_of_T Γ_ok Tryz.func173 rfl (by kernel_rfl) ?_;simp only [Tryz.ntmps173,Tryz.results173,List.length_cons,List.length_nil,Nat.reduceSub,Nat.reduceAdd,List.replicate,List.cons_append,List.nil_append])
 (have cl1 := fvalid_tc n h1 h2;((refine goR0 _ _ _ _ _ _ _ _ ?_ ?_ ?_ ?_ ?_ ?_ ?_ ?_)<;>(repeat intro hb)<;>first|exact True.intro|refine Lf.mk ?_))
theorem fchR_bd {n : Nk} {vs : List P6} (hn : nkB n = true) : FtBd (fchR n vs).1 := by
 have hs := nkS_iff.1 (nkB_iff.1 hn).1
 by_cases h : (fchR n vs).2 = 0
 ·obtain ⟨h1, h2, _⟩ := fchR_ok h
  intro i hi
  obtain ⟨s, hs1, e, h3⟩ := fdS_mem (h2 i (by omega))
  rcases h3 with ⟨h3, _⟩ | ⟨q, hq, h3, _⟩ <;> omega
 ·have : (fchR n vs).1 = [] := by
   unfold fchR at h ⊢
   split
   ·rfl
   ·rename_i h1
    rw [if_neg h1] at h
    split
    ·rfl
    ·rename_i h2
     rw [if_neg h2] at h
     split
     ·rename_i h3; rw [if_pos h3] at h; exact absurd rfl h
     ·rfl
  rw [this]
  intro i hi
  simp at hi
theorem fchR_len {n : Nk} {vs : List P6} (hv : vs.length ≤ 12) : (fchR n vs).1.length ≤ 12 := by
 by_cases h : (fchR n vs).2 = 0
 ·rw [(fchR_ok h).1]; exact hv
 ·unfold fchR at h ⊢
  split
  ·simp
  ·rename_i h1
   rw [if_neg h1] at h
   split
   ·simp
   ·rename_i h2
    rw [if_neg h2] at h
    split
    ·rename_i h3; rw [if_pos h3] at h; exact absurd rfl h
    ·simp
set_option maxRecDepth 100000 in
set_option maxHeartbeats 4000000 in
theorem strbest_tc (n : Nk) (vs : List P6) (hn : nkB n = true) (hv : vs.length ≤ 12) (ha : ∀ i,i < vs.length → vOk (gV vs i) = true) : Makes Tryz.prog 171 [nkA n,vts vs] (.tup [.own 0 0 (fchR n vs).1.length none,.imm (.int .i64 (fchR n vs).2)]) [.arr 3 1 (fchR n vs).1.length (itE ((fchR n vs).1.map nbI))] := by
 have c1 := fchord_tc n vs hn hv ha
 have hl := fchR_len (n := n) hv
 have c2 := numbers_tc n (fchR n vs).1 (by omega) (fchR_bd hn)
 refine Makes.lstJ (itE_pl _) trivial ?_
 (refine TC_of_T Γ_ok Tryz.func171 rfl (by kernel_rfl) ?_;simp only [Tryz.ntmps171,Tryz.results171,List.length_cons,List.length_nil,Nat.reduceSub,Nat.reduceAdd,List.replicate,List.cons_append,List.nil_append])
 (have dm1 := c1;have cm1 := c2;((refine goR0 _ _ _ _ _ _ _ _ ?_ ?_ ?_ ?_ ?_ ?_ ?_ ?_)<;>(repeat intro hb)<;>first|exact True.intro|refine Lf.mk ?_))
 exact .inr ⟨2, _, rfl, rfl, fun _ _ _ _ => rfl⟩
end Go.Proofs.YtonmienclploaaaGreatDoor
