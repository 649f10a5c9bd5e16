/-
 The search of board.Chord.
-/
import Derived.Test.YtonmienclploaaaGreatDoorQGo
import Derived.Test.YtonmienclploaaaGreatDoorQGo2
import Derived.Test.YtonmienclploaaaGreatDoorQY3
import Derived.Test.YtonmienclploaaaGreatDoorQV8i
set_option linter.unusedSimpArgs false
set_option linter.unusedVariables false
namespace Go.Proofs.YtonmienclploaaaGreatDoor.B
open Go.Ab
structure SrOk (b : Bd) (L : List (List Int)) : Prop where
 g : Good b
 few : L.length ≤ 12
 len : ∀ l ∈ L, l.length ≤ 120
 key : ∀ l ∈ L, ∀ id ∈ l, (keyOf b.ks id).isSome = true
def srR (b : Bd) (L : List (List Int)) (c : List Int) : Option (List Int) := dfs (okC b) (L.drop c.length) c
def srS (b : Bd) (L : List (List Int)) (c : List Int) (id : Int) : Option (List Int) := if id ∈ c then none else if okC b (c ++ [id]) = true then srR b L (c ++ [id]) else none
theorem srR_eq {b : Bd} {L : List (List Int)} {c : List Int} (h : c.length < L.length) : srR b L c = (gl L c.length).findSome? (srS b L c) := by
 unfold srR
 rw [List.drop_eq_getElem_cons h, dfs]
 have e : gl L c.length = L[c.length] := by simp [gl, h]
 rw [e]
 congr 1
 funext id
 unfold srS srR
 simp
@[go_sem, reducible] def cA (L : List (List Int)) : AV := .rptr 1 (fun _ => ols L)
@[go_sem, reducible] def cK (b : Bd) : AV := .rptr 1 (fun _ => kV b)
def bdE (b : Bd) (j : Nat) : AV := nth (bdL b) j
@[go_sem] theorem bdE_1 (b : Bd) : bdE b 1 = .imm (.int .i64 b.span) := rfl
@[go_sem, reducible] def cB (b : Bd) : AV := .rptr 3 (bdE b)
def cF (b : Bd) (L : List (List Int)) : Nat → AV
 | 0 => .top
 | r + 1 => .fn (.func 158) [] [.optr 0 0 0, cA L, cK b, cB b, .rptr 1 (fun _ => cF b L r)]
@[go_sem] theorem cF_succ (b : Bd) (L : List (List Int)) (r : Nat) : cF b L (r + 1) = .fn (.func 158) [] [.optr 0 0 0,cA L,cK b,cB b,.rptr 1 (fun _ => cF b L r)] := rfl
@[go_sem, reducible] def cS (b : Bd) (L : List (List Int)) (r : Nat) : AV := .rptr 1 (fun _ => cF b L r)
@[simp] theorem bdE_free (b : Bd) (j : Nat) : Free (bdE b j) := FreeL_nth (by simp [bdL, kys, FreeL, Free]) _
theorem kV_free (b : Bd) : Free (kV b) := idE_free _
theorem cF_wk {π : List Nat} {σ : List AObj} (h : π[0]? = some 0) (b : Bd) (L : List (List Int)) : ∀ r,WkV π σ (cF b L r) (cF b L r)
 | 0 => WkV.top
 | r + 1=>WkV.fn WkVL.nil (WkVL.cons (WkV.optr h) (WkVL.cons (WkV.free (by simp [Free])) (WkVL.cons (WkV.free fun _=>kV_free b) (WkVL.cons (WkV.free fun j=>bdE_free b j) (WkVL.cons (WkV.rptr fun _ _=>cF_wk h b L r) WkVL.nil)))))
@[go_sem, reducible] def srO (c : List Int) : List AObj := [.box 26 [.own 1 0 c.length none], intO c]
@[go_sem, reducible] def srP (c : List Int) : List AObj := [.box 26 [.own 2 0 c.length none], .dead, intO c]
def srW (x : Option (List Int)) (c : List Int) (v : AV) (σ' : List AObj) : Prop := v = .imm (.bool x.isSome) ∧ ∃ k : Nat,1 ≤ k ∧ k < σ'.length ∧ nthO σ' 0 = .box 26 [.own k 0 (x.getD c).length none] ∧ nthO σ' k = intO (x.getD c)
theorem srW_tc {f : FuncId} {args : List AV} {σ0 : List AObj} (h2 : σ0.length = 2) {x : Option (List Int)} {c : List Int} (h : TC Tryz.prog f args σ0 (srW x c)) : TC Tryz.prog f args σ0 (fun v σ'=>v = .imm (.bool x.isSome) ∧ σ' = srP (x.getD c)) := by
 refine TC.weakM h ?_
 rintro _ σ' ⟨rfl, k, hk1, hk2, h0, hk⟩
 refine ⟨[0, 1, k], _, _, by rw [h2]; rfl, ?_, ?_, WkV.imm rfl, ?_, rfl, rfl⟩
 ·obtain ⟨n, rfl⟩ : ∃ n, k = n + 1 := ⟨k - 1, by omega⟩
  rfl
 ·intro o ho
  simp only [List.mem_cons, List.not_mem_nil, or_false] at ho
  rcases ho with rfl | rfl | rfl <;> omega
 ·refine ⟨?_, fun _ => by rw [h0]; rfl, WkO.dead, fun h => (nomatch h), ?_, fun _ => by rw [hk]; rfl, trivial⟩
  ·rw [h0]; exact WkO.box (WkVL.cons (WkV.own rfl (by simp)) WkVL.nil) rfl
  ·rw [hk]; exact WkO.arr fun i j _ _ => WkV.free (inE_free _ _ _)
set_option maxRecDepth 100000 in
set_option maxHeartbeats 8000000 in
theorem search_tc (b : Bd) (L : List (List Int)) (ho : SrOk b L) : ∀ (r : Nat) (c : List Int),c.length + r = L.length → goodC b c = true →
  TC Tryz.prog 158 [.optr 0 0 0,cA L,cK b,cB b,cS b L r] (srO c) (fun v σ' => v = .imm (.bool (srR b L c).isSome) ∧ σ' = srP ((srR b L c).getD c)) := by
 intro r
 induction r with
 | zero =>
  intro c hc hgc
  have e : srR b L c = some c := by unfold srR; rw [List.drop_of_length_le (by omega)]; rfl
  rw [e]
  have hlen : (c.length : Int) = (L.length : Int) := by omega
  refine srW_tc rfl ?_
  (refine TC_of_T Γ_ok Tryz.func158 rfl (by kernel_rfl) ?_;simp only [Tryz.ntmps158,Tryz.results158,List.length_cons,List.length_nil,Nat.reduceSub,Nat.reduceAdd,List.replicate,List.cons_append,List.nil_append])
  repeat' (first
  | (with_reducible refine hK _ ?_; clear hK K)
  | (refine (show srW _ _ _ _ from ⟨rfl, 1, Nat.le_refl _, Nat.lt_succ_self _, rfl, rfl⟩))
  | ((with_reducible apply DC_call);(focus exact rfl);(focus exact rfl);(focus exact rfl);intro N hN;refine sgo ?_)
  | ((with_reducible first|refine T_seq_region Γ_ok (fun K hK=>?_)|refine T_last_region Γ_ok (fun K hK=>?_)|refine TO_callN rfl (fun N hN=>?_)|refine DCT_fork Γ_ok (fun K2 hK2=>?_)|refine DCT_last Γ_ok ?_|refine DC_ev Γ_ok ?_|refine TO_ev Γ_ok ?_|refine retQ_r ?_|refine retQ_n ?_);refine sgo ?_)
  | (with_reducible refine hK2 _ ?_ ?_ <;> clear hK2 K2)
  | with_reducible first|refine gC_false ?_|refine gC_true ?_|refine dCall_true ?_
  | (with_reducible refine hN _ _ ?_; clear hN N)
  | (with_reducible refine hN _ _ (dInl rfl) ?_; clear hN N)
  | ((with_reducible refine hN _ _ (.inr ?_) ?_);(focus (refine sgo ?_;try exact True.intro));all_goals (try clear hN N))
  | with_reducible first|refine T_seq ?_|refine T_block ?_|refine T_ret ?_|refine T_exit ?_|refine T_skip ?_|refine T_label ?_
  | with_reducible first|refine thenQ_n ?_|refine thenQ_e ?_|refine thenQ_r ?_|refine blockQ_n ?_|refine blockQ_e ?_|refine blockQ_r ?_
  | with_reducible refine blockQ_o (by decide) ?_
  | ((with_reducible refine T_cond _ rfl (fun hb=>?_) (fun hb=>?_)) <;> first|(cases hb;done)|replace hb:=sgh hb|skip)
  | (with_reducible refine And.intro aG ?_)
  | assumption | omega | exact True.intro)
 | succ r ih =>
  intro c hc hgc
  have hlt : c.length < L.length := by omega
  have e := srR_eq (b := b) hlt
  have hl := gl_mem hlt
  have hll := ho.len _ hl
  have hlk := ho.key _ hl
  generalize hgl : gl L c.length = l at e hl hll hlk
  have hcl : c.length ≤ 120 := by have := ho.few; omega
  have hgd : goodC b c = true := hgc
  unfold goodC at hgd
  rw [decide_eq_true_eq] at hgd
  refine srW_tc rfl ?_
  generalize hx : srR b L c = x at e
  (refine TC_of_T Γ_ok Tryz.func158 rfl (by kernel_rfl) ?_;simp only [Tryz.ntmps158,Tryz.results158,List.length_cons,List.length_nil,Nat.reduceSub,Nat.reduceAdd,List.replicate,List.cons_append,List.nil_append])
  (have sx1 := hgl;have sx2:=sx0;((obtain ⟨sx3,sx4,sx5,sx6,sx7,sx8,sx9⟩:=sx0_7;refine goR9 _ _ _ _ _ _ _ _ ?_ ?_ ?_ ?_ ?_ ?_ ?_ ?_)<;>(repeat intro hb)<;>first|exact True.intro|refine Lf.mk ?_))
  have hf : FreeL ((idE b.ks).map (·.2)) := idE_free _
  refine T_loopW (fun m st => ∃ i : Nat, i ≤ l.length ∧ m + i = l.length ∧ (l.take i).findSome? (srS b L c) = none ∧
    st = ⟨[.optr 0 0 0,cA L,cK b,cB b,cS b L (r + 1),.imm (.bool false)] ++ List.replicate 11 .top ++ [ints l,.imm (.int .i64 l.length),.imm (.int .i64 i)] ++ List.replicate 25 .top,srP c⟩)
   l.length ⟨_, ?_, 0, by omega, rfl, rfl, rfl⟩ ?_
  ·((try refine sgl ?_);refine Wk.introM [0,1,1] (by decide) (rfl) wkH ?_ ?_ <;> repeat' (first|(exact WkV.rptr fun _ _=>cF_wk rfl b L (r + 1))|(exact WkV.free fun _=>kV_free b)|refine WkVL.cons ?_ ?_|exact wkT|refine WkV.agg ?_|refine WkV.tup ?_|refine WkV.fn ?_ ?_|exact WkO.dead|exact WkO.raw|refine WkO.ghost ?_|exact WkO.mpE rfl trivial|refine WkO.box ?_ rfl|refine WkO.arr ?_|refine And.intro ?_ (And.intro aF ?_)|exact trivial|(intro i j hi hj)))
  rintro m st ⟨i, h0, h1, h2, rfl⟩
  by_cases hi : i < l.length
  ·have hid := gi_mem hi
   have hkey := hlk _ hid
   have hcon := contains_tc c (gi l i) (by omega)
   have hts : (l.take (i + 1)).findSome? (srS b L c) = srS b L c (gi l i) := by
    rw [take_gi hi, List.findSome?_append, h2]
    simp only [Option.none_or, List.findSome?_cons, List.findSome?_nil]
    cases srS b L c (gi l i) <;> rfl
   generalize hgid : gi l i = id at hcon hts hkey
   by_cases hm : id ∈ c
   ·rw [hasB_iff.2 hm] at hcon
    have hn : srS b L c id = none := by unfold srS; rw [if_pos hm]
    refine sgo ?_
    (have cl1 := hcon;have sx1 := hgid;have sx2:=sx0;((obtain ⟨sx3,sx4,sx5,sx6,sx7,sx8,sx9⟩:=sx0_7;refine goR9 _ _ _ _ _ _ _ _ ?_ ?_ ?_ ?_ ?_ ?_ ?_ ?_)<;>(repeat intro hb)<;>first|exact True.intro|refine Lf.mk ?_))
    refine ⟨l.length - (i + 1), by omega, _, ?_, i + 1, by omega, by omega, by rw [hts]; exact hn, rfl⟩
    ((try refine sgl ?_);refine Wk.intro [0,1,2] (by decide) (by decide) wkH ?_ ?_ <;> repeat' (first|(exact WkV.rptr fun _ _=>cF_wk rfl b L (r + 1))|(exact WkV.free fun _=>kV_free b)|(refine WkV.imm ?_;congr 1;omega)|refine WkVL.cons ?_ ?_|exact wkT|refine WkV.agg ?_|refine WkV.tup ?_|refine WkV.fn ?_ ?_|exact WkO.dead|exact WkO.raw|refine WkO.ghost ?_|exact WkO.mpE rfl trivial|refine WkO.box ?_ rfl|refine WkO.arr ?_|refine And.intro ?_ (And.intro aF ?_)|exact trivial|(intro i j hi hj)))
   ·rw [Bool.eq_false_iff.2 (fun h => hm (hasB_iff.1 h))] at hcon
    have hdp : diffP b (c ++ [id]) := by
     refine ⟨?_, fun x hx => ?_⟩
     ·rw [List.nodup_append]
      exact ⟨hgd.1.1, by simp, fun a ha d hd e => by simp at hd; subst hd; subst e; exact hm ha⟩
     ·rcases List.mem_append.1 hx with hx | hx
      ·exact hgd.1.2 x hx
      ·simp at hx; subst hx; exact hkey
    have hre := reached_tc b ho.g (c ++ [id]) hdp (by have := ho.few; simp; omega)
    have hn : srS b L c id = if okC b (c ++ [id]) = true then srR b L (c ++ [id]) else none := by unfold srS;rw [if_neg hm]
    have hgs := fun h : okC b (c ++ [id]) = true => ih (c ++ [id]) (by simp;omega) ((goodC_snoc ho.g c id hkey).2 ⟨hgc,hm,h⟩)
    have hsn : ∀ p q,p < c.length + 1 → q < 1 → catE c.length (inE c) (fun i j => nth [AV.imm (.int .i64 id)] (i * 1 + j)) p q = inE (c ++ [id]) p q := fun p q => in_snoc c id (i := p) (j := q)
    have hs1 : ∀ p q, p < c.length → q < 1 → inE (c ++ [id]) p q = inE c p q := fun p q hp _ => by
     unfold inE gi; simp [List.getElem?_append_left hp]
    have hdl : (c ++ [id]).length = c.length + 1 := by simp
    generalize c ++ [id] = d at hre hn hgs hsn hs1 hdl
    have hs2 : ∀ p q,p < c.length → q < 1 → catE c.length (inE c) (fun i j=>nth [AV.imm (.int .i64 id)] (i * 1 + j)) p q = inE c p q := fun p q hp hq=>by rw [hsn p q (by omega) hq,hs1 p q hp hq]
    rw [hn] at hts
    unfold ints at hre
    rw [hdl] at hre
    have hv5 := hsn
    cases hok : okC b d with
    | false =>
     rw [hok] at hre hts
     rw [if_neg (by simp)] at hts
     refine sgo ?_
     (have dl1 := hcon;have dl2 := hre;have sx1 := hgid;((refine goB1 _ _ _ _ _ _ _ _ ?_ ?_ ?_ ?_ ?_ ?_ ?_ ?_)<;>(repeat intro hb)<;>first|exact True.intro|refine Lf.mk ?_))
     refine ⟨l.length - (i + 1), by omega, _, ?_, i + 1, by omega, by omega, hts, rfl⟩
     rw [Nat.add_sub_cancel]
     ((try refine sgl ?_);refine Wk.intro [0,1,4] (by decide) (by decide) wkH ?_ ?_ <;> repeat' (first|(exact WkV.rptr fun _ _=>cF_wk rfl b L (r + 1))|(exact WkV.free fun _=>kV_free b)|(refine WkV.imm ?_;congr 1;omega)|(refine WkO.arrLe (Nat.le_succ _) ?_)|(exact WkV.eqF (hs2 _ _ hi hj) (by simp))|refine WkVL.cons ?_ ?_|exact wkT|refine WkV.agg ?_|refine WkV.tup ?_|refine WkV.fn ?_ ?_|exact WkO.dead|exact WkO.raw|refine WkO.ghost ?_|exact WkO.mpE rfl trivial|refine WkO.box ?_ rfl|refine WkO.arr ?_|refine And.intro ?_ (And.intro aF ?_)|exact trivial|(intro i j hi hj)))
    | true =>
     rw [hok] at hre hts
     rw [if_pos rfl] at hts
     have hrs0 := hgs hok
     unfold srO intO at hrs0
     rw [hdl] at hrs0
     cases hsr : srR b L d with
     | none =>
      rw [hsr] at hrs0 hts
      simp only [Option.isSome_none, Option.getD_none] at hrs0
      unfold srP intO at hrs0
      rw [hdl] at hrs0
      have hrs : Turns Tryz.prog 158 _ _ _ _ := ⟨hrs0,trivial,fun a ha=>by simp only [List.mem_cons,List.not_mem_nil,or_false] at ha;rcases ha with rfl|rfl|rfl;exact ⟨trivial,trivial⟩;exact trivial;exact fun i j=>inE_pl _ i j⟩
      refine sgo ?_
      repeat' (first
  | (with_reducible refine hK _ ?_; clear hK K)
  | ((with_reducible refine callGoal_turns [0,4] ?_ hrs ?_ ?_ ?_ ?_ ?_);(focus (exact hC2));(focus decide);(focus (simp [nthO,AObj.alive]));(focus ((repeat' (first|(exact WkV.rptr fun _ _=>cF_wk rfl b L r)|refine WkVL.cons ?_ ?_|exact wkT|refine WkV.agg ?_|refine WkV.tup ?_|refine WkV.fn ?_ ?_|exact WkO.dead|exact WkO.raw|refine WkO.ghost ?_|exact WkO.mpE rfl trivial|refine WkO.box ?_ rfl|refine WkO.arr ?_|refine And.intro ?_ (And.intro aF ?_)|exact trivial|(intro i j hi hj)))));(focus ((repeat' (first|(exact WkV.eqF (hsn _ _ hi hj) (by simp))|refine WkVL.cons ?_ ?_|exact wkT|refine WkV.agg ?_|refine WkV.tup ?_|refine WkV.fn ?_ ?_|exact WkO.dead|exact WkO.raw|refine WkO.ghost ?_|exact WkO.mpE rfl trivial|refine WkO.box ?_ rfl|refine WkO.arr ?_|refine And.intro ?_ (And.intro aF ?_)|exact trivial|(intro i j hi hj)))));refine sgo ?_)
  | ((with_reducible first|apply gC_lookA (fun hg=>(hcon))|apply dCall_lookGA (fun hg=>(hcon)));(case hC=>exact hC1);(case hc=>(intro hg;exact cvl)))
  | ((with_reducible first|apply callGoal_lookA (hcon)|apply dCall_lookA (hcon));(case hC=>exact hC2);(case hc=>exact cvl))
  | ((with_reducible first|apply gC_lookA (fun hg=>(hre))|apply dCall_lookGA (fun hg=>(hre)));(case hC=>exact hC1);(case hc=>(intro hg;exact cvl)))
  | ((with_reducible first|apply callGoal_lookA (hre)|apply dCall_lookA (hre));(case hC=>exact hC2);(case hc=>exact cvl))
  | ((with_reducible apply DC_call);(focus exact rfl);(focus exact rfl);(focus exact rfl);intro N hN;refine sgo0 ?_)
  | ((with_reducible first|refine T_seq_region Γ_ok (fun K hK=>?_)|refine T_last_region Γ_ok (fun K hK=>?_)|refine TO_callN rfl (fun N hN=>?_)|refine DCT_fork Γ_ok (fun K2 hK2=>?_)|refine DCT_last Γ_ok ?_|refine DC_ev Γ_ok ?_|refine TO_ev Γ_ok ?_|refine retQ_r ?_|refine retQ_n ?_);refine sgo0 ?_)
  | (with_reducible refine hK2 _ ?_ ?_ <;> clear hK2 K2)
  | with_reducible first|refine gC_false ?_|refine gC_true ?_|refine dCall_true ?_
  | (with_reducible refine hN _ _ ?_; clear hN N)
  | (with_reducible refine hN _ _ (dInl rfl) ?_; clear hN N)
  | ((with_reducible refine hN _ _ (.inr ?_) ?_);(focus (refine sgo0 ?_;try exact True.intro));all_goals (try clear hN N))
  | with_reducible first|refine T_seq ?_|refine T_block ?_|refine T_ret ?_|refine T_exit ?_|refine T_skip ?_|refine T_label ?_
  | with_reducible first|refine thenQ_n ?_|refine thenQ_e ?_|refine thenQ_r ?_|refine blockQ_n ?_|refine blockQ_e ?_|refine blockQ_r ?_
  | with_reducible refine blockQ_o (by decide) ?_
  | ((with_reducible refine T_cond _ rfl (fun hb=>?_) (fun hb=>?_)) <;> first|(cases hb;done)|replace hb:=sgh hb|skip)
  | (with_reducible refine And.intro aG ?_)
  | assumption | omega | exact True.intro)
      refine ⟨l.length - (i + 1), by omega, _, ?_, i + 1, by omega, by omega, hts, rfl⟩
      rw [Nat.add_sub_cancel]
      ((try refine sgl ?_);refine Wk.intro [0,1,5] (by decide) (by decide) wkH ?_ ?_ <;> repeat' (first|(exact WkV.rptr fun _ _=>cF_wk rfl b L (r + 1))|(exact WkV.free fun _=>kV_free b)|(refine WkV.imm ?_;congr 1;omega)|(refine WkO.arrLe (Nat.le_succ _) ?_)|(exact WkV.eqF (hs1 _ _ hi hj) (by simp))|refine WkVL.cons ?_ ?_|exact wkT|refine WkV.agg ?_|refine WkV.tup ?_|refine WkV.fn ?_ ?_|exact WkO.dead|exact WkO.raw|refine WkO.ghost ?_|exact WkO.mpE rfl trivial|refine WkO.box ?_ rfl|refine WkO.arr ?_|refine And.intro ?_ (And.intro aF ?_)|exact trivial|(intro i j hi hj)))
     | some q =>
      rw [hsr] at hrs0 hts
      simp only [Option.isSome_some, Option.getD_some] at hrs0
      have hrs : Turns Tryz.prog 158 _ _ _ _ := ⟨hrs0,trivial,fun a ha=>by simp only [List.mem_cons,List.not_mem_nil,or_false] at ha;rcases ha with rfl|rfl|rfl;exact ⟨trivial,trivial⟩;exact trivial;exact fun i j=>inE_pl _ i j⟩
      have ex : x = some q := by
       rw [e, ← List.take_append_drop (i + 1) l, List.findSome?_append, hts]; rfl
      rw [ex]
      refine sgo ?_
      repeat' (first
  | (with_reducible refine hK _ ?_; clear hK K)
  | ((with_reducible refine callGoal_turns [0,4] ?_ hrs ?_ ?_ ?_ ?_ ?_);(focus (exact hC2));(focus decide);(focus (simp [nthO,AObj.alive]));(focus ((repeat' (first|(exact WkV.rptr fun _ _=>cF_wk rfl b L r)|refine WkVL.cons ?_ ?_|exact wkT|refine WkV.agg ?_|refine WkV.tup ?_|refine WkV.fn ?_ ?_|exact WkO.dead|exact WkO.raw|refine WkO.ghost ?_|exact WkO.mpE rfl trivial|refine WkO.box ?_ rfl|refine WkO.arr ?_|refine And.intro ?_ (And.intro aF ?_)|exact trivial|(intro i j hi hj)))));(focus ((repeat' (first|(exact WkV.eqF (hsn _ _ hi hj) (by simp))|refine WkVL.cons ?_ ?_|exact wkT|refine WkV.agg ?_|refine WkV.tup ?_|refine WkV.fn ?_ ?_|exact WkO.dead|exact WkO.raw|refine WkO.ghost ?_|exact WkO.mpE rfl trivial|refine WkO.box ?_ rfl|refine WkO.arr ?_|refine And.intro ?_ (And.intro aF ?_)|exact trivial|(intro i j hi hj)))));refine sgo ?_)
  | ((with_reducible first|apply gC_lookA (fun hg=>(hcon))|apply dCall_lookGA (fun hg=>(hcon)));(case hC=>exact hC1);(case hc=>(intro hg;exact cvl)))
  | ((with_reducible first|apply callGoal_lookA (hcon)|apply dCall_lookA (hcon));(case hC=>exact hC2);(case hc=>exact cvl))
  | ((with_reducible first|apply gC_lookA (fun hg=>(hre))|apply dCall_lookGA (fun hg=>(hre)));(case hC=>exact hC1);(case hc=>(intro hg;exact cvl)))
  | ((with_reducible first|apply callGoal_lookA (hre)|apply dCall_lookA (hre));(case hC=>exact hC2);(case hc=>exact cvl))
  | ((with_reducible apply DC_call);(focus exact rfl);(focus exact rfl);(focus exact rfl);intro N hN;refine sgo0 ?_)
  | ((with_reducible first|refine T_seq_region Γ_ok (fun K hK=>?_)|refine T_last_region Γ_ok (fun K hK=>?_)|refine TO_callN rfl (fun N hN=>?_)|refine DCT_fork Γ_ok (fun K2 hK2=>?_)|refine DCT_last Γ_ok ?_|refine DC_ev Γ_ok ?_|refine TO_ev Γ_ok ?_|refine retQ_r ?_|refine retQ_n ?_);refine sgo0 ?_)
  | (with_reducible refine hK2 _ ?_ ?_ <;> clear hK2 K2)
  | with_reducible first|refine gC_false ?_|refine gC_true ?_|refine dCall_true ?_
  | (with_reducible refine hN _ _ ?_; clear hN N)
  | (with_reducible refine hN _ _ (dInl rfl) ?_; clear hN N)
  | ((with_reducible refine hN _ _ (.inr ?_) ?_);(focus (refine sgo0 ?_;try exact True.intro));all_goals (try clear hN N))
  | with_reducible first|refine T_seq ?_|refine T_block ?_|refine T_ret ?_|refine T_exit ?_|refine T_skip ?_|refine T_label ?_
  | with_reducible first|refine thenQ_n ?_|refine thenQ_e ?_|refine thenQ_r ?_|refine blockQ_n ?_|refine blockQ_e ?_|refine blockQ_r ?_
  | with_reducible refine blockQ_o (by decide) ?_
  | ((with_reducible refine T_cond _ rfl (fun hb=>?_) (fun hb=>?_)) <;> first|(cases hb;done)|replace hb:=sgh hb|skip)
  | (with_reducible refine And.intro aG ?_)
  | assumption | omega | exact True.intro)
      exact ⟨rfl, 5, by omega, by simp, rfl, rfl⟩
  ·have hie : i = l.length := by omega
   rw [hie, List.take_length] at h2
   rw [e, h2]
   refine sgo ?_
   (((refine goR0 _ _ _ _ _ _ _ _ ?_ ?_ ?_ ?_ ?_ ?_ ?_ ?_)<;>(repeat intro hb)<;>first|exact True.intro|refine Lf.mk ?_))
   exact ⟨rfl, 2, by omega, by simp, rfl, rfl⟩
end Go.Proofs.YtonmienclploaaaGreatDoor.B
