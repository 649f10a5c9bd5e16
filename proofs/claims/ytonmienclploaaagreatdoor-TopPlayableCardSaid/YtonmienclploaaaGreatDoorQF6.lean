/-
 The search of frets.Chord.
-/
import Derived.Test.YtonmienclploaaaGreatDoorQGo
import Derived.Test.YtonmienclploaaaGreatDoorQGo2
import Derived.Test.YtonmienclploaaaGreatDoorQW2
import Derived.Test.YtonmienclploaaaGreatDoorQV8j
set_option linter.unusedSimpArgs false
set_option linter.unusedVariables false
namespace Go.Proofs.YtonmienclploaaaGreatDoor
open Go.Ab
def gfl (L : List (List Ft)) (i : Nat) : List Ft := L.getD i []
def flE (L : List (List Ft)) (i : Nat) (_ : Nat) : AV := fts (gfl L i)
@[simp] theorem flE_free (L : List (List Ft)) (i j : Nat) : Free (flE L i j) := by simp [flE, fts, Free]
@[go_sem] theorem flE_us (L : List (List Ft)) (i j : Nat) : flE L i j = .view (gfl L i).length 2 (ftE (gfl L i)) := rfl
@[go_sem, reducible] def fls (L : List (List Ft)) : AV := .view L.length 1 (flE L)
@[go_sem, reducible] def flO (L : List (List Ft)) : AObj := .arr 112 1 L.length (flE L)
theorem gfl_mem {L : List (List Ft)} {i : Nat} (h : i < L.length) : gfl L i ∈ L := by simp [gfl, h]
theorem gF_mem {l : List Ft} {i : Nat} (h : i < l.length) : gF l i ∈ l := by simp [gF, h]
theorem take_gF {l : List Ft} {i : Nat} (h : i < l.length) : l.take (i + 1) = l.take i ++ [gF l i] := by
 rw [List.take_add_one, List.getElem?_eq_getElem h]
 simp [gF, h]
def dfsF (ok : List Ft → Bool) : List (List Ft) → List Ft → Bool × List Ft
 | [], c => (true, c)
 | l :: r,c => l.foldl (fun st f => if st.1 = true then st else if ok (c ++ [f]) = true then dfsF ok r (c ++ [f]) else (false,c ++ [f])) (false,c)
def fSr (ok : List Ft → Bool) (L : List (List Ft)) (c : List Ft) : Bool × List Ft := dfsF ok (L.drop c.length) c
def fS1 (ok : List Ft → Bool) (L : List (List Ft)) (c : List Ft) (st : Bool × List Ft) (f : Ft) : Bool × List Ft := if st.1 = true then st else if ok (c ++ [f]) = true then fSr ok L (c ++ [f]) else (false,c ++ [f])
theorem fSr_eq {ok : List Ft → Bool} {L : List (List Ft)} {c : List Ft} (h : c.length < L.length) : fSr ok L c = (gfl L c.length).foldl (fS1 ok L c) (false,c) := by
 unfold fSr
 rw [List.drop_eq_getElem_cons h, dfsF]
 have e : gfl L c.length = L[c.length] := by simp [gfl, h]
 rw [e]
 congr 1
 funext st f
 unfold fS1 fSr
 simp
theorem fold_yes {ok : List Ft → Bool} {L : List (List Ft)} {c : List Ft} {st : Bool × List Ft} (h : st.1 = true) : ∀ l : List Ft,l.foldl (fS1 ok L c) st = st
 | [] => rfl
 | f :: l => by rw [List.foldl_cons, show fS1 ok L c st f = st from if_pos h]; exact fold_yes h l
theorem dfsF_pre (ok : List Ft → Bool) : ∀ (L : List (List Ft)) (c : List Ft), (dfsF ok L c).2.take c.length = c
 | [], c => by simp [dfsF]
 | l :: r, c => by
  have key : ∀ (l : List Ft) (st : Bool × List Ft),st.2.take c.length = c → (l.foldl (fun st f=>if st.1 = true then st else if ok (c ++ [f]) = true then dfsF ok r (c ++ [f]) else (false,c ++ [f])) st).2.take c.length = c := by
   intro l
   induction l with
   | nil => intro st h; exact h
   | cons f l ih =>
    intro st h
    rw [List.foldl_cons]
    refine ih _ ?_
    split
    ·exact h
    ·split
     ·have := dfsF_pre ok r (c ++ [f])
      have h2 := congrArg (List.take c.length) this
      rw [List.take_take, List.take_left] at h2
      rwa [show min c.length (c ++ [f]).length = c.length by simp] at h2
     ·simp
  rw [dfsF]
  exact key l _ (by simp)
@[go_sem, reducible] def fA (L : List (List Ft)) : AV := .rptr 1 (fun _ => fls L)
@[go_sem, reducible] def fN (n : Nk) : AV := .rptr 4 (nth (nkL n))
def fF (n : Nk) (L : List (List Ft)) : Nat → AV
 | 0 => .top
 | r + 1 => .fn (.func 177) [] [.optr 0 0 0, fA L, fN n, .rptr 1 (fun _ => fF n L r)]
@[go_sem] theorem fF_succ (n : Nk) (L : List (List Ft)) (r : Nat) : fF n L (r + 1) = .fn (.func 177) [] [.optr 0 0 0,fA L,fN n,.rptr 1 (fun _ => fF n L r)] := rfl
@[go_sem, reducible] def fS (n : Nk) (L : List (List Ft)) (r : Nat) : AV := .rptr 1 (fun _ => fF n L r)
theorem fN_free (n : Nk) : Free (fN n) := fun j => FreeL_nth (by simp [nkL, FreeL, Free]) _
theorem fA_free (L : List (List Ft)) : Free (fA L) := fun j => by simp [Free]
theorem fF_wk {π : List Nat} {σ : List AObj} (h : π[0]? = some 0) (n : Nk) (L : List (List Ft)) : ∀ r,WkV π σ (fF n L r) (fF n L r)
 | 0 => WkV.top
 | r + 1 => WkV.fn WkVL.nil (WkVL.cons (WkV.optr h) (WkVL.cons (WkV.free (fA_free L)) (WkVL.cons (WkV.free (fN_free n)) (WkVL.cons (WkV.rptr fun _ _ => fF_wk h n L r) WkVL.nil))))
@[go_sem, reducible] def fsO (c : List Ft) : List AObj := [.box 112 [.own 1 0 c.length none], ftO c]
@[go_sem, reducible] def fsP (c : List Ft) : List AObj := [.box 112 [.own 2 0 c.length none], .dead, ftO c]
def fsW (x : Bool × List Ft) (v : AV) (σ' : List AObj) : Prop := v = .imm (.bool x.1) ∧ ∃ k : Nat,1 ≤ k ∧ k < σ'.length ∧ nthO σ' 0 = .box 112 [.own k 0 x.2.length none] ∧ nthO σ' k = ftO x.2
theorem fsW_tc {f : FuncId} {args : List AV} {σ0 : List AObj} (h2 : σ0.length = 2) {x : Bool × List Ft} (h : TC Tryz.prog f args σ0 (fsW x)) : TC Tryz.prog f args σ0 (fun v σ'=>v = .imm (.bool x.1) ∧ σ' = fsP x.2) := by
 refine TC.weakM h ?_
 rintro _ σ' ⟨rfl, k, hk1, hk2, h0, hk⟩
 refine ⟨[0, 1, k], _, _, by rw [h2]; rfl, ?_, ?_, WkV.imm rfl, ?_, rfl, rfl⟩
 ·obtain ⟨n, rfl⟩ : ∃ n, k = n + 1 := ⟨k - 1, by omega⟩
  rfl
 ·intro o ho
  simp only [List.mem_cons, List.not_mem_nil, or_false] at ho
  rcases ho with rfl | rfl | rfl <;> omega
 ·refine ⟨?_, fun _ => by rw [h0]; rfl, WkO.dead, fun h => (nomatch h), ?_, fun _ => by rw [hk]; rfl, trivial⟩
  ·rw [h0]; exact WkO.box (WkVL.cons (WkV.own rfl (by simp)) WkVL.nil) rfl
  ·rw [hk]; exact WkO.arr fun i j _ _ => WkV.free (ftE_free _ _ _)
theorem fsP_vf (c : List Ft) : ∀ a ∈ fsP c, VFO a := fun a ha => by
 simp only [fsP, List.mem_cons, List.not_mem_nil, or_false] at ha
 rcases ha with rfl | rfl | rfl
 ·exact ⟨trivial, trivial⟩
 ·exact trivial
 ·exact fun i j => ftE_pl _ i j
theorem ftE_pre {l c : List Ft} (h : l.take c.length = c) {i j : Nat} (hi : i < c.length) : ftE l i j = ftE c i j := by
 have e : gF l i = gF c i := by
  conv => rhs; rw [← h]
  unfold gF
  simp [List.getElem?_take, hi]
 unfold ftE
 rw [e]
theorem ftOk_mem {l : List Ft} (h : ∀ x ∈ l, 0 ≤ x.f ∧ x.f ≤ 1000) : FtOk l := fun _ hi => h _ (gF_mem hi)
set_option maxRecDepth 100000 in
set_option maxHeartbeats 8000000 in
theorem fsearch_tc (n : Nk) (L : List (List Ft)) (h12 : L.length ≤ 12) (hLl : ∀ l ∈ L,l.length ≤ 400) (hLo : ∀ l ∈ L,∀ x ∈ l,0 ≤ x.f ∧ x.f ≤ 1000) : ∀ (r : Nat) (c : List Ft),c.length + r = L.length → (∀ x ∈ c,0 ≤ x.f ∧ x.f ≤ 1000) →
  TC Tryz.prog 177 [.optr 0 0 0,fA L,fN n,fS n L r] (fsO c) (fun v σ' => v = .imm (.bool (fSr (hldB n.span) L c).1) ∧ σ' = fsP (fSr (hldB n.span) L c).2) := by
 intro r
 induction r with
 | zero =>
  intro c hc hco
  have e : fSr (hldB n.span) L c = (true, c) := by unfold fSr; rw [List.drop_of_length_le (by omega)]; rfl
  have e1 : ((c.length : Int) == (L.length : Int)) = true := beq_iff_eq.2 (by omega)
  rw [e]
  refine fsW_tc rfl ?_
  (refine TC_of_T Γ_ok Tryz.func177 rfl (by kernel_rfl) ?_;simp only [Tryz.ntmps177,Tryz.results177,List.length_cons,List.length_nil,Nat.reduceSub,Nat.reduceAdd,List.replicate,List.cons_append,List.nil_append])
  (have sx1 := e1;have sx2:=sx0;repeat' (first|with_reducible refine T_seq_drawT (id := 7) Γ_ok drawsAny pl177_7 (by kernel_rfl) (fun K hK=>?_)|with_reducible refine T_last_drawT (id := 7) Γ_ok drawsAny pl177_7 (by kernel_rfl) (fun K hK=>?_)|((obtain ⟨sx3,sx4,sx5,sx6,sx7,sx8,sx9⟩:=sx0_7;refine goR9 _ _ _ _ _ _ _ _ ?_ ?_ ?_ ?_ ?_ ?_ ?_ ?_)<;>(repeat intro hb)<;>first|exact True.intro|refine Lf.mk ?_)))
  exact ⟨rfl, 1, Nat.le_refl _, Nat.lt_succ_self _, rfl, rfl⟩
 | succ r ih =>
  intro c hc hco
  have hlt : c.length < L.length := by omega
  have e := fSr_eq (ok := hldB n.span) hlt
  have hll := hLl _ (gfl_mem hlt)
  have hlo := hLo _ (gfl_mem hlt)
  generalize hgl : gfl L c.length = l at e hll hlo
  have e1 : ((c.length : Int) == (L.length : Int)) = false := beq_eq_false_iff_ne.2 (by omega)
  refine fsW_tc rfl ?_
  generalize hx : fSr (hldB n.span) L c = x at e
  (refine TC_of_T Γ_ok Tryz.func177 rfl (by kernel_rfl) ?_;simp only [Tryz.ntmps177,Tryz.results177,List.length_cons,List.length_nil,Nat.reduceSub,Nat.reduceAdd,List.replicate,List.cons_append,List.nil_append])
  (have sx1 := hgl;have sx2 := e1;repeat' (first|with_reducible refine T_seq_drawT (id := 7) Γ_ok drawsAny pl177_7 (by kernel_rfl) (fun K hK=>?_)|with_reducible refine T_last_drawT (id := 7) Γ_ok drawsAny pl177_7 (by kernel_rfl) (fun K hK=>?_)|((obtain ⟨sx3,sx4,sx5,sx6,sx7,sx8,sx9⟩:=sx0_7;refine goR9 _ _ _ _ _ _ _ _ ?_ ?_ ?_ ?_ ?_ ?_ ?_ ?_)<;>(repeat intro hb)<;>first|exact True.intro|refine Lf.mk ?_)))
  refine T_loopW (fun m st => ∃ (i : Nat) (u : List Ft),i ≤ l.length ∧ m + i = l.length ∧ (l.take i).foldl (fS1 (hldB n.span) L c) (false,c) = (false,u) ∧ u.take c.length = c ∧
    st = ⟨[.optr 0 0 0,fA L,fN n,fS n L (r + 1),.imm (.bool false),.imm (.int .i64 c.length)] ++ List.replicate 11 .top ++ [fts l,.imm (.int .i64 l.length),.imm (.int .i64 i)] ++ List.replicate 18 .top,fsP u⟩)
   l.length ⟨_, ?_, 0, c, by omega, rfl, rfl, by simp, rfl⟩ ?_
  ·((try refine sgl ?_);refine Wk.introM [0,1,1] (by decide) (rfl) wkH ?_ ?_ <;> repeat' (first|(exact WkV.rptr fun _ _=>fF_wk rfl n L (r + 1))|(exact WkV.free (fA_free L))|(exact WkV.free (fN_free n))|refine WkVL.cons ?_ ?_|exact wkT|refine WkV.agg ?_|refine WkV.tup ?_|refine WkV.fn ?_ ?_|exact WkO.dead|exact WkO.raw|refine WkO.ghost ?_|exact WkO.mpE rfl trivial|refine WkO.box ?_ rfl|refine WkO.arr ?_|refine And.intro ?_ (And.intro aF ?_)|exact trivial|(intro i j hi hj)))
  rintro m st ⟨i, u, h0, h1, h2, h3, rfl⟩
  by_cases hi : i < l.length
  ·have hts : (l.take (i + 1)).foldl (fS1 (hldB n.span) L c) (false,c) = fS1 (hldB n.span) L c (false,u) (gF l i) := by
    rw [take_gF hi, List.foldl_append, h2]; rfl
   have hfo := hlo _ (gF_mem hi)
   have hul : c.length ≤ u.length := by
    have := congrArg List.length h3
    rw [List.length_take] at this
    omega
   have hu : ∀ p q, p < c.length → q < 2 → ftE u p q = ftE c p q := fun p q hp _ => ftE_pre h3 hp
   generalize hgid : gF l i = f at hts hfo
   have hdo : ∀ x ∈ c ++ [f], 0 ≤ x.f ∧ x.f ≤ 1000 := fun x hx => by
    rcases List.mem_append.1 hx with hx | hx
    ·exact hco x hx
    ·rw [List.mem_singleton] at hx; rw [hx]; exact hfo
   have hhe := held_tc n.span (c ++ [f]) (by simp; omega) (ftOk_mem hdo)
   have hn : fS1 (hldB n.span) L c (false,u) f = if hldB n.span (c ++ [f]) = true then fSr (hldB n.span) L (c ++ [f]) else (false,c ++ [f]) := by unfold fS1;rw [if_neg (by simp)]
   have hrs0 := ih (c ++ [f]) (by simp; omega) hdo
   have hpre := dfsF_pre (hldB n.span) (L.drop (c ++ [f]).length) (c ++ [f])
   have hsn0 := fun p q => ft_snoc c f (i := p) (j := q)
   have hsn : ∀ p q,p < c.length + 1 → q < 2 → catE c.length (ftE u) (fun i j => nth (ftL f) (i * 2 + j)) p q = ftE (c ++ [f]) p q := fun p q hp hq => by
    rw [← hsn0 p q hp hq]
    unfold catE
    split
    ·rename_i hlt2; exact hu p q hlt2 hq
    ·rfl
   have hdl : (c ++ [f]).length = c.length + 1 := by simp
   have hdt : (c ++ [f]).take c.length = c := by simp
   generalize c ++ [f] = d at hhe hn hrs0 hpre hsn hdl hdt
   have hv5 := hsn
   unfold fts at hhe
   rw [hdl] at hhe
   cases hok : hldB n.span d with
   | false =>
    rw [hok] at hhe
    rw [hn, if_neg (by rw [hok]; simp)] at hts
    refine sgo ?_
    (have dl1 := hhe;have sx1 := hgid;repeat' (first|with_reducible refine T_seq_drawT (id := 7) Γ_ok drawsAny pl177_7 (by kernel_rfl) (fun K hK=>?_)|with_reducible refine T_last_drawT (id := 7) Γ_ok drawsAny pl177_7 (by kernel_rfl) (fun K hK=>?_)|((refine goB1 _ _ _ _ _ _ _ _ ?_ ?_ ?_ ?_ ?_ ?_ ?_ ?_)<;>(repeat intro hb)<;>first|exact True.intro|refine Lf.mk ?_)))
    refine ⟨l.length - (i + 1), by omega, _, ?_, i + 1, d, by omega, by omega, hts, hdt, rfl⟩
    rw [hdl]
    ((try refine sgl ?_);refine Wk.intro [0,1,4] (by decide) (by decide) wkH ?_ ?_ <;> repeat' (first|(exact WkV.rptr fun _ _=>fF_wk rfl n L (r + 1))|(exact WkV.free (fA_free L))|(exact WkV.free (fN_free n))|(refine WkV.imm ?_;congr 1;omega)|(exact WkV.eqF (hsn _ _ (by simpa [hdl] using hi) hj) (by simp))|refine WkVL.cons ?_ ?_|exact wkT|refine WkV.agg ?_|refine WkV.tup ?_|refine WkV.fn ?_ ?_|exact WkO.dead|exact WkO.raw|refine WkO.ghost ?_|exact WkO.mpE rfl trivial|refine WkO.box ?_ rfl|refine WkO.arr ?_|refine And.intro ?_ (And.intro aF ?_)|exact trivial|(intro i j hi hj)))
   | true =>
    rw [hok] at hhe
    rw [hn, if_pos hok] at hts
    unfold fsO ftO at hrs0
    rw [hdl] at hrs0
    have hpd : (fSr (hldB n.span) L d).2.take d.length = d := hpre
    generalize hsr : fSr (hldB n.span) L d = y at hrs0 hts hpd
    obtain ⟨yb, yl⟩ := y
    simp only [] at hrs0 hpd
    cases yb with
    | false =>
     have hrs : Turns Tryz.prog 177 _ _ _ _ := ⟨hrs0, trivial, fsP_vf _⟩
     refine sgo ?_
     repeat' (first
  | (with_reducible refine hK _ ?_; clear hK K)
  | ((with_reducible refine callGoal_turns [0,4] ?_ hrs ?_ ?_ ?_ ?_ ?_);(focus (exact hC2));(focus decide);(focus (simp [nthO,AObj.alive]));(focus ((repeat' (first|(exact WkV.rptr fun _ _=>fF_wk rfl n L r)|(exact WkV.free (fA_free L))|(exact WkV.free (fN_free n))|refine WkVL.cons ?_ ?_|exact wkT|refine WkV.agg ?_|refine WkV.tup ?_|refine WkV.fn ?_ ?_|exact WkO.dead|exact WkO.raw|refine WkO.ghost ?_|exact WkO.mpE rfl trivial|refine WkO.box ?_ rfl|refine WkO.arr ?_|refine And.intro ?_ (And.intro aF ?_)|exact trivial|(intro i j hi hj)))));(focus ((repeat' (first|(exact WkV.eqF (hsn _ _ hi hj) (by simp))|refine WkVL.cons ?_ ?_|exact wkT|refine WkV.agg ?_|refine WkV.tup ?_|refine WkV.fn ?_ ?_|exact WkO.dead|exact WkO.raw|refine WkO.ghost ?_|exact WkO.mpE rfl trivial|refine WkO.box ?_ rfl|refine WkO.arr ?_|refine And.intro ?_ (And.intro aF ?_)|exact trivial|(intro i j hi hj)))));refine sgo ?_)
  | ((with_reducible first|apply gC_lookA (fun hg=>(hhe))|apply dCall_lookGA (fun hg=>(hhe)));(case hC=>exact hC1);(case hc=>(intro hg;exact cvl)))
  | ((with_reducible first|apply callGoal_lookA (hhe)|apply dCall_lookA (hhe));(case hC=>exact hC2);(case hc=>exact cvl))
  | ((with_reducible apply DC_call);(focus exact rfl);(focus exact rfl);(focus exact rfl);intro N hN;refine sgo0 ?_)
  | ((with_reducible first|refine T_seq_region Γ_ok (fun K hK=>?_)|refine T_last_region Γ_ok (fun K hK=>?_)|refine T_seq_draw (id := 7) Γ_ok drawsAny [(0,[],[]),(1,[],[]),(2,[0,1],[]),(3,[],[]),(4,[3],[]),(5,[0,1,2,3,4],[]),(6,[0,1,2,3,4,5],[])] (by kernel_rfl) (fun K hK=>?_)|refine T_last_draw (id := 7) Γ_ok drawsAny [(0,[],[]),(1,[],[]),(2,[0,1],[]),(3,[],[]),(4,[3],[]),(5,[0,1,2,3,4],[]),(6,[0,1,2,3,4,5],[])] (by kernel_rfl) (fun K hK=>?_)|refine TO_callN rfl (fun N hN=>?_)|refine DCT_fork Γ_ok (fun K2 hK2=>?_)|refine DCT_last Γ_ok ?_|refine DC_ev Γ_ok ?_|refine TO_ev Γ_ok ?_|refine retQ_r ?_|refine retQ_n ?_);refine sgo0 ?_)
  | (with_reducible refine hK2 _ ?_ ?_ <;> clear hK2 K2)
  | with_reducible first|refine gC_false ?_|refine gC_true ?_|refine dCall_true ?_
  | (with_reducible refine hN _ _ ?_; clear hN N)
  | (with_reducible refine hN _ _ (dInl rfl) ?_; clear hN N)
  | ((with_reducible refine hN _ _ (.inr ?_) ?_);(focus (refine sgo0 ?_;try exact True.intro));all_goals (try clear hN N))
  | with_reducible first|refine T_seq ?_|refine T_block ?_|refine T_ret ?_|refine T_exit ?_|refine T_skip ?_|refine T_label ?_
  | with_reducible first|refine thenQ_n ?_|refine thenQ_e ?_|refine thenQ_r ?_|refine blockQ_n ?_|refine blockQ_e ?_|refine blockQ_r ?_
  | with_reducible refine blockQ_o (by decide) ?_
  | ((with_reducible refine T_cond _ rfl (fun hb=>?_) (fun hb=>?_)) <;> first|(cases hb;done)|replace hb:=sgh hb|skip)
  | (with_reducible refine And.intro aG ?_)
  | assumption | omega | exact True.intro)
     refine ⟨l.length - (i + 1), by omega, _, ?_, i + 1, yl, by omega, by omega, hts, ?_, rfl⟩
     ·((try refine sgl ?_);refine Wk.intro [0,1,5] (by decide) (by decide) wkH ?_ ?_ <;> repeat' (first|(exact WkV.rptr fun _ _=>fF_wk rfl n L (r + 1))|(exact WkV.free (fA_free L))|(exact WkV.free (fN_free n))|(refine WkV.imm ?_;congr 1;omega)|refine WkVL.cons ?_ ?_|exact wkT|refine WkV.agg ?_|refine WkV.tup ?_|refine WkV.fn ?_ ?_|exact WkO.dead|exact WkO.raw|refine WkO.ghost ?_|exact WkO.mpE rfl trivial|refine WkO.box ?_ rfl|refine WkO.arr ?_|refine And.intro ?_ (And.intro aF ?_)|exact trivial|(intro i j hi hj)))
     ·have h5 := congrArg (List.take c.length) hpd
      rwa [hdt, List.take_take, show min c.length d.length = c.length by omega] at h5
    | true =>
     have hrs : Turns Tryz.prog 177 _ _ _ _ := ⟨hrs0, trivial, fsP_vf _⟩
     have ex : x = (true, yl) := by
      rw [e, ← List.take_append_drop (i + 1) l, List.foldl_append, hts]
      exact fold_yes rfl _
     rw [ex]
     refine sgo ?_
     repeat' (first
  | (with_reducible refine hK _ ?_; clear hK K)
  | ((with_reducible refine callGoal_turns [0,4] ?_ hrs ?_ ?_ ?_ ?_ ?_);(focus (exact hC2));(focus decide);(focus (simp [nthO,AObj.alive]));(focus ((repeat' (first|(exact WkV.rptr fun _ _=>fF_wk rfl n L r)|(exact WkV.free (fA_free L))|(exact WkV.free (fN_free n))|refine WkVL.cons ?_ ?_|exact wkT|refine WkV.agg ?_|refine WkV.tup ?_|refine WkV.fn ?_ ?_|exact WkO.dead|exact WkO.raw|refine WkO.ghost ?_|exact WkO.mpE rfl trivial|refine WkO.box ?_ rfl|refine WkO.arr ?_|refine And.intro ?_ (And.intro aF ?_)|exact trivial|(intro i j hi hj)))));(focus ((repeat' (first|(exact WkV.eqF (hsn _ _ hi hj) (by simp))|refine WkVL.cons ?_ ?_|exact wkT|refine WkV.agg ?_|refine WkV.tup ?_|refine WkV.fn ?_ ?_|exact WkO.dead|exact WkO.raw|refine WkO.ghost ?_|exact WkO.mpE rfl trivial|refine WkO.box ?_ rfl|refine WkO.arr ?_|refine And.intro ?_ (And.intro aF ?_)|exact trivial|(intro i j hi hj)))));refine sgo ?_)
  | ((with_reducible first|apply gC_lookA (fun hg=>(hhe))|apply dCall_lookGA (fun hg=>(hhe)));(case hC=>exact hC1);(case hc=>(intro hg;exact cvl)))
  | ((with_reducible first|apply callGoal_lookA (hhe)|apply dCall_lookA (hhe));(case hC=>exact hC2);(case hc=>exact cvl))
  | ((with_reducible apply DC_call);(focus exact rfl);(focus exact rfl);(focus exact rfl);intro N hN;refine sgo0 ?_)
  | ((with_reducible first|refine T_seq_region Γ_ok (fun K hK=>?_)|refine T_last_region Γ_ok (fun K hK=>?_)|refine T_seq_draw (id := 7) Γ_ok drawsAny [(0,[],[]),(1,[],[]),(2,[0,1],[]),(3,[],[]),(4,[3],[]),(5,[0,1,2,3,4],[]),(6,[0,1,2,3,4,5],[])] (by kernel_rfl) (fun K hK=>?_)|refine T_last_draw (id := 7) Γ_ok drawsAny [(0,[],[]),(1,[],[]),(2,[0,1],[]),(3,[],[]),(4,[3],[]),(5,[0,1,2,3,4],[]),(6,[0,1,2,3,4,5],[])] (by kernel_rfl) (fun K hK=>?_)|refine TO_callN rfl (fun N hN=>?_)|refine DCT_fork Γ_ok (fun K2 hK2=>?_)|refine DCT_last Γ_ok ?_|refine DC_ev Γ_ok ?_|refine TO_ev Γ_ok ?_|refine retQ_r ?_|refine retQ_n ?_);refine sgo0 ?_)
  | (with_reducible refine hK2 _ ?_ ?_ <;> clear hK2 K2)
  | with_reducible first|refine gC_false ?_|refine gC_true ?_|refine dCall_true ?_
  | (with_reducible refine hN _ _ ?_; clear hN N)
  | (with_reducible refine hN _ _ (dInl rfl) ?_; clear hN N)
  | ((with_reducible refine hN _ _ (.inr ?_) ?_);(focus (refine sgo0 ?_;try exact True.intro));all_goals (try clear hN N))
  | with_reducible first|refine T_seq ?_|refine T_block ?_|refine T_ret ?_|refine T_exit ?_|refine T_skip ?_|refine T_label ?_
  | with_reducible first|refine thenQ_n ?_|refine thenQ_e ?_|refine thenQ_r ?_|refine blockQ_n ?_|refine blockQ_e ?_|refine blockQ_r ?_
  | with_reducible refine blockQ_o (by decide) ?_
  | ((with_reducible refine T_cond _ rfl (fun hb=>?_) (fun hb=>?_)) <;> first|(cases hb;done)|replace hb:=sgh hb|skip)
  | (with_reducible refine And.intro aG ?_)
  | assumption | omega | exact True.intro)
     exact ⟨rfl, 5, by omega, by simp, rfl, rfl⟩
  ·have hie : i = l.length := by omega
   rw [hie, List.take_length] at h2
   rw [e, h2]
   refine sgo ?_
   (repeat' (first|with_reducible refine T_seq_drawT (id := 7) Γ_ok drawsAny pl177_7 (by kernel_rfl) (fun K hK=>?_)|with_reducible refine T_last_drawT (id := 7) Γ_ok drawsAny pl177_7 (by kernel_rfl) (fun K hK=>?_)|((refine goR0 _ _ _ _ _ _ _ _ ?_ ?_ ?_ ?_ ?_ ?_ ?_ ?_)<;>(repeat intro hb)<;>first|exact True.intro|refine Lf.mk ?_)))
   exact ⟨rfl, 2, by omega, by simp, rfl, rfl⟩
end Go.Proofs.YtonmienclploaaaGreatDoor
