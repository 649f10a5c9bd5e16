/-
 Lists of lists; organ.finder.choices; the search of organ.Chord.
-/
import Derived.Test.YtonmienclploaaaGreatDoorQGo
import Derived.Test.YtonmienclploaaaGreatDoorQV8h
import Derived.Test.YtonmienclploaaaGreatDoorQA5
set_option linter.unusedSimpArgs false
set_option linter.unusedVariables false
namespace Go.Proofs.YtonmienclploaaaGreatDoor
open Go.Ab
theorem WkV.rptr {π : List Nat} {σ : List AObj} {n : Nat} {cell cell2 : Nat → AV} (h : ∀ j,j < n → WkV π σ (cell j) (cell2 j)) : WkV π σ (.rptr n cell) (.rptr n cell2) := fun ρ w x hH hx => by
 simp only [Rv] at hx ⊢
 obtain ⟨ad, rfl, h1, h2, h3⟩ := hx
 refine ⟨ad, rfl, h1, fun hb => h2 (pull_has hb), fun j hj => ?_⟩
 obtain ⟨y, a, b, c⟩ := h3 j hj
 exact ⟨y, a, b, h j hj _ _ _ hH c⟩
theorem WkV.freezeB {π : List Nat} {σ : List AObj} {o n : Nat} {ety : TypeId} {cells : List AV} {cell2 : Nat → AV} (hob : nthO σ o = .box ety cells) (hn : n ≤ cells.length) (ho : ∀ q ∈ π,q ≠ o ∧ (nthO σ q).alive = true)
  (h : ∀ j, j < n → WkV π σ (nth cells j) (cell2 j)) : WkV π σ (.optr o 0 0) (.rptr n cell2) := fun ρ w x hH hx => by
 simp only [Rv] at hx ⊢
 obtain ⟨l, hl, rfl⟩ := hx
 obtain ⟨l2, c, hl2, q0, q1, q2, q3, q4, q5⟩ := hH.obj o _ (nthO_eq hob rfl)
 rw [hl] at hl2
 simp only [Option.some.injEq] at hl2
 subst hl2
 refine ⟨_, rfl, hH.lt o l hl, fun hb => ?_, fun j hj => ?_⟩
 ·obtain ⟨o', l', hl', hb'⟩ := hb
  obtain ⟨q, hq, hlq⟩ := pull_inv hl'
  obtain ⟨g1, g2⟩ := ho q (List.mem_of_getElem? hq)
  exact hH.apart q o l' l _ _ g1 (nthO_eq rfl g2) g2 (nthO_eq hob rfl) rfl hlq hl hb'
 ·obtain ⟨y, hy, hv⟩ := RvL.get q5 (nth_eq (Nat.lt_of_lt_of_le hj hn))
  refine ⟨y, ?_, q4 y (List.mem_of_getElem? hy), h j hj _ _ _ hH hv⟩
  rw [cell_plain q3]
  simpa [q0] using hy
def gl (L : List (List Int)) (i : Nat) : List Int := L.getD i []
def olE (L : List (List Int)) (i : Nat) (_ : Nat) : AV := its (gl L i)
@[simp] theorem olE_free (L : List (List Int)) (i j : Nat) : Free (olE L i j) := by simp [olE, its, Free]
@[go_sem] theorem olE_us (L : List (List Int)) (i j : Nat) : olE L i j = .view (gl L i).length 1 (itE (gl L i)) := rfl
@[go_sem, reducible] def ols (L : List (List Int)) : AV := .view L.length 1 (olE L)
@[go_sem, reducible] def olO (L : List (List Int)) : AObj := .arr 26 1 L.length (olE L)
theorem gl_snoc (L : List (List Int)) (l : List Int) (i : Nat) : gl (L ++ [l]) i = if i < L.length then gl L i else if i = L.length then l else [] := by
 unfold gl
 simp only [List.getD_eq_getElem?_getD]
 split
 ·rename_i h; rw [List.getElem?_append_left h]
 ·split
  ·rename_i h1 h2; subst h2; simp
  ·rename_i h1 h2; rw [List.getElem?_eq_none (by simp; omega)]; rfl
theorem wkOl {π : List Nat} {σ : List AObj} {L : List (List Int)} {l : List Int} {o : Nat} (hob : nthO σ o = .arr 3 1 l.length (itE l)) (ho : ∀ p ∈ π,p ≠ o ∧ (nthO σ p).alive = true) {x j : Nat} (hx : x < L.length + 1) (hj : j < 1) :
  WkV π σ (catE L.length (olE L) (fun i j => nth [.own o 0 l.length none] (i * 1 + j)) x j) (olE (L ++ [l]) x j) := by
 obtain rfl : j = 0 := by omega
 unfold catE
 by_cases h : x < L.length
 ·rw [if_pos h, show olE (L ++ [l]) x 0 = olE L x 0 by unfold olE; rw [gl_snoc, if_pos h]]
  exact WkV.free (olE_free _ _ _)
 ·rw [if_neg h]
  obtain rfl : x = L.length := by omega
  rw [Nat.sub_self, show olE (L ++ [l]) L.length 0 = its l by unfold olE; rw [gl_snoc, if_neg h, if_pos rfl]]
  exact WkV.freeze hob (by omega) ho fun i j hi hj => by rw [Nat.zero_add]; exact WkV.free (itE_free _ _ _)
theorem gl_mem {L : List (List Int)} {i : Nat} (h : i < L.length) : gl L i ∈ L := by simp [gl, h]
theorem take_gL {l : List Int} {i : Nat} (h : i < l.length) : l.take (i + 1) = l.take i ++ [gL l i] := by
 rw [List.take_add_one, List.getElem?_eq_getElem h]
 simp [gL, h]
def dfsP (pl : List Int → Bool) : List (List Int) → List Int → Option (List Int)
 | [], c => if pl c = true then some c else none
 | l :: r, c => l.findSome? fun id => if id ∈ c then none else dfsP pl r (c ++ [id])
def oSr (pl : List Int → Bool) (L : List (List Int)) (c : List Int) : Option (List Int) := dfsP pl (L.drop c.length) c
def oS1 (pl : List Int → Bool) (L : List (List Int)) (c : List Int) (id : Int) : Option (List Int) := if id ∈ c then none else oSr pl L (c ++ [id])
theorem oSr_eq {pl : List Int → Bool} {L : List (List Int)} {c : List Int} (h : c.length < L.length) : oSr pl L c = (gl L c.length).findSome? (oS1 pl L c) := by
 unfold oSr
 rw [List.drop_eq_getElem_cons h, dfsP]
 have e : gl L c.length = L[c.length] := by simp [gl, h]
 rw [e]
 congr 1
 funext id
 unfold oS1 oSr
 simp
@[go_sem, reducible] def oV (vs : List P6) : AV := .rptr 1 (nth [vts vs])
@[go_sem, reducible] def oO (o : Og) : AV := .rptr 3 (nth (ogL o))
@[go_sem, reducible] def oW (w : Int) : AV := .rptr 1 (nth [.imm (.int .i64 w)])
@[go_sem, reducible] def oL (L : List (List Int)) : AV := .rptr 1 (fun _ => ols L)
def oF (o : Og) (vs : List P6) (w : Int) (L : List (List Int)) : Nat → AV
 | 0 => .top
 | r + 1 => .fn (.func 166) [] [.optr 0 0 0, oV vs, oO o, oW w, oL L, .rptr 1 (fun _ => oF o vs w L r)]
@[go_sem] theorem oF_succ (o : Og) (vs : List P6) (w : Int) (L : List (List Int)) (r : Nat) : oF o vs w L (r + 1) = .fn (.func 166) [] [.optr 0 0 0,oV vs,oO o,oW w,oL L,.rptr 1 (fun _=>oF o vs w L r)] := rfl
@[go_sem,reducible] def oS (o : Og) (vs : List P6) (w : Int) (L : List (List Int)) (r : Nat) : AV := .rptr 1 (fun _ => oF o vs w L r)
theorem oV_free (vs : List P6) : Free (oV vs) := fun j => FreeL_nth (by simp [FreeL, Free]) _
theorem oO_free (o : Og) : Free (oO o) := fun j => FreeL_nth (by simp [ogL, pps, FreeL, Free]) _
theorem oW_free (w : Int) : Free (oW w) := fun j => FreeL_nth (by simp [FreeL, Free]) _
theorem oL_free (L : List (List Int)) : Free (oL L) := fun j => by simp [Free]
theorem oF_wk {π : List Nat} {σ : List AObj} (h : π[0]? = some 0) (o : Og) (vs : List P6) (w : Int) (L : List (List Int)) : ∀ r,WkV π σ (oF o vs w L r) (oF o vs w L r)
 | 0 => WkV.top
 | r + 1=>WkV.fn WkVL.nil (WkVL.cons (WkV.optr h) (WkVL.cons (WkV.free (oV_free vs)) (WkVL.cons (WkV.free (oO_free o)) (WkVL.cons (WkV.free (oW_free w)) (WkVL.cons (WkV.free (oL_free L)) (WkVL.cons (WkV.rptr fun _ _=>oF_wk h o vs w L r) WkVL.nil))))))
@[go_sem, reducible] def srO (c : List Int) : List AObj := [.box 26 [.own 1 0 c.length none], itO c]
@[go_sem, reducible] def srP (c : List Int) : List AObj := [.box 26 [.own 2 0 c.length none], .dead, itO c]
def srW (x : Option (List Int)) (c : List Int) (v : AV) (σ' : List AObj) : Prop := v = .imm (.bool x.isSome) ∧ ∃ k : Nat,1 ≤ k ∧ k < σ'.length ∧ nthO σ' 0 = .box 26 [.own k 0 (x.getD c).length none] ∧ nthO σ' k = itO (x.getD c)
theorem srW_tc {f : FuncId} {args : List AV} {σ0 : List AObj} (h2 : σ0.length = 2) {x : Option (List Int)} {c : List Int} (h : TC Tryz.prog f args σ0 (srW x c)) : TC Tryz.prog f args σ0 (fun v σ'=>v = .imm (.bool x.isSome) ∧ σ' = srP (x.getD c)) := by
 refine TC.weakM h ?_
 rintro _ σ' ⟨rfl, k, hk1, hk2, h0, hk⟩
 refine ⟨[0, 1, k], _, _, by rw [h2]; rfl, ?_, ?_, WkV.imm rfl, ?_, rfl, rfl⟩
 ·obtain ⟨n, rfl⟩ : ∃ n, k = n + 1 := ⟨k - 1, by omega⟩
  rfl
 ·intro o ho
  simp only [List.mem_cons, List.not_mem_nil, or_false] at ho
  rcases ho with rfl | rfl | rfl <;> omega
 ·refine ⟨?_, fun _ => by rw [h0]; rfl, WkO.dead, fun h => (nomatch h), ?_, fun _ => by rw [hk]; rfl, trivial⟩
  ·rw [h0]; exact WkO.box (WkVL.cons (WkV.own rfl (by simp)) WkVL.nil) rfl
  ·rw [hk]; exact WkO.arr fun i j _ _ => WkV.free (itE_free _ _ _)
theorem srP_vf (c : List Int) : ∀ a ∈ srP c, VFO a := fun a ha => by
 simp only [srP, List.mem_cons, List.not_mem_nil, or_false] at ha
 rcases ha with rfl | rfl | rfl
 ·exact ⟨trivial, trivial⟩
 ·exact trivial
 ·exact fun i j => itE_pl _ i j
set_option maxRecDepth 100000 in
set_option maxHeartbeats 8000000 in
theorem osearch_tc (o : Og) (vs : List P6) (w : Int) (L : List (List Int)) (ho : ogB o = true) (hw : -100 ≤ w ∧ w ≤ 100) (hL : L.length = vs.length) (h12 : vs.length ≤ 12) (hLl : ∀ l ∈ L,l.length ≤ 120) : ∀ (r : Nat) (c : List Int),c.length + r = L.length →
  TC Tryz.prog 166 [.optr 0 0 0,oV vs,oO o,oW w,oL L,oS o vs w L r] (srO c) (fun v σ'=>v = .imm (.bool (oSr (fun c=>plB o c vs w) L c).isSome) ∧ σ' = srP ((oSr (fun c=>plB o c vs w) L c).getD c)) := by
 intro r
 induction r with
 | zero =>
  intro c hc
  have e : oSr (fun c => plB o c vs w) L c = if plB o c vs w = true then some c else none := by unfold oSr;rw [List.drop_of_length_le (by omega)];rfl
  have hp := plays_tc o c vs w ho (by omega) (by omega) hw
  have e1 : ((c.length : Int) == (vs.length : Int)) = true := by simp; omega
  rw [e]
  refine srW_tc rfl ?_
  cases hq : plB o c vs w with
  | true =>
   rw [hq] at hp
   rw [if_pos rfl]
   (refine TC_of_T Γ_ok Tryz.func166 rfl (by kernel_rfl) ?_;simp only [Tryz.ntmps166,Tryz.results166,List.length_cons,List.length_nil,Nat.reduceSub,Nat.reduceAdd,List.replicate,List.cons_append,List.nil_append])
   (have cl1 := hp;have sx1 := e1;have sx2:=sx0;((obtain ⟨sx3,sx4,sx5,sx6,sx7,sx8,sx9⟩:=sx0_7;refine goR9 _ _ _ _ _ _ _ _ ?_ ?_ ?_ ?_ ?_ ?_ ?_ ?_)<;>(repeat intro hb)<;>first|exact True.intro|refine Lf.mk ?_))
   exact ⟨rfl, 1, Nat.le_refl _, Nat.lt_succ_self _, rfl, rfl⟩
  | false =>
   rw [hq] at hp
   rw [if_neg (by simp)]
   (refine TC_of_T Γ_ok Tryz.func166 rfl (by kernel_rfl) ?_;simp only [Tryz.ntmps166,Tryz.results166,List.length_cons,List.length_nil,Nat.reduceSub,Nat.reduceAdd,List.replicate,List.cons_append,List.nil_append])
   (have cl1 := hp;have sx1 := e1;have sx2:=sx0;((obtain ⟨sx3,sx4,sx5,sx6,sx7,sx8,sx9⟩:=sx0_7;refine goR9 _ _ _ _ _ _ _ _ ?_ ?_ ?_ ?_ ?_ ?_ ?_ ?_)<;>(repeat intro hb)<;>first|exact True.intro|refine Lf.mk ?_))
   exact ⟨rfl, 1, Nat.le_refl _, Nat.lt_succ_self _, rfl, rfl⟩
 | succ r ih =>
  intro c hc
  have hlt : c.length < L.length := by omega
  have e := oSr_eq (pl := fun c => plB o c vs w) hlt
  have hll := hLl _ (gl_mem hlt)
  generalize hgl : gl L c.length = l at e hll
  have e1 : ((c.length : Int) == (vs.length : Int)) = false := by simp; omega
  refine srW_tc rfl ?_
  generalize hx : oSr (fun c => plB o c vs w) L c = x at e
  (refine TC_of_T Γ_ok Tryz.func166 rfl (by kernel_rfl) ?_;simp only [Tryz.ntmps166,Tryz.results166,List.length_cons,List.length_nil,Nat.reduceSub,Nat.reduceAdd,List.replicate,List.cons_append,List.nil_append])
  (have sx1 := hgl;have sx2 := e1;((obtain ⟨sx3,sx4,sx5,sx6,sx7,sx8,sx9⟩:=sx0_7;refine goR9 _ _ _ _ _ _ _ _ ?_ ?_ ?_ ?_ ?_ ?_ ?_ ?_)<;>(repeat intro hb)<;>first|exact True.intro|refine Lf.mk ?_))
  refine T_loopW (fun m st => ∃ i : Nat,i ≤ l.length ∧ m + i = l.length ∧ (l.take i).findSome? (oS1 (fun c => plB o c vs w) L c) = none ∧
    st = ⟨[.optr 0 0 0,oV vs,oO o,oW w,oL L,oS o vs w L (r + 1),.imm (.bool false)] ++ List.replicate 16 .top ++ [its l,.imm (.int .i64 l.length),.imm (.int .i64 i)] ++ List.replicate 18 .top,srP c⟩)
   l.length ⟨_, ?_, 0, by omega, rfl, rfl, rfl⟩ ?_
  ·((try refine sgl ?_);refine Wk.introM [0,1,1] (by decide) (rfl) wkH ?_ ?_ <;> repeat' (first|(exact WkV.rptr fun _ _=>oF_wk rfl o vs w L (r + 1))|(exact WkV.free (oV_free vs))|(exact WkV.free (oO_free o))|(exact WkV.free (oW_free w))|(exact WkV.free (oL_free L))|refine WkVL.cons ?_ ?_|exact wkT|refine WkV.agg ?_|refine WkV.tup ?_|refine WkV.fn ?_ ?_|exact WkO.dead|exact WkO.raw|refine WkO.ghost ?_|exact WkO.mpE rfl trivial|refine WkO.box ?_ rfl|refine WkO.arr ?_|refine And.intro ?_ (And.intro aF ?_)|exact trivial|(intro i j hi hj)))
  rintro m st ⟨i, h0, h1, h2, rfl⟩
  by_cases hi : i < l.length
  ·have hcon := contains_tc (gL l i) c (by omega)
   have hts : (l.take (i + 1)).findSome? (oS1 (fun c => plB o c vs w) L c) = oS1 (fun c => plB o c vs w) L c (gL l i) := by
    rw [take_gL hi, List.findSome?_append, h2]
    simp only [Option.none_or, List.findSome?_cons, List.findSome?_nil]
    cases oS1 (fun c => plB o c vs w) L c (gL l i) <;> rfl
   generalize hgid : gL l i = id at hcon hts
   by_cases hm : id ∈ c
   ·rw [List.contains_iff_mem.2 hm] at hcon
    have hn : oS1 (fun c => plB o c vs w) L c id = none := by unfold oS1; rw [if_pos hm]
    refine sgo ?_
    (have cl1 := hcon;have sx1 := hgid;have sx2:=sx0;((obtain ⟨sx3,sx4,sx5,sx6,sx7,sx8,sx9⟩:=sx0_7;refine goR9 _ _ _ _ _ _ _ _ ?_ ?_ ?_ ?_ ?_ ?_ ?_ ?_)<;>(repeat intro hb)<;>first|exact True.intro|refine Lf.mk ?_))
    refine ⟨l.length - (i + 1), by omega, _, ?_, i + 1, by omega, by omega, by rw [hts]; exact hn, rfl⟩
    ((try refine sgl ?_);refine Wk.intro [0,1,2] (by decide) (by decide) wkH ?_ ?_ <;> repeat' (first|(exact WkV.rptr fun _ _=>oF_wk rfl o vs w L (r + 1))|(exact WkV.free (oV_free vs))|(exact WkV.free (oO_free o))|(exact WkV.free (oW_free w))|(exact WkV.free (oL_free L))|(refine WkV.imm ?_;congr 1;omega)|refine WkVL.cons ?_ ?_|exact wkT|refine WkV.agg ?_|refine WkV.tup ?_|refine WkV.fn ?_ ?_|exact WkO.dead|exact WkO.raw|refine WkO.ghost ?_|exact WkO.mpE rfl trivial|refine WkO.box ?_ rfl|refine WkO.arr ?_|refine And.intro ?_ (And.intro aF ?_)|exact trivial|(intro i j hi hj)))
   ·rw [Bool.eq_false_iff.2 (fun h => hm (List.contains_iff_mem.1 h))] at hcon
    have hn : oS1 (fun c => plB o c vs w) L c id = oSr (fun c => plB o c vs w) L (c ++ [id]) := by unfold oS1;rw [if_neg hm]
    have hrs0 := ih (c ++ [id]) (by simp; omega)
    have hsn : ∀ p q,p < c.length + 1 → q < 1 → catE c.length (itE c) (fun i j => nth [AV.imm (.int .i64 id)] (i * 1 + j)) p q = itE (c ++ [id]) p q := fun p q => it_snoc c id (i := p) (j := q)
    have hs1 : ∀ p q, p < c.length → q < 1 → itE (c ++ [id]) p q = itE c p q := fun p q hp _ => by
     unfold itE gL; simp [List.getElem?_append_left hp]
    have hdl : (c ++ [id]).length = c.length + 1 := by simp
    generalize c ++ [id] = d at hn hrs0 hsn hs1 hdl
    have hv5 := hsn
    rw [hn] at hts
    unfold srO itO at hrs0
    rw [hdl] at hrs0
    cases hsr : oSr (fun c => plB o c vs w) L d with
    | none =>
     rw [hsr] at hrs0 hts
     simp only [Option.isSome_none, Option.getD_none] at hrs0
     unfold srP itO at hrs0
     rw [hdl] at hrs0
     have hrs : Turns Tryz.prog 166 _ _ _ _ := ⟨hrs0,trivial,fun a ha=>by simp only [List.mem_cons,List.not_mem_nil,or_false] at ha;rcases ha with rfl|rfl|rfl;exact ⟨trivial,trivial⟩;exact trivial;exact fun i j=>itE_pl _ i j⟩
     refine sgo ?_
     repeat' (first
  | (with_reducible refine hK _ ?_; clear hK K)
  | ((with_reducible refine callGoal_turns [0,4] ?_ hrs ?_ ?_ ?_ ?_ ?_);(focus (exact hC2));(focus decide);(focus (simp [nthO,AObj.alive]));(focus ((repeat' (first|(exact WkV.rptr fun _ _=>oF_wk rfl o vs w L r)|(exact WkV.free (oV_free vs))|(exact WkV.free (oO_free o))|(exact WkV.free (oW_free w))|(exact WkV.free (oL_free L))|refine WkVL.cons ?_ ?_|exact wkT|refine WkV.agg ?_|refine WkV.tup ?_|refine WkV.fn ?_ ?_|exact WkO.dead|exact WkO.raw|refine WkO.ghost ?_|exact WkO.mpE rfl trivial|refine WkO.box ?_ rfl|refine WkO.arr ?_|refine And.intro ?_ (And.intro aF ?_)|exact trivial|(intro i j hi hj)))));(focus ((repeat' (first|(exact WkV.eqF (hsn _ _ hi hj) (by simp))|refine WkVL.cons ?_ ?_|exact wkT|refine WkV.agg ?_|refine WkV.tup ?_|refine WkV.fn ?_ ?_|exact WkO.dead|exact WkO.raw|refine WkO.ghost ?_|exact WkO.mpE rfl trivial|refine WkO.box ?_ rfl|refine WkO.arr ?_|refine And.intro ?_ (And.intro aF ?_)|exact trivial|(intro i j hi hj)))));refine sgo ?_)
  | ((with_reducible first|apply gC_lookA (fun hg=>(hcon))|apply dCall_lookGA (fun hg=>(hcon)));(case hC=>exact hC1);(case hc=>(intro hg;exact cvl)))
  | ((with_reducible first|apply callGoal_lookA (hcon)|apply dCall_lookA (hcon));(case hC=>exact hC2);(case hc=>exact cvl))
  | ((with_reducible apply DC_call);(focus exact rfl);(focus exact rfl);(focus exact rfl);intro N hN;refine sgo0 ?_)
  | ((with_reducible first|refine T_seq_region Γ_ok (fun K hK=>?_)|refine T_last_region Γ_ok (fun K hK=>?_)|refine TO_callN rfl (fun N hN=>?_)|refine DCT_fork Γ_ok (fun K2 hK2=>?_)|refine DCT_last Γ_ok ?_|refine DC_ev Γ_ok ?_|refine TO_ev Γ_ok ?_|refine retQ_r ?_|refine retQ_n ?_);refine sgo0 ?_)
  | (with_reducible refine hK2 _ ?_ ?_ <;> clear hK2 K2)
  | with_reducible first|refine gC_false ?_|refine gC_true ?_|refine dCall_true ?_
  | (with_reducible refine hN _ _ ?_; clear hN N)
  | (with_reducible refine hN _ _ (dInl rfl) ?_; clear hN N)
  | ((with_reducible refine hN _ _ (.inr ?_) ?_);(focus (refine sgo0 ?_;try exact True.intro));all_goals (try clear hN N))
  | with_reducible first|refine T_seq ?_|refine T_block ?_|refine T_ret ?_|refine T_exit ?_|refine T_skip ?_|refine T_label ?_
  | with_reducible first|refine thenQ_n ?_|refine thenQ_e ?_|refine thenQ_r ?_|refine blockQ_n ?_|refine blockQ_e ?_|refine blockQ_r ?_
  | with_reducible refine blockQ_o (by decide) ?_
  | ((with_reducible refine T_cond _ rfl (fun hb=>?_) (fun hb=>?_)) <;> first|(cases hb;done)|replace hb:=sgh hb|skip)
  | (with_reducible refine And.intro aG ?_)
  | assumption | omega | exact True.intro)
     refine ⟨l.length - (i + 1), by omega, _, ?_, i + 1, by omega, by omega, hts, rfl⟩
     rw [Nat.add_sub_cancel]
     ((try refine sgl ?_);refine Wk.intro [0,1,5] (by decide) (by decide) wkH ?_ ?_ <;> repeat' (first|(exact WkV.rptr fun _ _=>oF_wk rfl o vs w L (r + 1))|(exact WkV.free (oV_free vs))|(exact WkV.free (oO_free o))|(exact WkV.free (oW_free w))|(exact WkV.free (oL_free L))|(refine WkV.imm ?_;congr 1;omega)|(refine WkO.arrLe (Nat.le_succ _) ?_)|(exact WkV.eqF (hs1 _ _ hi hj) (by simp))|refine WkVL.cons ?_ ?_|exact wkT|refine WkV.agg ?_|refine WkV.tup ?_|refine WkV.fn ?_ ?_|exact WkO.dead|exact WkO.raw|refine WkO.ghost ?_|exact WkO.mpE rfl trivial|refine WkO.box ?_ rfl|refine WkO.arr ?_|refine And.intro ?_ (And.intro aF ?_)|exact trivial|(intro i j hi hj)))
    | some q =>
     rw [hsr] at hrs0 hts
     simp only [Option.isSome_some, Option.getD_some] at hrs0
     have hrs : Turns Tryz.prog 166 _ _ _ _ := ⟨hrs0, trivial, srP_vf _⟩
     have ex : x = some q := by
      rw [e, ← List.take_append_drop (i + 1) l, List.findSome?_append, hts]; rfl
     rw [ex]
     refine sgo ?_
     repeat' (first
  | (with_reducible refine hK _ ?_; clear hK K)
  | ((with_reducible refine callGoal_turns [0,4] ?_ hrs ?_ ?_ ?_ ?_ ?_);(focus (exact hC2));(focus decide);(focus (simp [nthO,AObj.alive]));(focus ((repeat' (first|(exact WkV.rptr fun _ _=>oF_wk rfl o vs w L r)|(exact WkV.free (oV_free vs))|(exact WkV.free (oO_free o))|(exact WkV.free (oW_free w))|(exact WkV.free (oL_free L))|refine WkVL.cons ?_ ?_|exact wkT|refine WkV.agg ?_|refine WkV.tup ?_|refine WkV.fn ?_ ?_|exact WkO.dead|exact WkO.raw|refine WkO.ghost ?_|exact WkO.mpE rfl trivial|refine WkO.box ?_ rfl|refine WkO.arr ?_|refine And.intro ?_ (And.intro aF ?_)|exact trivial|(intro i j hi hj)))));(focus ((repeat' (first|(exact WkV.eqF (hsn _ _ hi hj) (by simp))|refine WkVL.cons ?_ ?_|exact wkT|refine WkV.agg ?_|refine WkV.tup ?_|refine WkV.fn ?_ ?_|exact WkO.dead|exact WkO.raw|refine WkO.ghost ?_|exact WkO.mpE rfl trivial|refine WkO.box ?_ rfl|refine WkO.arr ?_|refine And.intro ?_ (And.intro aF ?_)|exact trivial|(intro i j hi hj)))));refine sgo ?_)
  | ((with_reducible first|apply gC_lookA (fun hg=>(hcon))|apply dCall_lookGA (fun hg=>(hcon)));(case hC=>exact hC1);(case hc=>(intro hg;exact cvl)))
  | ((with_reducible first|apply callGoal_lookA (hcon)|apply dCall_lookA (hcon));(case hC=>exact hC2);(case hc=>exact cvl))
  | ((with_reducible apply DC_call);(focus exact rfl);(focus exact rfl);(focus exact rfl);intro N hN;refine sgo0 ?_)
  | ((with_reducible first|refine T_seq_region Γ_ok (fun K hK=>?_)|refine T_last_region Γ_ok (fun K hK=>?_)|refine TO_callN rfl (fun N hN=>?_)|refine DCT_fork Γ_ok (fun K2 hK2=>?_)|refine DCT_last Γ_ok ?_|refine DC_ev Γ_ok ?_|refine TO_ev Γ_ok ?_|refine retQ_r ?_|refine retQ_n ?_);refine sgo0 ?_)
  | (with_reducible refine hK2 _ ?_ ?_ <;> clear hK2 K2)
  | with_reducible first|refine gC_false ?_|refine gC_true ?_|refine dCall_true ?_
  | (with_reducible refine hN _ _ ?_; clear hN N)
  | (with_reducible refine hN _ _ (dInl rfl) ?_; clear hN N)
  | ((with_reducible refine hN _ _ (.inr ?_) ?_);(focus (refine sgo0 ?_;try exact True.intro));all_goals (try clear hN N))
  | with_reducible first|refine T_seq ?_|refine T_block ?_|refine T_ret ?_|refine T_exit ?_|refine T_skip ?_|refine T_label ?_
  | with_reducible first|refine thenQ_n ?_|refine thenQ_e ?_|refine thenQ_r ?_|refine blockQ_n ?_|refine blockQ_e ?_|refine blockQ_r ?_
  | with_reducible refine blockQ_o (by decide) ?_
  | ((with_reducible refine T_cond _ rfl (fun hb=>?_) (fun hb=>?_)) <;> first|(cases hb;done)|replace hb:=sgh hb|skip)
  | (with_reducible refine And.intro aG ?_)
  | assumption | omega | exact True.intro)
     exact ⟨rfl, 5, by omega, by simp, rfl, rfl⟩
  ·have hie : i = l.length := by omega
   rw [hie, List.take_length] at h2
   rw [e, h2]
   refine sgo ?_
   (((refine goR0 _ _ _ _ _ _ _ _ ?_ ?_ ?_ ?_ ?_ ?_ ?_ ?_)<;>(repeat intro hb)<;>first|exact True.intro|refine Lf.mk ?_))
   exact ⟨rfl, 2, by omega, by simp, rfl, rfl⟩
end Go.Proofs.YtonmienclploaaaGreatDoor
