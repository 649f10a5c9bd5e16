/-
 Parts joined: O2 O3.
-/
import Derived.Test.YtonmienclploaaaGreatDoorQGo
import Derived.Test.YtonmienclploaaaGreatDoorQO1
import Derived.Test.YtonmienclploaaaGreatDoorQGo2
import Derived.Sort.AssemblyPlain
set_option linter.unusedSimpArgs false
set_option linter.unusedVariables false
namespace Go.Proofs.YtonmienclploaaaGreatDoor
open Go.Ab
def RisI (l : List Int) : Prop := ∀ i, i + 1 < l.length → gL l i < gL l (i + 1)
set_option maxRecDepth 100000 in
set_option maxHeartbeats 4000000 in
theorem set_tc (o : Og) (ids : List Int) (ho : ogB o = true) (hl : ids.length ≤ 1000) (hr : RisI ids) (hf : ∀ i,i < ids.length → (pipR o.ps (gL ids i)).2 = true) : TC Tryz.prog 62 [ogA o,its ids,.imm (.int .i64 0)] [opO o] (fun v σ'=>v = .tup [sdA o ids (lacR o ids),.imm (.int .i64 0)] ∧ σ' = [opO o]) := by
 have hps := (ogB_iff.1 ho).2.1
 have c1 := ovalid_tc o (by omega)
 rw [ho] at c1
 have c2 := warmth_tc 0
 rw [show (decide (-100 ≤ (0 : Int)) && decide ((0 : Int) ≤ 100)) = true by decide] at c2
 have c3 := together_tc3 o ids ho hl
 refine TC.weak (Q := fun u σ'=>u = .tup [sdA o ids (lacR o ids),.imm (.int .i64 0)] ∧ nthO σ' 0 = opO o ∧ 0 < σ'.length) ?_ fun u σ' h=>⟨[0],_,[opO o],rfl,by simp,by have := h.2.2;simp;omega,?_,⟨?_,fun _=>by rw [h.2.1];rfl,trivial⟩,rfl,rfl⟩
 ·(refine TC_of_T Γ_ok Tryz.func62 rfl (by kernel_rfl) ?_;simp only [Tryz.ntmps62,Tryz.results62,List.length_cons,List.length_nil,Nat.reduceSub,Nat.reduceAdd,List.replicate,List.cons_append,List.nil_append])
  (have cl1 := c1;have cl2 := c2;repeat' (first|with_reducible refine T_seq_drawT (id := 6) Γ_ok drawsAny pl62_6 (by kernel_rfl) (fun K hK=>?_)|with_reducible refine T_last_drawT (id := 6) Γ_ok drawsAny pl62_6 (by kernel_rfl) (fun K hK=>?_)|((refine goR0 _ _ _ _ _ _ _ _ ?_ ?_ ?_ ?_ ?_ ?_ ?_ ?_)<;>(repeat intro hb)<;>first|exact True.intro|refine Lf.mk ?_)))
  refine T_loopW (fun m st=>∃ i : Nat,1 ≤ i ∧ m + i = ids.length + 1 ∧ st = ⟨[.top,its ids,.top,.optr 1 0 0,.top,.top,.optr 2 0 0,.top,.imm (.int .i64 i)] ++ List.replicate 49 .top,[opO o,opO o,sd0]⟩)
   ids.length ⟨_, ?_, 1, by omega, by omega, rfl⟩ ?_
  ·((try refine sgl ?_);exact wkI [0,1,2])
  rintro m st ⟨i, g0, g1, rfl⟩
  by_cases hi : i < ids.length
  ·have hq := hr (i - 1) (by omega)
   rw [show i - 1 + 1 = i by omega] at hq
   have e1 : decide (gL ids i ≤ gL ids (i - 1)) = false := decide_eq_false (by omega)
   refine sgo ?_
   (have sx1 := e1;have sx2:=sx0;repeat' (first|with_reducible refine T_seq_drawT (id := 6) Γ_ok drawsAny pl62_6 (by kernel_rfl) (fun K hK=>?_)|with_reducible refine T_last_drawT (id := 6) Γ_ok drawsAny pl62_6 (by kernel_rfl) (fun K hK=>?_)|((obtain ⟨sx3,sx4,sx5,sx6,sx7,sx8,sx9⟩:=sx0_7;refine goR9 _ _ _ _ _ _ _ _ ?_ ?_ ?_ ?_ ?_ ?_ ?_ ?_)<;>(repeat intro hb)<;>first|exact True.intro|refine Lf.mk ?_)))
   refine ⟨ids.length + 1 - (i + 1), by omega, _, ?_, i + 1, by omega, by omega, rfl⟩
   ((try refine sgl ?_);exact wkI [0,1,2])
  ·refine sgo ?_
   (repeat' (first|with_reducible refine T_seq_drawT (id := 6) Γ_ok drawsAny pl62_6 (by kernel_rfl) (fun K hK=>?_)|with_reducible refine T_last_drawT (id := 6) Γ_ok drawsAny pl62_6 (by kernel_rfl) (fun K hK=>?_)|((refine goR0 _ _ _ _ _ _ _ _ ?_ ?_ ?_ ?_ ?_ ?_ ?_ ?_)<;>(repeat intro hb)<;>first|exact True.intro|refine Lf.mk ?_)))
   refine T_loopW (fun m st=>∃ i : Nat,i ≤ ids.length ∧ m + i = ids.length ∧ st = ⟨[.top,its ids,.top,.optr 1 0 0,.top,.top,.optr 2 0 0] ++ List.replicate 32 .top ++ [its ids,.imm (.int .i64 ids.length),.imm (.int .i64 i)] ++ List.replicate 16 .top,[opO o,opO o,sd0]⟩)
    ids.length ⟨_, ?_, 0, by omega, rfl, rfl⟩ ?_
   ·((try refine sgl ?_);exact wkI [0,1,2])
   rintro m2 st ⟨k, f0, f1, rfl⟩
   by_cases hk : k < ids.length
   ·have c4 := pipe_tc o (gL ids k) (by omega)
    rw [hf k hk] at c4
    generalize (pipR o.ps (gL ids k)).1 = x at c4
    refine sgo ?_
    (have cl1 := c4;repeat' (first|with_reducible refine T_seq_drawT (id := 6) Γ_ok drawsAny pl62_6 (by kernel_rfl) (fun K hK=>?_)|with_reducible refine T_last_drawT (id := 6) Γ_ok drawsAny pl62_6 (by kernel_rfl) (fun K hK=>?_)|((refine goR0 _ _ _ _ _ _ _ _ ?_ ?_ ?_ ?_ ?_ ?_ ?_ ?_)<;>(repeat intro hb)<;>first|exact True.intro|refine Lf.mk ?_)))
    refine ⟨ids.length - (k + 1), by omega, _, ?_, k + 1, by omega, by omega, rfl⟩
    ((try refine sgl ?_);exact wkI [0,1,2])
   ·obtain rfl : k = ids.length := by omega
    generalize lacR o ids = la at c3
    refine sgo ?_
    repeat' (first
  | (with_reducible refine hK _ ?_; clear hK K)
  | ((with_reducible refine callGoal_mk ?_ (c3) ?_);(focus (exact hC2));(rintro _ _ ⟨rfl,rfl⟩;refine sgo ?_))
  | ((with_reducible apply DC_call);(focus exact rfl);(focus exact rfl);(focus exact rfl);intro N hN;refine sgo ?_)
  | ((with_reducible first|refine T_seq_region Γ_ok (fun K hK=>?_)|refine T_last_region Γ_ok (fun K hK=>?_)|refine T_seq_draw (id := 6) Γ_ok drawsAny [(0,[],[]),(1,[],[]),(2,[0,1],[]),(3,[0,1,2],[]),(4,[],[]),(5,[],[]),(6,[5],[]),(7,[4,5,6],[]),(8,[4,5,6,7],[]),(9,[0,1,2,3,4,5,6,7,8],[])] (by kernel_rfl) (fun K hK=>?_)|refine T_last_draw (id := 6) Γ_ok drawsAny [(0,[],[]),(1,[],[]),(2,[0,1],[]),(3,[0,1,2],[]),(4,[],[]),(5,[],[]),(6,[5],[]),(7,[4,5,6],[]),(8,[4,5,6,7],[]),(9,[0,1,2,3,4,5,6,7,8],[])] (by kernel_rfl) (fun K hK=>?_)|refine TO_callN rfl (fun N hN=>?_)|refine DCT_fork Γ_ok (fun K2 hK2=>?_)|refine DCT_last Γ_ok ?_|refine DC_ev Γ_ok ?_|refine TO_ev Γ_ok ?_|refine retQ_r ?_|refine retQ_n ?_);refine sgo ?_)
  | (with_reducible refine hK2 _ ?_ ?_ <;> clear hK2 K2)
  | with_reducible first|refine gC_false ?_|refine gC_true ?_|refine dCall_true ?_
  | (with_reducible refine hN _ _ ?_; clear hN N)
  | (with_reducible refine hN _ _ (dInl rfl) ?_; clear hN N)
  | ((with_reducible refine hN _ _ (.inr ?_) ?_);(focus (refine sgo ?_;try exact True.intro));all_goals (try clear hN N))
  | with_reducible first|refine T_seq ?_|refine T_block ?_|refine T_ret ?_|refine T_exit ?_|refine T_skip ?_|refine T_label ?_
  | with_reducible first|refine thenQ_n ?_|refine thenQ_e ?_|refine thenQ_r ?_|refine blockQ_n ?_|refine blockQ_e ?_|refine blockQ_r ?_
  | with_reducible refine blockQ_o (by decide) ?_
  | ((with_reducible refine T_cond _ rfl (fun hb=>?_) (fun hb=>?_)) <;> first|(cases hb;done)|replace hb:=sgh hb|skip)
  | (with_reducible refine And.intro aG ?_)
  | assumption | omega | exact True.intro)
    all_goals exact ⟨rfl, rfl, by simp⟩
 ·rw [h.1]
  exact WkV.free (by simp [Free, FreeL])
 ·rw [h.2.1]
  (repeat' (first|(exact WkV.free (by simp [Free]))|refine WkVL.cons ?_ ?_|exact wkT|refine WkV.agg ?_|refine WkV.tup ?_|refine WkV.fn ?_ ?_|exact WkO.dead|exact WkO.raw|refine WkO.ghost ?_|exact WkO.mpE rfl trivial|refine WkO.box ?_ rfl|refine WkO.arr ?_|refine And.intro ?_ (And.intro aF ?_)|exact trivial|(intro i j hi hj)))
set_option maxRecDepth 100000 in
set_option maxHeartbeats 4000000 in
theorem oshift_tc (o : Og) (ids : List Int) (id : Int) (ho : ogB o = true) (hl : ids.length ≤ 1000) (hr : RisI ids) (hf : ∀ i,i < ids.length → (pipR o.ps (gL ids i)).2 = true) (hm : ids.contains id = true) :
  Look Tryz.prog 42 [ogA o,its ids,.imm (.int .i64 id),.imm (.int .i64 0)] (.tup [.imm (.int .i64 (shR (pipR o.ps id).1 (lacR o ids) 0)),.imm (.int .i64 0)]) := by
 have hps := (ogB_iff.1 ho).2.1
 have c1 := set_tc o ids ho hl hr hf
 have c2 := contains_tc id ids (by omega)
 rw [hm] at c2
 have c3 := pipe_tc o id (by omega)
 have c4 := shift_tc o ids (pipR o.ps id).1 (lacR o ids) 0 (pip_ok ho id) (dem_nn ho ids hl) (by omega)
 generalize (pipR o.ps id).1 = x at c3 c4 ⊢
 generalize shR x (lacR o ids) 0 = sh at c4 ⊢
 generalize lacR o ids = la at c1 c4
 refine Look.mk (by simp [Pl, PlL]) ?_
 (refine TC_of_T Γ_ok Tryz.func42 rfl (by kernel_rfl) ?_;simp only [Tryz.ntmps42,Tryz.results42,List.length_cons,List.length_nil,Nat.reduceSub,Nat.reduceAdd,List.replicate,List.cons_append,List.nil_append])
 repeat' (first
  | (with_reducible refine hK _ ?_; clear hK K)
  | ((with_reducible refine callGoal_mk ?_ (c1) ?_);(focus (exact hC2));(rintro _ _ ⟨rfl,rfl⟩;refine sgo ?_))
  | ((with_reducible first|apply callGoal_lookA (c2)|apply dCall_lookA (c2)|apply callGoal_lookA (c3)|apply dCall_lookA (c3)|apply callGoal_lookA (c4)|apply dCall_lookA (c4));(case hC=>exact hC2);(case hc=>exact cvl))
  | ((with_reducible first|apply gC_lookA (fun hg=>(c2))|apply dCall_lookGA (fun hg=>(c2))|apply gC_lookA (fun hg=>(c3))|apply dCall_lookGA (fun hg=>(c3))|apply gC_lookA (fun hg=>(c4))|apply dCall_lookGA (fun hg=>(c4)));(case hC=>exact hC1);(case hc=>(intro hg;exact cvl)))
  | ((with_reducible apply DC_call);(focus exact rfl);(focus exact rfl);(focus exact rfl);intro N hN;refine sgo ?_)
  | ((with_reducible first|refine T_seq_region Γ_ok (fun K hK=>?_)|refine T_last_region Γ_ok (fun K hK=>?_)|refine TO_callN rfl (fun N hN=>?_)|refine DCT_fork Γ_ok (fun K2 hK2=>?_)|refine DCT_last Γ_ok ?_|refine DC_ev Γ_ok ?_|refine TO_ev Γ_ok ?_|refine retQ_r ?_|refine retQ_n ?_);refine sgo ?_)
  | (with_reducible refine hK2 _ ?_ ?_ <;> clear hK2 K2)
  | with_reducible first|refine gC_false ?_|refine gC_true ?_|refine dCall_true ?_
  | (with_reducible refine hN _ _ ?_; clear hN N)
  | (with_reducible refine hN _ _ (dInl rfl) ?_; clear hN N)
  | ((with_reducible refine hN _ _ (.inr ?_) ?_);(focus (refine sgo ?_;try exact True.intro));all_goals (try clear hN N))
  | with_reducible first|refine T_seq ?_|refine T_block ?_|refine T_ret ?_|refine T_exit ?_|refine T_skip ?_|refine T_label ?_
  | with_reducible first|refine thenQ_n ?_|refine thenQ_e ?_|refine thenQ_r ?_|refine blockQ_n ?_|refine blockQ_e ?_|refine blockQ_r ?_
  | with_reducible refine blockQ_o (by decide) ?_
  | ((with_reducible refine T_cond _ rfl (fun hb=>?_) (fun hb=>?_)) <;> first|(cases hb;done)|replace hb:=sgh hb|skip)
  | (with_reducible refine And.intro aG ?_)
  | assumption | omega | exact True.intro)
end Go.Proofs.YtonmienclploaaaGreatDoor
namespace Go.Proofs.YtonmienclploaaaGreatDoor
open Go.Ab Go.Sort
set_option maxRecDepth 100000 in
set_option maxHeartbeats 4000000 in
theorem clone_nil (c : Nat) : TC Tryz.prog 40 [.imm (.slice none 0 c)] [] (fun v σ' => v = .imm (.slice none 0 0) ∧ σ' = []) := by
 (refine TC_of_T Γ_ok Tryz.func40 rfl (by kernel_rfl) ?_;simp only [Tryz.ntmps40,Tryz.results40,List.length_cons,List.length_nil,Nat.reduceSub,Nat.reduceAdd,List.replicate,List.cons_append,List.nil_append])
 (((refine goR0 _ _ _ _ _ _ _ _ ?_ ?_ ?_ ?_ ?_ ?_ ?_ ?_)<;>(repeat intro hb)<;>first|exact True.intro|refine Lf.mk ?_))
 all_goals simp
set_option maxRecDepth 100000 in
set_option maxHeartbeats 4000000 in
theorem clone_emp (a : Addr) (c : Nat) : TC Tryz.prog 40 [.imm (.slice (some a) 0 c)] [] (fun v σ' => ∃ o g,v = .own 1 0 0 none ∧ σ' = [o,.arr 3 1 0 g]) := by
 (refine TC_of_T Γ_ok Tryz.func40 rfl (by kernel_rfl) ?_;simp only [Tryz.ntmps40,Tryz.results40,List.length_cons,List.length_nil,Nat.reduceSub,Nat.reduceAdd,List.replicate,List.cons_append,List.nil_append])
 (((refine goR0 _ _ _ _ _ _ _ _ ?_ ?_ ?_ ?_ ?_ ?_ ?_ ?_)<;>(repeat intro hb)<;>first|exact True.intro|refine Lf.mk ?_))
 all_goals exact ⟨_, _, rfl⟩
set_option maxRecDepth 100000 in
set_option maxHeartbeats 4000000 in
theorem clone_pos (n : Nat) (E : Nat → Nat → AV) (hl : n ≤ 1000000000) (h0 : 0 < n) : TC Tryz.prog 40 [.view n 1 E] [] (fun v σ' => ∃ o,v = .own 1 0 n none ∧ σ' = [o,.arr 3 1 n E]) := by
 (refine TC_of_T Γ_ok Tryz.func40 rfl (by kernel_rfl) ?_;simp only [Tryz.ntmps40,Tryz.results40,List.length_cons,List.length_nil,Nat.reduceSub,Nat.reduceAdd,List.replicate,List.cons_append,List.nil_append])
 (((refine goR0 _ _ _ _ _ _ _ _ ?_ ?_ ?_ ?_ ?_ ?_ ?_ ?_)<;>(repeat intro hb)<;>first|exact True.intro|refine Lf.mk ?_))
 all_goals exact ⟨_, rfl⟩
theorem clone_gen (n : Nat) (E : Nat → Nat → AV) (hl : n ≤ 1000000000) (hE : ∀ i j,Pl (E i j)) : Makes Tryz.prog 40 [.view n 1 E] (.own 0 0 n none) [.arr 3 1 n E] := by
 refine ⟨TC_view_cases (us1 := []) (us2 := []) (fun h0 a c => ?_) (fun h0 c => ?_) (fun h0 => ?_),trivial,fun a ha => by simp only [List.mem_singleton] at ha;subst ha;exact hE⟩
 ·refine (clone_emp a c).weak fun v σ' ⟨o,g,hv,hs⟩ => ⟨[1],_,[.arr 3 1 n E],by simp,by simp,by subst hs;simp,?_,?_,rfl,rfl⟩
  ·subst hv
   rw [h0]
   exact WkV.own rfl (by simp)
  ·subst hs
   simp only [WkOL, nthO, and_true]
   refine ⟨?_, fun _ => rfl⟩
   rw [h0]
   exact WkO.arr fun i j hi => by omega
 ·refine ((clone_nil c).pushNone 3 1 E).weak fun v σ' ⟨σ0,⟨hv,hs0⟩,hs⟩ => ⟨[0],_,[.arr 3 1 n E],by simp,by simp,by subst hs;subst hs0;simp,?_,?_,rfl,rfl⟩
  ·subst hv
   rw [h0]
   exact WkV.nil_own (.inl rfl)
  ·subst hs; subst hs0
   simp only [List.nil_append, WkOL, nthO, and_true]
   refine ⟨?_, fun _ => rfl⟩
   rw [h0]
   exact WkO.arr fun i j hi => by omega
 ·refine (clone_pos n E hl h0).weak fun v σ' ⟨o,hv,hs⟩ => ⟨[1],_,[.arr 3 1 n E],by simp,by simp,by subst hs;simp,?_,?_,rfl,rfl⟩
  ·subst hv
   exact WkV.own rfl (by simp)
  ·subst hs
   simp only [WkOL, nthO, and_true]
   refine ⟨?_, fun _ => rfl⟩
   exact WkO.arr fun i j _ _ => WkV.free (Pl.free _ (hE i j))
theorem clone_tc (l : List Int) (hl : l.length ≤ 1000000000) : Makes Tryz.prog 40 [its l] (.own 0 0 l.length none) [itO l] := clone_gen l.length (itE l) hl (itE_pl l)
def iaE (d : Array Int) (i _j : Nat) : AV := .imm (.int .i64 d[i]!)
@[go_sem] theorem iaE_eq (d : Array Int) (i j : Nat) : iaE d i j = .imm (.int .i64 d[i]!) := rfl
@[simp] theorem iaE_free (d : Array Int) (i j : Nat) : Free (iaE d i j) := trivial
@[go_sem, reducible] def iaO (n : Nat) (d : Array Int) : AObj := .arr 3 1 n (iaE d)
def ltI (x y : Int) : Bool := decide (x < y)
theorem iaE_it (l : List Int) (i j : Nat) : iaE l.toArray i j = itE l i j := by
 unfold iaE itE gL
 congr 2
 simp [List.getD_eq_getElem?_getD]
theorem swp_iaE {d : Array Int} {i j : Nat} (hi : i < d.size) (hj : j < d.size) (p q : Nat) (hq : q < 1) : updE (updE (iaE d) i 0 [.imm (.int .i64 d[j]!)]) j 0 [.imm (.int .i64 d[i]!)] p q = iaE (swp d i j) p q := by
 obtain rfl : q = 0 := by omega
 unfold updE iaE
 by_cases h1 : p = j
 ·subst h1
  rw [swp_right _ _ _ hj, if_pos ⟨rfl, Nat.le_refl _, by simp⟩]
  rfl
 ·rw [if_neg (fun h => h1 h.1)]
  by_cases h3 : p = i
  ·subst h3
   rw [swp_left _ _ _ hi h1, if_pos ⟨rfl, Nat.le_refl _, by simp⟩]
   rfl
  ·rw [if_neg (fun h => h3 h.1), swp_other _ _ _ _ h3 h1]
theorem inO_lt {lt : Int → Int → Bool} {a b i : Nat} {d : Array Int} (h : i < b) : insOuter lt a b i d = insOuter lt a b (i + 1) (insInner lt a i d) := by
 rw [insOuter, if_pos h]
theorem inO_ge {lt : Int → Int → Bool} {a b i : Nat} {d : Array Int} (h : ¬ i < b) : insOuter lt a b i d = d := by
 rw [insOuter, if_neg h]
theorem inI_go {lt : Int → Int → Bool} {a j : Nat} {d : Array Int} (h : a < j) (h2 : lt d[j]! d[j - 1]! = true) : insInner lt a j d = insInner lt a (j - 1) (swp d j (j - 1)) := by
 obtain ⟨q, rfl⟩ : ∃ q, j = q + 1 := ⟨j - 1, by omega⟩
 simp only [Nat.add_sub_cancel] at h2 ⊢
 rw [insInner, if_pos (by simp [h2]; omega)]
theorem inI_stop {lt : Int → Int → Bool} {a j : Nat} {d : Array Int} (h : a < j → lt d[j]! d[j - 1]! = false) : insInner lt a j d = d := by
 cases j with
 | zero => rfl
 | succ q =>
  simp only [Nat.add_sub_cancel] at h
  rw [insInner, if_neg (by simpa using fun e => h (by omega))]
set_option maxRecDepth 100000 in
set_option maxHeartbeats 4000000 in
theorem isNaNi_tc (x : Int) : Look Tryz.prog 86 [.imm (.int .i64 x)] (.imm (.bool false)) := by
 refine Look.mk trivial ?_
 (refine TC_of_T Γ_ok Tryz.func86 rfl (by kernel_rfl) ?_;simp only [Tryz.ntmps86,Tryz.results86,List.length_cons,List.length_nil,Nat.reduceSub,Nat.reduceAdd,List.replicate,List.cons_append,List.nil_append])
 (((refine goR0 _ _ _ _ _ _ _ _ ?_ ?_ ?_ ?_ ?_ ?_ ?_ ?_)<;>(repeat intro hb)<;>first|exact True.intro|refine Lf.mk ?_))
 all_goals simp
set_option maxRecDepth 100000 in
set_option maxHeartbeats 4000000 in
theorem lessI_tc (x y : Int) : Look Tryz.prog 93 [.imm (.int .i64 x), .imm (.int .i64 y)] (.imm (.bool (ltI x y))) := by
 refine Look.mk trivial ?_
 unfold ltI
 (refine TC_of_T Γ_ok Tryz.func93 rfl (by kernel_rfl) ?_;simp only [Tryz.ntmps93,Tryz.results93,List.length_cons,List.length_nil,Nat.reduceSub,Nat.reduceAdd,List.replicate,List.cons_append,List.nil_append])
 (have cl1 := fun u1=>isNaNi_tc u1;((have sx1:=sx0;refine goB1 _ _ _ _ _ _ _ _ ?_ ?_ ?_ ?_ ?_ ?_ ?_ ?_)<;>(repeat intro hb)<;>first|exact True.intro|refine Lf.mk ?_))
set_option maxRecDepth 100000 in
set_option maxHeartbeats 4000000 in
theorem insI_tc (n : Nat) (d : Array Int) (hd : d.size = n) (hn : n ≤ 60000) : TC Tryz.prog 87 [.own 0 0 n none,.imm (.int .i64 0),.imm (.int .i64 n)] [iaO n d] (fun v σ'=>v = .tup [] ∧ σ' = [iaO n (insertionSort ltI d 0 n)]) := by
 (refine TC_of_T Γ_ok Tryz.func87 rfl (by kernel_rfl) ?_;simp only [Tryz.ntmps87,Tryz.results87,List.length_cons,List.length_nil,Nat.reduceSub,Nat.reduceAdd,List.replicate,List.cons_append,List.nil_append])
 (repeat' (first|with_reducible refine T_seq_drawT (id := 4) Γ_ok drawsAny pl87_4 (by kernel_rfl) (fun K hK=>?_)|with_reducible refine T_last_drawT (id := 4) Γ_ok drawsAny pl87_4 (by kernel_rfl) (fun K hK=>?_)|with_reducible refine T_seq_drawT (id := 6) Γ_ok drawsAny pl87_6 (by kernel_rfl) (fun K hK=>?_)|with_reducible refine T_last_drawT (id := 6) Γ_ok drawsAny pl87_6 (by kernel_rfl) (fun K hK=>?_)|((refine goR0 _ _ _ _ _ _ _ _ ?_ ?_ ?_ ?_ ?_ ?_ ?_ ?_)<;>(repeat intro hb)<;>first|exact True.intro|refine Lf.mk ?_)))
 refine T_loopW (fun m st=>∃ (i : Nat) (e : Array Int),0 < i ∧ i ≤ 60001 ∧ m = n - i ∧ e.size = n ∧ insOuter ltI 0 n i e = insertionSort ltI d 0 n ∧ st = ⟨[.own 0 0 n none,.imm (.int .i64 0),.imm (.int .i64 n),.top,.top,.top,.imm (.int .i64 i)] ++ List.replicate 42 .top,[iaO n e]⟩) (n - 1) ⟨_,?_,1,d,by omega,by omega,rfl,hd,rfl,rfl⟩ ?_
 ·((try refine sgl ?_);exact wkI [0])
 rintro m st ⟨i, e, h1, h2, h3, h4, h5, rfl⟩
 refine sgo ?_
 (repeat' (first|with_reducible refine T_seq_drawT (id := 4) Γ_ok drawsAny pl87_4 (by kernel_rfl) (fun K hK=>?_)|with_reducible refine T_last_drawT (id := 4) Γ_ok drawsAny pl87_4 (by kernel_rfl) (fun K hK=>?_)|with_reducible refine T_seq_drawT (id := 6) Γ_ok drawsAny pl87_6 (by kernel_rfl) (fun K hK=>?_)|with_reducible refine T_last_drawT (id := 6) Γ_ok drawsAny pl87_6 (by kernel_rfl) (fun K hK=>?_)|((refine goR0 _ _ _ _ _ _ _ _ ?_ ?_ ?_ ?_ ?_ ?_ ?_ ?_)<;>(repeat intro hb)<;>first|exact True.intro|refine Lf.mk ?_)))
 ·refine T_loopW (fun q st=>∃ (j : Nat) (f : Array Int),j ≤ i ∧ q = j ∧ f.size = n ∧ insInner ltI 0 j f = insInner ltI 0 i e ∧ st = ⟨[.own 0 0 n none,.imm (.int .i64 0),.imm (.int .i64 n),.top,.top,.top,.imm (.int .i64 i),.imm (.int .i64 j)] ++ List.replicate 41 .top,[iaO n f]⟩) i ⟨_,?_,i,e,by omega,rfl,h4,rfl,rfl⟩ ?_
  ·((try refine sgl ?_);exact wkI [0])
  rintro j st ⟨_, f, g2, rfl, g4, g5, rfl⟩
  have c1 := lessI_tc f[j]! f[j - 1]!
  have hlt : ltI f[j]! f[j - 1]! = decide (f[j]! < f[j - 1]!) := rfl
  generalize hL2 : ltI f[j]! f[j - 1]! = lb at c1 hlt
  refine sgo ?_
  (have cl1 := c1;repeat' (first|with_reducible refine T_seq_drawT (id := 4) Γ_ok drawsAny pl87_4 (by kernel_rfl) (fun K hK=>?_)|with_reducible refine T_last_drawT (id := 4) Γ_ok drawsAny pl87_4 (by kernel_rfl) (fun K hK=>?_)|with_reducible refine T_seq_drawT (id := 6) Γ_ok drawsAny pl87_6 (by kernel_rfl) (fun K hK=>?_)|with_reducible refine T_last_drawT (id := 6) Γ_ok drawsAny pl87_6 (by kernel_rfl) (fun K hK=>?_)|((refine goR0 _ _ _ _ _ _ _ _ ?_ ?_ ?_ ?_ ?_ ?_ ?_ ?_)<;>(repeat intro hb)<;>first|exact True.intro|refine Lf.mk ?_)))
  ·refine ⟨j - 1, by omega, _, ?_, j - 1, swp f j (j - 1), by omega, rfl, by rw [size_swp]; exact g4, ?_, rfl⟩
   ·((try refine sgl ?_);refine Wk.intro [0] (by decide) (by decide) wkH ?_ ?_ <;> repeat' (first|(refine WkV.imm ?_;congr 1;omega)|(exact WkV.eqF (swp_iaE (by omega) (by omega) _ _ hj) (by simp))|refine WkVL.cons ?_ ?_|exact wkT|refine WkV.agg ?_|refine WkV.tup ?_|refine WkV.fn ?_ ?_|exact WkO.dead|exact WkO.raw|refine WkO.ghost ?_|exact WkO.mpE rfl trivial|refine WkO.box ?_ rfl|refine WkO.arr ?_|refine And.intro ?_ (And.intro aF ?_)|exact trivial|(intro i j hi hj)))
   ·exact (inI_go (lt := ltI) (a := 0) (j := j) (d := f) (by omega) (hL2.trans hb.2)).symm.trans g5
  ·refine ⟨n - (i + 1), by omega, _, ?_, i + 1, f, by omega, by omega, rfl, g4, ?_, rfl⟩
   ·((try refine sgl ?_);exact wkI [0])
   ·rw [inI_stop (lt := ltI) (a := 0) (j := j) (d := f) (fun h => hL2.trans (hb (by omega)))] at g5
    rw [← h5, inO_lt (i := i) (by omega), g5]
 ·rw [← h5, inO_ge (by omega)]
theorem iaO_vf (n : Nat) (d : Array Int) : ∀ a ∈ [iaO n d], VFO a := fun a ha => by
 simp only [List.mem_singleton] at ha
 subst ha
 exact fun _ _ => trivial
theorem insI_tu (n : Nat) (d : Array Int) (hd : d.size = n) (hn : n ≤ 60000) : Turns Tryz.prog 87 [.own 0 0 n none,.imm (.int .i64 0),.imm (.int .i64 n)] [iaO n d] (.tup []) [iaO n (insertionSort ltI d 0 n)] :=
 ⟨insI_tc n d hd hn, by simp [VF, VFL], iaO_vf _ _⟩
set_option maxRecDepth 100000 in
set_option maxHeartbeats 4000000 in
theorem pdqI_tc (n : Nat) (d : Array Int) (hd : d.size = n) (hn : n ≤ 12) (lim : Int) : TC Tryz.prog 61 [.own 0 0 n none,.imm (.int .i64 0),.imm (.int .i64 n),.imm (.int .i64 lim)] [iaO n d] (fun v σ'=>v = .tup [] ∧ σ' = [iaO n (insertionSort ltI d 0 n)]) := by
 have e1 : decide (((n : Int) - 0) ≤ 12) = true := decide_eq_true (by omega)
 have e2 : decide ((n : Int) ≤ 12) = true := decide_eq_true (by omega)
 (refine TC_of_T Γ_ok Tryz.func61 rfl (by kernel_rfl) ?_;simp only [Tryz.ntmps61,Tryz.results61,List.length_cons,List.length_nil,Nat.reduceSub,Nat.reduceAdd,List.replicate,List.cons_append,List.nil_append])
 (((refine goR0 _ _ _ _ _ _ _ _ ?_ ?_ ?_ ?_ ?_ ?_ ?_ ?_)<;>(repeat intro hb)<;>first|exact True.intro|refine Lf.mk ?_))
 refine T_loopW (fun m st=>st = ⟨[.own 0 0 n none,.imm (.int .i64 0),.imm (.int .i64 n),.imm (.int .i64 lim),.top,.top,.top,.top,.imm (.bool true),.imm (.bool true)] ++ List.replicate 124 .top,[iaO n d]⟩) 0 ⟨_,?_,rfl⟩ ?_
 ·((try refine sgl ?_);exact wkI [0])
 rintro m st rfl
 refine sgo ?_
 (have ct1 := TurnsAt.mk [0] (insI_tu n d hd (by omega));have sx1 := e1;have sx2 := e2;((obtain ⟨sx3,sx4,sx5,sx6,sx7,sx8,sx9⟩:=sx0_7;refine goR9 _ _ _ _ _ _ _ _ ?_ ?_ ?_ ?_ ?_ ?_ ?_ ?_)<;>(repeat intro hb)<;>first|exact True.intro|refine Lf.mk ?_))
theorem pdqI_tu (n : Nat) (d : Array Int) (hd : d.size = n) (hn : n ≤ 12) (lim : Int) : Turns Tryz.prog 61 [.own 0 0 n none,.imm (.int .i64 0),.imm (.int .i64 n),.imm (.int .i64 lim)] [iaO n d] (.tup []) [iaO n (insertionSort ltI d 0 n)] :=
 ⟨pdqI_tc n d hd hn lim, by simp [VF, VFL], iaO_vf _ _⟩
set_option maxRecDepth 100000 in
set_option maxHeartbeats 4000000 in
theorem sortI_tc (n : Nat) (d : Array Int) (hd : d.size = n) (hn : n ≤ 12) : TC Tryz.prog 41 [.own 0 0 n none] [iaO n d] (fun v σ' => v = .tup [] ∧ σ' = [iaO n (insertionSort ltI d 0 n)]) := by
 have e2 : IntKind.u64.wrap (n : Int) = (n : Int) := wrapU (by omega) (by omega)
 (refine TC_of_T Γ_ok Tryz.func41 rfl (by kernel_rfl) ?_;simp only [Tryz.ntmps41,Tryz.results41,List.length_cons,List.length_nil,Nat.reduceSub,Nat.reduceAdd,List.replicate,List.cons_append,List.nil_append])
 (have cl1 := Q.len_tc n (by omega);have ct1 := fun u1=>TurnsAt.mk [0] (pdqI_tu n d hd hn u1);have sx1 := e2;have sx2:=sx0;((obtain ⟨sx3,sx4,sx5,sx6,sx7,sx8,sx9⟩:=sx0_7;refine goR9 _ _ _ _ _ _ _ _ ?_ ?_ ?_ ?_ ?_ ?_ ?_ ?_)<;>(repeat intro hb)<;>first|exact True.intro|refine Lf.mk ?_))
def srtI (l : List Int) : List Int := (insertionSort ltI l.toArray 0 l.length).toList
theorem pdq_1I {lt : Int → Int → Bool} {d : Array Int} {a b limit : Nat} {wb wp : Bool} (h : b - a ≤ 12) : pdq lt d a b limit wb wp = insertionSort lt d a b := by rw [pdq,if_pos h]
theorem srt_eq {l : List Int} (hn : l.length ≤ 12) : insertionSort ltI l.toArray 0 l.length = Go.Sort.sort ltI l.toArray := by
 rw [Go.Sort.sort, pdq_1I (by simpa using hn)]
 simp
theorem swoI : SWO ltI := by
 refine ⟨fun x => ?_, fun x y z h1 h2 => ?_, fun x y z h1 h2 => ?_⟩
 ·unfold ltI; simp
 ·unfold ltI at *; simp only [decide_eq_true_eq] at *; omega
 ·unfold ltI at *; simp only [decide_eq_false_iff_not] at *; omega
theorem srt_perm {l : List Int} (hn : l.length ≤ 12) : (srtI l).Perm l := by
 unfold srtI
 rw [srt_eq hn]
 have h := (Go.Sort.sort_sorts ltI swoI l.toArray).1
 have h1 := h.1
 have h2 := h.2.2
 rw [show (Go.Sort.sort ltI l.toArray).extract 0 l.toArray.size = Go.Sort.sort ltI l.toArray by rw [← h1];simp,show l.toArray.extract 0 l.toArray.size = l.toArray by simp] at h2
 exact h2
theorem srt_ris {l : List Int} (hn : l.length ≤ 12) (hd : l.Nodup) : RisI (srtI l) := by
 have hp := srt_perm hn
 have hnd : (srtI l).Nodup := hp.nodup_iff.2 hd
 have h := Go.Sort.sort_sorts ltI swoI l.toArray
 have h1 := h.1.1
 have h2 := h.2
 intro i hi
 have e : srtI l = (Go.Sort.sort ltI l.toArray).toList := by unfold srtI; rw [srt_eq hn]
 have hlen : (srtI l).length = (Go.Sort.sort ltI l.toArray).size := by rw [e]; simp
 have h3 := h2 i (i + 1) (by omega) (by omega) (by omega)
 have e4 : ∀ k, k < (srtI l).length → gL (srtI l) k = (Go.Sort.sort ltI l.toArray)[k]! := fun k hk => by
  rw [hlen] at hk
  rw [e, getElem!_pos (Go.Sort.sort ltI l.toArray) k hk]
  simp [gL, hk]
 have h5 : gL (srtI l) i ≠ gL (srtI l) (i + 1) := by
  intro he
  have a1 : gL (srtI l) i = (srtI l)[i]'(by omega) := by simp [gL, show i < (srtI l).length by omega]
  have a2 : gL (srtI l) (i + 1) = (srtI l)[i + 1]'hi := by simp [gL, hi]
  rw [a1, a2] at he
  exact List.pairwise_iff_getElem.1 hnd i (i + 1) (by omega) hi (by omega) he
 have b1 := e4 i (by omega)
 have b2 := e4 (i + 1) hi
 rw [b1, b2] at h5 ⊢
 rw [show ltI (Go.Sort.sort ltI l.toArray)[i + 1]! (Go.Sort.sort ltI l.toArray)[i]! = decide ((Go.Sort.sort ltI l.toArray)[i + 1]! < (Go.Sort.sort ltI l.toArray)[i]!) from rfl,decide_eq_false_iff_not] at h3
 omega
set_option maxRecDepth 100000 in
set_option maxHeartbeats 4000000 in
theorem sortL_tu (l : List Int) (hn : l.length ≤ 12) : Turns Tryz.prog 41 [.own 0 0 l.length none] [itO l] (.tup []) [.arr 3 1 l.length (itE (srtI l))] := by
 have h := sortI_tc l.length l.toArray (by simp) hn
 have e : ∀ d : Array Int, iaE d = itE d.toList := fun d => by funext i j; rw [← iaE_it]
 have e1 : iaO l.length l.toArray = itO l := by unfold iaO itO; rw [e]
 have e2 : iaO l.length (insertionSort ltI l.toArray 0 l.length) = .arr 3 1 l.length (itE (srtI l)) := by unfold iaO srtI;rw [e]
 rw [e1, e2] at h
 exact ⟨h, by simp [VF, VFL], fun a ha => by simp only [List.mem_singleton] at ha; subst ha; exact fun _ _ => trivial⟩
end Go.Proofs.YtonmienclploaaaGreatDoor
