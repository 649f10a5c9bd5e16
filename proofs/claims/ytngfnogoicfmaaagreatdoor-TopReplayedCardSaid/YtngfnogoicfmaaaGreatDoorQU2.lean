/-
  Parts joined: W6 W7 W8 W9 W10.
-/
import Derived.Test.YtngfnogoicfmaaaGreatDoorQU1
import Derived.Test.YtngfnogoicfmaaaGreatDoorQGo
import Derived.Test.YtngfnogoicfmaaaGreatDoorQA5
set_option linter.unusedSimpArgs false
set_option linter.unusedVariables false
namespace Go.Proofs.YtngfnogoicfmaaaGreatDoor
open Go.Ab
theorem low_spec {l : List Tk} (k : Int) (hr : Ris l) : low l k ≤ l.length ∧ (∀ j,j < low l k → (gt l j).s < k) ∧ (∀ j,low l k ≤ j → j < l.length → k ≤ (gt l j).s) := by
  have key : ∃ i, i ≤ l.length ∧ (∀ j, j < i → (gt l j).s < k) ∧ (∀ j, i ≤ j → j < l.length → k ≤ (gt l j).s) := by
    by_cases h : ∃ i, i < l.length ∧ k ≤ (gt l i).s
    · obtain ⟨i,⟨hi,hk⟩,hmin⟩ := exists_min (p := fun i => i < l.length ∧ k ≤ (gt l i).s) (m := h.choose) h.choose_spec
      refine ⟨i, by omega, fun j hj => ?_, fun j hj hjl => ?_⟩
      · have : ¬ (j < l.length ∧ k ≤ (gt l j).s) := fun q => by have := hmin j q; omega
        have hjl : j < l.length := by omega
        exact Int.not_le.1 fun q => this ⟨hjl, q⟩
      · by_cases e : i = j
        · rw [← e]; exact hk
        · exact Int.le_trans hk (Int.le_of_lt (hr.lt (by omega) hjl))
    · exact ⟨l.length, Nat.le_refl _, fun j hj => Int.not_le.1 fun q => h ⟨j, hj, q⟩, fun j h1 h2 => by omega⟩
  obtain ⟨i, h1, h2, h3⟩ := key
  rw [low_eq h1 h2 h3]
  exact ⟨h1, h2, h3⟩
end Go.Proofs.YtngfnogoicfmaaaGreatDoor
namespace Go.Proofs.YtngfnogoicfmaaaGreatDoor
open Go.Ab
@[go_sem, reducible] def tkO (l : List Tk) : AObj := .arr 47 4 l.length (tkE l)
@[go_sem, reducible] def ownT (l : List Tk) : AV := .own 0 0 l.length none
set_option maxRecDepth 100000 in
set_option maxHeartbeats 4000000 in
theorem clone_nil (c : Nat) : TC Tryz.prog 94 [.imm (.slice none 0 c)] [] (fun v σ' => v = .imm (.slice none 0 0) ∧ σ' = []) := by
  (refine TC_of_T Γ_ok Tryz.func94 rfl (by kernel_rfl) ?_;simp only [Tryz.ntmps94,Tryz.results94,List.length_cons,List.length_nil,Nat.reduceSub,Nat.reduceAdd,List.replicate,List.cons_append,List.nil_append])
  (((refine goR0 _ _ _ _ _ _ _ _ ?_ ?_ ?_ ?_ ?_ ?_ ?_ ?_) <;> (repeat intro hb) <;> first | exact True.intro | refine Lf.mk ?_))
  all_goals simp
set_option maxRecDepth 100000 in
set_option maxHeartbeats 4000000 in
theorem clone_emp (a : Addr) (c : Nat) : TC Tryz.prog 94 [.imm (.slice (some a) 0 c)] [] (fun v σ' => ∃ o g,v = .own 1 0 0 none ∧ σ' = [o,.arr 47 4 0 g]) := by
  (refine TC_of_T Γ_ok Tryz.func94 rfl (by kernel_rfl) ?_;simp only [Tryz.ntmps94,Tryz.results94,List.length_cons,List.length_nil,Nat.reduceSub,Nat.reduceAdd,List.replicate,List.cons_append,List.nil_append])
  (((refine goR0 _ _ _ _ _ _ _ _ ?_ ?_ ?_ ?_ ?_ ?_ ?_ ?_) <;> (repeat intro hb) <;> first | exact True.intro | refine Lf.mk ?_))
  all_goals exact ⟨_, _, rfl⟩
set_option maxRecDepth 100000 in
set_option maxHeartbeats 4000000 in
theorem clone_pos (n : Nat) (E : Nat → Nat → AV) (hl : n ≤ 1000000000) (h0 : 0 < n) : TC Tryz.prog 94 [.view n 4 E] [] (fun v σ' => ∃ o,v = .own 1 0 n none ∧ σ' = [o,.arr 47 4 n E]) := by
  (refine TC_of_T Γ_ok Tryz.func94 rfl (by kernel_rfl) ?_;simp only [Tryz.ntmps94,Tryz.results94,List.length_cons,List.length_nil,Nat.reduceSub,Nat.reduceAdd,List.replicate,List.cons_append,List.nil_append])
  (((refine goR0 _ _ _ _ _ _ _ _ ?_ ?_ ?_ ?_ ?_ ?_ ?_ ?_) <;> (repeat intro hb) <;> first | exact True.intro | refine Lf.mk ?_))
  all_goals exact ⟨_, rfl⟩
theorem tkO_pl (l : List Tk) : PlO (tkO l) := fun i j => tkE_pl l i j
theorem clone_gen (n : Nat) (E : Nat → Nat → AV) (hl : n ≤ 1000000000) (hE : ∀ i j,Pl (E i j)) : Makes Tryz.prog 94 [.view n 4 E] (.own 0 0 n none) [.arr 47 4 n E] := by
  refine ⟨TC_view_cases (us1 := []) (us2 := []) (fun h0 a c => ?_) (fun h0 c => ?_) (fun h0 => ?_),trivial,fun a ha => by simp only [List.mem_singleton] at ha;subst ha;exact hE⟩
  · refine (clone_emp a c).weak fun v σ' ⟨o,g,hv,hs⟩ => ⟨[1],_,[.arr 47 4 n E],by simp,by simp,by subst hs;simp,?_,?_,rfl,rfl⟩
    · subst hv
      rw [h0]
      exact WkV.own rfl (by simp)
    · subst hs
      simp only [WkOL, nthO, and_true]
      refine ⟨?_, fun _ => rfl⟩
      rw [h0]
      exact WkO.arr fun i j hi => by omega
  · refine ((clone_nil c).pushNone 47 4 E).weak fun v σ' ⟨σ0,⟨hv,hs0⟩,hs⟩ => ⟨[0],_,[.arr 47 4 n E],by simp,by simp,by subst hs;subst hs0;simp,?_,?_,rfl,rfl⟩
    · subst hv
      rw [h0]
      exact WkV.nil_own (.inl rfl)
    · subst hs; subst hs0
      simp only [List.nil_append, WkOL, nthO, and_true]
      refine ⟨?_, fun _ => rfl⟩
      rw [h0]
      exact WkO.arr fun i j hi => by omega
  · refine (clone_pos n E hl h0).weak fun v σ' ⟨o,hv,hs⟩ => ⟨[1],_,[.arr 47 4 n E],by simp,by simp,by subst hs;simp,?_,?_,rfl,rfl⟩
    · subst hv
      exact WkV.own rfl (by simp)
    · subst hs
      simp only [WkOL, nthO, and_true]
      refine ⟨?_, fun _ => rfl⟩
      exact WkO.arr fun i j _ _ => WkV.free (Pl.free _ (hE i j))
theorem clone_tc (l : List Tk) (hl : l.length ≤ 1000000000) : Makes Tryz.prog 94 [tks l] (ownT l) [tkO l] := clone_gen l.length (tkE l) hl (tkE_pl l)
end Go.Proofs.YtngfnogoicfmaaaGreatDoor
namespace Go.Proofs.YtngfnogoicfmaaaGreatDoor
open Go.Ab
theorem overlaps_tc {n : Nat} {c : Option Nat} {el : Nat → Nat → AV} {o s k : Nat} {c' : Option Nat} {len : Nat} {el' : Nat → Nat → AV} {σ : List AObj} (hob : nthO σ o = .arr 47 4 len el') :
    TC Tryz.prog 104 [.pv n 4 c el, .own o s k c'] σ (fun v σ' => v = .imm (.bool false) ∧ σ' = σ) :=
  TC_overlaps (tS := 23) (tR := 4) (e := 47) Γ_ok Tryz.func104 (by kernel_rfl) (by kernel_rfl) (by kernel_rfl) (by kernel_rfl) (Γ_ok 23 _ rfl).desc rfl hob rfl
@[go_sem, reducible] def oneT (x : Tk) : AV := .pv 1 4 (some 1) (fun i j => nth (tkL x) (i * 4 + j))
def ins (l : List Tk) (i : Nat) (x : Tk) : List Tk := l.take i ++ x :: l.drop i
theorem ins_length (l : List Tk) (i : Nat) (x : Tk) (h : i ≤ l.length) : (ins l i x).length = l.length + 1 := by simp [ins];omega
theorem gt_ins (l : List Tk) (i : Nat) (x : Tk) (h : i ≤ l.length) (j : Nat) : gt (ins l i x) j = if j < i then gt l j else if j = i then x else gt l (j - 1) := by
  unfold gt ins
  simp only [List.getD_eq_getElem?_getD]
  rw [List.getElem?_append]
  simp only [List.length_take, Nat.min_eq_left h]
  split
  · rename_i hj
    rw [List.getElem?_take, if_pos hj]
  · split
    · rename_i hj; subst hj; simp
    · obtain ⟨m, hm⟩ : ∃ m, j - i = m + 1 := ⟨j - i - 1, by omega⟩
      rw [hm, List.getElem?_cons_succ, List.getElem?_drop]
      congr 2
      omega
theorem tkE_ins (l : List Tk) (i : Nat) (x : Tk) (h : i ≤ l.length) (j k : Nat) : tkE (ins l i x) j k = if j < i then tkE l j k else if j = i then nth (tkL x) k else tkE l (j - 1) k := by
  unfold tkE
  rw [gt_ins l i x h]
  split
  · rfl
  · split <;> rfl
def InsQ (l : List Tk) (i : Nat) (x : Tk) (v : AV) (σ' : List AObj) : Prop :=
  (∃ a e,v = .own 1 0 (l.length + 1) none ∧ σ' = [a,.arr 47 4 (l.length + 1) e] ∧ ∀ j k,j < l.length + 1 → e j k = tkE (ins l i x) j k) ∨
  (∃ c cc e,v = .own 0 0 (l.length + 1) cc ∧ σ' = [.arr 47 4 c e] ∧ l.length + 1 ≤ c ∧ ∀ j k,j < l.length + 1 → e j k = tkE (ins l i x) j k)
set_option maxRecDepth 100000 in
set_option maxHeartbeats 4000000 in
theorem insert_raw (l : List Tk) (hl : l.length ≤ 1000000) (i : Nat) (hi : i ≤ l.length) (x : Tk) (c : Nat) (hc : l.length ≤ c) :
    TC Tryz.prog 93 [.own 0 0 l.length (some c),.imm (.int .i64 i),oneT x] [.arr 47 4 c (withRoom l.length (tkE l))] (InsQ l i x) := by
  (refine TC_of_T Γ_ok Tryz.func93 rfl (by kernel_rfl) ?_;simp only [Tryz.ntmps93,Tryz.results93,List.length_cons,List.length_nil,Nat.reduceSub,Nat.reduceAdd,List.replicate,List.cons_append,List.nil_append])
  repeat' (first
    | (with_reducible refine hK _ ?_; clear hK K)
    | ((with_reducible refine callGoal_mk (by first|exact trivial|(simp only [go_sem,and_self];done)|(simp only [go_sem];omega)) (overlaps_tc (by with_unfolding_all rfl)) ?_);rintro _ _ ⟨rfl,rfl⟩)
    | ((with_reducible apply DC_call);(focus exact rfl);(focus exact rfl);(focus exact rfl);intro N hN;(simp only [go_sem,↓reduceIte,Nat.reduceAdd,Nat.reduceSub,Nat.reduceMul,Nat.reduceLT,Nat.reduceLeDiff,Nat.reduceEqDiff,Nat.reduceGT,Int.reduceToNat,Int.reduceBEq,Int.reduceBNe];try simp (disch := omega) only [wrapI,wrapU,half_sum,toNat_sub1,toNat_add1,Int.toNat_natCast]))
    | ((with_reducible first|refine T_seq_region Γ_ok (fun K hK=>?_)|refine T_last_region Γ_ok (fun K hK=>?_)|refine T_seq_draw (id := 11) Γ_ok drawsAny [(0,[],[]),(1,[],[]),(2,[],[]),(3,[1,2],[]),(4,[0,1,2,3],[]),(5,[],[]),(6,[],[]),(7,[5,6],[]),(8,[0,1,2,3,4,5,6,7],[])] (by kernel_rfl) (fun K hK=>?_)|refine T_last_draw (id := 11) Γ_ok drawsAny [(0,[],[]),(1,[],[]),(2,[],[]),(3,[1,2],[]),(4,[0,1,2,3],[]),(5,[],[]),(6,[],[]),(7,[5,6],[]),(8,[0,1,2,3,4,5,6,7],[])] (by kernel_rfl) (fun K hK=>?_)|refine T_seq_draw (id := 15) Γ_ok drawsAny [(0,[],[]),(1,[],[]),(2,[],[]),(3,[1,2],[]),(4,[0,1,2,3],[]),(5,[],[]),(6,[],[]),(7,[5,6],[]),(8,[0,1,2,3,4,5,6,7],[])] (by kernel_rfl) (fun K hK=>?_)|refine T_last_draw (id := 15) Γ_ok drawsAny [(0,[],[]),(1,[],[]),(2,[],[]),(3,[1,2],[]),(4,[0,1,2,3],[]),(5,[],[]),(6,[],[]),(7,[5,6],[]),(8,[0,1,2,3,4,5,6,7],[])] (by kernel_rfl) (fun K hK=>?_)|refine TO_callN rfl (fun N hN=>?_)|refine DCT_fork Γ_ok (fun K2 hK2=>?_)|refine DCT_last Γ_ok ?_|refine DC_ev Γ_ok ?_|refine TO_ev Γ_ok ?_|refine retQ_r ?_|refine retQ_n ?_);(simp only [go_sem,↓reduceIte,Nat.reduceAdd,Nat.reduceSub,Nat.reduceMul,Nat.reduceLT,Nat.reduceLeDiff,Nat.reduceEqDiff,Nat.reduceGT,Int.reduceToNat,Int.reduceBEq,Int.reduceBNe];try simp (disch := omega) only [wrapI,wrapU,half_sum,toNat_sub1,toNat_add1,Int.toNat_natCast]))
    | (with_reducible refine hK2 _ ?_ ?_ <;> clear hK2 K2)
    | with_reducible refine gC_false ?_ | with_reducible refine gC_true ?_ | with_reducible refine dCall_true ?_
    | (with_reducible refine hN _ _ ?_; clear hN N)
    | (with_reducible refine hN _ _ (dInl rfl) ?_; clear hN N)
    | ((with_reducible refine hN _ _ (.inr ?_) ?_);(focus (simp only [go_sem,↓reduceIte,Nat.reduceAdd,Nat.reduceSub,Nat.reduceMul,Nat.reduceLT,Nat.reduceLeDiff,Nat.reduceEqDiff,Nat.reduceGT,Int.reduceToNat,Int.reduceBEq,Int.reduceBNe];try simp (disch := omega) only [wrapI,wrapU,half_sum,toNat_sub1,toNat_add1,Int.toNat_natCast]));all_goals (try clear hN N))
    | with_reducible refine T_seq ?_|with_reducible refine T_block ?_|with_reducible refine T_ret ?_|with_reducible refine T_exit ?_|with_reducible refine T_skip ?_|with_reducible refine T_label ?_
    | with_reducible refine thenQ_n ?_|with_reducible refine thenQ_e ?_|with_reducible refine thenQ_r ?_|with_reducible refine blockQ_n ?_|with_reducible refine blockQ_e ?_|with_reducible refine blockQ_r ?_
    | with_reducible refine blockQ_o (by decide) ?_
    | ((with_reducible refine T_cond _ rfl (fun hb=>?_) (fun hb=>?_)) <;> first|(cases hb;done)|(simp only [decide_eq_true_eq,decide_eq_false_iff_not,Bool.and_eq_true,Bool.or_eq_true,Bool.and_eq_false_imp,Bool.or_eq_false_iff,Bool.not_eq_true',Bool.not_eq_false',beq_iff_eq,bne_iff_ne,ne_eq,beq_eq_false_iff_ne,bne_eq_false_iff_eq,Int.not_lt,Int.not_le,ge_iff_le,gt_iff_lt] at hb)|skip)
    | (with_reducible refine And.intro (by first | exact trivial | omega | (intro hg;simp at hg ⊢ <;> omega) | (simp <;> omega)) ?_)
    | assumption | omega)
  · refine .inl ⟨_, _, rfl, rfl, fun j k hj => ?_⟩
    rw [tkE_ins l i x hi]
    unfold catE withRoom
    dsimp only
    (repeat' split) <;> first | rfl | (exfalso; omega) | (congr 1; omega)
  · refine .inl ⟨_, _, by congr 1; omega, by congr 3; omega, fun j k hj => ?_⟩
    rw [tkE_ins l i x hi]
    unfold updR catE withRoom
    dsimp only
    (repeat' split) <;> first | rfl | (exfalso; omega) | (congr 1; omega)
  · refine .inr ⟨c, _, _, rfl, rfl, by omega, fun j k hj => ?_⟩
    rw [tkE_ins l i x hi]
    unfold updR withRoom
    dsimp only
    (repeat' split) <;> first | rfl | (exfalso; omega) | (congr 1; omega)
theorem insert_tc (l : List Tk) (hl : l.length ≤ 1000000) (i : Nat) (hi : i ≤ l.length) (x : Tk) :
    Turns Tryz.prog 93 [ownT l,.imm (.int .i64 i),oneT x] [tkO l] (.own 1 0 (ins l i x).length none) [.dead,tkO (ins l i x)] := by
  refine ⟨?_,trivial,fun a ha => by simp at ha;rcases ha with rfl | rfl;exact trivial;exact fun _ _ => tkE_pl _ _ _⟩
  have h0 := TC_room (P := Tryz.prog) (f := 93) (us1 := []) (us2 := [.imm (.int .i64 i),oneT x]) (o := 0) (σ := [tkO l]) (Q := InsQ l i x) rfl fun c hc => insert_raw l hl i hi x c hc
  have h1 := TC.move (Q2 := fun v σ'=>∃ a c cc e,v = .own 1 0 (l.length + 1) cc ∧ σ' = [a,.arr 47 4 c e] ∧ l.length + 1 ≤ c ∧ ∀ j k,j < l.length + 1 → e j k = tkE (ins l i x) j k) h0 fun v σ' hq=>by
    rcases hq with ⟨a, e, h1, h2, h3⟩ | ⟨c, cc, e, h1, h2, h3, h4⟩
    · exact .inl ⟨a, _, none, e, h1, h2, Nat.le_refl _, h3⟩
    · exact .inr ⟨0,0,_,cc,_,_,c,e,h1,by rw [h2];rfl,.dead,c,cc,e,by rw [h2];rfl,by rw [h2];rfl,h3,h4⟩
  refine h1.weak fun v σ' ⟨a,c,cc,e,hv,hs,hc,he⟩ => ⟨[0,1],_,_,by simp [List.range_succ],by simp,by simp [hs],?_,?_,rfl,rfl⟩
  · rw [hv, ins_length l i x hi]
    exact WkV.own rfl (by simp)
  · rw [hs]
    refine ⟨WkO.dead, fun h => (nomatch h), ?_, fun h => h, trivial⟩
    rw [tkO, ins_length l i x hi]
    exact WkO.arrLe hc fun j k hj _ => by rw [he j k hj]; exact WkV.free (tkE_free _ _ _)
end Go.Proofs.YtngfnogoicfmaaaGreatDoor
namespace Go.Proofs.YtngfnogoicfmaaaGreatDoor
open Go.Ab
def lrn (l : List Tk) (x : Tk) : List Tk := ins l (low l x.s) x
set_option maxRecDepth 100000 in
set_option maxHeartbeats 4000000 in
theorem with_raw (l : List Tk) (hl : l.length ≤ 1000000) (hr : Ris l) (x : Tk) : TC Tryz.prog 74 [srt l,tkA x] [] (fun v σ'=>∃ a b c d,v = .agg [.own 4 0 (lrn l x).length none,.fn (.func 92) [] []] ∧ σ' = [a,b,c,d,tkO (lrn l x)]) := by
  (refine TC_of_T Γ_ok Tryz.func74 rfl (by kernel_rfl) ?_;simp only [Tryz.ntmps74,Tryz.results74,List.length_cons,List.length_nil,Nat.reduceSub,Nat.reduceAdd,List.replicate,List.cons_append,List.nil_append])
  have hlow := (low_spec x.s hr).1
  (have cl1 := fun u1 u2 u3 u4=>section_tc u1 u2 u3 u4;have cl2 := fun u1=>index_tc l u1 hl hr;have cm1 := clone_tc l (by omega);have ct1 := TurnsAt.mk [3] (insert_tc l hl (low l x.s) hlow x);repeat' (first|with_reducible refine T_seq_drawT (id := 1) Γ_ok drawsAny pl74_1 (by kernel_rfl) (fun K hK=>?_)|with_reducible refine T_last_drawT (id := 1) Γ_ok drawsAny pl74_1 (by kernel_rfl) (fun K hK=>?_)|with_reducible refine T_seq_drawT (id := 2) Γ_ok drawsAny pl74_2 (by kernel_rfl) (fun K hK=>?_)|with_reducible refine T_last_drawT (id := 2) Γ_ok drawsAny pl74_2 (by kernel_rfl) (fun K hK=>?_)|((refine goR0 _ _ _ _ _ _ _ _ ?_ ?_ ?_ ?_ ?_ ?_ ?_ ?_) <;> (repeat intro hb) <;> first|exact True.intro|refine Lf.mk ?_)))
  all_goals exact ⟨_, _, _, _, rfl, rfl⟩
@[go_sem, reducible] def srtO (l : List Tk) : AV := .agg [ownT l, .fn (.func 92) [] []]
theorem with_tc (l : List Tk) (hl : l.length ≤ 1000000) (hr : Ris l) (x : Tk) : Makes Tryz.prog 74 [srt l,tkA x] (srtO (lrn l x)) [tkO (lrn l x)] := by
  refine ⟨(with_raw l hl hr x).weak fun v σ' ⟨a,b,c,d,hv,hs⟩=>⟨[4],_,_,by simp,by simp,by simp [hs],?_,?_,rfl,rfl⟩,by simp [VF,VFL],fun a ha=>by simp only [List.mem_singleton] at ha;subst ha;exact tkO_pl _⟩
  · rw [hv]
    (repeat' (first|exact WkVL.nil|refine WkVL.cons ?_ ?_|exact WkV.top|exact WkV.imm rfl|exact WkV.imm (by simp)|exact WkV.optr rfl|exact WkV.own rfl (by simp)|exact WkV.map rfl|(refine WkV.free ?_;simp [Free,FreeL] <;> assumption)|(refine WkV.free (fun _ _=>FreeL_nth ?_ _);simp [Free,FreeL];done)|refine WkV.agg ?_|refine WkV.tup ?_|refine WkV.fn ?_ ?_|exact WkO.dead|exact WkO.raw|refine WkO.ghost ?_|exact WkO.mpE rfl trivial|refine WkO.box ?_ rfl|refine WkO.arr ?_|refine And.intro ?_ (And.intro (by first|exact fun h=>h|exact fun _=>rfl|exact nofun) ?_)|exact trivial|(intro _ _ _ _)))
  · rw [hs]
    (repeat' (first|exact WkVL.nil|refine WkVL.cons ?_ ?_|exact WkV.top|exact WkV.imm rfl|exact WkV.imm (by simp)|exact WkV.optr rfl|exact WkV.own rfl (by simp)|exact WkV.map rfl|(refine WkV.free ?_;simp [Free,FreeL] <;> assumption)|(refine WkV.free (fun _ _=>FreeL_nth ?_ _);simp [Free,FreeL];done)|refine WkV.agg ?_|refine WkV.tup ?_|refine WkV.fn ?_ ?_|exact WkO.dead|exact WkO.raw|refine WkO.ghost ?_|exact WkO.mpE rfl trivial|refine WkO.box ?_ rfl|refine WkO.arr ?_|refine And.intro ?_ (And.intro (by first|exact fun h=>h|exact fun _=>rfl|exact nofun) ?_)|exact trivial|(intro _ _ _ _)))
end Go.Proofs.YtngfnogoicfmaaaGreatDoor
namespace Go.Proofs.YtngfnogoicfmaaaGreatDoor
open Go.Ab
def knows (l : List Tk) (k : Int) : Prop := low l k < l.length ∧ (gt l (low l k)).s = k
noncomputable def learnR (l : List Tk) (t : Tk) : List Tk × Int :=
  open Classical in if OkT t ∧ Val l then (if knows l t.s then (if gt l (low l t.s) = t then ([],5) else ([],23)) else (lrn l t,0)) else ([],1)
theorem Tk.ext_iff' {a b : Tk} : a = b ↔ a.s = b.s ∧ a.c = b.c ∧ a.n = b.n ∧ a.d = b.d := by
  cases a; cases b; simp
theorem find_cases (l : List Tk) (k : Int) : (findV l k = (⟨0,0,0,0⟩,1) ∧ ¬ (Val l ∧ 1 ≤ k ∧ k ≤ 15)) ∨ (findV l k = (gt l (low l k),0) ∧ Val l ∧ 1 ≤ k ∧ k ≤ 15 ∧ knows l k) ∨ (findV l k = (⟨0,0,0,0⟩,4) ∧ Val l ∧ 1 ≤ k ∧ k ≤ 15 ∧ ¬ knows l k) := by
  unfold findV knows
  split
  · rename_i h
    split
    · rename_i h2; exact .inr (.inl ⟨rfl, h.1, h.2.1, h.2.2, h2⟩)
    · rename_i h2; exact .inr (.inr ⟨rfl, h.1, h.2.1, h.2.2, h2⟩)
  · rename_i h; exact .inl ⟨rfl, h⟩
theorem find4 {l : List Tk} {k : Int} (h : (findV l k).2 = 4) : Val l ∧ ¬ knows l k := by
  rcases find_cases l k with ⟨e, h2⟩ | ⟨e, h2⟩ | ⟨e, h2⟩
  · rw [e] at h; simp at h
  · rw [e] at h; simp at h
  · exact ⟨h2.1, h2.2.2.2⟩
open Classical in
set_option maxRecDepth 100000 in
set_option maxHeartbeats 4000000 in
theorem learn_raw (l : List Tk) (t : Tk) (hl : l.length ≤ 9223372036854775807) : TC Tryz.prog 59 [tks l,tkA t] [] (fun v σ' =>
    (v = .tup [.imm (.slice none 0 0),.imm (.int .i64 (learnR l t).2)] ∧ (learnR l t).1.length = 0) ∨ ∃ k E',v = .tup [.own k 0 (learnR l t).1.length none,.imm (.int .i64 (learnR l t).2)] ∧ nthO σ' k = .arr 47 4 (learnR l t).1.length E' ∧ ∀ i j,i < (learnR l t).1.length → E' i j = tkE (learnR l t).1 i j) := by
  (refine TC_of_T Γ_ok Tryz.func59 rfl (by kernel_rfl) ?_;simp only [Tryz.ntmps59,Tryz.results59,List.length_cons,List.length_nil,Nat.reduceSub,Nat.reduceAdd,List.replicate,List.cons_append,List.nil_append])
  repeat' (first
    | (with_reducible refine hK _ ?_; clear hK K)
    | ((with_reducible apply dCall_any);(focus ((with_reducible refine callGoal_inline Γ_ok Tryz.func73 rfl (by kernel_rfl) (by first|exact trivial|(simp only [go_sem,and_self];done)|(simp only [go_sem];omega)) ?_);simp only [Tryz.ntmps73,Tryz.results73,List.length_cons,List.length_nil,Nat.reduceSub,Nat.reduceAdd,List.replicate,List.cons_append,List.nil_append])))
    | (with_reducible exact And.intro rfl rfl)
    | ((with_reducible apply callGoal_makeA (with_tc l (Nat.le_trans (find4 hb).1.len (by decide)) (find4 hb).1.ris _));(case hC=>first|exact trivial|(simp only [go_sem,and_self];done)|(simp only [go_sem];omega));(case hc=>((repeat' (first|exact CvL.nil|exact Cv.nil_view|refine CvL.cons ?_ ?_|exact Cv.imm rfl|(refine Cv.free ?_;simp [Free,FreeL] <;> assumption)|(refine Cv.free (fun _ _=>FreeL_nth ?_ _);simp [Free,FreeL];done)|refine Cv.agg ?_|(apply Cv.own;(case hob=>(with_unfolding_all exact rfl));(case hz=>decide);(case hE=>(first|(intro _ _ _ _;rfl)|(intro i j hi hj;(rcases i with _ | _|i) <;> (rcases j with _ | _ | _ | _|j) <;> first|rfl|(exfalso;omega))));(case hf=>(intro _ _;simp;done)))|(refine Cv.pvE ?_ ?_ (by decide);(focus (first|(intro _ _ _ _;rfl)|(intro i j hi hj;(rcases i with _ | _|i) <;> (rcases j with _ | _ | _ | _|j) <;> first|rfl|(exfalso;omega))));(focus (intro _ _;simp;done)))|(apply Cv.ownS;(case hob=>(with_unfolding_all exact rfl));(case hz=>decide);(case hle=>(first|omega|(simp only [decide_eq_true_eq] at hg;omega)|(simp;omega)));(case hE=>(intro _ _ _ _;first|(rw [Nat.zero_add];done)|(rw [Nat.zero_add];rfl)));(case hf=>(intro _ _;simp;done)))|(refine Cv.viewE (by decide) ?_ ?_;(focus (intro _ _ _ _;first|rfl));(focus (intro _ _;simp;done)))|refine Cv.ptr (by with_unfolding_all rfl) (by with_unfolding_all rfl) ?_|refine Cv.fn ?_ ?_));done));(case' hn=>(simp only [go_sem,↓reduceIte,Nat.reduceAdd,Nat.reduceSub,Nat.reduceMul,Nat.reduceLT,Nat.reduceLeDiff,Nat.reduceEqDiff,Nat.reduceGT,Int.reduceToNat,Int.reduceBEq,Int.reduceBNe];try simp (disch := omega) only [wrapI,wrapU,half_sum,toNat_sub1,toNat_add1,Int.toNat_natCast])))
    | ((with_reducible apply dCall_makeA (with_tc l (Nat.le_trans (find4 hb).1.len (by decide)) (find4 hb).1.ris _));(case hC=>first|exact trivial|(simp only [go_sem,and_self];done)|(simp only [go_sem];omega));(case hc=>((repeat' (first|exact CvL.nil|exact Cv.nil_view|refine CvL.cons ?_ ?_|exact Cv.imm rfl|(refine Cv.free ?_;simp [Free,FreeL] <;> assumption)|(refine Cv.free (fun _ _=>FreeL_nth ?_ _);simp [Free,FreeL];done)|refine Cv.agg ?_|(apply Cv.own;(case hob=>(with_unfolding_all exact rfl));(case hz=>decide);(case hE=>(first|(intro _ _ _ _;rfl)|(intro i j hi hj;(rcases i with _ | _|i) <;> (rcases j with _ | _ | _ | _|j) <;> first|rfl|(exfalso;omega))));(case hf=>(intro _ _;simp;done)))|(refine Cv.pvE ?_ ?_ (by decide);(focus (first|(intro _ _ _ _;rfl)|(intro i j hi hj;(rcases i with _ | _|i) <;> (rcases j with _ | _ | _ | _|j) <;> first|rfl|(exfalso;omega))));(focus (intro _ _;simp;done)))|(apply Cv.ownS;(case hob=>(with_unfolding_all exact rfl));(case hz=>decide);(case hle=>(first|omega|(simp only [decide_eq_true_eq] at hg;omega)|(simp;omega)));(case hE=>(intro _ _ _ _;first|(rw [Nat.zero_add];done)|(rw [Nat.zero_add];rfl)));(case hf=>(intro _ _;simp;done)))|(refine Cv.viewE (by decide) ?_ ?_;(focus (intro _ _ _ _;first|rfl));(focus (intro _ _;simp;done)))|refine Cv.ptr (by with_unfolding_all rfl) (by with_unfolding_all rfl) ?_|refine Cv.fn ?_ ?_));done));(case' hn=>(simp only [go_sem,↓reduceIte,Nat.reduceAdd,Nat.reduceSub,Nat.reduceMul,Nat.reduceLT,Nat.reduceLeDiff,Nat.reduceEqDiff,Nat.reduceGT,Int.reduceToNat,Int.reduceBEq,Int.reduceBNe];try simp (disch := omega) only [wrapI,wrapU,half_sum,toNat_sub1,toNat_add1,Int.toNat_natCast])))
    | ((with_reducible first|apply callGoal_lookA (take_tc _ _ _ _)|apply dCall_lookA (take_tc _ _ _ _)|apply callGoal_lookA (find_tc l _ hl)|apply dCall_lookA (find_tc l _ hl));(case hC=>first|exact trivial|(simp only [go_sem,and_self];done)|(simp only [go_sem];omega));(case hc=>((repeat' (first|exact CvL.nil|exact Cv.nil_view|refine CvL.cons ?_ ?_|exact Cv.imm rfl|(refine Cv.free ?_;simp [Free,FreeL] <;> assumption)|(refine Cv.free (fun _ _=>FreeL_nth ?_ _);simp [Free,FreeL];done)|refine Cv.agg ?_|(apply Cv.own;(case hob=>(with_unfolding_all exact rfl));(case hz=>decide);(case hE=>(first|(intro _ _ _ _;rfl)|(intro i j hi hj;(rcases i with _ | _|i) <;> (rcases j with _ | _ | _ | _|j) <;> first|rfl|(exfalso;omega))));(case hf=>(intro _ _;simp;done)))|(refine Cv.pvE ?_ ?_ (by decide);(focus (first|(intro _ _ _ _;rfl)|(intro i j hi hj;(rcases i with _ | _|i) <;> (rcases j with _ | _ | _ | _|j) <;> first|rfl|(exfalso;omega))));(focus (intro _ _;simp;done)))|(apply Cv.ownS;(case hob=>(with_unfolding_all exact rfl));(case hz=>decide);(case hle=>(first|omega|(simp only [decide_eq_true_eq] at hg;omega)|(simp;omega)));(case hE=>(intro _ _ _ _;first|(rw [Nat.zero_add];done)|(rw [Nat.zero_add];rfl)));(case hf=>(intro _ _;simp;done)))|(refine Cv.viewE (by decide) ?_ ?_;(focus (intro _ _ _ _;first|rfl));(focus (intro _ _;simp;done)))|refine Cv.ptr (by with_unfolding_all rfl) (by with_unfolding_all rfl) ?_|refine Cv.fn ?_ ?_));done)))
    | ((with_reducible first|apply gC_lookA (fun hg=>(take_tc _ _ _ _))|apply dCall_lookGA (fun hg=>(take_tc _ _ _ _))|apply gC_lookA (fun hg=>(find_tc l _ hl))|apply dCall_lookGA (fun hg=>(find_tc l _ hl)));(case hC=>(intro hg;first|exact trivial|exact hg|(simp only [hg,and_self,implies_true];done)|(simp only [go_sem,hg,and_self,implies_true];done)));(case hc=>(intro hg;((repeat' (first|exact CvL.nil|exact Cv.nil_view|refine CvL.cons ?_ ?_|exact Cv.imm rfl|(refine Cv.free ?_;simp [Free,FreeL] <;> assumption)|(refine Cv.free (fun _ _=>FreeL_nth ?_ _);simp [Free,FreeL];done)|refine Cv.agg ?_|(apply Cv.own;(case hob=>(with_unfolding_all exact rfl));(case hz=>decide);(case hE=>(first|(intro _ _ _ _;rfl)|(intro i j hi hj;(rcases i with _ | _|i) <;> (rcases j with _ | _ | _ | _|j) <;> first|rfl|(exfalso;omega))));(case hf=>(intro _ _;simp;done)))|(refine Cv.pvE ?_ ?_ (by decide);(focus (first|(intro _ _ _ _;rfl)|(intro i j hi hj;(rcases i with _ | _|i) <;> (rcases j with _ | _ | _ | _|j) <;> first|rfl|(exfalso;omega))));(focus (intro _ _;simp;done)))|(apply Cv.ownS;(case hob=>(with_unfolding_all exact rfl));(case hz=>decide);(case hle=>(first|omega|(simp only [decide_eq_true_eq] at hg;omega)|(simp;omega)));(case hE=>(intro _ _ _ _;first|(rw [Nat.zero_add];done)|(rw [Nat.zero_add];rfl)));(case hf=>(intro _ _;simp;done)))|(refine Cv.viewE (by decide) ?_ ?_;(focus (intro _ _ _ _;first|rfl));(focus (intro _ _;simp;done)))|refine Cv.ptr (by with_unfolding_all rfl) (by with_unfolding_all rfl) ?_|refine Cv.fn ?_ ?_));done))))
    | ((with_reducible apply DC_call);(focus exact rfl);(focus exact rfl);(focus exact rfl);intro N hN;(simp only [go_sem,↓reduceIte,Nat.reduceAdd,Nat.reduceSub,Nat.reduceMul,Nat.reduceLT,Nat.reduceLeDiff,Nat.reduceEqDiff,Nat.reduceGT,Int.reduceToNat,Int.reduceBEq,Int.reduceBNe];try simp (disch := omega) only [wrapI,wrapU,half_sum,toNat_sub1,toNat_add1,Int.toNat_natCast]))
    | ((with_reducible first|refine T_seq_region Γ_ok (fun K hK=>?_)|refine T_last_region Γ_ok (fun K hK=>?_)|refine T_seq_draw (id := 7) Γ_ok drawsAny [(0,[],[]),(2,[],[]),(1,[0],[2]),(3,[0,1,2],[]),(4,[0,1,2,3],[]),(5,[0,1,2,3,4],[]),(6,[0,1,2,3,4,5],[])] (by kernel_rfl) (fun K hK=>?_)|refine T_last_draw (id := 7) Γ_ok drawsAny [(0,[],[]),(2,[],[]),(1,[0],[2]),(3,[0,1,2],[]),(4,[0,1,2,3],[]),(5,[0,1,2,3,4],[]),(6,[0,1,2,3,4,5],[])] (by kernel_rfl) (fun K hK=>?_)|refine TO_callN rfl (fun N hN=>?_)|refine DCT_fork Γ_ok (fun K2 hK2=>?_)|refine DCT_last Γ_ok ?_|refine DC_ev Γ_ok ?_|refine TO_ev Γ_ok ?_|refine retQ_r ?_|refine retQ_n ?_);(simp only [go_sem,↓reduceIte,Nat.reduceAdd,Nat.reduceSub,Nat.reduceMul,Nat.reduceLT,Nat.reduceLeDiff,Nat.reduceEqDiff,Nat.reduceGT,Int.reduceToNat,Int.reduceBEq,Int.reduceBNe];try simp (disch := omega) only [wrapI,wrapU,half_sum,toNat_sub1,toNat_add1,Int.toNat_natCast]))
    | (with_reducible refine hK2 _ ?_ ?_ <;> clear hK2 K2)
    | with_reducible refine gC_false ?_ | with_reducible refine gC_true ?_ | with_reducible refine dCall_true ?_
    | (with_reducible refine hN _ _ ?_; clear hN N)
    | (with_reducible refine hN _ _ (dInl rfl) ?_; clear hN N)
    | ((with_reducible refine hN _ _ (.inr ?_) ?_);(focus (simp only [go_sem,↓reduceIte,Nat.reduceAdd,Nat.reduceSub,Nat.reduceMul,Nat.reduceLT,Nat.reduceLeDiff,Nat.reduceEqDiff,Nat.reduceGT,Int.reduceToNat,Int.reduceBEq,Int.reduceBNe];try simp (disch := omega) only [wrapI,wrapU,half_sum,toNat_sub1,toNat_add1,Int.toNat_natCast]));all_goals (try clear hN N))
    | with_reducible refine T_seq ?_|with_reducible refine T_block ?_|with_reducible refine T_ret ?_|with_reducible refine T_exit ?_|with_reducible refine T_skip ?_|with_reducible refine T_label ?_
    | with_reducible refine thenQ_n ?_|with_reducible refine thenQ_e ?_|with_reducible refine thenQ_r ?_|with_reducible refine blockQ_n ?_|with_reducible refine blockQ_e ?_|with_reducible refine blockQ_r ?_
    | with_reducible refine blockQ_o (by decide) ?_
    | ((with_reducible refine T_cond _ rfl (fun hb=>?_) (fun hb=>?_)) <;> first|(cases hb;done)|(simp only [decide_eq_true_eq,decide_eq_false_iff_not,Bool.and_eq_true,Bool.or_eq_true,Bool.and_eq_false_imp,Bool.or_eq_false_iff,Bool.not_eq_true',Bool.not_eq_false',beq_iff_eq,bne_iff_ne,ne_eq,beq_eq_false_iff_ne,bne_eq_false_iff_eq,Int.not_lt,Int.not_le,ge_iff_le,gt_iff_lt] at hb)|skip)
    | (with_reducible refine And.intro (by first | exact trivial | omega | (intro hg;simp at hg ⊢ <;> omega) | (simp <;> omega)) ?_)
    | assumption | omega)
  · left
    have e : learnR l t = ([],1) := by unfold learnR;rw [if_neg];rintro ⟨h,_⟩;unfold OkT at h;rw [hb] at h;cases h
    simp [e]
  all_goals have hok : OkT t := by assumption
  all_goals have hs := hok.sec
  all_goals have hc := find_cases l t.s
  all_goals generalize findV l t.s = q at *
  all_goals rcases hc with ⟨rfl, h2⟩ | ⟨rfl, h2, h3, h4, h5⟩ | ⟨rfl, h2, h3, h4, h5⟩
  all_goals try (exfalso; simp at *; done)
  all_goals try (exfalso; exact h2 ⟨by assumption, hs⟩)
  · left
    have e : learnR l t = ([], 1) := by unfold learnR; rw [if_neg]; rintro ⟨_, h⟩; exact h2 ⟨h, hs⟩
    simp [e]
  · right
    have e : learnR l t = (lrn l t, 0) := by unfold learnR; rw [if_pos ⟨hok, h2⟩, if_neg h5]
    rw [e]
    exact ⟨3, _, rfl, rfl, fun _ _ _ => rfl⟩
  · left
    have e : learnR l t = ([], 5) := by unfold learnR; rw [if_pos ⟨hok, h2⟩, if_pos h5, if_pos (Tk.ext_iff'.2 hb)]
    simp [e]
  · left
    have e : learnR l t = ([],23) := by unfold learnR;rw [if_pos ⟨hok,h2⟩,if_pos h5,if_neg];intro h;rw [Tk.ext_iff'] at h;exact hb h.1 h.2.1 h.2.2.1 h.2.2.2
    simp [e]
theorem learn_tc (l : List Tk) (t : Tk) (hl : l.length ≤ 9223372036854775807) : Makes Tryz.prog 59 [tks l,tkA t] (.tup [ownT (learnR l t).1,.imm (.int .i64 (learnR l t).2)]) [tkO (learnR l t).1] :=
  Makes.lst (fun i j => tkE_pl _ i j) trivial (learn_raw l t hl)
end Go.Proofs.YtngfnogoicfmaaaGreatDoor
