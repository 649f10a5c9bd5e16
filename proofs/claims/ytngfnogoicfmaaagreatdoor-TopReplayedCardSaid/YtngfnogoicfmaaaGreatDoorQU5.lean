/-
  Parts joined: S10 S11 S12.
-/
import Derived.Test.YtngfnogoicfmaaaGreatDoorQGo
import Derived.Test.YtngfnogoicfmaaaGreatDoorQU4
import Derived.Test.YtngfnogoicfmaaaGreatDoorQS5
import Derived.Test.YtngfnogoicfmaaaGreatDoorQW12
set_option linter.unusedSimpArgs false
set_option linter.unusedVariables false
namespace Go.Proofs.YtngfnogoicfmaaaGreatDoor
open Go.Ab
theorem learnR_len (l : List Tk) (t : Tk) : (learnR l t).1.length ≤ 15 := by
  unfold learnR
  split
  · rename_i h
    split
    · split <;> simp
    · rename_i hk; exact (lrn_val h.2 h.1 hk).len
  · simp
set_option maxRecDepth 100000 in
set_option maxHeartbeats 4000000 in
theorem bad_tc (k s b s' c n d : Int) : Look Tryz.prog 36 [.agg [.imm (.int .i64 k),.imm (.int .i64 s),.imm (.int .i64 b),.imm (.int .i64 s'),.imm (.int .i64 c),.imm (.int .i64 n),.imm (.int .i64 d)]] (.imm (.bool (!Rcd.ok ⟨k,s,b,⟨s',c,n,d⟩⟩))) := by
  refine Look.mk trivial ?_
  (refine TC_of_T Γ_ok Tryz.func36 rfl (by kernel_rfl) ?_;simp only [Tryz.ntmps36,Tryz.results36,List.length_cons,List.length_nil,Nat.reduceSub,Nat.reduceAdd,List.replicate,List.cons_append,List.nil_append])
  (have cl1 := fun u1 u2 u3 u4 u5 u6 u7 => valid_e u1 u2 u3 u4 u5 u6 u7;((refine goR0 _ _ _ _ _ _ _ _ ?_ ?_ ?_ ?_ ?_ ?_ ?_ ?_) <;> (repeat intro hb) <;> first | exact True.intro | refine Lf.mk ?_))
def allOk (l : List Rcd) : Bool := l.all Rcd.ok
theorem allOk_gR {l : List Rcd} {i : Nat} (h : allOk l = true) (hi : i < l.length) : (gR l i).ok = true := by
  unfold allOk at h
  rw [List.all_eq_true] at h
  exact h _ (by simp [gR, hi])
theorem allOk_of {l : List Rcd} (h : ∀ j, j < l.length → (gR l j).ok = true) : allOk l = true := by
  unfold allOk
  rw [List.all_eq_true]
  intro r hr
  obtain ⟨i, hi, rfl⟩ := List.getElem_of_mem hr
  have := h i hi
  simpa [gR, hi] using this
set_option maxRecDepth 100000 in
set_option maxHeartbeats 4000000 in
theorem ixf_tc (l : List Rcd) (hl : l.length ≤ 9223372036854775807) : TC Tryz.prog 51 [rcs l,.fn (.func 36) [] []] [] (fun v σ'=>∃ x : Int,v = .imm (.int .i64 x) ∧ σ' = [] ∧ (0 ≤ x ↔ allOk l = false)) := by
  (refine TC_of_T Γ_ok Tryz.func51 rfl (by kernel_rfl) ?_;simp only [Tryz.ntmps51,Tryz.results51,List.length_cons,List.length_nil,Nat.reduceSub,Nat.reduceAdd,List.replicate,List.cons_append,List.nil_append])
  (((refine goR0 _ _ _ _ _ _ _ _ ?_ ?_ ?_ ?_ ?_ ?_ ?_ ?_) <;> (repeat intro hb) <;> first | exact True.intro | refine Lf.mk ?_))
  refine T_loopW (fun m st=>∃ i : Nat,i ≤ l.length ∧ m + i = l.length ∧ (∀ j,j < i → (gR l j).ok = true) ∧ st = ⟨[rcs l,.fn (.func 36) [] [],.top,.top,.imm (.int .i64 0),.top,rcs l,.imm (.int .i64 l.length),.imm (.int .i64 i)] ++ List.replicate 10 .top,[]⟩)
    l.length ⟨_, ?_, 0, by omega, rfl, by omega, rfl⟩ ?_
  · ((try simp only [List.length_append,List.length_cons,List.length_nil,Nat.zero_add]);refine Wk.intro [] (by decide) (by decide) (by intro o ho;simp at ho ⊢ <;> omega) ?_ ?_ <;> repeat' (first|exact WkVL.nil|refine WkVL.cons ?_ ?_|exact WkV.top|exact WkV.imm rfl|exact WkV.imm (by simp)|exact WkV.optr rfl|exact WkV.own rfl (by simp)|exact WkV.nil_own (.inl rfl)|exact WkV.map rfl|(refine WkV.free ?_;simp [Free,FreeL] <;> assumption)|(refine WkV.free (fun _ _=>FreeL_nth ?_ _);simp [Free,FreeL];done)|refine WkV.agg ?_|refine WkV.tup ?_|refine WkV.fn ?_ ?_|exact WkO.dead|exact WkO.raw|refine WkO.ghost ?_|exact WkO.mpE rfl trivial|refine WkO.box ?_ rfl|refine WkO.arr ?_|refine And.intro ?_ (And.intro (by first|exact fun h=>h|exact fun _=>rfl|exact nofun) ?_)|exact trivial|(intro i j hi hj)))
  rintro m st ⟨i, h0, h1, h2, rfl⟩
  (simp only [go_sem,↓reduceIte,Nat.reduceAdd,Nat.reduceSub,Nat.reduceMul,Nat.reduceLT,Nat.reduceLeDiff,Nat.reduceEqDiff,Nat.reduceGT,Int.reduceToNat,Int.reduceBEq,Int.reduceBNe];try simp (disch := omega) only [wrapI,wrapU,half_sum,toNat_sub1,toNat_add1,Int.toNat_natCast])
  (have cl1 := fun u1 u2 u3 u4 u5 u6 u7 => bad_tc u1 u2 u3 u4 u5 u6 u7;((refine goR0 _ _ _ _ _ _ _ _ ?_ ?_ ?_ ?_ ?_ ?_ ?_ ?_) <;> (repeat intro hb) <;> first | exact True.intro | refine Lf.mk ?_))
  · refine ⟨i, rfl, ⟨fun _ => ?_, fun _ => by omega⟩⟩
    cases hq : allOk l with
    | false => rfl
    | true => rw [show (gR l i).ok = true from allOk_gR hq (by omega)] at hb; cases hb
  · refine ⟨l.length - (i + 1), by omega, _, ?_, i + 1, by omega, by omega, fun j hj => ?_, rfl⟩
    · ((try simp only [List.length_append,List.length_cons,List.length_nil,Nat.zero_add]);refine Wk.intro [] (by decide) (by decide) (by intro o ho;simp at ho ⊢ <;> omega) ?_ ?_ <;> repeat' (first|(refine WkV.imm ?_;congr 1;omega)|exact WkVL.nil|refine WkVL.cons ?_ ?_|exact WkV.top|exact WkV.imm rfl|exact WkV.imm (by simp)|exact WkV.optr rfl|exact WkV.own rfl (by simp)|exact WkV.nil_own (.inl rfl)|exact WkV.map rfl|(refine WkV.free ?_;simp [Free,FreeL] <;> assumption)|(refine WkV.free (fun _ _=>FreeL_nth ?_ _);simp [Free,FreeL];done)|refine WkV.agg ?_|refine WkV.tup ?_|refine WkV.fn ?_ ?_|exact WkO.dead|exact WkO.raw|refine WkO.ghost ?_|exact WkO.mpE rfl trivial|refine WkO.box ?_ rfl|refine WkO.arr ?_|refine And.intro ?_ (And.intro (by first|exact fun h=>h|exact fun _=>rfl|exact nofun) ?_)|exact trivial|(intro i j hi hj)))
    · by_cases e : j = i
      · subst e; exact hb
      · exact h2 j (by omega)
  · refine ⟨-1, rfl, ⟨fun h => by omega, fun h => ?_⟩⟩
    rw [show allOk l = true from allOk_of fun j hj => h2 j (by omega)] at h
    cases h
set_option maxRecDepth 100000 in
set_option maxHeartbeats 4000000 in
theorem contains_tc (l : List Rcd) (hl : l.length ≤ 9223372036854775807) : Look Tryz.prog 35 [rcs l,.fn (.func 36) [] []] (.imm (.bool (!allOk l))) := by
  refine Look.mk trivial ?_
  (refine TC_of_T Γ_ok Tryz.func35 rfl (by kernel_rfl) ?_;simp only [Tryz.ntmps35,Tryz.results35,List.length_cons,List.length_nil,Nat.reduceSub,Nat.reduceAdd,List.replicate,List.cons_append,List.nil_append])
  repeat' (first
    | (with_reducible refine hK _ ?_; clear hK K)
    | (refine callGoal_mk trivial (ixf_tc l hl) ?_;rintro v σ' ⟨x,rfl,rfl,hx⟩;try (simp only [go_sem,↓reduceIte,Nat.reduceAdd,Nat.reduceSub,Nat.reduceMul,Nat.reduceLT,Nat.reduceLeDiff,Nat.reduceEqDiff,Nat.reduceGT,Int.reduceToNat,Int.reduceBEq,Int.reduceBNe];try simp (disch := omega) only [wrapI,wrapU,half_sum,toNat_sub1,toNat_add1,Int.toNat_natCast]))
    | ((with_reducible apply DC_call);(focus exact rfl);(focus exact rfl);(focus exact rfl);intro N hN;(simp only [go_sem,↓reduceIte,Nat.reduceAdd,Nat.reduceSub,Nat.reduceMul,Nat.reduceLT,Nat.reduceLeDiff,Nat.reduceEqDiff,Nat.reduceGT,Int.reduceToNat,Int.reduceBEq,Int.reduceBNe];try simp (disch := omega) only [wrapI,wrapU,half_sum,toNat_sub1,toNat_add1,Int.toNat_natCast]))
    | ((with_reducible first|refine T_seq_region Γ_ok (fun K hK=>?_)|refine T_last_region Γ_ok (fun K hK=>?_)|refine TO_callN rfl (fun N hN=>?_)|refine DCT_fork Γ_ok (fun K2 hK2=>?_)|refine DCT_last Γ_ok ?_|refine DC_ev Γ_ok ?_|refine TO_ev Γ_ok ?_|refine retQ_r ?_|refine retQ_n ?_);(simp only [go_sem,↓reduceIte,Nat.reduceAdd,Nat.reduceSub,Nat.reduceMul,Nat.reduceLT,Nat.reduceLeDiff,Nat.reduceEqDiff,Nat.reduceGT,Int.reduceToNat,Int.reduceBEq,Int.reduceBNe];try simp (disch := omega) only [wrapI,wrapU,half_sum,toNat_sub1,toNat_add1,Int.toNat_natCast]))
    | (with_reducible refine hK2 _ ?_ ?_ <;> clear hK2 K2)
    | with_reducible refine gC_false ?_ | with_reducible refine gC_true ?_ | with_reducible refine dCall_true ?_
    | (with_reducible refine hN _ _ ?_; clear hN N)
    | (with_reducible refine hN _ _ (dInl rfl) ?_; clear hN N)
    | ((with_reducible refine hN _ _ (.inr ?_) ?_);(focus (simp only [go_sem,↓reduceIte,Nat.reduceAdd,Nat.reduceSub,Nat.reduceMul,Nat.reduceLT,Nat.reduceLeDiff,Nat.reduceEqDiff,Nat.reduceGT,Int.reduceToNat,Int.reduceBEq,Int.reduceBNe];try simp (disch := omega) only [wrapI,wrapU,half_sum,toNat_sub1,toNat_add1,Int.toNat_natCast]));all_goals (try clear hN N))
    | with_reducible refine T_seq ?_|with_reducible refine T_block ?_|with_reducible refine T_ret ?_|with_reducible refine T_exit ?_|with_reducible refine T_skip ?_|with_reducible refine T_label ?_
    | with_reducible refine thenQ_n ?_|with_reducible refine thenQ_e ?_|with_reducible refine thenQ_r ?_|with_reducible refine blockQ_n ?_|with_reducible refine blockQ_e ?_|with_reducible refine blockQ_r ?_
    | with_reducible refine blockQ_o (by decide) ?_
    | ((with_reducible refine T_cond _ rfl (fun hb=>?_) (fun hb=>?_)) <;> first|(cases hb;done)|(simp only [decide_eq_true_eq,decide_eq_false_iff_not,Bool.and_eq_true,Bool.or_eq_true,Bool.and_eq_false_imp,Bool.or_eq_false_iff,Bool.not_eq_true',Bool.not_eq_false',beq_iff_eq,bne_iff_ne,ne_eq,beq_eq_false_iff_ne,bne_eq_false_iff_eq,Int.not_lt,Int.not_le,ge_iff_le,gt_iff_lt] at hb)|skip)
    | (with_reducible refine And.intro (by first | exact trivial | omega | (intro hg;simp at hg ⊢ <;> omega) | (simp <;> omega)) ?_)
    | assumption | omega)
  congr 2
  cases hq : allOk l with
  | false => rw [hq] at hx; simp at hx ⊢; omega
  | true => rw [hq] at hx; simp at hx ⊢; omega
@[go_sem,reducible] def deedM : AObj := .mp (.int .i64) [(.int .i64 1,.fn (.func 53) [] []),(.int .i64 2,.fn (.func 56) [] []),(.int .i64 3,.fn (.func 58) [] [])]
set_option maxRecDepth 100000 in
set_option maxHeartbeats 4000000 in
theorem deeds_tc : Makes Tryz.prog 38 [] (.map 0) [deedM] := by
  refine ⟨?_, trivial, fun a ha => by simp at ha; subst ha; simp [PlO, PlL, Pl]⟩
  (refine TC_of_T Γ_ok Tryz.func38 rfl (by kernel_rfl) ?_;simp only [Tryz.ntmps38,Tryz.results38,List.length_cons,List.length_nil,Nat.reduceSub,Nat.reduceAdd,List.replicate,List.cons_append,List.nil_append])
  (((refine goR0 _ _ _ _ _ _ _ _ ?_ ?_ ?_ ?_ ?_ ?_ ?_ ?_) <;> (repeat intro hb) <;> first | exact True.intro | refine Lf.mk ?_))
  all_goals rfl
noncomputable def runM : List Rcd → Mem → Mem × Int
  | [], m => (m, 0)
  | r :: l, m => if (doR m r).2 = 0 then runM l (doR m r).1 else (⟨[], []⟩, (doR m r).2)
noncomputable def foldR (l : List Rcd) : Mem × Int := if l.length ≤ 500 ∧ allOk l = true then runM l ⟨[],[]⟩ else (⟨[],[]⟩,1)
end Go.Proofs.YtngfnogoicfmaaaGreatDoor
namespace Go.Proofs.YtngfnogoicfmaaaGreatDoor
open Go.Ab
theorem gR_take {l : List Rcd} {i : Nat} (h : i < l.length) : l.take (i + 1) = l.take i ++ [gR l i] := by
  rw [List.take_add_one, List.getElem?_eq_getElem h]; simp [gR, h]
theorem runM_drop {l : List Rcd} {i : Nat} (h : i < l.length) (m : Mem) : runM (l.drop i) m = if (doR m (gR l i)).2 = 0 then runM (l.drop (i + 1)) (doR m (gR l i)).1 else (⟨[],[]⟩,(doR m (gR l i)).2) := by
  rw [List.drop_eq_getElem_cons h, runM]
  simp [gR, h]
theorem doR_len {m : Mem} {r : Rcd} (hr : r.ok = true) (hA : m.A.length ≤ 15) (hL : m.L.length ≤ 15) : (doR m r).1.A.length ≤ 15 ∧ (doR m r).1.L.length ≤ 15 := by
  obtain ⟨⟨h1, h2⟩, hk⟩ := Rcd.ok_spec hr
  unfold doR
  split
  · simp only [List.length_set, grow_len]; omega
  · split
    · simp only [List.length_set, grow_len]; omega
    · split
      · exact ⟨hA, hL⟩
      · exact ⟨hA, learnR_len _ _⟩
@[go_sem] theorem mval_1 : mval [(.int .i64 1,.fn (.func 53) [] []),(.int .i64 2,.fn (.func 56) [] []),(.int .i64 3,.fn (.func 58) [] [])] (.imm .nilFunc) (.int .i64 1) = .fn (.func 53) [] [] := rfl
@[go_sem] theorem mval_2 : mval [(.int .i64 1,.fn (.func 53) [] []),(.int .i64 2,.fn (.func 56) [] []),(.int .i64 3,.fn (.func 58) [] [])] (.imm .nilFunc) (.int .i64 2) = .fn (.func 56) [] [] := rfl
@[go_sem] theorem mval_3 : mval [(.int .i64 1,.fn (.func 53) [] []),(.int .i64 2,.fn (.func 56) [] []),(.int .i64 3,.fn (.func 58) [] [])] (.imm .nilFunc) (.int .i64 3) = .fn (.func 58) [] [] := rfl
def FoldQ (q : Mem × Int) (v : AV) (σ' : List AObj) : Prop :=
  (v = .tup [.agg [.imm (.slice none 0 0), .imm (.slice none 0 0)], .imm (.int .i64 q.2)] ∧ q.1 = ⟨[], []⟩) ∨
  (∃ a b,a ≠ b ∧ v = .tup [.agg [.own a 0 q.1.A.length none,.own b 0 q.1.L.length none],.imm (.int .i64 q.2)] ∧ nthO σ' a = acO q.1.A ∧ nthO σ' b = tkO q.1.L)
theorem deed1_turns (A : List Acc) (L : List Tk) (r : Rcd) (hk : r.k = 1) (hs : 1 ≤ r.s ∧ r.s < 16) (hA : A.length ≤ 1000) :
    Turns Tryz.prog 53 [.optr 0 0 0,rcA r] [memO 1 2 A L,acO A,tkO L] (.imm (.int .i64 (doR ⟨A,L⟩ r).2)) [memO 3 4 (doR ⟨A,L⟩ r).1.A (doR ⟨A,L⟩ r).1.L,.dead,.dead,acO (doR ⟨A,L⟩ r).1.A,tkO (doR ⟨A,L⟩ r).1.L] :=
  ⟨deed1_tc A L r hk hs hA,trivial,fun a ha => by simp at ha;rcases ha with rfl | rfl | rfl | rfl | rfl <;> simp [VFO,VFL,VF]⟩
theorem deed2_turns (A : List Acc) (L : List Tk) (r : Rcd) (hk : r.k = 2) (hs : 1 ≤ r.s ∧ r.s < 16) (hA : A.length ≤ 1000) :
    Turns Tryz.prog 56 [.optr 0 0 0,rcA r] [memO 1 2 A L,acO A,tkO L] (.imm (.int .i64 (doR ⟨A,L⟩ r).2)) [memO 3 4 (doR ⟨A,L⟩ r).1.A (doR ⟨A,L⟩ r).1.L,.dead,.dead,acO (doR ⟨A,L⟩ r).1.A,tkO (doR ⟨A,L⟩ r).1.L] :=
  ⟨deed2_tc A L r hk hs hA,trivial,fun a ha => by simp at ha;rcases ha with rfl | rfl | rfl | rfl | rfl <;> simp [VFO,VFL,VF]⟩
theorem deed3_turns (A : List Acc) (L : List Tk) (r : Rcd) (hk : r.k = 3) (hL : L.length ≤ 9223372036854775807) :
    Turns Tryz.prog 58 [.optr 0 0 0,rcA r] [memO 1 2 A L,acO A,tkO L] (.imm (.int .i64 (doR ⟨A,L⟩ r).2)) [memO 3 4 (doR ⟨A,L⟩ r).1.A (doR ⟨A,L⟩ r).1.L,.dead,.dead,acO (doR ⟨A,L⟩ r).1.A,tkO (doR ⟨A,L⟩ r).1.L] :=
  ⟨deed3_tc A L r hk hL,trivial,fun a ha => by simp at ha;rcases ha with rfl | rfl | rfl | rfl | rfl <;> simp [VFO,VFL,VF]⟩
set_option maxRecDepth 100000 in
set_option maxHeartbeats 4000000 in
theorem fold_raw (l : List Rcd) (hl : l.length ≤ 9223372036854775807) : TC Tryz.prog 15 [rcs l] [] (FoldQ (foldR l)) := by
  have hcon := contains_tc l hl
  (refine TC_of_T Γ_ok Tryz.func15 rfl (by kernel_rfl) ?_;simp only [Tryz.ntmps15,Tryz.results15,List.length_cons,List.length_nil,Nat.reduceSub,Nat.reduceAdd,List.replicate,List.cons_append,List.nil_append])
  by_cases hok : l.length ≤ 500 ∧ allOk l = true
  · have hf : foldR l = runM l ⟨[], []⟩ := if_pos hok
    rw [hok.2] at hcon
    (have cl1 := hcon;have cm1 := deeds_tc;((refine goR0 _ _ _ _ _ _ _ _ ?_ ?_ ?_ ?_ ?_ ?_ ?_ ?_) <;> (repeat intro hb) <;> first | exact True.intro | refine Lf.mk ?_))
    refine T_loopW (fun m st => ∃ (i : Nat) (A : List Acc) (L : List Tk),i ≤ l.length ∧ m + i = l.length ∧ A.length ≤ 15 ∧ L.length ≤ 15 ∧ foldR l = runM (l.drop i) ⟨A,L⟩ ∧
        st = ⟨[rcs l,.top,.optr 0 0 0,.imm (.int .i64 0),.optr 1 0 0,.map 2,.top,.top,.top,.top,.top,.top,.top,.top,.top,.top,.top,.top,rcs l,.imm (.int .i64 l.length),.imm (.int .i64 i)] ++ List.replicate 15 .top,
          [.box 52 [.imm (.slice none 0 0), .imm (.slice none 0 0)], memO 3 4 A L, deedM, acO A, tkO L]⟩)
      l.length ⟨_,Wk.trans (Wk.push 107 6 (acE [])) (Wk.trans (Wk.push 47 4 (tkE [])) ?_),0,[],[],by omega,rfl,by simp,by simp,hf,rfl⟩ ?_
    · ((try simp only [List.length_append,List.length_cons,List.length_nil,Nat.zero_add]);refine Wk.intro [0,1,2,3,4] (by decide) (by decide) (by intro o ho;simp at ho ⊢ <;> omega) ?_ ?_ <;> repeat' (first|exact WkO.mpE rfl (by simp [Free,FreeL])|exact WkVL.nil|refine WkVL.cons ?_ ?_|exact WkV.top|exact WkV.imm rfl|exact WkV.imm (by simp)|exact WkV.optr rfl|exact WkV.own rfl (by simp)|exact WkV.nil_own (.inl rfl)|exact WkV.map rfl|(refine WkV.free ?_;simp [Free,FreeL] <;> assumption)|(refine WkV.free (fun _ _=>FreeL_nth ?_ _);simp [Free,FreeL];done)|refine WkV.agg ?_|refine WkV.tup ?_|refine WkV.fn ?_ ?_|exact WkO.dead|exact WkO.raw|refine WkO.ghost ?_|exact WkO.mpE rfl trivial|refine WkO.box ?_ rfl|refine WkO.arr ?_|refine And.intro ?_ (And.intro (by first|exact fun h=>h|exact fun _=>rfl|exact nofun) ?_)|exact trivial|(intro i j hi hj)))
    rintro m st ⟨i, A, L, h0, h1, h2, h3, h4, rfl⟩
    (simp only [go_sem,↓reduceIte,Nat.reduceAdd,Nat.reduceSub,Nat.reduceMul,Nat.reduceLT,Nat.reduceLeDiff,Nat.reduceEqDiff,Nat.reduceGT,Int.reduceToNat,Int.reduceBEq,Int.reduceBNe];try simp (disch := omega) only [wrapI,wrapU,half_sum,toNat_sub1,toNat_add1,Int.toNat_natCast])
    by_cases hlt : i < l.length
    rotate_left
    · rw [List.drop_eq_nil_of_le (by omega)] at h4
      (((refine goR0 _ _ _ _ _ _ _ _ ?_ ?_ ?_ ?_ ?_ ?_ ?_ ?_) <;> (repeat intro hb) <;> first | exact True.intro | refine Lf.mk ?_))
      exact .inr ⟨3, 4, by decide, by rw [h4]; rfl, by rw [h4]; rfl, by rw [h4]; rfl⟩
    have hro := allOk_gR hok.2 hlt
    have hbd := doR_len (m := ⟨A, L⟩) hro h2 h3
    obtain ⟨hs, hk⟩ := Rcd.ok_spec hro
    rcases hk with ⟨hk, _⟩ | ⟨hk, _⟩ | ⟨hk, _⟩
    · have hd := deed1_turns A L (gR l i) hk hs (by omega)
      simp only [rcA, rcL, hk] at hd
      have hdr := runM_drop hlt ⟨A, L⟩
      by_cases he : (doR ⟨A, L⟩ (gR l i)).2 = 0
      · rw [he] at hd
        rw [if_pos he] at hdr
        (have ct1 := TurnsAt.mk [1,3,4] (hd);have sx1 := hk;have sx2 : (0 : Nat) + 0 = 0 := rfl;((have sx3 : (0 : Nat) + 0 = 0 := rfl;have sx4 : (0 : Nat) + 0 = 0 := rfl;have sx5 : (0 : Nat) + 0 = 0 := rfl;have sx6 : (0 : Nat) + 0 = 0 := rfl;have sx7 : (0 : Nat) + 0 = 0 := rfl;have sx8 : (0 : Nat) + 0 = 0 := rfl;have sx9 : (0 : Nat) + 0 = 0 := rfl;refine goR9 _ _ _ _ _ _ _ _ ?_ ?_ ?_ ?_ ?_ ?_ ?_ ?_) <;> (repeat intro hb) <;> first|exact True.intro|refine Lf.mk ?_))
        refine ⟨l.length - (i + 1),by omega,_,?_,i + 1,(doR ⟨A,L⟩ (gR l i)).1.A,(doR ⟨A,L⟩ (gR l i)).1.L,by omega,by omega,hbd.1,hbd.2,by rw [h4,hdr],rfl⟩
        ((try simp only [List.length_append,List.length_cons,List.length_nil,Nat.zero_add]);refine Wk.intro [0,1,2,6,7] (by decide) (by decide) (by intro o ho;simp at ho ⊢ <;> omega) ?_ ?_ <;> repeat' (first|(refine WkV.imm ?_;congr 1;omega)|exact WkO.mpE rfl (by simp [Free,FreeL])|exact WkVL.nil|refine WkVL.cons ?_ ?_|exact WkV.top|exact WkV.imm rfl|exact WkV.imm (by simp)|exact WkV.optr rfl|exact WkV.own rfl (by simp)|exact WkV.nil_own (.inl rfl)|exact WkV.map rfl|(refine WkV.free ?_;simp [Free,FreeL] <;> assumption)|(refine WkV.free (fun _ _=>FreeL_nth ?_ _);simp [Free,FreeL];done)|refine WkV.agg ?_|refine WkV.tup ?_|refine WkV.fn ?_ ?_|exact WkO.dead|exact WkO.raw|refine WkO.ghost ?_|exact WkO.mpE rfl trivial|refine WkO.box ?_ rfl|refine WkO.arr ?_|refine And.intro ?_ (And.intro (by first|exact fun h=>h|exact fun _=>rfl|exact nofun) ?_)|exact trivial|(intro i j hi hj)))
      · rw [if_neg he] at hdr
        have he' : ((doR ⟨A, L⟩ (gR l i)).2 != 0) = true := by simpa using he
        (have ct1 := TurnsAt.mk [1,3,4] (hd);have sx1 := hk;have sx2 := he';((have sx3 : (0 : Nat) + 0 = 0 := rfl;have sx4 : (0 : Nat) + 0 = 0 := rfl;have sx5 : (0 : Nat) + 0 = 0 := rfl;have sx6 : (0 : Nat) + 0 = 0 := rfl;have sx7 : (0 : Nat) + 0 = 0 := rfl;have sx8 : (0 : Nat) + 0 = 0 := rfl;have sx9 : (0 : Nat) + 0 = 0 := rfl;refine goR9 _ _ _ _ _ _ _ _ ?_ ?_ ?_ ?_ ?_ ?_ ?_ ?_) <;> (repeat intro hb) <;> first|exact True.intro|refine Lf.mk ?_))
        exact .inl ⟨by rw [h4, hdr], by rw [h4, hdr]⟩
    · have hd := deed2_turns A L (gR l i) hk hs (by omega)
      simp only [rcA, rcL, hk] at hd
      have hdr := runM_drop hlt ⟨A, L⟩
      by_cases he : (doR ⟨A, L⟩ (gR l i)).2 = 0
      · rw [he] at hd
        rw [if_pos he] at hdr
        (have ct1 := TurnsAt.mk [1,3,4] (hd);have sx1 := hk;have sx2 : (0 : Nat) + 0 = 0 := rfl;((have sx3 : (0 : Nat) + 0 = 0 := rfl;have sx4 : (0 : Nat) + 0 = 0 := rfl;have sx5 : (0 : Nat) + 0 = 0 := rfl;have sx6 : (0 : Nat) + 0 = 0 := rfl;have sx7 : (0 : Nat) + 0 = 0 := rfl;have sx8 : (0 : Nat) + 0 = 0 := rfl;have sx9 : (0 : Nat) + 0 = 0 := rfl;refine goR9 _ _ _ _ _ _ _ _ ?_ ?_ ?_ ?_ ?_ ?_ ?_ ?_) <;> (repeat intro hb) <;> first|exact True.intro|refine Lf.mk ?_))
        refine ⟨l.length - (i + 1),by omega,_,?_,i + 1,(doR ⟨A,L⟩ (gR l i)).1.A,(doR ⟨A,L⟩ (gR l i)).1.L,by omega,by omega,hbd.1,hbd.2,by rw [h4,hdr],rfl⟩
        ((try simp only [List.length_append,List.length_cons,List.length_nil,Nat.zero_add]);refine Wk.intro [0,1,2,6,7] (by decide) (by decide) (by intro o ho;simp at ho ⊢ <;> omega) ?_ ?_ <;> repeat' (first|(refine WkV.imm ?_;congr 1;omega)|exact WkO.mpE rfl (by simp [Free,FreeL])|exact WkVL.nil|refine WkVL.cons ?_ ?_|exact WkV.top|exact WkV.imm rfl|exact WkV.imm (by simp)|exact WkV.optr rfl|exact WkV.own rfl (by simp)|exact WkV.nil_own (.inl rfl)|exact WkV.map rfl|(refine WkV.free ?_;simp [Free,FreeL] <;> assumption)|(refine WkV.free (fun _ _=>FreeL_nth ?_ _);simp [Free,FreeL];done)|refine WkV.agg ?_|refine WkV.tup ?_|refine WkV.fn ?_ ?_|exact WkO.dead|exact WkO.raw|refine WkO.ghost ?_|exact WkO.mpE rfl trivial|refine WkO.box ?_ rfl|refine WkO.arr ?_|refine And.intro ?_ (And.intro (by first|exact fun h=>h|exact fun _=>rfl|exact nofun) ?_)|exact trivial|(intro i j hi hj)))
      · rw [if_neg he] at hdr
        have he' : ((doR ⟨A, L⟩ (gR l i)).2 != 0) = true := by simpa using he
        (have ct1 := TurnsAt.mk [1,3,4] (hd);have sx1 := hk;have sx2 := he';((have sx3 : (0 : Nat) + 0 = 0 := rfl;have sx4 : (0 : Nat) + 0 = 0 := rfl;have sx5 : (0 : Nat) + 0 = 0 := rfl;have sx6 : (0 : Nat) + 0 = 0 := rfl;have sx7 : (0 : Nat) + 0 = 0 := rfl;have sx8 : (0 : Nat) + 0 = 0 := rfl;have sx9 : (0 : Nat) + 0 = 0 := rfl;refine goR9 _ _ _ _ _ _ _ _ ?_ ?_ ?_ ?_ ?_ ?_ ?_ ?_) <;> (repeat intro hb) <;> first|exact True.intro|refine Lf.mk ?_))
        exact .inl ⟨by rw [h4, hdr], by rw [h4, hdr]⟩
    · have hd := deed3_turns A L (gR l i) hk (by omega)
      simp only [rcA, rcL, hk] at hd
      have hdr := runM_drop hlt ⟨A, L⟩
      by_cases he : (doR ⟨A, L⟩ (gR l i)).2 = 0
      · rw [he] at hd
        rw [if_pos he] at hdr
        (have ct1 := TurnsAt.mk [1,3,4] (hd);have sx1 := hk;have sx2 : (0 : Nat) + 0 = 0 := rfl;((have sx3 : (0 : Nat) + 0 = 0 := rfl;have sx4 : (0 : Nat) + 0 = 0 := rfl;have sx5 : (0 : Nat) + 0 = 0 := rfl;have sx6 : (0 : Nat) + 0 = 0 := rfl;have sx7 : (0 : Nat) + 0 = 0 := rfl;have sx8 : (0 : Nat) + 0 = 0 := rfl;have sx9 : (0 : Nat) + 0 = 0 := rfl;refine goR9 _ _ _ _ _ _ _ _ ?_ ?_ ?_ ?_ ?_ ?_ ?_ ?_) <;> (repeat intro hb) <;> first|exact True.intro|refine Lf.mk ?_))
        refine ⟨l.length - (i + 1),by omega,_,?_,i + 1,(doR ⟨A,L⟩ (gR l i)).1.A,(doR ⟨A,L⟩ (gR l i)).1.L,by omega,by omega,hbd.1,hbd.2,by rw [h4,hdr],rfl⟩
        ((try simp only [List.length_append,List.length_cons,List.length_nil,Nat.zero_add]);refine Wk.intro [0,1,2,6,7] (by decide) (by decide) (by intro o ho;simp at ho ⊢ <;> omega) ?_ ?_ <;> repeat' (first|(refine WkV.imm ?_;congr 1;omega)|exact WkO.mpE rfl (by simp [Free,FreeL])|exact WkVL.nil|refine WkVL.cons ?_ ?_|exact WkV.top|exact WkV.imm rfl|exact WkV.imm (by simp)|exact WkV.optr rfl|exact WkV.own rfl (by simp)|exact WkV.nil_own (.inl rfl)|exact WkV.map rfl|(refine WkV.free ?_;simp [Free,FreeL] <;> assumption)|(refine WkV.free (fun _ _=>FreeL_nth ?_ _);simp [Free,FreeL];done)|refine WkV.agg ?_|refine WkV.tup ?_|refine WkV.fn ?_ ?_|exact WkO.dead|exact WkO.raw|refine WkO.ghost ?_|exact WkO.mpE rfl trivial|refine WkO.box ?_ rfl|refine WkO.arr ?_|refine And.intro ?_ (And.intro (by first|exact fun h=>h|exact fun _=>rfl|exact nofun) ?_)|exact trivial|(intro i j hi hj)))
      · rw [if_neg he] at hdr
        have he' : ((doR ⟨A, L⟩ (gR l i)).2 != 0) = true := by simpa using he
        (have ct1 := TurnsAt.mk [1,3,4] (hd);have sx1 := hk;have sx2 := he';((have sx3 : (0 : Nat) + 0 = 0 := rfl;have sx4 : (0 : Nat) + 0 = 0 := rfl;have sx5 : (0 : Nat) + 0 = 0 := rfl;have sx6 : (0 : Nat) + 0 = 0 := rfl;have sx7 : (0 : Nat) + 0 = 0 := rfl;have sx8 : (0 : Nat) + 0 = 0 := rfl;have sx9 : (0 : Nat) + 0 = 0 := rfl;refine goR9 _ _ _ _ _ _ _ _ ?_ ?_ ?_ ?_ ?_ ?_ ?_ ?_) <;> (repeat intro hb) <;> first|exact True.intro|refine Lf.mk ?_))
        exact .inl ⟨by rw [h4, hdr], by rw [h4, hdr]⟩
  · have hf : foldR l = (⟨[], []⟩, 1) := if_neg hok
    by_cases h5 : l.length ≤ 500
    · have hn : allOk l = false := by
        cases hq : allOk l with
        | false => rfl
        | true => exact absurd ⟨h5, hq⟩ hok
      rw [hn] at hcon
      (have cl1 := hcon;((refine goR0 _ _ _ _ _ _ _ _ ?_ ?_ ?_ ?_ ?_ ?_ ?_ ?_) <;> (repeat intro hb) <;> first | exact True.intro | refine Lf.mk ?_))
      all_goals exact .inl ⟨by rw [hf], by rw [hf]⟩
    · (have cl1 := hcon;((refine goR0 _ _ _ _ _ _ _ _ ?_ ?_ ?_ ?_ ?_ ?_ ?_ ?_) <;> (repeat intro hb) <;> first | exact True.intro | refine Lf.mk ?_))
      all_goals exact .inl ⟨by rw [hf], by rw [hf]⟩
end Go.Proofs.YtngfnogoicfmaaaGreatDoor
namespace Go.Proofs.YtngfnogoicfmaaaGreatDoor
open Go.Ab
theorem nthO_app {σ τ : List AObj} {k : Nat} (h : k < σ.length) : nthO (σ ++ τ) k = nthO σ k := by
  induction σ generalizing k with
  | nil => simp at h
  | cons x σ ih => cases k with
    | zero => rfl
    | succ k => simpa [nthO] using ih (by simpa using h)
theorem nthO_at (σ : List AObj) (a : AObj) (τ : List AObj) : nthO (σ ++ a :: τ) σ.length = a := by
  induction σ with
  | nil => rfl
  | cons x σ ih => simpa [nthO] using ih
theorem nthO_lt {σ : List AObj} {k : Nat} {a : AObj} (h : nthO σ k = a) (hd : a ≠ .dead) : k < σ.length := (List.getElem?_eq_some_iff.1 (nthO_get h hd)).1
theorem FoldQ.makes {q : Mem × Int} {f : FuncId} {args : List AV} (h : TC Tryz.prog f args [] (FoldQ q)) :
    Makes Tryz.prog f args (.tup [.agg [.own 0 0 q.1.A.length none,.own 1 0 q.1.L.length none],.imm (.int .i64 q.2)]) [acO q.1.A,tkO q.1.L] := by
  refine Makes.gen [(107,6),(47,4)] (by simp [VF,VFL]) (fun a ha => by simp at ha;rcases ha with rfl | rfl <;> simp [PlO]) (h.mono fun v σ' hq => ?_)
  rcases hq with ⟨rfl, hq⟩ | ⟨a, b, hab, rfl, ha, hb⟩
  · rw [hq]
    refine ⟨[σ'.length,σ'.length + 1],by simp,by simp,WkV.tup (WkVL.cons (WkV.agg (WkVL.cons (WkV.nil_own (.inl rfl)) (WkVL.cons (WkV.nil_own (.inl rfl)) WkVL.nil))) (WkVL.cons (WkV.imm rfl) WkVL.nil)),?_⟩
    have e1 : nthO (σ' ++ [AObj.arr 107 6 0 fun _ _ => .top,AObj.arr 47 4 0 fun _ _ => .top]) σ'.length = AObj.arr 107 6 0 fun _ _ => .top := nthO_at _ _ _
    have e2 : nthO (σ' ++ [AObj.arr 107 6 0 fun _ _ => .top,AObj.arr 47 4 0 fun _ _ => .top]) (σ'.length + 1) = AObj.arr 47 4 0 fun _ _ => .top := by
      have := nthO_at (σ' ++ [AObj.arr 107 6 0 fun _ _ => .top]) (AObj.arr 47 4 0 fun _ _ => .top) []
      simpa using this
    simp only [List.map_cons, List.map_nil, WkOL, e1, e2]
    exact ⟨WkO.arr fun i j hi _ => by omega, fun _ => rfl, WkO.arr fun i j hi _ => by omega, fun _ => rfl, trivial⟩
  · have la := nthO_lt ha (by simp)
    have lb := nthO_lt hb (by simp)
    refine ⟨[a,b],by simpa using hab,by simp;omega,WkV.tup (WkVL.cons (WkV.agg (WkVL.cons (WkV.own rfl (by simp)) (WkVL.cons (WkV.own rfl (by simp)) WkVL.nil))) (WkVL.cons (WkV.imm rfl) WkVL.nil)),?_⟩
    simp only [WkOL, nthO_app la, nthO_app lb, ha, hb]
    exact ⟨WkO.arr fun i j _ _ => WkV.free (acE_free _ _ _),fun _ => rfl,WkO.arr fun i j _ _ => WkV.free (tkE_free _ _ _),fun _ => rfl,trivial⟩
@[go_sem,reducible] def memA (q : Mem × Int) : AV := .tup [.agg [.own 0 0 q.1.A.length none,.own 1 0 q.1.L.length none],.imm (.int .i64 q.2)]
theorem fold_tc (l : List Rcd) (hl : l.length ≤ 9223372036854775807) : Makes Tryz.prog 15 [rcs l] (memA (foldR l)) [acO (foldR l).1.A,tkO (foldR l).1.L] := FoldQ.makes (fold_raw l hl)
structure Dsk where
  b : List Nat
  s : Int
@[go_sem, reducible] def dsA (d : Dsk) : AV := .agg [bys d.b, .imm (.int .i64 d.s)]
def soundB (d : Dsk) : Bool := decide (d.b.length ≤ 100000) && decide (0 ≤ d.s) && decide (d.s ≤ d.b.length)
set_option maxRecDepth 100000 in
set_option maxHeartbeats 4000000 in
theorem sound_tc (d : Dsk) (hl : d.b.length ≤ 9223372036854775807) : Look Tryz.prog 45 [dsA d] (.imm (.bool (soundB d))) := by
  refine Look.mk trivial ?_
  (refine TC_of_T Γ_ok Tryz.func45 rfl (by kernel_rfl) ?_;simp only [Tryz.ntmps45,Tryz.results45,List.length_cons,List.length_nil,Nat.reduceSub,Nat.reduceAdd,List.replicate,List.cons_append,List.nil_append])
  (((refine goR0 _ _ _ _ _ _ _ _ ?_ ?_ ?_ ?_ ?_ ?_ ?_ ?_) <;> (repeat intro hb) <;> first | exact True.intro | refine Lf.mk ?_))
  congr 2
  simp [soundB, Bool.and_assoc]
  rw [show decide ((d.b.length : Int) ≤ 100000) = decide (d.b.length ≤ 100000) from decide_eq_decide.2 (by omega)]
set_option maxRecDepth 100000 in
set_option maxHeartbeats 4000000 in
theorem bclone_nil (c : Nat) : TC Tryz.prog 65 [.imm (.slice none 0 c)] [] (fun v σ' => v = .imm (.slice none 0 0) ∧ σ' = []) := by
  (refine TC_of_T Γ_ok Tryz.func65 rfl (by kernel_rfl) ?_;simp only [Tryz.ntmps65,Tryz.results65,List.length_cons,List.length_nil,Nat.reduceSub,Nat.reduceAdd,List.replicate,List.cons_append,List.nil_append])
  (((refine goR0 _ _ _ _ _ _ _ _ ?_ ?_ ?_ ?_ ?_ ?_ ?_ ?_) <;> (repeat intro hb) <;> first | exact True.intro | refine Lf.mk ?_))
  all_goals simp
set_option maxRecDepth 100000 in
set_option maxHeartbeats 4000000 in
theorem bclone_emp (a : Addr) (c : Nat) : TC Tryz.prog 65 [.imm (.slice (some a) 0 c)] [] (fun v σ' => ∃ o g,v = .own 1 0 0 none ∧ σ' = [o,.arr 5 1 0 g]) := by
  (refine TC_of_T Γ_ok Tryz.func65 rfl (by kernel_rfl) ?_;simp only [Tryz.ntmps65,Tryz.results65,List.length_cons,List.length_nil,Nat.reduceSub,Nat.reduceAdd,List.replicate,List.cons_append,List.nil_append])
  (((refine goR0 _ _ _ _ _ _ _ _ ?_ ?_ ?_ ?_ ?_ ?_ ?_ ?_) <;> (repeat intro hb) <;> first | exact True.intro | refine Lf.mk ?_))
  all_goals exact ⟨_, _, rfl⟩
set_option maxRecDepth 100000 in
set_option maxHeartbeats 4000000 in
theorem bclone_pos (n : Nat) (E : Nat → Nat → AV) (hl : n ≤ 1000000000) (h0 : 0 < n) : TC Tryz.prog 65 [.view n 1 E] [] (fun v σ' => ∃ o,v = .own 1 0 n none ∧ σ' = [o,.arr 5 1 n E]) := by
  (refine TC_of_T Γ_ok Tryz.func65 rfl (by kernel_rfl) ?_;simp only [Tryz.ntmps65,Tryz.results65,List.length_cons,List.length_nil,Nat.reduceSub,Nat.reduceAdd,List.replicate,List.cons_append,List.nil_append])
  (((refine goR0 _ _ _ _ _ _ _ _ ?_ ?_ ?_ ?_ ?_ ?_ ?_ ?_) <;> (repeat intro hb) <;> first | exact True.intro | refine Lf.mk ?_))
  all_goals exact ⟨_, rfl⟩
theorem bclone_tc (l : List Nat) (hl : l.length ≤ 1000000000) : Makes Tryz.prog 65 [bys l] (ownB l) [byO l] := by
  refine Makes.lst1J (byE_pl l) (TC_view_cases (us1 := []) (us2 := []) (fun h0 a c => ?_) (fun h0 c => ?_) (fun h0 => ?_))
  · exact (bclone_emp a c).mono fun v σ' ⟨o,g,hv,hs⟩ => .inr ⟨1,g,by rw [hv,h0],by rw [hs,h0];rfl,fun i j hi _ => by omega⟩
  · exact (bclone_nil c).mono fun v σ' ⟨hv, hs⟩ => .inl ⟨hv, h0⟩
  · exact (bclone_pos l.length (byE l) hl h0).mono fun v σ' ⟨o,hv,hs⟩ => .inr ⟨1,_,hv,by rw [hs];rfl,fun _ _ _ _ => rfl⟩
end Go.Proofs.YtngfnogoicfmaaaGreatDoor
