/-
  Parts joined: W1 W2 W3 W4 W5.
-/
import Derived.Test.YtngfnogoicfmaaaGreatDoorQGo
import Derived.Test.YtngfnogoicfmaaaGreatDoorQGm
import Derived.Test.YtngfnogoicfmaaaGreatDoorQA5
set_option linter.unusedSimpArgs false
set_option linter.unusedVariables false
namespace Go.Proofs.YtngfnogoicfmaaaGreatDoor
open Go.Ab
set_option maxRecDepth 100000 in
set_option maxHeartbeats 4000000 in
theorem isDesk_tc (d n : Int) : Look Tryz.prog 69 [.imm (.int .i64 d),.imm (.int .i64 n)] (.imm (.bool (decide (0 ≤ d) && decide (d < n)))) := by
  refine Look.mk trivial ?_
  (refine TC_of_T Γ_ok Tryz.func69 rfl (by kernel_rfl) ?_;simp only [Tryz.ntmps69,Tryz.results69,List.length_cons,List.length_nil,Nat.reduceSub,Nat.reduceAdd,List.replicate,List.cons_append,List.nil_append])
  (((refine goR0 _ _ _ _ _ _ _ _ ?_ ?_ ?_ ?_ ?_ ?_ ?_ ?_) <;> (repeat intro hb) <;> first | exact True.intro | refine Lf.mk ?_))
def takeB (s c n d : Int) : Bool :=
  if s < 1 ∨ s ≥ 16 ∨ c < 0 ∨ c ≥ 6 ∨ d < 0 ∨ d ≥ 8 then false else if n = 0 then decide (c = 0) else decide (n = 1 ∨ n = -1)
set_option maxRecDepth 100000 in
set_option maxHeartbeats 4000000 in
theorem take_tc (s c n d : Int) : Look Tryz.prog 52 [.agg [.imm (.int .i64 s),.imm (.int .i64 c),.imm (.int .i64 n),.imm (.int .i64 d)]] (.imm (.bool (takeB s c n d))) := by
  refine Look.mk trivial ?_
  (refine TC_of_T Γ_ok Tryz.func52 rfl (by kernel_rfl) ?_;simp only [Tryz.ntmps52,Tryz.results52,List.length_cons,List.length_nil,Nat.reduceSub,Nat.reduceAdd,List.replicate,List.cons_append,List.nil_append])
  (have cl1 := fun u1 u2 => isDesk_tc u1 u2;((refine goR0 _ _ _ _ _ _ _ _ ?_ ?_ ?_ ?_ ?_ ?_ ?_ ?_) <;> (repeat intro hb) <;> first | exact True.intro | refine Lf.mk ?_))
  all_goals (first | grind [takeB] | trace_state)
end Go.Proofs.YtngfnogoicfmaaaGreatDoor
namespace Go.Proofs.YtngfnogoicfmaaaGreatDoor
open Go.Ab
structure Tk where
  s : Int
  c : Int
  n : Int
  d : Int
@[go_sem,reducible] def tkL (t : Tk) : List AV := [.imm (.int .i64 t.s),.imm (.int .i64 t.c),.imm (.int .i64 t.n),.imm (.int .i64 t.d)]
@[go_sem, reducible] def tkA (t : Tk) : AV := .agg (tkL t)
def gt (l : List Tk) (i : Nat) : Tk := l.getD i ⟨0, 0, 0, 0⟩
def tkE (l : List Tk) (i j : Nat) : AV := nth (tkL (gt l i)) j
@[go_sem] theorem tkE_0 (l : List Tk) (i : Nat) : tkE l i 0 = .imm (.int .i64 (gt l i).s) := rfl
@[go_sem] theorem tkE_1 (l : List Tk) (i : Nat) : tkE l i 1 = .imm (.int .i64 (gt l i).c) := rfl
@[go_sem] theorem tkE_2 (l : List Tk) (i : Nat) : tkE l i 2 = .imm (.int .i64 (gt l i).n) := rfl
@[go_sem] theorem tkE_3 (l : List Tk) (i : Nat) : tkE l i 3 = .imm (.int .i64 (gt l i).d) := rfl
theorem immD {b : Bool} {p : Prop} {_ : Decidable p} (h : b = true ↔ p) : AV.imm (.bool b) = .imm (.bool (decide p)) := by
  congr 2
  cases b with
  | true => exact (decide_eq_true (h.1 rfl)).symm
  | false => exact (decide_eq_false fun q => by cases h.2 q).symm
theorem tkE_cases (l : List Tk) (i j : Nat) (Q : AV → Prop) (h0 : ∀ v, Q (.imm v)) (ht : Q .top) : Q (tkE l i j) := by
  match j with
  | 0 => exact h0 _
  | 1 => exact h0 _
  | 2 => exact h0 _
  | 3 => exact h0 _
  | j + 4 => exact ht
@[simp] theorem tkE_free (l : List Tk) (i j : Nat) : Free (tkE l i j) := tkE_cases l i j Free (fun _ => trivial) trivial
@[simp] theorem tkE_pl (l : List Tk) (i j : Nat) : Pl (tkE l i j) := tkE_cases l i j Pl (fun _ => trivial) trivial
@[go_sem, reducible] def tks (l : List Tk) : AV := .view l.length 4 (tkE l)
@[go_sem, reducible] def srt (l : List Tk) : AV := .agg [tks l, .fn (.func 92) [] []]
set_option maxRecDepth 100000 in
set_option maxHeartbeats 4000000 in
theorem section_tc (s c n d : Int) : Look Tryz.prog 92 [.agg [.imm (.int .i64 s),.imm (.int .i64 c),.imm (.int .i64 n),.imm (.int .i64 d)]] (.imm (.int .i64 s)) := by
  refine Look.mk trivial ?_
  (refine TC_of_T Γ_ok Tryz.func92 rfl (by kernel_rfl) ?_;simp only [Tryz.ntmps92,Tryz.results92,List.length_cons,List.length_nil,Nat.reduceSub,Nat.reduceAdd,List.replicate,List.cons_append,List.nil_append])
  (((refine goR0 _ _ _ _ _ _ _ _ ?_ ?_ ?_ ?_ ?_ ?_ ?_ ?_) <;> (repeat intro hb) <;> first | exact True.intro | refine Lf.mk ?_))
  all_goals rfl
def Ris (l : List Tk) : Prop := ∀ i, i + 1 < l.length → (gt l i).s < (gt l (i + 1)).s
open Classical in
set_option maxRecDepth 100000 in
set_option maxHeartbeats 4000000 in
theorem rising_tc (l : List Tk) (hl : l.length ≤ 9223372036854775807) : Look Tryz.prog 100 [srt l] (.imm (.bool (decide (Ris l)))) := by
  refine Look.mk trivial ?_
  (refine TC_of_T Γ_ok Tryz.func100 rfl (by kernel_rfl) ?_;simp only [Tryz.ntmps100,Tryz.results100,List.length_cons,List.length_nil,Nat.reduceSub,Nat.reduceAdd,List.replicate,List.cons_append,List.nil_append])
  (((refine goR0 _ _ _ _ _ _ _ _ ?_ ?_ ?_ ?_ ?_ ?_ ?_ ?_) <;> (repeat intro hb) <;> first | exact True.intro | refine Lf.mk ?_))
  refine T_loopW (fun m st=>∃ i : Nat,1 ≤ i ∧ m + i = l.length + 1 ∧ (∀ j,j + 1 < i → (gt l j).s < (gt l (j + 1)).s) ∧ st = ⟨[srt l,.optr 0 0 0,.imm (.bool false),.imm (.int .i64 i)] ++ List.replicate 25 .top,[.box 137 [tks l,.fn (.func 92) [] []]]⟩)
    l.length ⟨_, Wk.refl _, 1, Nat.le_refl _, rfl, fun j hj => by omega, rfl⟩ ?_
  rintro m st ⟨i, h1, h2, h3, rfl⟩
  (simp only [go_sem,↓reduceIte,Nat.reduceAdd,Nat.reduceSub,Nat.reduceMul,Nat.reduceLT,Nat.reduceLeDiff,Nat.reduceEqDiff,Nat.reduceGT,Int.reduceToNat,Int.reduceBEq,Int.reduceBNe];try simp (disch := omega) only [wrapI,wrapU,half_sum,toNat_sub1,toNat_add1,Int.toNat_natCast])
  (have cl1 := fun u1 u2 u3 u4=>section_tc u1 u2 u3 u4;repeat' (first|with_reducible refine T_seq_drawT (id := 4) Γ_ok drawsAny pl100_4 (by kernel_rfl) (fun K hK=>?_)|with_reducible refine T_last_drawT (id := 4) Γ_ok drawsAny pl100_4 (by kernel_rfl) (fun K hK=>?_)|((refine goR0 _ _ _ _ _ _ _ _ ?_ ?_ ?_ ?_ ?_ ?_ ?_ ?_) <;> (repeat intro hb) <;> first|exact True.intro|refine Lf.mk ?_)))
  · congr 2
    symm
    exact decide_eq_false fun hr => by have := hr (i - 1) (by omega); rw [show i - 1 + 1 = i by omega] at this; omega
  · refine ⟨l.length + 1 - (i + 1), by omega, _, ?_, i + 1, by omega, by omega, fun j hj => ?_, rfl⟩
    · ((try simp only [List.length_append,List.length_cons,List.length_nil,Nat.zero_add]);refine Wk.intro [0] (by decide) (by decide) (by intro o ho;simp at ho ⊢ <;> omega) ?_ ?_ <;> repeat' (first|exact WkVL.nil|refine WkVL.cons ?_ ?_|exact WkV.top|exact WkV.imm rfl|exact WkV.imm (by simp)|exact WkV.optr rfl|exact WkV.own rfl (by simp)|exact WkV.nil_own (.inl rfl)|exact WkV.map rfl|(refine WkV.free ?_;simp [Free,FreeL] <;> assumption)|(refine WkV.free (fun _ _=>FreeL_nth ?_ _);simp [Free,FreeL];done)|refine WkV.agg ?_|refine WkV.tup ?_|refine WkV.fn ?_ ?_|exact WkO.dead|exact WkO.raw|refine WkO.ghost ?_|exact WkO.mpE rfl trivial|refine WkO.box ?_ rfl|refine WkO.arr ?_|refine And.intro ?_ (And.intro (by first|exact fun h=>h|exact fun _=>rfl|exact nofun) ?_)|exact trivial|(intro i j hi hj)))
    · by_cases hji : j + 1 = i
      · rw [show j = i - 1 by omega, show i - 1 + 1 = i by omega]; assumption
      · exact h3 j (by omega)
  · congr 2
    symm
    exact decide_eq_true fun j hj => h3 j (by omega)
end Go.Proofs.YtngfnogoicfmaaaGreatDoor
namespace Go.Proofs.YtngfnogoicfmaaaGreatDoor
open Go.Ab
def OkT (t : Tk) : Prop := takeB t.s t.c t.n t.d = true
def Val (l : List Tk) : Prop := (∀ i, i < l.length → OkT (gt l i)) ∧ Ris l
theorem OkT.sec {t : Tk} (h : OkT t) : 1 ≤ t.s ∧ t.s ≤ 15 := by
  unfold OkT takeB at h
  split at h
  · cases h
  · omega
theorem Val.low_bound {l : List Tk} (h : Val l) : ∀ i, i < l.length → (i : Int) + 1 ≤ (gt l i).s := by
  intro i
  induction i with
  | zero => intro hi; have := (h.1 0 hi).sec; omega
  | succ i ih => intro hi; have := ih (by omega); have := h.2 i hi; omega
theorem Val.len {l : List Tk} (h : Val l) : l.length ≤ 15 := by
  rcases Nat.eq_zero_or_pos l.length with h0 | h0
  · omega
  · have h1 := h.low_bound (l.length - 1) (by omega)
    have h2 := (h.1 (l.length - 1) (by omega)).sec
    omega
open Classical in
set_option maxRecDepth 100000 in
set_option maxHeartbeats 4000000 in
theorem valid_tc (l : List Tk) (hl : l.length ≤ 9223372036854775807) : Look Tryz.prog 90 [tks l] (.imm (.bool (decide (Val l)))) := by
  refine Look.mk trivial ?_
  (refine TC_of_T Γ_ok Tryz.func90 rfl (by kernel_rfl) ?_;simp only [Tryz.ntmps90,Tryz.results90,List.length_cons,List.length_nil,Nat.reduceSub,Nat.reduceAdd,List.replicate,List.cons_append,List.nil_append])
  (((refine goR0 _ _ _ _ _ _ _ _ ?_ ?_ ?_ ?_ ?_ ?_ ?_ ?_) <;> (repeat intro hb) <;> first | exact True.intro | refine Lf.mk ?_))
  refine T_loopW (fun m st=>∃ i : Nat,i ≤ l.length ∧ m + i = l.length ∧ (∀ j,j < i → OkT (gt l j)) ∧ st = ⟨[tks l,.top,.imm (.bool false),.top,.top,tks l,.imm (.int .i64 l.length),.imm (.int .i64 i)] ++ List.replicate 10 .top,[]⟩)
    l.length ⟨_, Wk.refl _, 0, Nat.zero_le _, rfl, fun j hj => by omega, rfl⟩ ?_
  rintro m st ⟨i, h1, h2, h3, rfl⟩
  (simp only [go_sem,↓reduceIte,Nat.reduceAdd,Nat.reduceSub,Nat.reduceMul,Nat.reduceLT,Nat.reduceLeDiff,Nat.reduceEqDiff,Nat.reduceGT,Int.reduceToNat,Int.reduceBEq,Int.reduceBNe];try simp (disch := omega) only [wrapI,wrapU,half_sum,toNat_sub1,toNat_add1,Int.toNat_natCast])
  repeat' (first
    | (with_reducible refine hK _ ?_; clear hK K)
    | ((with_reducible refine callGoal_inline Γ_ok Tryz.func73 rfl (by kernel_rfl) (by first|exact trivial|(simp only [go_sem,and_self];done)|(simp only [go_sem];omega)) ?_);simp only [Tryz.ntmps73,Tryz.results73,List.length_cons,List.length_nil,Nat.reduceSub,Nat.reduceAdd,List.replicate,List.cons_append,List.nil_append])
    | ((with_reducible first|apply callGoal_lookA (take_tc _ _ _ _)|apply dCall_lookA (take_tc _ _ _ _)|apply callGoal_lookA (rising_tc _ hl)|apply dCall_lookA (rising_tc _ hl));(case hC=>first|exact trivial|(simp only [go_sem,and_self];done)|(simp only [go_sem];omega));(case hc=>((repeat' (first|exact CvL.nil|exact Cv.nil_view|refine CvL.cons ?_ ?_|exact Cv.imm rfl|(refine Cv.free ?_;simp [Free,FreeL] <;> assumption)|(refine Cv.free (fun _ _=>FreeL_nth ?_ _);simp [Free,FreeL];done)|refine Cv.agg ?_|(apply Cv.own;(case hob=>(with_unfolding_all exact rfl));(case hz=>decide);(case hE=>(first|(intro _ _ _ _;rfl)|(intro i j hi hj;(rcases i with _ | _|i) <;> (rcases j with _ | _ | _ | _|j) <;> first|rfl|(exfalso;omega))));(case hf=>(intro _ _;simp;done)))|(refine Cv.pvE ?_ ?_ (by decide);(focus (first|(intro _ _ _ _;rfl)|(intro i j hi hj;(rcases i with _ | _|i) <;> (rcases j with _ | _ | _ | _|j) <;> first|rfl|(exfalso;omega))));(focus (intro _ _;simp;done)))|(apply Cv.ownS;(case hob=>(with_unfolding_all exact rfl));(case hz=>decide);(case hle=>(first|omega|(simp only [decide_eq_true_eq] at hg;omega)|(simp;omega)));(case hE=>(intro _ _ _ _;first|(rw [Nat.zero_add];done)|(rw [Nat.zero_add];rfl)));(case hf=>(intro _ _;simp;done)))|(refine Cv.viewE (by decide) ?_ ?_;(focus (intro _ _ _ _;first|rfl));(focus (intro _ _;simp;done)))|refine Cv.ptr (by with_unfolding_all rfl) (by with_unfolding_all rfl) ?_|refine Cv.fn ?_ ?_));done)))
    | ((with_reducible first|apply gC_lookA (fun hg=>(take_tc _ _ _ _))|apply dCall_lookGA (fun hg=>(take_tc _ _ _ _))|apply gC_lookA (fun hg=>(rising_tc _ hl))|apply dCall_lookGA (fun hg=>(rising_tc _ hl)));(case hC=>(intro hg;first|exact trivial|exact hg|(simp only [hg,and_self,implies_true];done)|(simp only [go_sem,hg,and_self,implies_true];done)));(case hc=>(intro hg;((repeat' (first|exact CvL.nil|exact Cv.nil_view|refine CvL.cons ?_ ?_|exact Cv.imm rfl|(refine Cv.free ?_;simp [Free,FreeL] <;> assumption)|(refine Cv.free (fun _ _=>FreeL_nth ?_ _);simp [Free,FreeL];done)|refine Cv.agg ?_|(apply Cv.own;(case hob=>(with_unfolding_all exact rfl));(case hz=>decide);(case hE=>(first|(intro _ _ _ _;rfl)|(intro i j hi hj;(rcases i with _ | _|i) <;> (rcases j with _ | _ | _ | _|j) <;> first|rfl|(exfalso;omega))));(case hf=>(intro _ _;simp;done)))|(refine Cv.pvE ?_ ?_ (by decide);(focus (first|(intro _ _ _ _;rfl)|(intro i j hi hj;(rcases i with _ | _|i) <;> (rcases j with _ | _ | _ | _|j) <;> first|rfl|(exfalso;omega))));(focus (intro _ _;simp;done)))|(apply Cv.ownS;(case hob=>(with_unfolding_all exact rfl));(case hz=>decide);(case hle=>(first|omega|(simp only [decide_eq_true_eq] at hg;omega)|(simp;omega)));(case hE=>(intro _ _ _ _;first|(rw [Nat.zero_add];done)|(rw [Nat.zero_add];rfl)));(case hf=>(intro _ _;simp;done)))|(refine Cv.viewE (by decide) ?_ ?_;(focus (intro _ _ _ _;first|rfl));(focus (intro _ _;simp;done)))|refine Cv.ptr (by with_unfolding_all rfl) (by with_unfolding_all rfl) ?_|refine Cv.fn ?_ ?_));done))))
    | ((with_reducible apply DC_call);(focus exact rfl);(focus exact rfl);(focus exact rfl);intro N hN;(simp only [go_sem,↓reduceIte,Nat.reduceAdd,Nat.reduceSub,Nat.reduceMul,Nat.reduceLT,Nat.reduceLeDiff,Nat.reduceEqDiff,Nat.reduceGT,Int.reduceToNat,Int.reduceBEq,Int.reduceBNe];try simp (disch := omega) only [wrapI,wrapU,half_sum,toNat_sub1,toNat_add1,Int.toNat_natCast]))
    | ((with_reducible first|refine T_seq_region Γ_ok (fun K hK=>?_)|refine T_last_region Γ_ok (fun K hK=>?_)|refine TO_callN rfl (fun N hN=>?_)|refine DCT_fork Γ_ok (fun K2 hK2=>?_)|refine DCT_last Γ_ok ?_|refine DC_ev Γ_ok ?_|refine TO_ev Γ_ok ?_|refine retQ_r ?_|refine retQ_n ?_);(simp only [go_sem,↓reduceIte,Nat.reduceAdd,Nat.reduceSub,Nat.reduceMul,Nat.reduceLT,Nat.reduceLeDiff,Nat.reduceEqDiff,Nat.reduceGT,Int.reduceToNat,Int.reduceBEq,Int.reduceBNe];try simp (disch := omega) only [wrapI,wrapU,half_sum,toNat_sub1,toNat_add1,Int.toNat_natCast]))
    | (with_reducible refine hK2 _ ?_ ?_ <;> clear hK2 K2)
    | with_reducible refine gC_false ?_ | with_reducible refine gC_true ?_ | with_reducible refine dCall_true ?_
    | (with_reducible refine hN _ _ ?_; clear hN N)
    | (with_reducible refine hN _ _ (dInl rfl) ?_; clear hN N)
    | ((with_reducible refine hN _ _ (.inr ?_) ?_);(focus (simp only [go_sem,↓reduceIte,Nat.reduceAdd,Nat.reduceSub,Nat.reduceMul,Nat.reduceLT,Nat.reduceLeDiff,Nat.reduceEqDiff,Nat.reduceGT,Int.reduceToNat,Int.reduceBEq,Int.reduceBNe];try simp (disch := omega) only [wrapI,wrapU,half_sum,toNat_sub1,toNat_add1,Int.toNat_natCast]));all_goals (try clear hN N))
    | with_reducible refine T_seq ?_|with_reducible refine T_block ?_|with_reducible refine T_ret ?_|with_reducible refine T_exit ?_|with_reducible refine T_skip ?_|with_reducible refine T_label ?_
    | with_reducible refine thenQ_n ?_|with_reducible refine thenQ_e ?_|with_reducible refine thenQ_r ?_|with_reducible refine blockQ_n ?_|with_reducible refine blockQ_e ?_|with_reducible refine blockQ_r ?_
    | with_reducible refine blockQ_o (by decide) ?_
    | ((with_reducible refine T_cond _ rfl (fun hb=>?_) (fun hb=>?_)) <;> first|(cases hb;done)|(simp only [decide_eq_true_eq,decide_eq_false_iff_not,Bool.and_eq_true,Bool.or_eq_true,Bool.and_eq_false_imp,Bool.or_eq_false_iff,Bool.not_eq_true',Bool.not_eq_false',beq_iff_eq,bne_iff_ne,ne_eq,beq_eq_false_iff_ne,bne_eq_false_iff_eq,Int.not_lt,Int.not_le,ge_iff_le,gt_iff_lt] at hb)|skip)
    | (with_reducible refine And.intro (by first | exact trivial | omega | (intro hg;simp at hg ⊢ <;> omega) | (simp <;> omega)) ?_)
    | assumption | omega)
  · exact immD ⟨fun h => Bool.noConfusion h, fun h => by have := h.1 i (by omega); unfold OkT at this; simp_all⟩
  · refine ⟨l.length - (i + 1), by omega, _, ?_, i + 1, by omega, by omega, fun j hj => ?_, rfl⟩
    · ((try simp only [List.length_append,List.length_cons,List.length_nil,Nat.zero_add]);refine Wk.intro [] (by decide) (by decide) (by intro o ho;simp at ho ⊢ <;> omega) ?_ ?_ <;> repeat' (first|exact WkVL.nil|refine WkVL.cons ?_ ?_|exact WkV.top|exact WkV.imm rfl|exact WkV.imm (by simp)|exact WkV.optr rfl|exact WkV.own rfl (by simp)|exact WkV.nil_own (.inl rfl)|exact WkV.map rfl|(refine WkV.free ?_;simp [Free,FreeL] <;> assumption)|(refine WkV.free (fun _ _=>FreeL_nth ?_ _);simp [Free,FreeL];done)|refine WkV.agg ?_|refine WkV.tup ?_|refine WkV.fn ?_ ?_|exact WkO.dead|exact WkO.raw|refine WkO.ghost ?_|exact WkO.mpE rfl trivial|refine WkO.box ?_ rfl|refine WkO.arr ?_|refine And.intro ?_ (And.intro (by first|exact fun h=>h|exact fun _=>rfl|exact nofun) ?_)|exact trivial|(intro i j hi hj)))
    · by_cases hji : j = i
      · rw [hji]; assumption
      · exact h3 j (by omega)
  · exact immD ⟨fun h => ⟨fun j hj => h3 j (by omega), of_decide_eq_true h⟩, fun h => decide_eq_true h.2⟩
end Go.Proofs.YtngfnogoicfmaaaGreatDoor
namespace Go.Proofs.YtngfnogoicfmaaaGreatDoor
open Go.Ab
set_option maxRecDepth 100000 in
set_option maxHeartbeats 4000000 in
theorem nan_tc (a : Int) : Look Tryz.prog 109 [.imm (.int .i64 a)] (.imm (.bool false)) := by
  refine Look.mk trivial ?_
  (refine TC_of_T Γ_ok Tryz.func109 rfl (by kernel_rfl) ?_;simp only [Tryz.ntmps109,Tryz.results109,List.length_cons,List.length_nil,Nat.reduceSub,Nat.reduceAdd,List.replicate,List.cons_append,List.nil_append])
  (((refine goR0 _ _ _ _ _ _ _ _ ?_ ?_ ?_ ?_ ?_ ?_ ?_ ?_) <;> (repeat intro hb) <;> first | exact True.intro | refine Lf.mk ?_))
  all_goals simp
def cmpI (a b : Int) : Int := if a < b then -1 else if b < a then 1 else 0
theorem cmpI_neg {a b : Int} : cmpI a b < 0 ↔ a < b := by unfold cmpI; split <;> (try split) <;> omega
theorem cmpI_nn {a b : Int} : 0 ≤ cmpI a b ↔ b ≤ a := by unfold cmpI; split <;> (try split) <;> omega
theorem cmpI_zero {a b : Int} : cmpI a b = 0 ↔ a = b := by unfold cmpI; split <;> (try split) <;> omega
set_option maxRecDepth 100000 in
set_option maxHeartbeats 4000000 in
theorem cmp_tc (a b : Int) : Look Tryz.prog 103 [.imm (.int .i64 a),.imm (.int .i64 b)] (.imm (.int .i64 (cmpI a b))) := by
  refine Look.mk trivial ?_
  (refine TC_of_T Γ_ok Tryz.func103 rfl (by kernel_rfl) ?_;simp only [Tryz.ntmps103,Tryz.results103,List.length_cons,List.length_nil,Nat.reduceSub,Nat.reduceAdd,List.replicate,List.cons_append,List.nil_append])
  (have cl1 := fun u1 => nan_tc u1;((refine goR0 _ _ _ _ _ _ _ _ ?_ ?_ ?_ ?_ ?_ ?_ ?_ ?_) <;> (repeat intro hb) <;> first | exact True.intro | refine Lf.mk ?_))
  all_goals (unfold cmpI; congr 2; split <;> (try split) <;> omega)
set_option maxRecDepth 100000 in
set_option maxHeartbeats 4000000 in
theorem ix1_tc (s c n d k : Int) (v0 : AV) : Look Tryz.prog 102 [.agg [.imm (.int .i64 s),.imm (.int .i64 c),.imm (.int .i64 n),.imm (.int .i64 d)],.imm (.int .i64 k),.rptr 2 (nth [v0,.fn (.func 92) [] []])] (.imm (.int .i64 (cmpI s k))) := by
  refine Look.mk trivial ?_
  (refine TC_of_T Γ_ok Tryz.func102 rfl (by kernel_rfl) ?_;simp only [Tryz.ntmps102,Tryz.results102,List.length_cons,List.length_nil,Nat.reduceSub,Nat.reduceAdd,List.replicate,List.cons_append,List.nil_append])
  (have cl1 := fun u1 u2 u3 u4=>section_tc u1 u2 u3 u4;have cl2 := fun u1 u2=>cmp_tc u1 u2;((refine goR0 _ _ _ _ _ _ _ _ ?_ ?_ ?_ ?_ ?_ ?_ ?_ ?_) <;> (repeat intro hb) <;> first|exact True.intro|refine Lf.mk ?_))
def low (l : List Tk) (k : Int) : Nat := (l.takeWhile fun t => decide (t.s < k)).length
theorem low_eq {l : List Tk} {k : Int} {i : Nat} (hi : i ≤ l.length) (h1 : ∀ j,j < i → (gt l j).s < k) (h2 : ∀ j,i ≤ j → j < l.length → k ≤ (gt l j).s) : low l k = i := by
  unfold low
  induction l generalizing i with
  | nil => simp at hi ⊢; omega
  | cons t l ih =>
    cases i with
    | zero =>
      have := h2 0 (Nat.le_refl _) (by simp)
      simp only [gt, List.getD_cons_zero] at this
      simp [List.takeWhile_cons, show ¬ t.s < k by omega]
    | succ i =>
      have := h1 0 (by omega)
      simp only [gt, List.getD_cons_zero] at this
      simp only [List.takeWhile_cons, this, decide_true, if_true, List.length_cons]
      congr 1
      refine ih (by simpa using hi) (fun j hj => ?_) (fun j hj hl => ?_)
      · have := h1 (j + 1) (by omega); simpa [gt] using this
      · have := h2 (j + 1) (by omega) (by simpa using hl); simpa [gt] using this
theorem Ris.lt {l : List Tk} (h : Ris l) : ∀ {i j : Nat}, i < j → j < l.length → (gt l i).s < (gt l j).s := by
  intro i j hij hj
  induction j with
  | zero => omega
  | succ j ih =>
    by_cases e : i = j
    · rw [e]; exact h j hj
    · exact Int.lt_trans (ih (by omega) (by omega)) (h j hj)
open Classical in
set_option maxRecDepth 100000 in
set_option maxHeartbeats 4000000 in
theorem bs_tc (l : List Tk) (k : Int) (v0 : AV) (hv : Free v0) (hl : l.length ≤ 1000000) (hr : Ris l) : Look Tryz.prog 101 [tks l,.imm (.int .i64 k),.fn (.func 102) [] [.rptr 2 (nth [v0,.fn (.func 92) [] []])]]
    (.tup [.imm (.int .i64 (low l k)), .imm (.bool (decide (low l k < l.length ∧ (gt l (low l k)).s = k)))]) := by
  refine Look.mk (by simp [Pl, PlL]) ?_
  (refine TC_of_T Γ_ok Tryz.func101 rfl (by kernel_rfl) ?_;simp only [Tryz.ntmps101,Tryz.results101,List.length_cons,List.length_nil,Nat.reduceSub,Nat.reduceAdd,List.replicate,List.cons_append,List.nil_append])
  (((refine goR0 _ _ _ _ _ _ _ _ ?_ ?_ ?_ ?_ ?_ ?_ ?_ ?_) <;> (repeat intro hb) <;> first | exact True.intro | refine Lf.mk ?_))
  refine T_loopW (fun m st => ∃ lo hi : Nat,lo ≤ hi ∧ hi ≤ l.length ∧ m + lo = hi ∧ (∀ j,j < lo → (gt l j).s < k) ∧ (∀ j,hi ≤ j → j < l.length → k ≤ (gt l j).s) ∧
      st = ⟨[tks l,.imm (.int .i64 k),.fn (.func 102) [] [.rptr 2 (nth [v0,.fn (.func 92) [] []])],.top,.top,.top,.imm (.int .i64 0),.imm (.bool false),.imm (.int .i64 l.length),.imm (.int .i64 lo),.imm (.int .i64 hi)] ++ List.replicate 38 .top,[]⟩)
    l.length ⟨_, ?_, 0, l.length, Nat.zero_le _, Nat.le_refl _, rfl, fun j hj => by omega, fun j hj => by omega, rfl⟩ ?_
  · ((try simp only [List.length_append,List.length_cons,List.length_nil,Nat.zero_add]);refine Wk.intro [] (by decide) (by decide) (by intro o ho;simp at ho ⊢ <;> omega) ?_ ?_ <;> repeat' (first|exact WkVL.nil|refine WkVL.cons ?_ ?_|exact WkV.top|exact WkV.imm rfl|exact WkV.imm (by simp)|exact WkV.optr rfl|exact WkV.own rfl (by simp)|exact WkV.nil_own (.inl rfl)|exact WkV.map rfl|(refine WkV.free ?_;simp [Free,FreeL] <;> assumption)|(refine WkV.free (fun _ _=>FreeL_nth ?_ _);simp [Free,FreeL];done)|refine WkV.agg ?_|refine WkV.tup ?_|refine WkV.fn ?_ ?_|exact WkO.dead|exact WkO.raw|refine WkO.ghost ?_|exact WkO.mpE rfl trivial|refine WkO.box ?_ rfl|refine WkO.arr ?_|refine And.intro ?_ (And.intro (by first|exact fun h=>h|exact fun _=>rfl|exact nofun) ?_)|exact trivial|(intro i j hi hj)))
  rintro m st ⟨lo, hi, h1, h2, h3, h4, h5, rfl⟩
  (simp only [go_sem,↓reduceIte,Nat.reduceAdd,Nat.reduceSub,Nat.reduceMul,Nat.reduceLT,Nat.reduceLeDiff,Nat.reduceEqDiff,Nat.reduceGT,Int.reduceToNat,Int.reduceBEq,Int.reduceBNe];try simp (disch := omega) only [wrapI,wrapU,half_sum,toNat_sub1,toNat_add1,Int.toNat_natCast])
  (have cl1 := fun u1 u2 u3 u4 u5 u6 => ix1_tc u1 u2 u3 u4 u5 u6;((refine goR0 _ _ _ _ _ _ _ _ ?_ ?_ ?_ ?_ ?_ ?_ ?_ ?_) <;> (repeat intro hb) <;> first | exact True.intro | refine Lf.mk ?_))
  · have hb2 := cmpI_neg.1 hb
    refine ⟨hi - ((lo + hi) / 2 + 1),by omega,_,?_,(lo + hi) / 2 + 1,hi,by omega,by omega,by omega,fun j hj => ?_,h5,rfl⟩
    · ((try simp only [List.length_append,List.length_cons,List.length_nil,Nat.zero_add]);refine Wk.intro [] (by decide) (by decide) (by intro o ho;simp at ho ⊢ <;> omega) ?_ ?_ <;> repeat' (first|exact WkVL.nil|refine WkVL.cons ?_ ?_|exact WkV.top|exact WkV.imm rfl|exact WkV.imm (by simp)|exact WkV.optr rfl|exact WkV.own rfl (by simp)|exact WkV.nil_own (.inl rfl)|exact WkV.map rfl|(refine WkV.free ?_;simp [Free,FreeL] <;> assumption)|(refine WkV.free (fun _ _=>FreeL_nth ?_ _);simp [Free,FreeL];done)|refine WkV.agg ?_|refine WkV.tup ?_|refine WkV.fn ?_ ?_|exact WkO.dead|exact WkO.raw|refine WkO.ghost ?_|exact WkO.mpE rfl trivial|refine WkO.box ?_ rfl|refine WkO.arr ?_|refine And.intro ?_ (And.intro (by first|exact fun h=>h|exact fun _=>rfl|exact nofun) ?_)|exact trivial|(intro i j hi hj)))
    · by_cases e : j = (lo + hi) / 2
      · rw [e]; exact hb2
      · exact Int.lt_trans (hr.lt (by omega) (by omega)) hb2
  · have hb2 := cmpI_nn.1 hb
    refine ⟨(lo + hi) / 2 - lo,by omega,_,?_,lo,(lo + hi) / 2,by omega,by omega,by omega,h4,fun j hj hjl => ?_,rfl⟩
    · ((try simp only [List.length_append,List.length_cons,List.length_nil,Nat.zero_add]);refine Wk.intro [] (by decide) (by decide) (by intro o ho;simp at ho ⊢ <;> omega) ?_ ?_ <;> repeat' (first|exact WkVL.nil|refine WkVL.cons ?_ ?_|exact WkV.top|exact WkV.imm rfl|exact WkV.imm (by simp)|exact WkV.optr rfl|exact WkV.own rfl (by simp)|exact WkV.nil_own (.inl rfl)|exact WkV.map rfl|(refine WkV.free ?_;simp [Free,FreeL] <;> assumption)|(refine WkV.free (fun _ _=>FreeL_nth ?_ _);simp [Free,FreeL];done)|refine WkV.agg ?_|refine WkV.tup ?_|refine WkV.fn ?_ ?_|exact WkO.dead|exact WkO.raw|refine WkO.ghost ?_|exact WkO.mpE rfl trivial|refine WkO.box ?_ rfl|refine WkO.arr ?_|refine And.intro ?_ (And.intro (by first|exact fun h=>h|exact fun _=>rfl|exact nofun) ?_)|exact trivial|(intro i j hi hj)))
    · by_cases e : j = (lo + hi) / 2
      · rw [e]; exact hb2
      · exact Int.le_trans hb2 (Int.le_of_lt (hr.lt (by omega) (by omega)))
  · have e : low l k = lo := low_eq (by omega) h4 fun j hj => h5 j (by omega)
    rw [e]
    congr 3
    refine immD ?_
    simp [cmpI_zero]
end Go.Proofs.YtngfnogoicfmaaaGreatDoor
namespace Go.Proofs.YtngfnogoicfmaaaGreatDoor
open Go.Ab
theorem Val.ris {l : List Tk} (h : Val l) : Ris l := h.2
theorem tks_free (l : List Tk) : Free (tks l) := by simp [Free]
@[reducible] def fnd (l : List Tk) (k : Int) : AV := .imm (.bool (decide (low l k < l.length ∧ (gt l (low l k)).s = k)))
open Classical in
set_option maxRecDepth 100000 in
set_option maxHeartbeats 4000000 in
theorem index_tc (l : List Tk) (k : Int) (hl : l.length ≤ 1000000) (hr : Ris l) : Look Tryz.prog 91 [srt l,.imm (.int .i64 k)] (.tup [.imm (.int .i64 (low l k)),fnd l k]) := by
  refine Look.mk (by simp [Pl, PlL]) ?_
  (refine TC_of_T Γ_ok Tryz.func91 rfl (by kernel_rfl) ?_;simp only [Tryz.ntmps91,Tryz.results91,List.length_cons,List.length_nil,Nat.reduceSub,Nat.reduceAdd,List.replicate,List.cons_append,List.nil_append])
  (have cl1 := fun u1 => bs_tc l u1 (tks l) (tks_free l) hl hr;((refine goR0 _ _ _ _ _ _ _ _ ?_ ?_ ?_ ?_ ?_ ?_ ?_ ?_) <;> (repeat intro hb) <;> first | exact True.intro | refine Lf.mk ?_))
  all_goals rfl
noncomputable def findV (l : List Tk) (k : Int) : Tk × Int :=
  open Classical in if Val l ∧ 1 ≤ k ∧ k ≤ 15 then (if low l k < l.length ∧ (gt l (low l k)).s = k then (gt l (low l k),0) else (⟨0,0,0,0⟩,4)) else (⟨0,0,0,0⟩,1)
open Classical in
set_option maxRecDepth 100000 in
set_option maxHeartbeats 4000000 in
theorem find_tc (l : List Tk) (k : Int) (hl : l.length ≤ 9223372036854775807) : Look Tryz.prog 72 [tks l,.imm (.int .i64 k)] (.tup [tkA (findV l k).1,.imm (.int .i64 (findV l k).2)]) := by
  refine Look.mk (by simp [Pl, PlL]) ?_
  (refine TC_of_T Γ_ok Tryz.func72 rfl (by kernel_rfl) ?_;simp only [Tryz.ntmps72,Tryz.results72,List.length_cons,List.length_nil,Nat.reduceSub,Nat.reduceAdd,List.replicate,List.cons_append,List.nil_append])
  repeat' (first
    | (with_reducible refine hK _ ?_; clear hK K)
    | ((with_reducible refine callGoal_inline Γ_ok Tryz.func73 rfl (by kernel_rfl) (by first|exact trivial|(simp only [go_sem,and_self];done)|(simp only [go_sem];omega)) ?_);simp only [Tryz.ntmps73,Tryz.results73,List.length_cons,List.length_nil,Nat.reduceSub,Nat.reduceAdd,List.replicate,List.cons_append,List.nil_append])
    | ((with_reducible first|apply callGoal_lookA (valid_tc l hl)|apply dCall_lookA (valid_tc l hl)|apply callGoal_lookA (index_tc l _ (Nat.le_trans hb.1.1.len (by decide)) hb.1.1.ris)|apply dCall_lookA (index_tc l _ (Nat.le_trans hb.1.1.len (by decide)) hb.1.1.ris));(case hC=>first|exact trivial|(simp only [go_sem,and_self];done)|(simp only [go_sem];omega));(case hc=>((repeat' (first|exact CvL.nil|exact Cv.nil_view|refine CvL.cons ?_ ?_|exact Cv.imm rfl|(refine Cv.free ?_;simp [Free,FreeL] <;> assumption)|(refine Cv.free (fun _ _=>FreeL_nth ?_ _);simp [Free,FreeL];done)|refine Cv.agg ?_|(apply Cv.own;(case hob=>(with_unfolding_all exact rfl));(case hz=>decide);(case hE=>(first|(intro _ _ _ _;rfl)|(intro i j hi hj;(rcases i with _ | _|i) <;> (rcases j with _ | _ | _ | _|j) <;> first|rfl|(exfalso;omega))));(case hf=>(intro _ _;simp;done)))|(refine Cv.pvE ?_ ?_ (by decide);(focus (first|(intro _ _ _ _;rfl)|(intro i j hi hj;(rcases i with _ | _|i) <;> (rcases j with _ | _ | _ | _|j) <;> first|rfl|(exfalso;omega))));(focus (intro _ _;simp;done)))|(apply Cv.ownS;(case hob=>(with_unfolding_all exact rfl));(case hz=>decide);(case hle=>(first|omega|(simp only [decide_eq_true_eq] at hg;omega)|(simp;omega)));(case hE=>(intro _ _ _ _;first|(rw [Nat.zero_add];done)|(rw [Nat.zero_add];rfl)));(case hf=>(intro _ _;simp;done)))|(refine Cv.viewE (by decide) ?_ ?_;(focus (intro _ _ _ _;first|rfl));(focus (intro _ _;simp;done)))|refine Cv.ptr (by with_unfolding_all rfl) (by with_unfolding_all rfl) ?_|refine Cv.fn ?_ ?_));done)))
    | ((with_reducible first|apply gC_lookA (fun hg=>(valid_tc l hl))|apply dCall_lookGA (fun hg=>(valid_tc l hl))|apply gC_lookA (fun hg=>(index_tc l _ (Nat.le_trans hb.1.1.len (by decide)) hb.1.1.ris))|apply dCall_lookGA (fun hg=>(index_tc l _ (Nat.le_trans hb.1.1.len (by decide)) hb.1.1.ris)));(case hC=>(intro hg;first|exact trivial|exact hg|(simp only [hg,and_self,implies_true];done)|(simp only [go_sem,hg,and_self,implies_true];done)));(case hc=>(intro hg;((repeat' (first|exact CvL.nil|exact Cv.nil_view|refine CvL.cons ?_ ?_|exact Cv.imm rfl|(refine Cv.free ?_;simp [Free,FreeL] <;> assumption)|(refine Cv.free (fun _ _=>FreeL_nth ?_ _);simp [Free,FreeL];done)|refine Cv.agg ?_|(apply Cv.own;(case hob=>(with_unfolding_all exact rfl));(case hz=>decide);(case hE=>(first|(intro _ _ _ _;rfl)|(intro i j hi hj;(rcases i with _ | _|i) <;> (rcases j with _ | _ | _ | _|j) <;> first|rfl|(exfalso;omega))));(case hf=>(intro _ _;simp;done)))|(refine Cv.pvE ?_ ?_ (by decide);(focus (first|(intro _ _ _ _;rfl)|(intro i j hi hj;(rcases i with _ | _|i) <;> (rcases j with _ | _ | _ | _|j) <;> first|rfl|(exfalso;omega))));(focus (intro _ _;simp;done)))|(apply Cv.ownS;(case hob=>(with_unfolding_all exact rfl));(case hz=>decide);(case hle=>(first|omega|(simp only [decide_eq_true_eq] at hg;omega)|(simp;omega)));(case hE=>(intro _ _ _ _;first|(rw [Nat.zero_add];done)|(rw [Nat.zero_add];rfl)));(case hf=>(intro _ _;simp;done)))|(refine Cv.viewE (by decide) ?_ ?_;(focus (intro _ _ _ _;first|rfl));(focus (intro _ _;simp;done)))|refine Cv.ptr (by with_unfolding_all rfl) (by with_unfolding_all rfl) ?_|refine Cv.fn ?_ ?_));done))))
    | ((with_reducible apply DC_call);(focus exact rfl);(focus exact rfl);(focus exact rfl);intro N hN;(simp only [go_sem,↓reduceIte,Nat.reduceAdd,Nat.reduceSub,Nat.reduceMul,Nat.reduceLT,Nat.reduceLeDiff,Nat.reduceEqDiff,Nat.reduceGT,Int.reduceToNat,Int.reduceBEq,Int.reduceBNe];try simp (disch := omega) only [wrapI,wrapU,half_sum,toNat_sub1,toNat_add1,Int.toNat_natCast]))
    | ((with_reducible first|refine T_seq_region Γ_ok (fun K hK=>?_)|refine T_last_region Γ_ok (fun K hK=>?_)|refine TO_callN rfl (fun N hN=>?_)|refine DCT_fork Γ_ok (fun K2 hK2=>?_)|refine DCT_last Γ_ok ?_|refine DC_ev Γ_ok ?_|refine TO_ev Γ_ok ?_|refine retQ_r ?_|refine retQ_n ?_);(simp only [go_sem,↓reduceIte,Nat.reduceAdd,Nat.reduceSub,Nat.reduceMul,Nat.reduceLT,Nat.reduceLeDiff,Nat.reduceEqDiff,Nat.reduceGT,Int.reduceToNat,Int.reduceBEq,Int.reduceBNe];try simp (disch := omega) only [wrapI,wrapU,half_sum,toNat_sub1,toNat_add1,Int.toNat_natCast]))
    | (with_reducible refine hK2 _ ?_ ?_ <;> clear hK2 K2)
    | with_reducible refine gC_false ?_ | with_reducible refine gC_true ?_ | with_reducible refine dCall_true ?_
    | (with_reducible refine hN _ _ ?_; clear hN N)
    | (with_reducible refine hN _ _ (dInl rfl) ?_; clear hN N)
    | ((with_reducible refine hN _ _ (.inr ?_) ?_);(focus (simp only [go_sem,↓reduceIte,Nat.reduceAdd,Nat.reduceSub,Nat.reduceMul,Nat.reduceLT,Nat.reduceLeDiff,Nat.reduceEqDiff,Nat.reduceGT,Int.reduceToNat,Int.reduceBEq,Int.reduceBNe];try simp (disch := omega) only [wrapI,wrapU,half_sum,toNat_sub1,toNat_add1,Int.toNat_natCast]));all_goals (try clear hN N))
    | with_reducible refine T_seq ?_|with_reducible refine T_block ?_|with_reducible refine T_ret ?_|with_reducible refine T_exit ?_|with_reducible refine T_skip ?_|with_reducible refine T_label ?_
    | with_reducible refine thenQ_n ?_|with_reducible refine thenQ_e ?_|with_reducible refine thenQ_r ?_|with_reducible refine blockQ_n ?_|with_reducible refine blockQ_e ?_|with_reducible refine blockQ_r ?_
    | with_reducible refine blockQ_o (by decide) ?_
    | ((with_reducible refine T_cond _ rfl (fun hb=>?_) (fun hb=>?_)) <;> first|(cases hb;done)|(simp only [decide_eq_true_eq,decide_eq_false_iff_not,Bool.and_eq_true,Bool.or_eq_true,Bool.and_eq_false_imp,Bool.or_eq_false_iff,Bool.not_eq_true',Bool.not_eq_false',beq_iff_eq,bne_iff_ne,ne_eq,beq_eq_false_iff_ne,bne_eq_false_iff_eq,Int.not_lt,Int.not_le,ge_iff_le,gt_iff_lt] at hb)|skip)
    | (with_reducible refine And.intro (by first | exact trivial | omega | (intro hg;simp at hg ⊢ <;> omega) | (simp <;> omega)) ?_)
    | assumption | omega)
  all_goals (unfold findV; grind)
end Go.Proofs.YtngfnogoicfmaaaGreatDoor
