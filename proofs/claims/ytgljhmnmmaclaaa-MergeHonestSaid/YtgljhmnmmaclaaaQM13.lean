/-
  What merge.sections answers.
-/
import Derived.Test.YtgljhmnmmaclaaaQGo
import Derived.Test.YtgljhmnmmaclaaaQM12
set_option linter.unusedSimpArgs false
set_option linter.unusedVariables false
namespace Go.Proofs.Ytgljhmnmmaclaaa
open Go.Ab
attribute [local go_sem] List.append_assoc nthO_in0 nthO_inT set_in0 set_inT innerL_len List.length_append Nat.add_assoc
@[go_sem,reducible] def fxS (a : AObj) (js : List Jn) (g : Gr) (gh rw sl : AObj) : List AObj := [a,.mp (.int .i64) (outE 7 g),.box 97 [.map 1],.box 36 [jns js],gh,rw,sl]
@[go_sem,reducible] def enS (l : Nat) (js : List Jn) (i : Nat) : List AV := [.fn (.yield l) [] [],.optr 3 0 0,.top,.top,.top,.top,.top,jns js,.imm (.int .i64 js.length),.imm (.int .i64 i)] ++ List.replicate 18 .top
@[go_sem,reducible] def ghS (tc : List Value) (lo hi : Nat) (ds : List Deferred) : AObj := .ghost ([.top,.top,.imm (.map none),.optr 2 0 0] ++ List.replicate 26 .top) tc lo hi ds
@[go_sem,reducible] def enT (l : Nat) (js : List Jn) (i k : Nat) : List AV := [.fn (.yield l) [] [],.optr 3 0 0,.top,.imm (.int .i64 i),.optr 6 0 0,.top,.top,jns js,.imm (.int .i64 js.length),.imm (.int .i64 i),.top,.top,.top,.top,.top,ens (gj js i).e,.imm (.int .i64 (gj js i).e.length),.imm (.int .i64 k)] ++ List.replicate 10 .top
theorem noGh_inner (g : Gr) : noGh (innerL g) = true := by
  induction g with
  | nil => rfl
  | cons p g ih => exact ih
theorem noGh_inner' {a b c d e f h : AObj} (ha : a.isLive) (g : Gr) (hb : noGh (b :: c :: d :: e :: f :: h :: []) = true := by rfl) : noGh (a :: b :: c :: d :: e :: f :: h :: innerL g) = true := by
  have key : ∀ {x : AObj} {s : List AObj},noGh (x :: []) = true → noGh s = true → noGh (x :: s) = true := fun {x s} h1 h2 => by
    cases x <;> first | exact h2 | exact h1
  have key2 : ∀ {x : AObj} {s : List AObj}, noGh (x :: s) = true → noGh [x] = true ∧ noGh s = true := fun {x s} h1 => by
    cases x <;> first | exact ⟨rfl, h1⟩ | cases h1
  obtain ⟨b1, h1⟩ := key2 hb
  obtain ⟨b2, h1⟩ := key2 h1
  obtain ⟨b3, h1⟩ := key2 h1
  obtain ⟨b4, h1⟩ := key2 h1
  obtain ⟨b5, h1⟩ := key2 h1
  obtain ⟨b6, h1⟩ := key2 h1
  refine key ?_ (key b1 (key b2 (key b3 (key b4 (key b5 (key b6 (noGh_inner g)))))))
  rcases ha with ⟨x, y, rfl⟩ | rfl <;> rfl
theorem mget_mput_int (s : Int) (v : AV) : ∀ es : List (Value × AV),mget (mput es (.int .i64 s) v) (.int .i64 s) = some v
  | [] => by simp [mput, mget, keq_int]
  | (k', v') :: es => by
    unfold mput
    by_cases h : keq (.int .i64 s) k' = true
    · rw [if_pos h]; simp [mget, keq_int]
    · rw [if_neg h, mget, if_neg h]; exact mget_mput_int s v es
theorem gg_app {g : Gr} (p : Int × List (Value × AV)) {j : Nat} (h : j < g.length) : gg (g ++ [p]) j = gg g j := by
  simp [gg, List.getElem?_append_left h]
theorem gg_last (g : Gr) (p : Int × List (Value × AV)) : gg (g ++ [p]) g.length = p := by
  simp [gg]
theorem secA_drop (g : Gr) {js : List Jn} {i : Nat} (h : i < js.length) : secA g i (js.drop i) = secA (secJ g i (gj js i).e) (i + 1) (js.drop (i + 1)) := by
  rw [List.drop_eq_getElem_cons h, secA]
  simp only [gj, List.getD_eq_getElem?_getD, List.getElem?_eq_getElem h, Option.getD_some]
theorem secJ_drop (g : Gr) (i : Nat) {es : List En} {k : Nat} (h : k < es.length) : secJ g i (es.drop k) = secJ (secF g i (ge es k)) i (es.drop (k + 1)) := by
  rw [List.drop_eq_getElem_cons h, secJ, List.foldl_cons]
  simp only [ge, List.getD_eq_getElem?_getD, List.getElem?_eq_getElem h, Option.getD_some, secJ]
set_option maxRecDepth 100000 in
set_option maxHeartbeats 4000000 in
theorem sections_raw (js : List Jn) (h : JsOk js) (a : AObj) (ha : a.isLive) : TC Try.prog 31 [jns js] [a] (fun u σ'=>u = .map 1 ∧ ∃ x y z w v,σ' = a :: .mp (.int .i64) (outE 7 (secA [] 0 js)) :: x :: y :: z :: w :: v :: innerL (secA [] 0 js)) := by
  have hl := h.1
  (refine TC_of_TM Γ_ok Try.func31 rfl (by kernel_rfl) ?_;simp only [Try.ntmps31,Try.results31,List.length_cons,List.length_nil,Nat.reduceSub,Nat.reduceAdd,List.replicate,List.cons_append,List.nil_append])
  repeat' (first
    | (with_reducible refine hK _ ?_; clear hK K)
    | ((with_reducible first|refine retQM_r ?_|refine retQM_n ?_);try (simp only [go_sem,↓reduceIte,Nat.reduceAdd,Nat.reduceSub,Nat.reduceMul,Nat.reduceLT,Nat.reduceLeDiff,Nat.reduceEqDiff,Nat.reduceGT,Int.reduceToNat,Int.reduceBEq,Int.reduceBNe];try simp (disch := omega) only [wrapI,wrapU,half_sum,toNat_sub1,toNat_add1,Int.toNat_natCast]))
    | ((with_reducible refine callGoal_inline Γ_ok Try.func30 rfl (by kernel_rfl) (by first|exact trivial|(simp only [go_sem,and_self];done)|(simp only [go_sem];omega)) ?_);simp only [Try.ntmps30,Try.results30,List.length_cons,List.length_nil,Nat.reduceSub,Nat.reduceAdd,List.replicate,List.cons_append,List.nil_append])
    | ((refine T_rangeFunc (fnI := Try.f47) (.inl rfl) rfl trivial Try.func47 rfl (by kernel_rfl) rfl (fun l r tc lo hi ds hL=>?_));simp only [Try.ntmps47,List.length_cons,List.length_nil,Nat.reduceSub,Nat.reduceAdd,List.replicate,List.cons_append,List.nil_append];try (simp only [go_sem,↓reduceIte,Nat.reduceAdd,Nat.reduceSub,Nat.reduceMul,Nat.reduceLT,Nat.reduceLeDiff,Nat.reduceEqDiff,Nat.reduceGT,Int.reduceToNat,Int.reduceBEq,Int.reduceBNe];try simp (disch := omega) only [wrapI,wrapU,half_sum,toNat_sub1,toNat_add1,Int.toNat_natCast]))
    | ((with_reducible apply DC_call);(focus exact rfl);(focus exact rfl);(focus exact rfl);intro N hN;(simp only [go_sem,↓reduceIte,Nat.reduceAdd,Nat.reduceSub,Nat.reduceMul,Nat.reduceLT,Nat.reduceLeDiff,Nat.reduceEqDiff,Nat.reduceGT,Int.reduceToNat,Int.reduceBEq,Int.reduceBNe];try simp (disch := omega) only [wrapI,wrapU,half_sum,toNat_sub1,toNat_add1,Int.toNat_natCast]))
    | ((with_reducible first|refine T_seq_region Γ_ok (fun K hK=>?_)|refine T_last_region Γ_ok (fun K hK=>?_)|refine TO_callN rfl (fun N hN=>?_)|refine DCT_fork Γ_ok (fun K2 hK2=>?_)|refine DCT_last Γ_ok ?_|refine DC_ev Γ_ok ?_|refine TO_ev Γ_ok ?_|refine retQ_r ?_|refine retQ_n ?_);(simp only [go_sem,↓reduceIte,Nat.reduceAdd,Nat.reduceSub,Nat.reduceMul,Nat.reduceLT,Nat.reduceLeDiff,Nat.reduceEqDiff,Nat.reduceGT,Int.reduceToNat,Int.reduceBEq,Int.reduceBNe];try simp (disch := omega) only [wrapI,wrapU,half_sum,toNat_sub1,toNat_add1,Int.toNat_natCast]))
    | (with_reducible refine hK2 _ ?_ ?_ <;> clear hK2 K2)
    | with_reducible refine gC_false ?_ | with_reducible refine gC_true ?_ | with_reducible refine dCall_true ?_
    | (with_reducible refine hN _ _ ?_; clear hN N)
    | (with_reducible refine hN _ _ (dInl rfl) ?_; clear hN N)
    | ((with_reducible refine hN _ _ (.inr ?_) ?_);(focus (simp only [go_sem,↓reduceIte,Nat.reduceAdd,Nat.reduceSub,Nat.reduceMul,Nat.reduceLT,Nat.reduceLeDiff,Nat.reduceEqDiff,Nat.reduceGT,Int.reduceToNat,Int.reduceBEq,Int.reduceBNe];try simp (disch := omega) only [wrapI,wrapU,half_sum,toNat_sub1,toNat_add1,Int.toNat_natCast]));all_goals (try clear hN N))
    | with_reducible refine T_seq ?_|with_reducible refine T_block ?_|with_reducible refine T_ret ?_|with_reducible refine T_exit ?_|with_reducible refine T_skip ?_|with_reducible refine T_label ?_
    | with_reducible refine thenQ_n ?_|with_reducible refine thenQ_e ?_|with_reducible refine thenQ_r ?_|with_reducible refine blockQ_n ?_|with_reducible refine blockQ_e ?_|with_reducible refine blockQ_r ?_
    | with_reducible refine blockQ_o (by decide) ?_
    | ((with_reducible refine T_cond _ rfl (fun hb=>?_) (fun hb=>?_)) <;> first|(cases hb;done)|(simp only [decide_eq_true_eq,decide_eq_false_iff_not,Bool.and_eq_true,Bool.or_eq_true,Bool.and_eq_false_imp,Bool.or_eq_false_iff,Bool.not_eq_true',Bool.not_eq_false',beq_iff_eq,bne_iff_ne,ne_eq,beq_eq_false_iff_ne,bne_eq_false_iff_eq,Int.not_lt,Int.not_le,ge_iff_le,gt_iff_lt] at hb)|skip)
    | (with_reducible refine And.intro (by first | exact trivial | omega | (intro hg;simp at hg ⊢ <;> omega) | (simp <;> omega)) ?_)
    | assumption | omega)
  refine T_loopW (fun m st => ∃ (i : Nat) (g : Gr),i ≤ js.length ∧ m + i = js.length ∧ GF g ∧ secA g i (js.drop i) = secA [] 0 js ∧
      st = ⟨enS l js i, fxS a js g (ghS tc.toList lo hi ds) (.raw l (.loop (r.at .ready none))) .dead ++ innerL g⟩)
    js.length ⟨_,Wk.trans (Wk.push 49 1 (fun _ _ => .top)) ?_,0,[],by omega,rfl,(fun _ hp => nomatch hp),rfl,rfl⟩ ?_
  · ((try simp only [List.length_append,List.length_cons,List.length_nil,Nat.zero_add]);refine Wk.intro [0,1,2,3,4,5,6] (by decide) (by decide) (by intro o ho;simp at ho ⊢ <;> omega) ?_ ?_ <;> repeat' (first|(exact WkO.live ha)|exact WkVL.nil|refine WkVL.cons ?_ ?_|exact WkV.top|exact WkV.imm rfl|exact WkV.imm (by simp)|exact WkV.optr rfl|exact WkV.own rfl (by simp)|exact WkV.nil_own (.inl rfl)|exact WkV.map rfl|(refine WkV.free ?_;simp [Free,FreeL] <;> assumption)|(refine WkV.free (fun _ _=>FreeL_nth ?_ _);simp [Free,FreeL];done)|refine WkV.agg ?_|refine WkV.tup ?_|refine WkV.fn ?_ ?_|exact WkO.dead|exact WkO.raw|refine WkO.ghost ?_|exact WkO.mpE rfl trivial|refine WkO.box ?_ rfl|refine WkO.arr ?_|refine And.intro ?_ (And.intro (by first|exact fun h=>h|exact fun _=>rfl|exact nofun) ?_)|exact trivial|(intro i j hi hj)))
  rintro m st ⟨i, g, h0, h1, hg, h2, rfl⟩
  (simp only [go_sem,↓reduceIte,Nat.reduceAdd,Nat.reduceSub,Nat.reduceMul,Nat.reduceLT,Nat.reduceLeDiff,Nat.reduceEqDiff,Nat.reduceGT,Int.reduceToNat,Int.reduceBEq,Int.reduceBNe];try simp (disch := omega) only [wrapI,wrapU,half_sum,toNat_sub1,toNat_add1,Int.toNat_natCast])
  repeat' (first
    | (with_reducible refine hK _ ?_; clear hK K)
    | ((with_reducible first|refine iterQ_r 5 4 (by with_unfolding_all rfl) (by with_unfolding_all rfl) ?_|refine iterQ_n 5 4 (by with_unfolding_all rfl) (by with_unfolding_all rfl) ?_|refine iterQ_rr 5 4 (by with_unfolding_all rfl) (by with_unfolding_all rfl) ?_|refine iterQ_nr 5 4 (by with_unfolding_all rfl) (by with_unfolding_all rfl) ?_|refine iterQ_re 5 4 (by with_unfolding_all rfl) (by with_unfolding_all rfl) ?_|refine iterQ_ne 5 4 (by with_unfolding_all rfl) (by with_unfolding_all rfl) ?_);try (simp only [go_sem,↓reduceIte,Nat.reduceAdd,Nat.reduceSub,Nat.reduceMul,Nat.reduceLT,Nat.reduceLeDiff,Nat.reduceEqDiff,Nat.reduceGT,Int.reduceToNat,Int.reduceBEq,Int.reduceBNe];try simp (disch := omega) only [wrapI,wrapU,half_sum,toNat_sub1,toNat_add1,Int.toNat_natCast]))
    | ((with_reducible first|refine retQM_r ?_|refine retQM_n ?_);try (simp only [go_sem,↓reduceIte,Nat.reduceAdd,Nat.reduceSub,Nat.reduceMul,Nat.reduceLT,Nat.reduceLeDiff,Nat.reduceEqDiff,Nat.reduceGT,Int.reduceToNat,Int.reduceBEq,Int.reduceBNe];try simp (disch := omega) only [wrapI,wrapU,half_sum,toNat_sub1,toNat_add1,Int.toNat_natCast]))
    | ((with_reducible apply DC_call);(focus exact rfl);(focus exact rfl);(focus exact rfl);intro N hN;(simp only [go_sem,↓reduceIte,Nat.reduceAdd,Nat.reduceSub,Nat.reduceMul,Nat.reduceLT,Nat.reduceLeDiff,Nat.reduceEqDiff,Nat.reduceGT,Int.reduceToNat,Int.reduceBEq,Int.reduceBNe];try simp (disch := omega) only [wrapI,wrapU,half_sum,toNat_sub1,toNat_add1,Int.toNat_natCast]))
    | ((with_reducible first|refine T_seq_region Γ_ok (fun K hK=>?_)|refine T_last_region Γ_ok (fun K hK=>?_)|refine TO_callN rfl (fun N hN=>?_)|refine DCT_fork Γ_ok (fun K2 hK2=>?_)|refine DCT_last Γ_ok ?_|refine DC_ev Γ_ok ?_|refine TO_ev Γ_ok ?_|refine retQ_r ?_|refine retQ_n ?_);(simp only [go_sem,↓reduceIte,Nat.reduceAdd,Nat.reduceSub,Nat.reduceMul,Nat.reduceLT,Nat.reduceLeDiff,Nat.reduceEqDiff,Nat.reduceGT,Int.reduceToNat,Int.reduceBEq,Int.reduceBNe];try simp (disch := omega) only [wrapI,wrapU,half_sum,toNat_sub1,toNat_add1,Int.toNat_natCast]))
    | (with_reducible refine hK2 _ ?_ ?_ <;> clear hK2 K2)
    | with_reducible refine gC_false ?_ | with_reducible refine gC_true ?_ | with_reducible refine dCall_true ?_
    | (with_reducible refine hN _ _ ?_; clear hN N)
    | (with_reducible refine hN _ _ (dInl rfl) ?_; clear hN N)
    | ((with_reducible refine hN _ _ (.inr ?_) ?_);(focus (simp only [go_sem,↓reduceIte,Nat.reduceAdd,Nat.reduceSub,Nat.reduceMul,Nat.reduceLT,Nat.reduceLeDiff,Nat.reduceEqDiff,Nat.reduceGT,Int.reduceToNat,Int.reduceBEq,Int.reduceBNe];try simp (disch := omega) only [wrapI,wrapU,half_sum,toNat_sub1,toNat_add1,Int.toNat_natCast]));all_goals (try clear hN N))
    | with_reducible refine T_seq ?_|with_reducible refine T_block ?_|with_reducible refine T_ret ?_|with_reducible refine T_exit ?_|with_reducible refine T_skip ?_|with_reducible refine T_label ?_
    | with_reducible refine thenQ_n ?_|with_reducible refine thenQ_e ?_|with_reducible refine thenQ_r ?_|with_reducible refine blockQ_n ?_|with_reducible refine blockQ_e ?_|with_reducible refine blockQ_r ?_
    | with_reducible refine blockQ_o (by decide) ?_
    | ((with_reducible refine T_cond _ rfl (fun hb=>?_) (fun hb=>?_)) <;> first|(cases hb;done)|(simp only [decide_eq_true_eq,decide_eq_false_iff_not,Bool.and_eq_true,Bool.or_eq_true,Bool.and_eq_false_imp,Bool.or_eq_false_iff,Bool.not_eq_true',Bool.not_eq_false',beq_iff_eq,bne_iff_ne,ne_eq,beq_eq_false_iff_ne,bne_eq_false_iff_eq,Int.not_lt,Int.not_le,ge_iff_le,gt_iff_lt] at hb)|skip)
    | (with_reducible refine And.intro (by first | exact trivial | omega | (intro hg;simp at hg ⊢ <;> omega) | (simp <;> omega)) ?_)
    | assumption | omega)
  · have hj := h.2 i
    have hj1 := hj.1
    have hil : i < js.length := by omega
    rw [secA_drop g hil] at h2
    refine T_loopW (fun m st => ∃ (k : Nat) (g' : Gr),k ≤ (gj js i).e.length ∧ m + k = (gj js i).e.length ∧ GF g' ∧ secJ g' i ((gj js i).e.drop k) = secJ g i (gj js i).e ∧
        st = ⟨enT l js i k,fxS a js g' (ghS tc.toList lo hi ds) (.raw l (.loop (r.at .ready none))) (.box 49 (jnL (gj js i))) ++ innerL g'⟩)
      (gj js i).e.length ⟨_, ?_, 0, g, by omega, rfl, hg, rfl, rfl⟩ ?_
    · refine Wk.inner 7 g.length [0,1,2,3,4,5,g.length + 7] [] rfl rfl (by simp) (by simp) (by refine ⟨?_,?_,?_,?_,?_⟩ <;> simp <;> omega) (by refine ⟨?_,?_,?_⟩ <;> simp [innerL_len] <;> omega) hg (fun j hj=>innerL_at hj _) (fun k o hk=>by simp at hk) ?_ ?_
      · (repeat' (first|exact WkVL.nil|refine WkVL.cons ?_ ?_|exact WkV.top|exact WkV.imm rfl|exact WkV.imm (by simp)|exact WkV.optr rfl|exact WkV.own rfl (by simp)|exact WkV.map rfl|(refine WkV.free ?_;simp [Free,FreeL] <;> assumption)|(refine WkV.free (fun _ _=>FreeL_nth ?_ _);simp [Free,FreeL];done)|refine WkV.agg ?_|refine WkV.tup ?_|refine WkV.fn ?_ ?_|exact WkO.dead|exact WkO.raw|refine WkO.ghost ?_|exact WkO.mpE rfl trivial|refine WkO.box ?_ rfl|refine WkO.arr ?_|refine And.intro ?_ (And.intro (by first|exact fun h=>h|exact fun _=>rfl|exact nofun) ?_)|exact trivial|(intro _ _ _ _)))
      · refine ⟨WkO.live ha,fun h=>h,WkO.mp rfl (WkVL.outE 7 g fun j hj=>range_get 7 _ _ _ rfl hj),fun h=>h,?_,fun h=>h,?_,fun h=>h,?_,fun h=>h,?_,fun h=>h,?_,fun h=>?_,trivial⟩
        · exact WkO.box (by (repeat' (first|exact WkVL.nil|refine WkVL.cons ?_ ?_|exact WkV.top|exact WkV.imm rfl|exact WkV.imm (by simp)|exact WkV.optr rfl|exact WkV.own rfl (by simp)|exact WkV.map rfl|(refine WkV.free ?_;simp [Free,FreeL] <;> assumption)|(refine WkV.free (fun _ _=>FreeL_nth ?_ _);simp [Free,FreeL];done)|refine WkV.agg ?_|refine WkV.tup ?_|refine WkV.fn ?_ ?_|exact WkO.dead|exact WkO.raw|refine WkO.ghost ?_|exact WkO.mpE rfl trivial|refine WkO.box ?_ rfl|refine WkO.arr ?_|refine And.intro ?_ (And.intro (by first|exact fun h=>h|exact fun _=>rfl|exact nofun) ?_)|exact trivial|(intro _ _ _ _)))) rfl
        · exact WkO.box (by (repeat' (first|exact WkVL.nil|refine WkVL.cons ?_ ?_|exact WkV.top|exact WkV.imm rfl|exact WkV.imm (by simp)|exact WkV.optr rfl|exact WkV.own rfl (by simp)|exact WkV.map rfl|(refine WkV.free ?_;simp [Free,FreeL] <;> assumption)|(refine WkV.free (fun _ _=>FreeL_nth ?_ _);simp [Free,FreeL];done)|refine WkV.agg ?_|refine WkV.tup ?_|refine WkV.fn ?_ ?_|exact WkO.dead|exact WkO.raw|refine WkO.ghost ?_|exact WkO.mpE rfl trivial|refine WkO.box ?_ rfl|refine WkO.arr ?_|refine And.intro ?_ (And.intro (by first|exact fun h=>h|exact fun _=>rfl|exact nofun) ?_)|exact trivial|(intro _ _ _ _)))) rfl
        · exact WkO.ghost (by (repeat' (first|exact WkVL.nil|refine WkVL.cons ?_ ?_|exact WkV.top|exact WkV.imm rfl|exact WkV.imm (by simp)|exact WkV.optr rfl|exact WkV.own rfl (by simp)|exact WkV.map rfl|(refine WkV.free ?_;simp [Free,FreeL] <;> assumption)|(refine WkV.free (fun _ _=>FreeL_nth ?_ _);simp [Free,FreeL];done)|refine WkV.agg ?_|refine WkV.tup ?_|refine WkV.fn ?_ ?_|exact WkO.dead|exact WkO.raw|refine WkO.ghost ?_|exact WkO.mpE rfl trivial|refine WkO.box ?_ rfl|refine WkO.arr ?_|refine And.intro ?_ (And.intro (by first|exact fun h=>h|exact fun _=>rfl|exact nofun) ?_)|exact trivial|(intro _ _ _ _))))
        · exact WkO.raw
        · show WkO _ _ (nthO (innerL g ++ _) g.length) _
          rw [nthO_in0]
          exact WkO.box (by (repeat' (first|exact WkVL.nil|refine WkVL.cons ?_ ?_|exact WkV.top|exact WkV.imm rfl|exact WkV.imm (by simp)|exact WkV.optr rfl|exact WkV.own rfl (by simp)|exact WkV.map rfl|(refine WkV.free ?_;simp [Free,FreeL] <;> assumption)|(refine WkV.free (fun _ _=>FreeL_nth ?_ _);simp [Free,FreeL];done)|refine WkV.agg ?_|refine WkV.tup ?_|refine WkV.fn ?_ ?_|exact WkO.dead|exact WkO.raw|refine WkO.ghost ?_|exact WkO.mpE rfl trivial|refine WkO.box ?_ rfl|refine WkO.arr ?_|refine And.intro ?_ (And.intro (by first|exact fun h=>h|exact fun _=>rfl|exact nofun) ?_)|exact trivial|(intro _ _ _ _)))) rfl
        · show (nthO (innerL g ++ _) g.length).alive = true
          rw [nthO_in0]
          rfl
    clear hg
    rintro m st ⟨k, g', k0, k1, hg, k2, rfl⟩
    (simp only [go_sem,↓reduceIte,Nat.reduceAdd,Nat.reduceSub,Nat.reduceMul,Nat.reduceLT,Nat.reduceLeDiff,Nat.reduceEqDiff,Nat.reduceGT,Int.reduceToNat,Int.reduceBEq,Int.reduceBNe];try simp (disch := omega) only [wrapI,wrapU,half_sum,toNat_sub1,toNat_add1,Int.toNat_natCast])
    by_cases hk : k < (gj js i).e.length
    · rw [secJ_drop g' i hk] at k2
      cases hq : idxG (ge (gj js i).e k).s g' with
      | none =>
        have hsec : secF g' i (ge (gj js i).e k) = g' ++ [((ge (gj js i).e k).s,[(.int .i64 i,enA (ge (gj js i).e k))])] := by unfold secF;rw [hq]
        have hv : mval (outE 7 g') (.imm (.map none)) (.int .i64 (ge (gj js i).e k).s) = .imm (.map none) := by
          unfold mval; rw [mget_outE, hq]; rfl
        have hp := fun v => mput_outE_new (ge (gj js i).e k).s v 7 g' hq
        have hv2 : ∀ v,mval (outE 7 g' ++ [(.int .i64 (ge (gj js i).e k).s,v)]) (.imm (.map none)) (.int .i64 (ge (gj js i).e k).s) = v := fun v => by
          unfold mval
          rw [← hp, mget_mput_int]
          rfl
        repeat' (first
    | (with_reducible refine hK _ ?_; clear hK K)
    | ((refine TO_yield hL 5 4 rfl rfl rfl (by first|exact Or.inl rfl|exact Or.inr rfl) rfl rfl rfl (by simp only [go_sem,and_self]) (fun ti lo' hi' ds'=>?_));try (simp only [go_sem,↓reduceIte,Nat.reduceAdd,Nat.reduceSub,Nat.reduceMul,Nat.reduceLT,Nat.reduceLeDiff,Nat.reduceEqDiff,Nat.reduceGT,Int.reduceToNat,Int.reduceBEq,Int.reduceBNe];try simp (disch := omega) only [wrapI,wrapU,half_sum,toNat_sub1,toNat_add1,Int.toNat_natCast]))
    | ((with_reducible refine assignQ_mk 5 (by with_unfolding_all rfl) ?_);try (simp only [go_sem,↓reduceIte,Nat.reduceAdd,Nat.reduceSub,Nat.reduceMul,Nat.reduceLT,Nat.reduceLeDiff,Nat.reduceEqDiff,Nat.reduceGT,Int.reduceToNat,Int.reduceBEq,Int.reduceBNe];try simp (disch := omega) only [wrapI,wrapU,half_sum,toNat_sub1,toNat_add1,Int.toNat_natCast]))
    | ((with_reducible refine roundQ_n 5 (g'.length + 8) (by with_unfolding_all rfl) (nthO_inT g' _ 1) ?_);try (simp only [go_sem,↓reduceIte,Nat.reduceAdd,Nat.reduceSub,Nat.reduceMul,Nat.reduceLT,Nat.reduceLeDiff,Nat.reduceEqDiff,Nat.reduceGT,Int.reduceToNat,Int.reduceBEq,Int.reduceBNe];try simp (disch := omega) only [wrapI,wrapU,half_sum,toNat_sub1,toNat_add1,Int.toNat_natCast]))
    | ((with_reducible apply DC_call);(focus exact rfl);(focus exact rfl);(focus exact rfl);intro N hN;(simp only [go_sem,hv,hp,hv2,↓reduceIte,Nat.reduceAdd,Nat.reduceSub,Nat.reduceMul,Nat.reduceLT,Nat.reduceLeDiff,Nat.reduceEqDiff,Nat.reduceGT,Int.reduceToNat,Int.reduceBEq,Int.reduceBNe];try simp (disch := omega) only [wrapI,wrapU,half_sum,toNat_sub1,toNat_add1,Int.toNat_natCast]))
    | ((with_reducible first|refine T_seq_region Γ_ok (fun K hK=>?_)|refine T_last_region Γ_ok (fun K hK=>?_)|refine TO_callN rfl (fun N hN=>?_)|refine DCT_fork Γ_ok (fun K2 hK2=>?_)|refine DCT_last Γ_ok ?_|refine DC_ev Γ_ok ?_|refine TO_ev Γ_ok ?_|refine retQ_r ?_|refine retQ_n ?_);(simp only [go_sem,hv,hp,hv2,↓reduceIte,Nat.reduceAdd,Nat.reduceSub,Nat.reduceMul,Nat.reduceLT,Nat.reduceLeDiff,Nat.reduceEqDiff,Nat.reduceGT,Int.reduceToNat,Int.reduceBEq,Int.reduceBNe];try simp (disch := omega) only [wrapI,wrapU,half_sum,toNat_sub1,toNat_add1,Int.toNat_natCast]))
    | (with_reducible refine hK2 _ ?_ ?_ <;> clear hK2 K2)
    | with_reducible refine gC_false ?_ | with_reducible refine gC_true ?_ | with_reducible refine dCall_true ?_
    | (with_reducible refine hN _ _ ?_; clear hN N)
    | (with_reducible refine hN _ _ (dInl rfl) ?_; clear hN N)
    | ((with_reducible refine hN _ _ (.inr ?_) ?_);(focus (simp only [go_sem,hv,hp,hv2,↓reduceIte,Nat.reduceAdd,Nat.reduceSub,Nat.reduceMul,Nat.reduceLT,Nat.reduceLeDiff,Nat.reduceEqDiff,Nat.reduceGT,Int.reduceToNat,Int.reduceBEq,Int.reduceBNe];try simp (disch := omega) only [wrapI,wrapU,half_sum,toNat_sub1,toNat_add1,Int.toNat_natCast]));all_goals (try clear hN N))
    | with_reducible refine T_seq ?_|with_reducible refine T_block ?_|with_reducible refine T_ret ?_|with_reducible refine T_exit ?_|with_reducible refine T_skip ?_|with_reducible refine T_label ?_
    | with_reducible refine thenQ_n ?_|with_reducible refine thenQ_e ?_|with_reducible refine thenQ_r ?_|with_reducible refine blockQ_n ?_|with_reducible refine blockQ_e ?_|with_reducible refine blockQ_r ?_
    | with_reducible refine blockQ_o (by decide) ?_
    | ((with_reducible refine T_cond _ rfl (fun hb=>?_) (fun hb=>?_)) <;> first|(cases hb;done)|(simp only [decide_eq_true_eq,decide_eq_false_iff_not,Bool.and_eq_true,Bool.or_eq_true,Bool.and_eq_false_imp,Bool.or_eq_false_iff,Bool.not_eq_true',Bool.not_eq_false',beq_iff_eq,bne_iff_ne,ne_eq,beq_eq_false_iff_ne,bne_eq_false_iff_eq,Int.not_lt,Int.not_le,ge_iff_le,gt_iff_lt] at hb)|skip)
    | (with_reducible refine And.intro (by first | exact trivial | omega | (intro hg;simp at hg ⊢ <;> omega) | (simp <;> omega)) ?_)
    | assumption | omega)
        refine ⟨(gj js i).e.length - (k + 1),by omega,_,?_,k + 1,_,by omega,by omega,hg.secF i (ge (gj js i).e k),k2,rfl⟩
        refine show Wk 1 _ ⟨enT l js i (k + 1),fxS a js (secF g' i (ge (gj js i).e k)) (ghS tc.toList lo hi ds) (.raw l (.loop (r.at .ready none))) (.box 49 (jnL (gj js i))) ++ innerL (secF g' i (ge (gj js i).e k))⟩ from ?_
        rw [hsec]
        refine Wk.inner 7 g'.length [0,1,2,3,4,5,6] [g'.length + 10] rfl rfl (by simp) (by simp) (by refine ⟨?_,?_,?_,?_,?_⟩ <;> simp <;> omega) (by refine ⟨?_,?_,?_⟩ <;> simp [innerL_len] <;> omega) (hsec ▸ hg.secF i (ge (gj js i).e k))
          (fun j hj => by rw [gg_app _ hj]; exact innerL_at hj _) (fun k o hk => ?_) ?_ ?_
        · obtain ⟨rfl, rfl⟩ : k = 0 ∧ g'.length + 10 = o := by
            cases k with
            | zero => simpa using hk
            | succ k => simp at hk
          show _ = AObj.mp _ (gg (g' ++ _) g'.length).2
          rw [gg_last]
          exact nthO_inT g' _ 3
        · (repeat' (first|(refine WkV.imm ?_;congr 1;rw [wrapI] <;> omega)|exact WkVL.nil|refine WkVL.cons ?_ ?_|exact WkV.top|exact WkV.imm rfl|exact WkV.imm (by simp)|exact WkV.optr rfl|exact WkV.own rfl (by simp)|exact WkV.nil_own (.inl rfl)|exact WkV.map rfl|(refine WkV.free ?_;simp [Free,FreeL] <;> assumption)|(refine WkV.free (fun _ _=>FreeL_nth ?_ _);simp [Free,FreeL];done)|refine WkV.agg ?_|refine WkV.tup ?_|refine WkV.fn ?_ ?_|exact WkO.dead|exact WkO.raw|refine WkO.ghost ?_|exact WkO.mpE rfl trivial|refine WkO.box ?_ rfl|refine WkO.arr ?_|refine And.intro ?_ (And.intro (by first|exact fun h=>h|exact fun _=>rfl|exact nofun) ?_)|exact trivial|(intro i j hi hj)))
        · simp only [fxS]
          rw [outE_snoc]
          refine ⟨WkO.live ha,fun h=>h,WkO.mp (by simp) (by rw [List.map_append,List.map_append];exact WkVL.app (WkVL.outE 7 g' fun j hj=>range_get 7 _ _ _ rfl hj) rfl (WkVL.cons (WkV.map (range_last 7 _ _ _ rfl)) WkVL.nil)),fun h=>h,WkO.box (by (repeat' (first|exact WkVL.nil|refine WkVL.cons ?_ ?_|exact WkV.top|exact WkV.imm rfl|exact WkV.imm (by simp)|exact WkV.optr rfl|exact WkV.own rfl (by simp)|exact WkV.map rfl|(refine WkV.free ?_;simp [Free,FreeL] <;> assumption)|(refine WkV.free (fun _ _=>FreeL_nth ?_ _);simp [Free,FreeL];done)|refine WkV.agg ?_|refine WkV.tup ?_|refine WkV.fn ?_ ?_|exact WkO.dead|exact WkO.raw|refine WkO.ghost ?_|exact WkO.mpE rfl trivial|refine WkO.box ?_ rfl|refine WkO.arr ?_|refine And.intro ?_ (And.intro (by first|exact fun h=>h|exact fun _=>rfl|exact nofun) ?_)|exact trivial|(intro _ _ _ _)))) rfl,fun h=>h,WkO.box (by (repeat' (first|exact WkVL.nil|refine WkVL.cons ?_ ?_|exact WkV.top|exact WkV.imm rfl|exact WkV.imm (by simp)|exact WkV.optr rfl|exact WkV.own rfl (by simp)|exact WkV.map rfl|(refine WkV.free ?_;simp [Free,FreeL] <;> assumption)|(refine WkV.free (fun _ _=>FreeL_nth ?_ _);simp [Free,FreeL];done)|refine WkV.agg ?_|refine WkV.tup ?_|refine WkV.fn ?_ ?_|exact WkO.dead|exact WkO.raw|refine WkO.ghost ?_|exact WkO.mpE rfl trivial|refine WkO.box ?_ rfl|refine WkO.arr ?_|refine And.intro ?_ (And.intro (by first|exact fun h=>h|exact fun _=>rfl|exact nofun) ?_)|exact trivial|(intro _ _ _ _)))) rfl,fun h=>h,WkO.ghost (by (repeat' (first|exact WkVL.nil|refine WkVL.cons ?_ ?_|exact WkV.top|exact WkV.imm rfl|exact WkV.imm (by simp)|exact WkV.optr rfl|exact WkV.own rfl (by simp)|exact WkV.map rfl|(refine WkV.free ?_;simp [Free,FreeL] <;> assumption)|(refine WkV.free (fun _ _=>FreeL_nth ?_ _);simp [Free,FreeL];done)|refine WkV.agg ?_|refine WkV.tup ?_|refine WkV.fn ?_ ?_|exact WkO.dead|exact WkO.raw|refine WkO.ghost ?_|exact WkO.mpE rfl trivial|refine WkO.box ?_ rfl|refine WkO.arr ?_|refine And.intro ?_ (And.intro (by first|exact fun h=>h|exact fun _=>rfl|exact nofun) ?_)|exact trivial|(intro _ _ _ _)))),fun h=>h,WkO.raw,fun h=>h,WkO.box (by (repeat' (first|exact WkVL.nil|refine WkVL.cons ?_ ?_|exact WkV.top|exact WkV.imm rfl|exact WkV.imm (by simp)|exact WkV.optr rfl|exact WkV.own rfl (by simp)|exact WkV.map rfl|(refine WkV.free ?_;simp [Free,FreeL] <;> assumption)|(refine WkV.free (fun _ _=>FreeL_nth ?_ _);simp [Free,FreeL];done)|refine WkV.agg ?_|refine WkV.tup ?_|refine WkV.fn ?_ ?_|exact WkO.dead|exact WkO.raw|refine WkO.ghost ?_|exact WkO.mpE rfl trivial|refine WkO.box ?_ rfl|refine WkO.arr ?_|refine And.intro ?_ (And.intro (by first|exact fun h=>h|exact fun _=>rfl|exact nofun) ?_)|exact trivial|(intro _ _ _ _)))) rfl,fun h=>h,trivial⟩
      | some q =>
        obtain ⟨q1, q2⟩ := idxG_some hq
        have hsec : secF g' i (ge (gj js i).e k) = g'.set q ((gg g' q).1,mput (gg g' q).2 (.int .i64 i) (enA (ge (gj js i).e k))) := by unfold secF;rw [hq,q2]
        have hv : mval (outE 7 g') (.imm (.map none)) (.int .i64 (ge (gj js i).e k).s) = .map (q + 7) := by
          unfold mval; rw [mget_outE, hq]; rfl
        have hin := innerL_at q1
        have hset := fun l => innerL_set (j := q) l q1
        have n1 : ∀ p tl k, nthO (innerL (g'.set q p) ++ tl) (g'.length + k) = nthO tl k := fun p tl k => by
          have := nthO_inT (g'.set q p) tl k
          rwa [List.length_set] at this
        have n2 : ∀ p tl k b,(innerL (g'.set q p) ++ tl).set (g'.length + k) b = innerL (g'.set q p) ++ tl.set k b := fun p tl k b => by
          have := set_inT (g'.set q p) tl k b
          rwa [List.length_set] at this
        repeat' (first
    | (with_reducible refine hK _ ?_; clear hK K)
    | ((refine TO_yield hL 5 4 rfl rfl rfl (by first|exact Or.inl rfl|exact Or.inr rfl) rfl rfl rfl (by simp only [go_sem,and_self]) (fun ti lo' hi' ds'=>?_));try (simp only [go_sem,↓reduceIte,Nat.reduceAdd,Nat.reduceSub,Nat.reduceMul,Nat.reduceLT,Nat.reduceLeDiff,Nat.reduceEqDiff,Nat.reduceGT,Int.reduceToNat,Int.reduceBEq,Int.reduceBNe];try simp (disch := omega) only [wrapI,wrapU,half_sum,toNat_sub1,toNat_add1,Int.toNat_natCast]))
    | ((with_reducible refine assignQ_mk 5 (by with_unfolding_all rfl) ?_);try (simp only [go_sem,↓reduceIte,Nat.reduceAdd,Nat.reduceSub,Nat.reduceMul,Nat.reduceLT,Nat.reduceLeDiff,Nat.reduceEqDiff,Nat.reduceGT,Int.reduceToNat,Int.reduceBEq,Int.reduceBNe];try simp (disch := omega) only [wrapI,wrapU,half_sum,toNat_sub1,toNat_add1,Int.toNat_natCast]))
    | ((with_reducible refine roundQ_n 5 (g'.length + 8) (by with_unfolding_all rfl) (n1 _ _ 1) ?_);try (simp only [go_sem,↓reduceIte,Nat.reduceAdd,Nat.reduceSub,Nat.reduceMul,Nat.reduceLT,Nat.reduceLeDiff,Nat.reduceEqDiff,Nat.reduceGT,Int.reduceToNat,Int.reduceBEq,Int.reduceBNe];try simp (disch := omega) only [wrapI,wrapU,half_sum,toNat_sub1,toNat_add1,Int.toNat_natCast]))
    | ((with_reducible apply DC_call);(focus exact rfl);(focus exact rfl);(focus exact rfl);intro N hN;(simp only [go_sem,hv,hin,hset,n1,n2,List.length_set,↓reduceIte,Nat.reduceAdd,Nat.reduceSub,Nat.reduceMul,Nat.reduceLT,Nat.reduceLeDiff,Nat.reduceEqDiff,Nat.reduceGT,Int.reduceToNat,Int.reduceBEq,Int.reduceBNe];try simp (disch := omega) only [wrapI,wrapU,half_sum,toNat_sub1,toNat_add1,Int.toNat_natCast]))
    | ((with_reducible first|refine T_seq_region Γ_ok (fun K hK=>?_)|refine T_last_region Γ_ok (fun K hK=>?_)|refine TO_callN rfl (fun N hN=>?_)|refine DCT_fork Γ_ok (fun K2 hK2=>?_)|refine DCT_last Γ_ok ?_|refine DC_ev Γ_ok ?_|refine TO_ev Γ_ok ?_|refine retQ_r ?_|refine retQ_n ?_);(simp only [go_sem,hv,hin,hset,n1,n2,List.length_set,↓reduceIte,Nat.reduceAdd,Nat.reduceSub,Nat.reduceMul,Nat.reduceLT,Nat.reduceLeDiff,Nat.reduceEqDiff,Nat.reduceGT,Int.reduceToNat,Int.reduceBEq,Int.reduceBNe];try simp (disch := omega) only [wrapI,wrapU,half_sum,toNat_sub1,toNat_add1,Int.toNat_natCast]))
    | (with_reducible refine hK2 _ ?_ ?_ <;> clear hK2 K2)
    | with_reducible refine gC_false ?_ | with_reducible refine gC_true ?_ | with_reducible refine dCall_true ?_
    | (with_reducible refine hN _ _ ?_; clear hN N)
    | (with_reducible refine hN _ _ (dInl rfl) ?_; clear hN N)
    | ((with_reducible refine hN _ _ (.inr ?_) ?_);(focus (simp only [go_sem,hv,hin,hset,n1,n2,List.length_set,↓reduceIte,Nat.reduceAdd,Nat.reduceSub,Nat.reduceMul,Nat.reduceLT,Nat.reduceLeDiff,Nat.reduceEqDiff,Nat.reduceGT,Int.reduceToNat,Int.reduceBEq,Int.reduceBNe];try simp (disch := omega) only [wrapI,wrapU,half_sum,toNat_sub1,toNat_add1,Int.toNat_natCast]));all_goals (try clear hN N))
    | with_reducible refine T_seq ?_|with_reducible refine T_block ?_|with_reducible refine T_ret ?_|with_reducible refine T_exit ?_|with_reducible refine T_skip ?_|with_reducible refine T_label ?_
    | with_reducible refine thenQ_n ?_|with_reducible refine thenQ_e ?_|with_reducible refine thenQ_r ?_|with_reducible refine blockQ_n ?_|with_reducible refine blockQ_e ?_|with_reducible refine blockQ_r ?_
    | with_reducible refine blockQ_o (by decide) ?_
    | ((with_reducible refine T_cond _ rfl (fun hb=>?_) (fun hb=>?_)) <;> first|(cases hb;done)|(simp only [decide_eq_true_eq,decide_eq_false_iff_not,Bool.and_eq_true,Bool.or_eq_true,Bool.and_eq_false_imp,Bool.or_eq_false_iff,Bool.not_eq_true',Bool.not_eq_false',beq_iff_eq,bne_iff_ne,ne_eq,beq_eq_false_iff_ne,bne_eq_false_iff_eq,Int.not_lt,Int.not_le,ge_iff_le,gt_iff_lt] at hb)|skip)
    | (with_reducible refine And.intro (by first | exact trivial | omega | (intro hg;simp at hg ⊢ <;> omega) | (simp <;> omega)) ?_)
    | assumption | omega)
        refine ⟨(gj js i).e.length - (k + 1),by omega,_,?_,k + 1,_,by omega,by omega,hg.secF i (ge (gj js i).e k),k2,rfl⟩
        refine show Wk 1 _ ⟨enT l js i (k + 1),fxS a js (secF g' i (ge (gj js i).e k)) (ghS tc.toList lo hi ds) (.raw l (.loop (r.at .ready none))) (.box 49 (jnL (gj js i))) ++ innerL (secF g' i (ge (gj js i).e k))⟩ from ?_
        rw [hsec]
        refine Wk.inner 7 g'.length [0,1,2,3,4,5,6] [] rfl rfl (by simp) (by simp) (by refine ⟨?_,?_,?_,?_,?_⟩ <;> simp <;> omega) (by refine ⟨?_,?_,?_⟩ <;> simp [innerL_len] <;> omega) (hsec ▸ hg.secF i (ge (gj js i).e k))
          (fun j hj => innerL_at (by simpa using hj) _) (fun k o hk => by simp at hk) ?_ ?_
        · (repeat' (first|(refine WkV.imm ?_;congr 1;rw [wrapI] <;> omega)|exact WkVL.nil|refine WkVL.cons ?_ ?_|exact WkV.top|exact WkV.imm rfl|exact WkV.imm (by simp)|exact WkV.optr rfl|exact WkV.own rfl (by simp)|exact WkV.nil_own (.inl rfl)|exact WkV.map rfl|(refine WkV.free ?_;simp [Free,FreeL] <;> assumption)|(refine WkV.free (fun _ _=>FreeL_nth ?_ _);simp [Free,FreeL];done)|refine WkV.agg ?_|refine WkV.tup ?_|refine WkV.fn ?_ ?_|exact WkO.dead|exact WkO.raw|refine WkO.ghost ?_|exact WkO.mpE rfl trivial|refine WkO.box ?_ rfl|refine WkO.arr ?_|refine And.intro ?_ (And.intro (by first|exact fun h=>h|exact fun _=>rfl|exact nofun) ?_)|exact trivial|(intro i j hi hj)))
        · simp only [fxS]
          rw [outE_set]
          refine ⟨WkO.live ha,fun h=>h,WkO.mp rfl (WkVL.outE 7 g' fun j hj=>range_get 7 _ _ _ rfl hj),fun h=>h,WkO.box (by (repeat' (first|exact WkVL.nil|refine WkVL.cons ?_ ?_|exact WkV.top|exact WkV.imm rfl|exact WkV.imm (by simp)|exact WkV.optr rfl|exact WkV.own rfl (by simp)|exact WkV.map rfl|(refine WkV.free ?_;simp [Free,FreeL] <;> assumption)|(refine WkV.free (fun _ _=>FreeL_nth ?_ _);simp [Free,FreeL];done)|refine WkV.agg ?_|refine WkV.tup ?_|refine WkV.fn ?_ ?_|exact WkO.dead|exact WkO.raw|refine WkO.ghost ?_|exact WkO.mpE rfl trivial|refine WkO.box ?_ rfl|refine WkO.arr ?_|refine And.intro ?_ (And.intro (by first|exact fun h=>h|exact fun _=>rfl|exact nofun) ?_)|exact trivial|(intro _ _ _ _)))) rfl,fun h=>h,WkO.box (by (repeat' (first|exact WkVL.nil|refine WkVL.cons ?_ ?_|exact WkV.top|exact WkV.imm rfl|exact WkV.imm (by simp)|exact WkV.optr rfl|exact WkV.own rfl (by simp)|exact WkV.map rfl|(refine WkV.free ?_;simp [Free,FreeL] <;> assumption)|(refine WkV.free (fun _ _=>FreeL_nth ?_ _);simp [Free,FreeL];done)|refine WkV.agg ?_|refine WkV.tup ?_|refine WkV.fn ?_ ?_|exact WkO.dead|exact WkO.raw|refine WkO.ghost ?_|exact WkO.mpE rfl trivial|refine WkO.box ?_ rfl|refine WkO.arr ?_|refine And.intro ?_ (And.intro (by first|exact fun h=>h|exact fun _=>rfl|exact nofun) ?_)|exact trivial|(intro _ _ _ _)))) rfl,fun h=>h,WkO.ghost (by (repeat' (first|exact WkVL.nil|refine WkVL.cons ?_ ?_|exact WkV.top|exact WkV.imm rfl|exact WkV.imm (by simp)|exact WkV.optr rfl|exact WkV.own rfl (by simp)|exact WkV.map rfl|(refine WkV.free ?_;simp [Free,FreeL] <;> assumption)|(refine WkV.free (fun _ _=>FreeL_nth ?_ _);simp [Free,FreeL];done)|refine WkV.agg ?_|refine WkV.tup ?_|refine WkV.fn ?_ ?_|exact WkO.dead|exact WkO.raw|refine WkO.ghost ?_|exact WkO.mpE rfl trivial|refine WkO.box ?_ rfl|refine WkO.arr ?_|refine And.intro ?_ (And.intro (by first|exact fun h=>h|exact fun _=>rfl|exact nofun) ?_)|exact trivial|(intro _ _ _ _)))),fun h=>h,WkO.raw,fun h=>h,WkO.box (by (repeat' (first|exact WkVL.nil|refine WkVL.cons ?_ ?_|exact WkV.top|exact WkV.imm rfl|exact WkV.imm (by simp)|exact WkV.optr rfl|exact WkV.own rfl (by simp)|exact WkV.map rfl|(refine WkV.free ?_;simp [Free,FreeL] <;> assumption)|(refine WkV.free (fun _ _=>FreeL_nth ?_ _);simp [Free,FreeL];done)|refine WkV.agg ?_|refine WkV.tup ?_|refine WkV.fn ?_ ?_|exact WkO.dead|exact WkO.raw|refine WkO.ghost ?_|exact WkO.mpE rfl trivial|refine WkO.box ?_ rfl|refine WkO.arr ?_|refine And.intro ?_ (And.intro (by first|exact fun h=>h|exact fun _=>rfl|exact nofun) ?_)|exact trivial|(intro _ _ _ _)))) rfl,fun h=>h,trivial⟩
    · (((refine goR0 _ _ _ _ _ _ _ _ ?_ ?_ ?_ ?_ ?_ ?_ ?_ ?_) <;> (repeat intro hb) <;> first | exact True.intro | refine Lf.mk ?_))
      rw [List.drop_of_length_le (by omega)] at k2
      refine ⟨js.length - (i + 1),by omega,_,?_,i + 1,g',by omega,by omega,hg,(show g' = secJ g i (gj js i).e from k2) ▸ h2,rfl⟩
      refine show Wk 1 _ ⟨enS l js (i + 1),fxS a js g' (ghS tc.toList lo hi ds) (.raw l (.loop (r.at .ready none))) .dead ++ innerL g'⟩ from ?_
      refine Wk.inner 7 g'.length [0,1,2,3,4,5,6] [] rfl rfl (by simp) (by simp) (by refine ⟨?_,?_,?_,?_,?_⟩ <;> simp) (by refine ⟨?_,?_,?_⟩ <;> simp [innerL_len] <;> omega) hg
          (fun j hj => innerL_at0 hj) (fun k o hk => by simp at hk) ?_ ?_
      · (repeat' (first|(refine WkV.imm ?_;congr 1;omega)|exact WkVL.nil|refine WkVL.cons ?_ ?_|exact WkV.top|exact WkV.imm rfl|exact WkV.imm (by simp)|exact WkV.optr rfl|exact WkV.own rfl (by simp)|exact WkV.nil_own (.inl rfl)|exact WkV.map rfl|(refine WkV.free ?_;simp [Free,FreeL] <;> assumption)|(refine WkV.free (fun _ _=>FreeL_nth ?_ _);simp [Free,FreeL];done)|refine WkV.agg ?_|refine WkV.tup ?_|refine WkV.fn ?_ ?_|exact WkO.dead|exact WkO.raw|refine WkO.ghost ?_|exact WkO.mpE rfl trivial|refine WkO.box ?_ rfl|refine WkO.arr ?_|refine And.intro ?_ (And.intro (by first|exact fun h=>h|exact fun _=>rfl|exact nofun) ?_)|exact trivial|(intro i j hi hj)))
      ·
          refine ⟨WkO.live ha,fun h=>h,WkO.mp rfl (WkVL.outE 7 g' fun j hj=>range_get 7 _ _ _ rfl hj),fun h=>h,WkO.box (by (repeat' (first|exact WkVL.nil|refine WkVL.cons ?_ ?_|exact WkV.top|exact WkV.imm rfl|exact WkV.imm (by simp)|exact WkV.optr rfl|exact WkV.own rfl (by simp)|exact WkV.map rfl|(refine WkV.free ?_;simp [Free,FreeL] <;> assumption)|(refine WkV.free (fun _ _=>FreeL_nth ?_ _);simp [Free,FreeL];done)|refine WkV.agg ?_|refine WkV.tup ?_|refine WkV.fn ?_ ?_|exact WkO.dead|exact WkO.raw|refine WkO.ghost ?_|exact WkO.mpE rfl trivial|refine WkO.box ?_ rfl|refine WkO.arr ?_|refine And.intro ?_ (And.intro (by first|exact fun h=>h|exact fun _=>rfl|exact nofun) ?_)|exact trivial|(intro _ _ _ _)))) rfl,fun h=>h,WkO.box (by (repeat' (first|exact WkVL.nil|refine WkVL.cons ?_ ?_|exact WkV.top|exact WkV.imm rfl|exact WkV.imm (by simp)|exact WkV.optr rfl|exact WkV.own rfl (by simp)|exact WkV.map rfl|(refine WkV.free ?_;simp [Free,FreeL] <;> assumption)|(refine WkV.free (fun _ _=>FreeL_nth ?_ _);simp [Free,FreeL];done)|refine WkV.agg ?_|refine WkV.tup ?_|refine WkV.fn ?_ ?_|exact WkO.dead|exact WkO.raw|refine WkO.ghost ?_|exact WkO.mpE rfl trivial|refine WkO.box ?_ rfl|refine WkO.arr ?_|refine And.intro ?_ (And.intro (by first|exact fun h=>h|exact fun _=>rfl|exact nofun) ?_)|exact trivial|(intro _ _ _ _)))) rfl,fun h=>h,WkO.ghost (by (repeat' (first|exact WkVL.nil|refine WkVL.cons ?_ ?_|exact WkV.top|exact WkV.imm rfl|exact WkV.imm (by simp)|exact WkV.optr rfl|exact WkV.own rfl (by simp)|exact WkV.map rfl|(refine WkV.free ?_;simp [Free,FreeL] <;> assumption)|(refine WkV.free (fun _ _=>FreeL_nth ?_ _);simp [Free,FreeL];done)|refine WkV.agg ?_|refine WkV.tup ?_|refine WkV.fn ?_ ?_|exact WkO.dead|exact WkO.raw|refine WkO.ghost ?_|exact WkO.mpE rfl trivial|refine WkO.box ?_ rfl|refine WkO.arr ?_|refine And.intro ?_ (And.intro (by first|exact fun h=>h|exact fun _=>rfl|exact nofun) ?_)|exact trivial|(intro _ _ _ _)))),fun h=>h,WkO.raw,fun h=>h,WkO.dead,(fun h=>nomatch h),trivial⟩
  · refine ⟨?_, ?_⟩
    · exact noGh_inner' ha g
    · rw [← h2, List.drop_of_length_le (by omega)]
      exact ⟨_, _, _, _, _, rfl⟩
theorem outE_keys : ∀ (k : Nat) (g : Gr), (outE k g).map (·.1) = g.map fun p => .int .i64 p.1
  | _, [] => rfl
  | k, p :: g => by simp [outE, outE_keys (k + 1) g]
theorem freeze_out {σ : List AObj} (hal : (nthO σ 0).alive = true) : ∀ (k : Nat) (g : Gr),0 < k → GF g → (∀ j,j < g.length → nthO σ (j + k) = .mp (.int .i64) (gg g j).2) →
    WkVL [0] σ ((outE k g).map (·.2)) (g.map fun p => .vmap (.int .i64) (p.2.map (·.1)) (p.2.map (·.2)))
  | _, [], _, _, _ => WkVL.nil
  | k, p :: g, hk, hg, h => by
    simp only [outE, List.map_cons]
    refine WkVL.cons ?_ (freeze_out hal (k + 1) g (by omega) (fun q hq => hg q (List.mem_cons_of_mem _ hq)) fun j hj => ?_)
    · refine WkV.freezeM (o := k) (by have := h 0 (by simp);simpa [gg] using this) (fun q hq => ?_) rfl (fun ρ w xs _ hx => FreeL.sound (fun _ hb => pull_has hb) _ (hg p (by simp)) hx)
      simp only [List.mem_singleton] at hq
      subst hq
      exact ⟨by omega, hal⟩
    · have := h (j + 1) (by simp; omega)
      rw [show j + 1 + k = j + (k + 1) by omega] at this
      simpa [gg] using this
theorem secA_GF : ∀ (g : Gr) (i : Nat) (l : List Jn), GF g → GF (secA g i l)
  | g, _, [], h => h
  | g, i, j :: r, h => by
    refine secA_GF _ _ r ?_
    unfold secJ
    have key : ∀ (es : List En) (g : Gr), GF g → GF (es.foldl (fun g x => secF g i x) g) := by
      intro es
      induction es with
      | nil => exact fun _ h => h
      | cons x es ih => exact fun g h => ih _ (h.secF i x)
    exact key _ _ h
theorem secV_free {g : Gr} (h : GF g) : Free (secV g) := by
  unfold secV
  simp only [Free]
  induction g with
  | nil => simp [FreeL]
  | cons p g ih =>
    simp only [List.map_cons, FreeL, Free]
    exact ⟨h p (by simp), ih fun q hq => h q (List.mem_cons_of_mem _ hq)⟩
def secs (js : List Jn) : AV := secV (secA [] 0 js)
theorem sections_peek (js : List Jn) (h : JsOk js) : PeekL Try.prog 1 31 [jns js] (secs js) := by
  have hgf : GF (secA [] 0 js) := secA_GF [] 0 js (fun _ hp => nomatch hp)
  refine ⟨fun σ0 hl hal => ?_, secV_free hgf⟩
  obtain ⟨a, rfl⟩ : ∃ a, σ0 = [a] := List.length_eq_one_iff.1 hl
  have ha := hal a (by simp)
  refine (sections_raw js h a ha).weak fun v σ' ⟨hv,x,y,z,w,u,hs⟩ => ⟨[0],_,[a],by simp,by simp,by simp [hs],?_,?_,rfl,⟨[],rfl⟩⟩
  · rw [hv, hs]
    refine WkV.freezeM (o := 1) rfl (fun q hq => ?_) (outE_keys _ _) (freeze_out ?_ 7 _ (by omega) hgf fun j hj => innerL_at0 hj)
    · simp only [List.mem_singleton] at hq
      subst hq
      exact ⟨by omega, ha.alive⟩
    · exact ha.alive
  · rw [hs]
    exact ⟨WkO.live ha, fun h => h, trivial⟩
end Go.Proofs.Ytgljhmnmmaclaaa
