/-
  What merge.Clashes answers.
-/
import Derived.Test.YtgljhmnmmaclaaaQGo
import Derived.Test.YtgljhmnmmaclaaaQM14
set_option linter.unusedSimpArgs false
set_option linter.unusedVariables false
namespace Go.Proofs.Ytgljhmnmmaclaaa
open Go.Ab Go.Sort
@[go_sem, reducible] def gK (G : Gr) : List Value := G.map fun p => .int .i64 p.1
@[go_sem, reducible] def gV (G : Gr) : List AV := G.map fun p => .vmap (.int .i64) (p.2.map (·.1)) (p.2.map (·.2))
@[go_sem,reducible] def gA' (G : Gr) : AV := .vmap (.int .i64) (G.map fun p => .int .i64 p.1) (G.map fun p => .vmap (.int .i64) (p.2.map (·.1)) (p.2.map (·.2)))
theorem mget_gA (s : Int) : ∀ G : Gr,mget ((G.map fun p=>Value.int .i64 p.1).zip (G.map fun p=>AV.vmap (.int .i64) (p.2.map (·.1)) (p.2.map (·.2)))) (.int .i64 s) = (idxG s G).map fun q=>.vmap (.int .i64) ((gg G q).2.map (·.1)) ((gg G q).2.map (·.2))
  | [] => rfl
  | p :: G => by
    simp only [List.map_cons, List.zip_cons_cons, mget, keq_int, idxG]
    by_cases h : s = p.1
    · simp [h, gg]
    · simp only [h, decide_false, if_false, Bool.false_eq_true]
      rw [mget_gA s G]
      cases idxG s G with
      | none => rfl
      | some j => rfl
theorem zip_fs (l : List (Value × AV)) : (l.map (·.1)).zip (l.map (·.2)) = l := by
  induction l with
  | nil => rfl
  | cons p l ih => simp [ih]
@[go_sem,reducible] def fxC (G : Gr) (js : List Jn) (o : List Cl) (gh rw : AObj) : List AObj := [.box 59 [.own 5 0 o.length none],.box 97 [gA' G],.box 36 [jns js],gh,rw,elO o.length o.toArray]
@[go_sem,reducible] def enC (l : Nat) (js : List Jn) (i : Nat) : List AV := [.fn (.yield l) [] [],.optr 2 0 0,.top,.top,.top,.top,.top,jns js,.imm (.int .i64 js.length),.imm (.int .i64 i)] ++ List.replicate 18 .top
@[go_sem,reducible] def enD (l : Nat) (js : List Jn) (i k : Nat) : List AV := [.fn (.yield l) [] [],.optr 2 0 0,.top,.imm (.int .i64 i),.optr 6 0 0,.top,.top,jns js,.imm (.int .i64 js.length),.imm (.int .i64 i),.top,.top,.top,.top,.top,ens (gj js i).e,.imm (.int .i64 (gj js i).e.length),.imm (.int .i64 k)] ++ List.replicate 10 .top
@[go_sem,reducible] def ghC (tc : List Value) (lo hi : Nat) (ds : List Deferred) : AObj := .ghost ([.top,.top,.top,.top,.top,.top,.optr 0 0 0,.optr 1 0 0] ++ List.replicate 50 .top) tc lo hi ds
@[go_sem,reducible] def bdE (i k : Nat) : List AV := [.top,.top,.top,.top,.top,.top,.optr 0 0 0,.optr 1 0 0,.imm (.int .i64 i),.optr 9 0 0,.top,.top,.top,.top,.top,.top,.top,.top,.top,.top,.top,.top,.top,.imm (.int .i64 i),.imm (.int .i64 k)] ++ List.replicate 33 .top
theorem clA_drop (js0 : List Jn) {js : List Jn} {i : Nat} (h : i < js.length) : clA js0 i (js.drop i) = clJ js0 i (gj js i).e ++ clA js0 (i + 1) (js.drop (i + 1)) := by
  rw [List.drop_eq_getElem_cons h, clA]
  simp only [gj, List.getD_eq_getElem?_getD, List.getElem?_eq_getElem h, Option.getD_some]
theorem clJ_drop (js0 : List Jn) (i : Nat) {es : List En} {k : Nat} (h : k < es.length) : clJ js0 i (es.drop k) = clN js0 (ge es k) i i ++ clJ js0 i (es.drop (k + 1)) := by
  rw [List.drop_eq_getElem_cons h, clJ, List.flatMap_cons]
  simp only [ge, List.getD_eq_getElem?_getD, List.getElem?_eq_getElem h, Option.getD_some, clJ]
theorem ge_mem {es : List En} {k : Nat} (h : k < es.length) : ge es k ∈ es := by
  simp [ge, h]
theorem rise_len {n : Int} : ∀ {es : List En}, (∀ x ∈ es, 0 < x.s ∧ enB n x = true) → Rising es → es.length ≤ 15 := by
  have hs : ∀ x : En, enB n x = true → x.s ≤ 15 := fun x hx => by
    unfold enB at hx
    simp only [Bool.and_eq_true] at hx
    have := hx.1.1.1.1
    unfold takeB at this
    split at this
    · cases this
    · omega
  have key : ∀ (es : List En) (l : Int),0 ≤ l → (∀ x ∈ es,l < x.s ∧ x.s ≤ 15) → Rising es → l ≤ 15 → (es.length : Int) ≤ 15 - l := by
    intro es
    induction es with
    | nil => intro l _ _ _ h; simp; omega
    | cons x r ih =>
      intro l h0 h1 h2 h3
      have := h1 x (by simp)
      have h4 := List.pairwise_cons.1 h2
      have := ih x.s (by omega) (fun y hy => ⟨h4.1 y hy, (h1 y (by simp [hy])).2⟩) h4.2 (by omega)
      simp only [List.length_cons]; omega
  intro es h1 h2
  have := key es 0 (by omega) (fun x hx => ⟨(h1 x hx).1, hs x (h1 x hx).2⟩) h2 (by omega)
  omega
theorem elE_snoc (o : List Cl) (x : Cl) {i j : Nat} (h : i < o.length + 1) (hj : j < 3) : catE o.length (elE o.toArray) (fun i j => nth (elL x) (i * 3 + j)) i j = elE (o ++ [x]).toArray i j := by
  unfold catE elE
  split
  · rename_i h1
    rw [show (o ++ [x]).toArray[i]! = o.toArray[i]! by simp [List.getElem?_append_left h1]]
  · obtain rfl : i = o.length := by omega
    simp
set_option maxRecDepth 100000 in
set_option maxHeartbeats 4000000 in
theorem clashes_raw (n : Int) (js : List Jn) (h : JsOk js) (hv : jsB n js = true) : TC Try.prog 13 [.imm (.int .i64 n),jns js] [] (fun v σ'=>∃ k E',v = .tup [.own k 0 (clA js 0 js).length none,.imm (.int .i64 0)] ∧
    nthO σ' k = .arr 65 3 (clA js 0 js).length E' ∧ ∀ i j,i < (clA js 0 js).length → j < 3 → E' i j = elE (Go.Sort.sort ltE (clA js 0 js).toArray) i j) := by
  have hl := h.1
  have hva := validJ_tc n js h
  rw [hv] at hva
  have hpk := sections_peek js h
  have hG : ∀ s k,lookG (secA [] 0 js) s k = (lookE js s k).map enA := lookG_secs (allJ_rise (n := n) (by unfold jsB at hv;simp at hv;exact hv.2))
  have hGf : Free (secs js) := secV_free (secA_GF [] 0 js (fun _ hp => nomatch hp))
  unfold secs secV at hpk hGf
  generalize secA [] 0 js = G at hpk hG hGf
  (refine TC_of_TM Γ_ok Try.func13 rfl (by kernel_rfl) ?_;simp only [Try.ntmps13,Try.results13,List.length_cons,List.length_nil,Nat.reduceSub,Nat.reduceAdd,List.replicate,List.cons_append,List.nil_append])
  repeat' (first
    | (with_reducible refine hK _ ?_; clear hK K)
    | ((with_reducible first|refine retQM_r ?_|refine retQM_n ?_);try (simp only [go_sem,↓reduceIte,Nat.reduceAdd,Nat.reduceSub,Nat.reduceMul,Nat.reduceLT,Nat.reduceLeDiff,Nat.reduceEqDiff,Nat.reduceGT,Int.reduceToNat,Int.reduceBEq,Int.reduceBNe];try simp (disch := omega) only [wrapI,wrapU,half_sum,toNat_sub1,toNat_add1,Int.toNat_natCast]))
    | (refine callGoal_peekL hpk trivial rfl (by intro a ha;simp at ha;subst ha;rfl) ?_;try (simp only [go_sem,↓reduceIte,Nat.reduceAdd,Nat.reduceSub,Nat.reduceMul,Nat.reduceLT,Nat.reduceLeDiff,Nat.reduceEqDiff,Nat.reduceGT,Int.reduceToNat,Int.reduceBEq,Int.reduceBNe];try simp (disch := omega) only [wrapI,wrapU,half_sum,toNat_sub1,toNat_add1,Int.toNat_natCast]))
    | ((with_reducible refine callGoal_inline Γ_ok Try.func30 rfl (by kernel_rfl) (by first|exact trivial|(simp only [go_sem,and_self];done)|(simp only [go_sem];omega)) ?_);simp only [Try.ntmps30,Try.results30,List.length_cons,List.length_nil,Nat.reduceSub,Nat.reduceAdd,List.replicate,List.cons_append,List.nil_append])
    | ((refine T_rangeFunc (fnI := Try.f47) (.inl rfl) rfl trivial Try.func47 rfl (by kernel_rfl) rfl (fun l r tc lo hi ds hL=>?_));simp only [Try.ntmps47,List.length_cons,List.length_nil,Nat.reduceSub,Nat.reduceAdd,List.replicate,List.cons_append,List.nil_append];try (simp only [go_sem,↓reduceIte,Nat.reduceAdd,Nat.reduceSub,Nat.reduceMul,Nat.reduceLT,Nat.reduceLeDiff,Nat.reduceEqDiff,Nat.reduceGT,Int.reduceToNat,Int.reduceBEq,Int.reduceBNe];try simp (disch := omega) only [wrapI,wrapU,half_sum,toNat_sub1,toNat_add1,Int.toNat_natCast]))
    | ((with_reducible first|apply callGoal_lookA (hva)|apply dCall_lookA (hva));(case hC=>first|exact trivial|(simp only [go_sem,and_self];done)|(simp only [go_sem];omega));(case hc=>((repeat' (first|exact CvL.nil|exact Cv.nil_view|refine CvL.cons ?_ ?_|exact Cv.imm rfl|(refine Cv.free ?_;simp [Free,FreeL] <;> assumption)|(refine Cv.free (fun _ _=>FreeL_nth ?_ _);simp [Free,FreeL];done)|refine Cv.agg ?_|(apply Cv.own;(case hob=>(with_unfolding_all exact rfl));(case hz=>decide);(case hE=>(first|(intro _ _ _ _;rfl)|(intro i j hi hj;(rcases i with _ | _|i) <;> (rcases j with _ | _ | _ | _|j) <;> first|rfl|(exfalso;omega))));(case hf=>(intro _ _;simp;done)))|(refine Cv.pvE ?_ ?_ (by decide);(focus (first|(intro _ _ _ _;rfl)|(intro i j hi hj;(rcases i with _ | _|i) <;> (rcases j with _ | _ | _ | _|j) <;> first|rfl|(exfalso;omega))));(focus (intro _ _;simp;done)))|(apply Cv.ownS;(case hob=>(with_unfolding_all exact rfl));(case hz=>decide);(case hle=>(first|omega|(simp only [decide_eq_true_eq] at hg;omega)|(simp;omega)));(case hE=>(intro _ _ _ _;first|(rw [Nat.zero_add];done)|(rw [Nat.zero_add];rfl)));(case hf=>(intro _ _;simp;done)))|(refine Cv.viewE (by decide) ?_ ?_;(focus (intro _ _ _ _;first|rfl));(focus (intro _ _;simp;done)))|refine Cv.ptr (by with_unfolding_all rfl) (by with_unfolding_all rfl) ?_|refine Cv.fn ?_ ?_));done)))
    | ((with_reducible first|apply gC_lookA (fun hg=>(hva))|apply dCall_lookGA (fun hg=>(hva)));(case hC=>(intro hg;first|exact trivial|exact hg|(simp only [hg,and_self,implies_true];done)|(simp only [go_sem,hg,and_self,implies_true];done)));(case hc=>(intro hg;((repeat' (first|exact CvL.nil|exact Cv.nil_view|refine CvL.cons ?_ ?_|exact Cv.imm rfl|(refine Cv.free ?_;simp [Free,FreeL] <;> assumption)|(refine Cv.free (fun _ _=>FreeL_nth ?_ _);simp [Free,FreeL];done)|refine Cv.agg ?_|(apply Cv.own;(case hob=>(with_unfolding_all exact rfl));(case hz=>decide);(case hE=>(first|(intro _ _ _ _;rfl)|(intro i j hi hj;(rcases i with _ | _|i) <;> (rcases j with _ | _ | _ | _|j) <;> first|rfl|(exfalso;omega))));(case hf=>(intro _ _;simp;done)))|(refine Cv.pvE ?_ ?_ (by decide);(focus (first|(intro _ _ _ _;rfl)|(intro i j hi hj;(rcases i with _ | _|i) <;> (rcases j with _ | _ | _ | _|j) <;> first|rfl|(exfalso;omega))));(focus (intro _ _;simp;done)))|(apply Cv.ownS;(case hob=>(with_unfolding_all exact rfl));(case hz=>decide);(case hle=>(first|omega|(simp only [decide_eq_true_eq] at hg;omega)|(simp;omega)));(case hE=>(intro _ _ _ _;first|(rw [Nat.zero_add];done)|(rw [Nat.zero_add];rfl)));(case hf=>(intro _ _;simp;done)))|(refine Cv.viewE (by decide) ?_ ?_;(focus (intro _ _ _ _;first|rfl));(focus (intro _ _;simp;done)))|refine Cv.ptr (by with_unfolding_all rfl) (by with_unfolding_all rfl) ?_|refine Cv.fn ?_ ?_));done))))
    | ((with_reducible apply DC_call);(focus exact rfl);(focus exact rfl);(focus exact rfl);intro N hN;(simp only [go_sem,↓reduceIte,Nat.reduceAdd,Nat.reduceSub,Nat.reduceMul,Nat.reduceLT,Nat.reduceLeDiff,Nat.reduceEqDiff,Nat.reduceGT,Int.reduceToNat,Int.reduceBEq,Int.reduceBNe];try simp (disch := omega) only [wrapI,wrapU,half_sum,toNat_sub1,toNat_add1,Int.toNat_natCast]))
    | ((with_reducible first|refine T_seq_region Γ_ok (fun K hK=>?_)|refine T_last_region Γ_ok (fun K hK=>?_)|refine TO_callN rfl (fun N hN=>?_)|refine DCT_fork Γ_ok (fun K2 hK2=>?_)|refine DCT_last Γ_ok ?_|refine DC_ev Γ_ok ?_|refine TO_ev Γ_ok ?_|refine retQ_r ?_|refine retQ_n ?_);(simp only [go_sem,↓reduceIte,Nat.reduceAdd,Nat.reduceSub,Nat.reduceMul,Nat.reduceLT,Nat.reduceLeDiff,Nat.reduceEqDiff,Nat.reduceGT,Int.reduceToNat,Int.reduceBEq,Int.reduceBNe];try simp (disch := omega) only [wrapI,wrapU,half_sum,toNat_sub1,toNat_add1,Int.toNat_natCast]))
    | (with_reducible refine hK2 _ ?_ ?_ <;> clear hK2 K2)
    | with_reducible refine gC_false ?_ | with_reducible refine gC_true ?_ | with_reducible refine dCall_true ?_
    | (with_reducible refine hN _ _ ?_; clear hN N)
    | (with_reducible refine hN _ _ (dInl rfl) ?_; clear hN N)
    | ((with_reducible refine hN _ _ (.inr ?_) ?_);(focus (simp only [go_sem,↓reduceIte,Nat.reduceAdd,Nat.reduceSub,Nat.reduceMul,Nat.reduceLT,Nat.reduceLeDiff,Nat.reduceEqDiff,Nat.reduceGT,Int.reduceToNat,Int.reduceBEq,Int.reduceBNe];try simp (disch := omega) only [wrapI,wrapU,half_sum,toNat_sub1,toNat_add1,Int.toNat_natCast]));all_goals (try clear hN N))
    | with_reducible refine T_seq ?_|with_reducible refine T_block ?_|with_reducible refine T_ret ?_|with_reducible refine T_exit ?_|with_reducible refine T_skip ?_|with_reducible refine T_label ?_
    | with_reducible refine thenQ_n ?_|with_reducible refine thenQ_e ?_|with_reducible refine thenQ_r ?_|with_reducible refine blockQ_n ?_|with_reducible refine blockQ_e ?_|with_reducible refine blockQ_r ?_
    | with_reducible refine blockQ_o (by decide) ?_
    | ((with_reducible refine T_cond _ rfl (fun hb=>?_) (fun hb=>?_)) <;> first|(cases hb;done)|(simp only [decide_eq_true_eq,decide_eq_false_iff_not,Bool.and_eq_true,Bool.or_eq_true,Bool.and_eq_false_imp,Bool.or_eq_false_iff,Bool.not_eq_true',Bool.not_eq_false',beq_iff_eq,bne_iff_ne,ne_eq,beq_eq_false_iff_ne,bne_eq_false_iff_eq,Int.not_lt,Int.not_le,ge_iff_le,gt_iff_lt] at hb)|skip)
    | (with_reducible refine And.intro (by first | exact trivial | omega | (intro hg;simp at hg ⊢ <;> omega) | (simp <;> omega)) ?_)
    | assumption | omega)
  have hjv : ∀ i,i < js.length → jnB n (gj js i) = true := fun i hi => allJ_gj (n := n) (l := js) (by unfold jsB at hv;simp at hv;exact hv.2) hi
  have hl8 : js.length ≤ 8 := by unfold jsB at hv; simp at hv; exact hv.1.2
  refine T_loopW (fun m st => ∃ (i : Nat) (o : List Cl),i ≤ js.length ∧ m + i = js.length ∧ o.length ≤ 120 * i ∧ o ++ clA js i (js.drop i) = clA js 0 js ∧
      st = ⟨enC l js i, fxC G js o (ghC tc.toList lo hi ds) (.raw l (.loop (r.at .ready none)))⟩)
    js.length ⟨_, Wk.trans (Wk.push 65 3 (elE #[])) ?_, 0, [], by omega, rfl, by simp, rfl, rfl⟩ ?_
  · ((try simp only [List.length_append,List.length_cons,List.length_nil,Nat.zero_add]);refine Wk.intro [0,1,2,3,4,5] (by decide) (by decide) (by intro o ho;simp at ho ⊢ <;> omega) ?_ ?_ <;> repeat' (first|(exact WkV.free hGf)|exact WkVL.nil|refine WkVL.cons ?_ ?_|exact WkV.top|exact WkV.imm rfl|exact WkV.imm (by simp)|exact WkV.optr rfl|exact WkV.own rfl (by simp)|exact WkV.nil_own (.inl rfl)|exact WkV.map rfl|(refine WkV.free ?_;simp [Free,FreeL] <;> assumption)|(refine WkV.free (fun _ _=>FreeL_nth ?_ _);simp [Free,FreeL];done)|refine WkV.agg ?_|refine WkV.tup ?_|refine WkV.fn ?_ ?_|exact WkO.dead|exact WkO.raw|refine WkO.ghost ?_|exact WkO.mpE rfl trivial|refine WkO.box ?_ rfl|refine WkO.arr ?_|refine And.intro ?_ (And.intro (by first|exact fun h=>h|exact fun _=>rfl|exact nofun) ?_)|exact trivial|(intro i j hi hj)))
  rintro m st ⟨i, o, h0, h1, h2, h3, rfl⟩
  (simp only [go_sem,↓reduceIte,Nat.reduceAdd,Nat.reduceSub,Nat.reduceMul,Nat.reduceLT,Nat.reduceLeDiff,Nat.reduceEqDiff,Nat.reduceGT,Int.reduceToNat,Int.reduceBEq,Int.reduceBNe];try simp (disch := omega) only [wrapI,wrapU,half_sum,toNat_sub1,toNat_add1,Int.toNat_natCast])
  repeat' (first
    | (with_reducible refine hK _ ?_; clear hK K)
    | ((with_reducible first|refine iterQ_r 4 3 (by with_unfolding_all rfl) (by with_unfolding_all rfl) ?_|refine iterQ_n 4 3 (by with_unfolding_all rfl) (by with_unfolding_all rfl) ?_|refine iterQ_rr 4 3 (by with_unfolding_all rfl) (by with_unfolding_all rfl) ?_|refine iterQ_nr 4 3 (by with_unfolding_all rfl) (by with_unfolding_all rfl) ?_|refine iterQ_re 4 3 (by with_unfolding_all rfl) (by with_unfolding_all rfl) ?_|refine iterQ_ne 4 3 (by with_unfolding_all rfl) (by with_unfolding_all rfl) ?_);try (simp only [go_sem,↓reduceIte,Nat.reduceAdd,Nat.reduceSub,Nat.reduceMul,Nat.reduceLT,Nat.reduceLeDiff,Nat.reduceEqDiff,Nat.reduceGT,Int.reduceToNat,Int.reduceBEq,Int.reduceBNe];try simp (disch := omega) only [wrapI,wrapU,half_sum,toNat_sub1,toNat_add1,Int.toNat_natCast]))
    | ((with_reducible first|refine retQM_r ?_|refine retQM_n ?_);try (simp only [go_sem,↓reduceIte,Nat.reduceAdd,Nat.reduceSub,Nat.reduceMul,Nat.reduceLT,Nat.reduceLeDiff,Nat.reduceEqDiff,Nat.reduceGT,Int.reduceToNat,Int.reduceBEq,Int.reduceBNe];try simp (disch := omega) only [wrapI,wrapU,half_sum,toNat_sub1,toNat_add1,Int.toNat_natCast]))
    | ((with_reducible refine callGoal_turns [5] ?_ (sortF_tu o.length o.toArray (by simp) (by omega)) ?_ ?_ ?_ ?_ ?_);(focus (first|exact trivial|(simp only [go_sem,and_self];done)|(simp only [go_sem];omega)));(focus decide);(focus (simp [nthO,AObj.alive]));(focus (repeat' (first|exact WkVL.nil|refine WkVL.cons ?_ ?_|exact WkV.top|exact WkV.imm rfl|exact WkV.imm (by simp)|exact WkV.optr rfl|exact WkV.own rfl (by simp)|exact WkV.map rfl|(refine WkV.free ?_;simp [Free,FreeL] <;> assumption)|(refine WkV.free (fun _ _=>FreeL_nth ?_ _);simp [Free,FreeL];done)|refine WkV.agg ?_|refine WkV.tup ?_|refine WkV.fn ?_ ?_|exact WkO.dead|exact WkO.raw|refine WkO.ghost ?_|exact WkO.mpE rfl trivial|refine WkO.box ?_ rfl|refine WkO.arr ?_|refine And.intro ?_ (And.intro (by first|exact fun h=>h|exact fun _=>rfl|exact nofun) ?_)|exact trivial|(intro _ _ _ _))));(focus (repeat' (first|exact WkVL.nil|refine WkVL.cons ?_ ?_|exact WkV.top|exact WkV.imm rfl|exact WkV.imm (by simp)|exact WkV.optr rfl|exact WkV.own rfl (by simp)|exact WkV.map rfl|(refine WkV.free ?_;simp [Free,FreeL] <;> assumption)|(refine WkV.free (fun _ _=>FreeL_nth ?_ _);simp [Free,FreeL];done)|refine WkV.agg ?_|refine WkV.tup ?_|refine WkV.fn ?_ ?_|exact WkO.dead|exact WkO.raw|refine WkO.ghost ?_|exact WkO.mpE rfl trivial|refine WkO.box ?_ rfl|refine WkO.arr ?_|refine And.intro ?_ (And.intro (by first|exact fun h=>h|exact fun _=>rfl|exact nofun) ?_)|exact trivial|(intro _ _ _ _))));(simp only [go_sem,↓reduceIte,Nat.reduceAdd,Nat.reduceSub,Nat.reduceMul,Nat.reduceLT,Nat.reduceLeDiff,Nat.reduceEqDiff,Nat.reduceGT,Int.reduceToNat,Int.reduceBEq,Int.reduceBNe];try simp (disch := omega) only [wrapI,wrapU,half_sum,toNat_sub1,toNat_add1,Int.toNat_natCast]))
    | ((with_reducible refine dCall_turns [5] ?_ (sortF_tu o.length o.toArray (by simp) (by omega)) ?_ ?_ ?_ ?_ ?_);(focus (first|exact trivial|(simp only [go_sem,and_self];done)|(simp only [go_sem];omega)));(focus decide);(focus (simp [nthO,AObj.alive]));(focus (repeat' (first|exact WkVL.nil|refine WkVL.cons ?_ ?_|exact WkV.top|exact WkV.imm rfl|exact WkV.imm (by simp)|exact WkV.optr rfl|exact WkV.own rfl (by simp)|exact WkV.map rfl|(refine WkV.free ?_;simp [Free,FreeL] <;> assumption)|(refine WkV.free (fun _ _=>FreeL_nth ?_ _);simp [Free,FreeL];done)|refine WkV.agg ?_|refine WkV.tup ?_|refine WkV.fn ?_ ?_|exact WkO.dead|exact WkO.raw|refine WkO.ghost ?_|exact WkO.mpE rfl trivial|refine WkO.box ?_ rfl|refine WkO.arr ?_|refine And.intro ?_ (And.intro (by first|exact fun h=>h|exact fun _=>rfl|exact nofun) ?_)|exact trivial|(intro _ _ _ _))));(focus (repeat' (first|exact WkVL.nil|refine WkVL.cons ?_ ?_|exact WkV.top|exact WkV.imm rfl|exact WkV.imm (by simp)|exact WkV.optr rfl|exact WkV.own rfl (by simp)|exact WkV.map rfl|(refine WkV.free ?_;simp [Free,FreeL] <;> assumption)|(refine WkV.free (fun _ _=>FreeL_nth ?_ _);simp [Free,FreeL];done)|refine WkV.agg ?_|refine WkV.tup ?_|refine WkV.fn ?_ ?_|exact WkO.dead|exact WkO.raw|refine WkO.ghost ?_|exact WkO.mpE rfl trivial|refine WkO.box ?_ rfl|refine WkO.arr ?_|refine And.intro ?_ (And.intro (by first|exact fun h=>h|exact fun _=>rfl|exact nofun) ?_)|exact trivial|(intro _ _ _ _))));(simp only [go_sem,↓reduceIte,Nat.reduceAdd,Nat.reduceSub,Nat.reduceMul,Nat.reduceLT,Nat.reduceLeDiff,Nat.reduceEqDiff,Nat.reduceGT,Int.reduceToNat,Int.reduceBEq,Int.reduceBNe];try simp (disch := omega) only [wrapI,wrapU,half_sum,toNat_sub1,toNat_add1,Int.toNat_natCast]))
    | ((with_reducible apply DC_call);(focus exact rfl);(focus exact rfl);(focus exact rfl);intro N hN;(simp only [go_sem,↓reduceIte,Nat.reduceAdd,Nat.reduceSub,Nat.reduceMul,Nat.reduceLT,Nat.reduceLeDiff,Nat.reduceEqDiff,Nat.reduceGT,Int.reduceToNat,Int.reduceBEq,Int.reduceBNe];try simp (disch := omega) only [wrapI,wrapU,half_sum,toNat_sub1,toNat_add1,Int.toNat_natCast]))
    | ((with_reducible first|refine T_seq_region Γ_ok (fun K hK=>?_)|refine T_last_region Γ_ok (fun K hK=>?_)|refine TO_callN rfl (fun N hN=>?_)|refine DCT_fork Γ_ok (fun K2 hK2=>?_)|refine DCT_last Γ_ok ?_|refine DC_ev Γ_ok ?_|refine TO_ev Γ_ok ?_|refine retQ_r ?_|refine retQ_n ?_);(simp only [go_sem,↓reduceIte,Nat.reduceAdd,Nat.reduceSub,Nat.reduceMul,Nat.reduceLT,Nat.reduceLeDiff,Nat.reduceEqDiff,Nat.reduceGT,Int.reduceToNat,Int.reduceBEq,Int.reduceBNe];try simp (disch := omega) only [wrapI,wrapU,half_sum,toNat_sub1,toNat_add1,Int.toNat_natCast]))
    | (with_reducible refine hK2 _ ?_ ?_ <;> clear hK2 K2)
    | with_reducible refine gC_false ?_ | with_reducible refine gC_true ?_ | with_reducible refine dCall_true ?_
    | (with_reducible refine hN _ _ ?_; clear hN N)
    | (with_reducible refine hN _ _ (dInl rfl) ?_; clear hN N)
    | ((with_reducible refine hN _ _ (.inr ?_) ?_);(focus (simp only [go_sem,↓reduceIte,Nat.reduceAdd,Nat.reduceSub,Nat.reduceMul,Nat.reduceLT,Nat.reduceLeDiff,Nat.reduceEqDiff,Nat.reduceGT,Int.reduceToNat,Int.reduceBEq,Int.reduceBNe];try simp (disch := omega) only [wrapI,wrapU,half_sum,toNat_sub1,toNat_add1,Int.toNat_natCast]));all_goals (try clear hN N))
    | with_reducible refine T_seq ?_|with_reducible refine T_block ?_|with_reducible refine T_ret ?_|with_reducible refine T_exit ?_|with_reducible refine T_skip ?_|with_reducible refine T_label ?_
    | with_reducible refine thenQ_n ?_|with_reducible refine thenQ_e ?_|with_reducible refine thenQ_r ?_|with_reducible refine blockQ_n ?_|with_reducible refine blockQ_e ?_|with_reducible refine blockQ_r ?_
    | with_reducible refine blockQ_o (by decide) ?_
    | ((with_reducible refine T_cond _ rfl (fun hb=>?_) (fun hb=>?_)) <;> first|(cases hb;done)|(simp only [decide_eq_true_eq,decide_eq_false_iff_not,Bool.and_eq_true,Bool.or_eq_true,Bool.and_eq_false_imp,Bool.or_eq_false_iff,Bool.not_eq_true',Bool.not_eq_false',beq_iff_eq,bne_iff_ne,ne_eq,beq_eq_false_iff_ne,bne_eq_false_iff_eq,Int.not_lt,Int.not_le,ge_iff_le,gt_iff_lt] at hb)|skip)
    | (with_reducible refine And.intro (by first | exact trivial | omega | (intro hg;simp at hg ⊢ <;> omega) | (simp <;> omega)) ?_)
    | assumption | omega)
  · have hj := h.2 i
    have hj1 := hj.1
    have hil : i < js.length := by omega
    have hjf := jnB_facts (hjv i hil)
    have hel := rise_len hjf.1 hjf.2.1
    rw [clA_drop js hil] at h3
    refine T_loopW (fun m st=>∃ (k : Nat) (o' : List Cl),k ≤ (gj js i).e.length ∧ m + k = (gj js i).e.length ∧ o'.length ≤ 120 * i + 8 * k ∧ o' ++ clJ js i ((gj js i).e.drop k) = o ++ clJ js i (gj js i).e ∧
        st = ⟨enD l js i k,fxC G js o' (ghC tc.toList lo hi ds) (.raw l (.loop (r.at .ready none))) ++ [.box 49 (jnL (gj js i))]⟩)
      (gj js i).e.length ⟨_, ?_, 0, o, by omega, rfl, by omega, rfl, rfl⟩ ?_
    · ((try simp only [List.length_append,List.length_cons,List.length_nil,Nat.zero_add]);refine Wk.intro [0,1,2,3,4,5,6] (by decide) (by decide) (by intro o ho;simp at ho ⊢ <;> omega) ?_ ?_ <;> repeat' (first|(exact WkV.free hGf)|exact WkVL.nil|refine WkVL.cons ?_ ?_|exact WkV.top|exact WkV.imm rfl|exact WkV.imm (by simp)|exact WkV.optr rfl|exact WkV.own rfl (by simp)|exact WkV.nil_own (.inl rfl)|exact WkV.map rfl|(refine WkV.free ?_;simp [Free,FreeL] <;> assumption)|(refine WkV.free (fun _ _=>FreeL_nth ?_ _);simp [Free,FreeL];done)|refine WkV.agg ?_|refine WkV.tup ?_|refine WkV.fn ?_ ?_|exact WkO.dead|exact WkO.raw|refine WkO.ghost ?_|exact WkO.mpE rfl trivial|refine WkO.box ?_ rfl|refine WkO.arr ?_|refine And.intro ?_ (And.intro (by first|exact fun h=>h|exact fun _=>rfl|exact nofun) ?_)|exact trivial|(intro i j hi hj)))
    rintro m st ⟨k, o', k0, k1, k2, k3, rfl⟩
    (simp only [go_sem,↓reduceIte,Nat.reduceAdd,Nat.reduceSub,Nat.reduceMul,Nat.reduceLT,Nat.reduceLeDiff,Nat.reduceEqDiff,Nat.reduceGT,Int.reduceToNat,Int.reduceBEq,Int.reduceBNe];try simp (disch := omega) only [wrapI,wrapU,half_sum,toNat_sub1,toNat_add1,Int.toNat_natCast])
    repeat' (first
    | (with_reducible refine hK _ ?_; clear hK K)
    | ((refine TO_yield hL 4 3 rfl rfl rfl (by first|exact Or.inl rfl|exact Or.inr rfl) rfl rfl rfl (by simp only [go_sem,and_self]) (fun ti lo' hi' ds'=>?_));try (simp only [go_sem,↓reduceIte,Nat.reduceAdd,Nat.reduceSub,Nat.reduceMul,Nat.reduceLT,Nat.reduceLeDiff,Nat.reduceEqDiff,Nat.reduceGT,Int.reduceToNat,Int.reduceBEq,Int.reduceBNe];try simp (disch := omega) only [wrapI,wrapU,half_sum,toNat_sub1,toNat_add1,Int.toNat_natCast]))
    | ((with_reducible refine assignQ_mk 4 (by with_unfolding_all rfl) ?_);try (simp only [go_sem,↓reduceIte,Nat.reduceAdd,Nat.reduceSub,Nat.reduceMul,Nat.reduceLT,Nat.reduceLeDiff,Nat.reduceEqDiff,Nat.reduceGT,Int.reduceToNat,Int.reduceBEq,Int.reduceBNe];try simp (disch := omega) only [wrapI,wrapU,half_sum,toNat_sub1,toNat_add1,Int.toNat_natCast]))
    | ((with_reducible apply DC_call);(focus exact rfl);(focus exact rfl);(focus exact rfl);intro N hN;(simp only [go_sem,↓reduceIte,Nat.reduceAdd,Nat.reduceSub,Nat.reduceMul,Nat.reduceLT,Nat.reduceLeDiff,Nat.reduceEqDiff,Nat.reduceGT,Int.reduceToNat,Int.reduceBEq,Int.reduceBNe];try simp (disch := omega) only [wrapI,wrapU,half_sum,toNat_sub1,toNat_add1,Int.toNat_natCast]))
    | ((with_reducible first|refine T_seq_region Γ_ok (fun K hK=>?_)|refine T_last_region Γ_ok (fun K hK=>?_)|refine TO_callN rfl (fun N hN=>?_)|refine DCT_fork Γ_ok (fun K2 hK2=>?_)|refine DCT_last Γ_ok ?_|refine DC_ev Γ_ok ?_|refine TO_ev Γ_ok ?_|refine retQ_r ?_|refine retQ_n ?_);(simp only [go_sem,↓reduceIte,Nat.reduceAdd,Nat.reduceSub,Nat.reduceMul,Nat.reduceLT,Nat.reduceLeDiff,Nat.reduceEqDiff,Nat.reduceGT,Int.reduceToNat,Int.reduceBEq,Int.reduceBNe];try simp (disch := omega) only [wrapI,wrapU,half_sum,toNat_sub1,toNat_add1,Int.toNat_natCast]))
    | (with_reducible refine hK2 _ ?_ ?_ <;> clear hK2 K2)
    | with_reducible refine gC_false ?_ | with_reducible refine gC_true ?_ | with_reducible refine dCall_true ?_
    | (with_reducible refine hN _ _ ?_; clear hN N)
    | (with_reducible refine hN _ _ (dInl rfl) ?_; clear hN N)
    | ((with_reducible refine hN _ _ (.inr ?_) ?_);(focus (simp only [go_sem,↓reduceIte,Nat.reduceAdd,Nat.reduceSub,Nat.reduceMul,Nat.reduceLT,Nat.reduceLeDiff,Nat.reduceEqDiff,Nat.reduceGT,Int.reduceToNat,Int.reduceBEq,Int.reduceBNe];try simp (disch := omega) only [wrapI,wrapU,half_sum,toNat_sub1,toNat_add1,Int.toNat_natCast]));all_goals (try clear hN N))
    | with_reducible refine T_seq ?_|with_reducible refine T_block ?_|with_reducible refine T_ret ?_|with_reducible refine T_exit ?_|with_reducible refine T_skip ?_|with_reducible refine T_label ?_
    | with_reducible refine thenQ_n ?_|with_reducible refine thenQ_e ?_|with_reducible refine thenQ_r ?_|with_reducible refine blockQ_n ?_|with_reducible refine blockQ_e ?_|with_reducible refine blockQ_r ?_
    | with_reducible refine blockQ_o (by decide) ?_
    | ((with_reducible refine T_cond _ rfl (fun hb=>?_) (fun hb=>?_)) <;> first|(cases hb;done)|(simp only [decide_eq_true_eq,decide_eq_false_iff_not,Bool.and_eq_true,Bool.or_eq_true,Bool.and_eq_false_imp,Bool.or_eq_false_iff,Bool.not_eq_true',Bool.not_eq_false',beq_iff_eq,bne_iff_ne,ne_eq,beq_eq_false_iff_ne,bne_eq_false_iff_eq,Int.not_lt,Int.not_le,ge_iff_le,gt_iff_lt] at hb)|skip)
    | (with_reducible refine And.intro (by first | exact trivial | omega | (intro hg;simp at hg ⊢ <;> omega) | (simp <;> omega)) ?_)
    | assumption | omega)
    · have hk : k < (gj js i).e.length := by omega
      have hi8 : i ≤ 8 := by omega
      rw [clJ_drop js i hk] at k3
      have hxm := ge_mem hk
      have hlx : lookG G (ge (gj js i).e k).s i = some (enA (ge (gj js i).e k)) := by
        rw [hG]; unfold lookE; rw [atE_some hjf.2.1 hxm]; rfl
      obtain ⟨q, hq⟩ := lookG_idx hlx
      have hgm : mval ((G.map fun p=>Value.int .i64 p.1).zip (G.map fun p=>AV.vmap (.int .i64) (p.2.map (·.1)) (p.2.map (·.2)))) (.imm (.map none)) (.int .i64 (ge (gj js i).e k).s) = .vmap (.int .i64) ((gg G q).2.map (·.1)) ((gg G q).2.map (·.2)) := by
        unfold mval; rw [mget_gA, hq]; rfl
      have hz := zip_fs (gg G q).2
      refine T_loopW (fun m st => ∃ (c : Nat) (o2 : List Cl),c ≤ i ∧ m + c = i ∧ o2 = o' ++ clN js (ge (gj js i).e k) i c ∧
          st = ⟨bdE i c,fxC G js o2 (ghC tc.toList lo hi ds) (.raw l (.loop (r.at .busy none))) ++ [.box 49 (jnL (gj js i)),.dead,.ghost (enD l js i k) ti lo' hi' ds',.box 43 (enL (ge (gj js i).e k))]⟩)
        i ⟨_, ?_, 0, o', by omega, rfl, by simp [clN], rfl⟩ ?_
      · ((try simp only [List.length_append,List.length_cons,List.length_nil,Nat.zero_add]);refine Wk.intro [0,1,2,3,4,5,6,7,8,9] (by decide) (by decide) (by intro o ho;simp at ho ⊢ <;> omega) ?_ ?_ <;> repeat' (first|(exact WkV.free hGf)|exact WkVL.nil|refine WkVL.cons ?_ ?_|exact WkV.top|exact WkV.imm rfl|exact WkV.imm (by simp)|exact WkV.optr rfl|exact WkV.own rfl (by simp)|exact WkV.nil_own (.inl rfl)|exact WkV.map rfl|(refine WkV.free ?_;simp [Free,FreeL] <;> assumption)|(refine WkV.free (fun _ _=>FreeL_nth ?_ _);simp [Free,FreeL];done)|refine WkV.agg ?_|refine WkV.tup ?_|refine WkV.fn ?_ ?_|exact WkO.dead|exact WkO.raw|refine WkO.ghost ?_|exact WkO.mpE rfl trivial|refine WkO.box ?_ rfl|refine WkO.arr ?_|refine And.intro ?_ (And.intro (by first|exact fun h=>h|exact fun _=>rfl|exact nofun) ?_)|exact trivial|(intro i j hi hj)))
      rintro m st ⟨c, o2, c0, c1, c2, rfl⟩
      have hol := clN_len js (ge (gj js i).e k) i c
      have holl : o2.length ≤ 120 * i + 8 * k + c := by rw [c2, List.length_append]; omega
      have hcg := hG (ge (gj js i).e k).s c
      have hN : clN js (ge (gj js i).e k) i (c + 1) = if hitE js (ge (gj js i).e k) c = true then clN js (ge (gj js i).e k) i c ++ [⟨(ge (gj js i).e k).s,c,i⟩] else clN js (ge (gj js i).e k) i c := rfl
      unfold lookG at hcg
      rw [hq] at hcg
      simp only [] at hcg
      unfold hitE at hN
      have hsn := fun p q => elE_snoc o2 ⟨(ge (gj js i).e k).s, c, i⟩ (i := p) (j := q)
      cases hle : lookE js (ge (gj js i).e k).s c with
      | none =>
        rw [hle] at hcg hN
        have hm : ∀ z, mval (gg G q).2 z (.int .i64 c) = z := fun z => by unfold mval; rw [hcg]; rfl
        have hh : mhas (gg G q).2 (.int .i64 c) = false := by unfold mhas; rw [hcg]; rfl
        (simp only [go_sem,↓reduceIte,Nat.reduceAdd,Nat.reduceSub,Nat.reduceMul,Nat.reduceLT,Nat.reduceLeDiff,Nat.reduceEqDiff,Nat.reduceGT,Int.reduceToNat,Int.reduceBEq,Int.reduceBNe];try simp (disch := omega) only [wrapI,wrapU,half_sum,toNat_sub1,toNat_add1,Int.toNat_natCast])
        repeat' (first
    | (with_reducible refine hK _ ?_; clear hK K)
    | ((with_reducible first|refine roundQ_n 4 8 (by with_unfolding_all rfl) (by with_unfolding_all rfl) ?_|refine roundQ_r 4 8 (by with_unfolding_all rfl) (by with_unfolding_all rfl) ?_|refine roundQ_e 4 8 (by with_unfolding_all rfl) (by with_unfolding_all rfl) ?_);try (simp only [go_sem,↓reduceIte,Nat.reduceAdd,Nat.reduceSub,Nat.reduceMul,Nat.reduceLT,Nat.reduceLeDiff,Nat.reduceEqDiff,Nat.reduceGT,Int.reduceToNat,Int.reduceBEq,Int.reduceBNe];try simp (disch := omega) only [wrapI,wrapU,half_sum,toNat_sub1,toNat_add1,Int.toNat_natCast]))
    | ((with_reducible apply DC_call);(focus exact rfl);(focus exact rfl);(focus exact rfl);intro N hN;(simp only [go_sem,hgm,hz,hm,hh,↓reduceIte,Nat.reduceAdd,Nat.reduceSub,Nat.reduceMul,Nat.reduceLT,Nat.reduceLeDiff,Nat.reduceEqDiff,Nat.reduceGT,Int.reduceToNat,Int.reduceBEq,Int.reduceBNe];try simp (disch := omega) only [wrapI,wrapU,half_sum,toNat_sub1,toNat_add1,Int.toNat_natCast]))
    | ((with_reducible first|refine T_seq_region Γ_ok (fun K hK=>?_)|refine T_last_region Γ_ok (fun K hK=>?_)|refine TO_callN rfl (fun N hN=>?_)|refine DCT_fork Γ_ok (fun K2 hK2=>?_)|refine DCT_last Γ_ok ?_|refine DC_ev Γ_ok ?_|refine TO_ev Γ_ok ?_|refine retQ_r ?_|refine retQ_n ?_);(simp only [go_sem,hgm,hz,hm,hh,↓reduceIte,Nat.reduceAdd,Nat.reduceSub,Nat.reduceMul,Nat.reduceLT,Nat.reduceLeDiff,Nat.reduceEqDiff,Nat.reduceGT,Int.reduceToNat,Int.reduceBEq,Int.reduceBNe];try simp (disch := omega) only [wrapI,wrapU,half_sum,toNat_sub1,toNat_add1,Int.toNat_natCast]))
    | (with_reducible refine hK2 _ ?_ ?_ <;> clear hK2 K2)
    | with_reducible refine gC_false ?_ | with_reducible refine gC_true ?_ | with_reducible refine dCall_true ?_
    | (with_reducible refine hN _ _ ?_; clear hN N)
    | (with_reducible refine hN _ _ (dInl rfl) ?_; clear hN N)
    | ((with_reducible refine hN _ _ (.inr ?_) ?_);(focus (simp only [go_sem,hgm,hz,hm,hh,↓reduceIte,Nat.reduceAdd,Nat.reduceSub,Nat.reduceMul,Nat.reduceLT,Nat.reduceLeDiff,Nat.reduceEqDiff,Nat.reduceGT,Int.reduceToNat,Int.reduceBEq,Int.reduceBNe];try simp (disch := omega) only [wrapI,wrapU,half_sum,toNat_sub1,toNat_add1,Int.toNat_natCast]));all_goals (try clear hN N))
    | with_reducible refine T_seq ?_|with_reducible refine T_block ?_|with_reducible refine T_ret ?_|with_reducible refine T_exit ?_|with_reducible refine T_skip ?_|with_reducible refine T_label ?_
    | with_reducible refine thenQ_n ?_|with_reducible refine thenQ_e ?_|with_reducible refine thenQ_r ?_|with_reducible refine blockQ_n ?_|with_reducible refine blockQ_e ?_|with_reducible refine blockQ_r ?_
    | with_reducible refine blockQ_o (by decide) ?_
    | ((with_reducible refine T_cond _ rfl (fun hb=>?_) (fun hb=>?_)) <;> first|(cases hb;done)|(simp only [decide_eq_true_eq,decide_eq_false_iff_not,Bool.and_eq_true,Bool.or_eq_true,Bool.and_eq_false_imp,Bool.or_eq_false_iff,Bool.not_eq_true',Bool.not_eq_false',beq_iff_eq,bne_iff_ne,ne_eq,beq_eq_false_iff_ne,bne_eq_false_iff_eq,Int.not_lt,Int.not_le,ge_iff_le,gt_iff_lt] at hb)|skip)
    | (with_reducible refine And.intro (by first | exact trivial | omega | (intro hg;simp at hg ⊢ <;> omega) | (simp <;> omega)) ?_)
    | assumption | omega)
        · refine ⟨i - (c + 1), by omega, _, ?_, c + 1, o2, by omega, by omega, by rw [hN]; exact c2, rfl⟩
          ((try simp only [List.length_append,List.length_cons,List.length_nil,Nat.zero_add]);refine Wk.intro [0,1,2,3,4,5,6,7,8,9] (by decide) (by decide) (by intro o ho;simp at ho ⊢ <;> omega) ?_ ?_ <;> repeat' (first|(refine WkV.imm ?_;congr 1;omega)|(exact WkV.free hGf)|(exact WkV.eqF (hsn _ _ (by simpa using hi) hj) (by simp))|exact WkVL.nil|refine WkVL.cons ?_ ?_|exact WkV.top|exact WkV.imm rfl|exact WkV.imm (by simp)|exact WkV.optr rfl|exact WkV.own rfl (by simp)|exact WkV.nil_own (.inl rfl)|exact WkV.map rfl|(refine WkV.free ?_;simp [Free,FreeL] <;> assumption)|(refine WkV.free (fun _ _=>FreeL_nth ?_ _);simp [Free,FreeL];done)|refine WkV.agg ?_|refine WkV.tup ?_|refine WkV.fn ?_ ?_|exact WkO.dead|exact WkO.raw|refine WkO.ghost ?_|exact WkO.mpE rfl trivial|refine WkO.box ?_ rfl|refine WkO.arr ?_|refine And.intro ?_ (And.intro (by first|exact fun h=>h|exact fun _=>rfl|exact nofun) ?_)|exact trivial|(intro i j hi hj)))
        ·
          have hci : c = i := by omega
          subst hci
          refine ⟨(gj js c).e.length - (k + 1),by omega,_,?_,k + 1,o2,by omega,by omega,by omega,by rw [c2,List.append_assoc];exact k3,rfl⟩
          ((try simp only [List.length_append,List.length_cons,List.length_nil,Nat.zero_add]);refine Wk.intro [0,1,2,3,4,5,6] (by decide) (by decide) (by intro o ho;simp at ho ⊢ <;> omega) ?_ ?_ <;> repeat' (first|(refine WkV.imm ?_;congr 1;omega)|(exact WkV.free hGf)|(exact WkV.eqF (hsn _ _ (by simpa using hi) hj) (by simp))|exact WkVL.nil|refine WkVL.cons ?_ ?_|exact WkV.top|exact WkV.imm rfl|exact WkV.imm (by simp)|exact WkV.optr rfl|exact WkV.own rfl (by simp)|exact WkV.nil_own (.inl rfl)|exact WkV.map rfl|(refine WkV.free ?_;simp [Free,FreeL] <;> assumption)|(refine WkV.free (fun _ _=>FreeL_nth ?_ _);simp [Free,FreeL];done)|refine WkV.agg ?_|refine WkV.tup ?_|refine WkV.fn ?_ ?_|exact WkO.dead|exact WkO.raw|refine WkO.ghost ?_|exact WkO.mpE rfl trivial|refine WkO.box ?_ rfl|refine WkO.arr ?_|refine And.intro ?_ (And.intro (by first|exact fun h=>h|exact fun _=>rfl|exact nofun) ?_)|exact trivial|(intro i j hi hj)))
      | some y =>
        rw [hle] at hcg hN
        have hm : ∀ z, mval (gg G q).2 z (.int .i64 c) = enA y := fun z => by unfold mval; rw [hcg]; rfl
        have hh : mhas (gg G q).2 (.int .i64 c) = true := by unfold mhas; rw [hcg]; rfl
        (simp only [go_sem,↓reduceIte,Nat.reduceAdd,Nat.reduceSub,Nat.reduceMul,Nat.reduceLT,Nat.reduceLeDiff,Nat.reduceEqDiff,Nat.reduceGT,Int.reduceToNat,Int.reduceBEq,Int.reduceBNe];try simp (disch := omega) only [wrapI,wrapU,half_sum,toNat_sub1,toNat_add1,Int.toNat_natCast])
        repeat' (first
    | (with_reducible refine hK _ ?_; clear hK K)
    | ((with_reducible first|refine roundQ_n 4 8 (by with_unfolding_all rfl) (by with_unfolding_all rfl) ?_|refine roundQ_r 4 8 (by with_unfolding_all rfl) (by with_unfolding_all rfl) ?_|refine roundQ_e 4 8 (by with_unfolding_all rfl) (by with_unfolding_all rfl) ?_);try (simp only [go_sem,↓reduceIte,Nat.reduceAdd,Nat.reduceSub,Nat.reduceMul,Nat.reduceLT,Nat.reduceLeDiff,Nat.reduceEqDiff,Nat.reduceGT,Int.reduceToNat,Int.reduceBEq,Int.reduceBNe];try simp (disch := omega) only [wrapI,wrapU,half_sum,toNat_sub1,toNat_add1,Int.toNat_natCast]))
    | ((with_reducible apply DC_call);(focus exact rfl);(focus exact rfl);(focus exact rfl);intro N hN;(simp only [go_sem,hgm,hz,hm,hh,↓reduceIte,Nat.reduceAdd,Nat.reduceSub,Nat.reduceMul,Nat.reduceLT,Nat.reduceLeDiff,Nat.reduceEqDiff,Nat.reduceGT,Int.reduceToNat,Int.reduceBEq,Int.reduceBNe];try simp (disch := omega) only [wrapI,wrapU,half_sum,toNat_sub1,toNat_add1,Int.toNat_natCast]))
    | ((with_reducible first|refine T_seq_region Γ_ok (fun K hK=>?_)|refine T_last_region Γ_ok (fun K hK=>?_)|refine TO_callN rfl (fun N hN=>?_)|refine DCT_fork Γ_ok (fun K2 hK2=>?_)|refine DCT_last Γ_ok ?_|refine DC_ev Γ_ok ?_|refine TO_ev Γ_ok ?_|refine retQ_r ?_|refine retQ_n ?_);(simp only [go_sem,hgm,hz,hm,hh,↓reduceIte,Nat.reduceAdd,Nat.reduceSub,Nat.reduceMul,Nat.reduceLT,Nat.reduceLeDiff,Nat.reduceEqDiff,Nat.reduceGT,Int.reduceToNat,Int.reduceBEq,Int.reduceBNe];try simp (disch := omega) only [wrapI,wrapU,half_sum,toNat_sub1,toNat_add1,Int.toNat_natCast]))
    | (with_reducible refine hK2 _ ?_ ?_ <;> clear hK2 K2)
    | with_reducible refine gC_false ?_ | with_reducible refine gC_true ?_ | with_reducible refine dCall_true ?_
    | (with_reducible refine hN _ _ ?_; clear hN N)
    | (with_reducible refine hN _ _ (dInl rfl) ?_; clear hN N)
    | ((with_reducible refine hN _ _ (.inr ?_) ?_);(focus (simp only [go_sem,hgm,hz,hm,hh,↓reduceIte,Nat.reduceAdd,Nat.reduceSub,Nat.reduceMul,Nat.reduceLT,Nat.reduceLeDiff,Nat.reduceEqDiff,Nat.reduceGT,Int.reduceToNat,Int.reduceBEq,Int.reduceBNe];try simp (disch := omega) only [wrapI,wrapU,half_sum,toNat_sub1,toNat_add1,Int.toNat_natCast]));all_goals (try clear hN N))
    | with_reducible refine T_seq ?_|with_reducible refine T_block ?_|with_reducible refine T_ret ?_|with_reducible refine T_exit ?_|with_reducible refine T_skip ?_|with_reducible refine T_label ?_
    | with_reducible refine thenQ_n ?_|with_reducible refine thenQ_e ?_|with_reducible refine thenQ_r ?_|with_reducible refine blockQ_n ?_|with_reducible refine blockQ_e ?_|with_reducible refine blockQ_r ?_
    | with_reducible refine blockQ_o (by decide) ?_
    | ((with_reducible refine T_cond _ rfl (fun hb=>?_) (fun hb=>?_)) <;> first|(cases hb;done)|(simp only [decide_eq_true_eq,decide_eq_false_iff_not,Bool.and_eq_true,Bool.or_eq_true,Bool.and_eq_false_imp,Bool.or_eq_false_iff,Bool.not_eq_true',Bool.not_eq_false',beq_iff_eq,bne_iff_ne,ne_eq,beq_eq_false_iff_ne,bne_eq_false_iff_eq,Int.not_lt,Int.not_le,ge_iff_le,gt_iff_lt] at hb)|skip)
    | (with_reducible refine And.intro (by first | exact trivial | omega | (intro hg;simp at hg ⊢ <;> omega) | (simp <;> omega)) ?_)
    | assumption | omega)
        · have hd : tkEq y (ge (gj js i).e k) = false := by
            cases ht : tkEq y (ge (gj js i).e k) with
            | false => rfl
            | true =>
              unfold tkEq at ht
              simp only [Bool.and_eq_true, decide_eq_true_eq] at ht
              exact absurd ht.2 (hb ht.1.1.1 ht.1.1.2 ht.1.2)
          refine ⟨i - (c + 1),by omega,_,?_,c + 1,o2 ++ [⟨(ge (gj js i).e k).s,c,i⟩],by omega,by omega,by rw [hN];simp only [hd,Bool.not_false,if_true];rw [c2,List.append_assoc],rfl⟩
          ((try simp only [List.length_append,List.length_cons,List.length_nil,Nat.zero_add]);refine Wk.intro [0,1,2,3,4,12,6,7,8,9] (by decide) (by decide) (by intro o ho;simp at ho ⊢ <;> omega) ?_ ?_ <;> repeat' (first|(refine WkV.imm ?_;congr 1;omega)|(exact WkV.free hGf)|(exact WkV.eqF (hsn _ _ (by simpa using hi) hj) (by simp))|exact WkVL.nil|refine WkVL.cons ?_ ?_|exact WkV.top|exact WkV.imm rfl|exact WkV.imm (by simp)|exact WkV.optr rfl|exact WkV.own rfl (by simp)|exact WkV.nil_own (.inl rfl)|exact WkV.map rfl|(refine WkV.free ?_;simp [Free,FreeL] <;> assumption)|(refine WkV.free (fun _ _=>FreeL_nth ?_ _);simp [Free,FreeL];done)|refine WkV.agg ?_|refine WkV.tup ?_|refine WkV.fn ?_ ?_|exact WkO.dead|exact WkO.raw|refine WkO.ghost ?_|exact WkO.mpE rfl trivial|refine WkO.box ?_ rfl|refine WkO.arr ?_|refine And.intro ?_ (And.intro (by first|exact fun h=>h|exact fun _=>rfl|exact nofun) ?_)|exact trivial|(intro i j hi hj)))
        · have hd : tkEq y (ge (gj js i).e k) = true := by
            unfold tkEq
            simp [hb.1, hb.2.1, hb.2.2.1, hb.2.2.2]
          refine ⟨i - (c + 1),by omega,_,?_,c + 1,o2,by omega,by omega,by rw [hN];simp only [hd,Bool.not_true,Bool.false_eq_true,if_false];exact c2,rfl⟩
          ((try simp only [List.length_append,List.length_cons,List.length_nil,Nat.zero_add]);refine Wk.intro [0,1,2,3,4,5,6,7,8,9] (by decide) (by decide) (by intro o ho;simp at ho ⊢ <;> omega) ?_ ?_ <;> repeat' (first|(refine WkV.imm ?_;congr 1;omega)|(exact WkV.free hGf)|(exact WkV.eqF (hsn _ _ (by simpa using hi) hj) (by simp))|exact WkVL.nil|refine WkVL.cons ?_ ?_|exact WkV.top|exact WkV.imm rfl|exact WkV.imm (by simp)|exact WkV.optr rfl|exact WkV.own rfl (by simp)|exact WkV.nil_own (.inl rfl)|exact WkV.map rfl|(refine WkV.free ?_;simp [Free,FreeL] <;> assumption)|(refine WkV.free (fun _ _=>FreeL_nth ?_ _);simp [Free,FreeL];done)|refine WkV.agg ?_|refine WkV.tup ?_|refine WkV.fn ?_ ?_|exact WkO.dead|exact WkO.raw|refine WkO.ghost ?_|exact WkO.mpE rfl trivial|refine WkO.box ?_ rfl|refine WkO.arr ?_|refine And.intro ?_ (And.intro (by first|exact fun h=>h|exact fun _=>rfl|exact nofun) ?_)|exact trivial|(intro i j hi hj)))
        ·
          have hci : c = i := by omega
          subst hci
          refine ⟨(gj js c).e.length - (k + 1),by omega,_,?_,k + 1,o2,by omega,by omega,by omega,by rw [c2,List.append_assoc];exact k3,rfl⟩
          ((try simp only [List.length_append,List.length_cons,List.length_nil,Nat.zero_add]);refine Wk.intro [0,1,2,3,4,5,6] (by decide) (by decide) (by intro o ho;simp at ho ⊢ <;> omega) ?_ ?_ <;> repeat' (first|(refine WkV.imm ?_;congr 1;omega)|(exact WkV.free hGf)|(exact WkV.eqF (hsn _ _ (by simpa using hi) hj) (by simp))|exact WkVL.nil|refine WkVL.cons ?_ ?_|exact WkV.top|exact WkV.imm rfl|exact WkV.imm (by simp)|exact WkV.optr rfl|exact WkV.own rfl (by simp)|exact WkV.nil_own (.inl rfl)|exact WkV.map rfl|(refine WkV.free ?_;simp [Free,FreeL] <;> assumption)|(refine WkV.free (fun _ _=>FreeL_nth ?_ _);simp [Free,FreeL];done)|refine WkV.agg ?_|refine WkV.tup ?_|refine WkV.fn ?_ ?_|exact WkO.dead|exact WkO.raw|refine WkO.ghost ?_|exact WkO.mpE rfl trivial|refine WkO.box ?_ rfl|refine WkO.arr ?_|refine And.intro ?_ (And.intro (by first|exact fun h=>h|exact fun _=>rfl|exact nofun) ?_)|exact trivial|(intro i j hi hj)))
    · rw [List.drop_of_length_le (by omega)] at k3
      simp only [clJ, List.flatMap_nil, List.append_nil] at k3
      refine ⟨js.length - (i + 1),by omega,_,?_,i + 1,o',by omega,by omega,by omega,by rw [k3,List.append_assoc];exact h3,rfl⟩
      ((try simp only [List.length_append,List.length_cons,List.length_nil,Nat.zero_add]);refine Wk.intro [0,1,2,3,4,5] (by decide) (by decide) (by intro o ho;simp at ho ⊢ <;> omega) ?_ ?_ <;> repeat' (first|(refine WkV.imm ?_;congr 1;omega)|(exact WkV.free hGf)|exact WkVL.nil|refine WkVL.cons ?_ ?_|exact WkV.top|exact WkV.imm rfl|exact WkV.imm (by simp)|exact WkV.optr rfl|exact WkV.own rfl (by simp)|exact WkV.nil_own (.inl rfl)|exact WkV.map rfl|(refine WkV.free ?_;simp [Free,FreeL] <;> assumption)|(refine WkV.free (fun _ _=>FreeL_nth ?_ _);simp [Free,FreeL];done)|refine WkV.agg ?_|refine WkV.tup ?_|refine WkV.fn ?_ ?_|exact WkO.dead|exact WkO.raw|refine WkO.ghost ?_|exact WkO.mpE rfl trivial|refine WkO.box ?_ rfl|refine WkO.arr ?_|refine And.intro ?_ (And.intro (by first|exact fun h=>h|exact fun _=>rfl|exact nofun) ?_)|exact trivial|(intro i j hi hj)))
  · rw [List.drop_of_length_le (by omega)] at h3
    simp only [clA, List.append_nil] at h3
    subst h3
    exact ⟨5, _, rfl, rfl, fun _ _ _ _ => rfl⟩
def clsL (js : List Jn) : List Cl := (Go.Sort.sort ltE (clA js 0 js).toArray).toList
def clsR (n : Int) (js : List Jn) : List Cl × Int := if jsB n js = true then (clsL js, 0) else ([], 1)
theorem clsL_len (js : List Jn) : (clsL js).length = (clA js 0 js).length := by
  unfold clsL
  rw [Array.length_toList, Go.Sort.sort, size_pdq _ _ _ _ _ _ _ (Nat.le_refl _) (Nat.le_refl _)]
  simp
set_option maxRecDepth 100000 in
set_option maxHeartbeats 4000000 in
theorem clashes_no (n : Int) (js : List Jn) (h : JsOk js) (hv : jsB n js = false) : TC Try.prog 13 [.imm (.int .i64 n),jns js] [] (fun v _=>∃ x : Int,x = 1 ∧ v = .tup [.imm (.slice none 0 0),.imm (.int .i64 x)]) := by
  have hva := validJ_tc n js h
  rw [hv] at hva
  (refine TC_of_T Γ_ok Try.func13 rfl (by kernel_rfl) ?_;simp only [Try.ntmps13,Try.results13,List.length_cons,List.length_nil,Nat.reduceSub,Nat.reduceAdd,List.replicate,List.cons_append,List.nil_append])
  (have cl1 := hva;((refine goR0 _ _ _ _ _ _ _ _ ?_ ?_ ?_ ?_ ?_ ?_ ?_ ?_) <;> (repeat intro hb) <;> first | exact True.intro | refine Lf.mk ?_))
  exact ⟨1, rfl, rfl⟩
theorem clashes_tc (n : Int) (js : List Jn) (h : JsOk js) : Makes Try.prog 13 [.imm (.int .i64 n),jns js] (.tup [.own 0 0 (clsR n js).1.length none,.imm (.int .i64 (clsR n js).2)]) [elO (clsR n js).1.length (clsR n js).1.toArray] := by
  refine Makes.lstJ (fun i j => elE_pl _ i j) trivial ?_
  cases hv : jsB n js with
  | true =>
    have e : clsR n js = (clsL js, 0) := if_pos hv
    rw [e]
    refine (clashes_raw n js h hv).mono fun v σ' ⟨k, E', h1, h2, h3⟩ => .inr ⟨k, E', ?_, ?_, ?_⟩
    · simp only [clsL_len]; exact h1
    · simp only [clsL_len]; exact h2
    · simp only [clsL_len]
      intro i j hi hj
      rw [h3 i j hi hj]
      simp [clsL]
  | false =>
    have e : clsR n js = ([], 1) := if_neg (by simp [hv])
    rw [e]
    refine (clashes_no n js h hv).mono fun v σ' ⟨x, hx, h1⟩ => .inl ⟨?_, rfl⟩
    subst hx
    exact h1
end Go.Proofs.Ytgljhmnmmaclaaa
