/-
  Contract of quorum.Run.
-/
import Derived.Test.YtgljhmnmmaclaaaQGo
import Derived.Test.YtgljhmnmmaclaaaQV9
import Derived.Test.YtgljhmnmmaclaaaQV11
set_option linter.unusedSimpArgs false
set_option linter.unusedVariables false
namespace Go.Proofs.Ytgljhmnmmaclaaa.Q
open Go.Ab
theorem kind_val (k : Int) (z : AV) : mval kindE z (.int .i64 k) = if k = 1 then .agg [.fn (.func 38) [] [],.fn (.func 39) [] []] else if k = 2 then .agg [.fn (.func 40) [] [],.fn (.func 41) [] []] else if k = 3 then .agg [.fn (.func 38) [] [],.fn (.func 42) [] []] else z := by
  unfold mval kindE
  simp only [mget, keq, beq_iff_eq]
  split
  · rfl
  · split
    · rfl
    · split <;> rfl
theorem kind_has (k : Int) : mhas kindE (.int .i64 k) = decide (k = 1 ∨ k = 2 ∨ k = 3) := by
  unfold mhas kindE
  simp only [mget, keq, beq_iff_eq]
  split
  · simp [*]
  · split
    · simp [*]
    · split <;> simp [*]
theorem gM_mem {l : List Mov} {i : Nat} (h : i < l.length) : gM l i ∈ l := by simp [gM, h]
theorem mem_gM {l : List Mov} {p : Mov} : p ∈ l ↔ ∃ i, i < l.length ∧ gM l i = p := by
  rw [List.mem_iff_getElem]; constructor
  · rintro ⟨i, h, e⟩; exact ⟨i, h, by simp [gM, h, e]⟩
  · rintro ⟨i, h, e⟩; exact ⟨i, h, by rw [← e]; simp [gM, h]⟩
theorem gM_take {l : List Mov} {i : Nat} (h : i < l.length) : l.take (i + 1) = l.take i ++ [gM l i] := by
  rw [List.take_succ_eq_append_getElem h]
  simp [gM, h]
theorem acc_zero {k i j : Nat} (hi : i < k) (hj : j < 6) : nth [.imm (.int .i64 0),.imm (.int .i64 0),.imm (.int .i64 0),.imm (.int .i64 0),.imm (.int .i64 0),.imm (.int .i64 0)] j = accE (List.replicate k ⟨0,0,tk0⟩) i j := by
  unfold accE gA
  simp [hi]
theorem foldR_len (n : Int) : ∀ ms : List Mov,(foldR n ms).pro.length ≤ ms.length ∧ (foldR n ms).sta.length ≤ ms.length ∧ (foldR n ms).vot.length ≤ ms.length := by
  intro ms
  induction ms using snocInd with
  | nil => simp [foldR, rnd0]
  | append_singleton ms m ih =>
    rw [foldR_snoc, List.length_append]
    simp only [List.length_cons, List.length_nil]
    unfold stepR prepS startS accS
    split
    · split <;> simp <;> omega
    · split
      · split
        · omega
        · split <;> simp <;> omega
      · split
        · omega
        · split <;> simp <;> omega
theorem gC_skip {σ : List AObj} {N : AV → List AObj → Prop} {ca : Option (FuncId × List AV × Prop)} (v : AV) (h : N (.gd false v) σ) : gC Try.prog σ N false ca := .inl ⟨v,fun h => by (cases h),h⟩
@[go_sem,reducible] def rndA (R : Rnd) : AV := .agg [.own 0 0 R.acc.length none,.own 1 0 R.pro.length none,.own 2 0 R.sta.length none,.own 3 0 R.vot.length none]
@[go_sem,reducible] def rndO (R : Rnd) : List AObj := [.arr 120 6 R.acc.length (accE R.acc),.arr 122 7 R.pro.length (proE R.pro),.arr 40 5 R.sta.length (staE R.sta),.arr 45 6 R.vot.length (votE R.vot)]
@[go_sem, reducible] def rObj8 (n : Int) (R : Rnd) : List AObj :=
  [.box 30 [nilA, nilA, nilA, nilA], .mp (.int .i64) kindE,
   .box 80 [.own 3 0 R.acc.length none,.own 4 0 R.pro.length none,.own 5 0 R.sta.length none,.own 6 0 R.vot.length none,.imm (.int .i64 n),.map 7],
   .arr 120 6 R.acc.length (accE R.acc),.arr 122 7 R.pro.length (proE R.pro),.arr 40 5 R.sta.length (staE R.sta),.arr 45 6 R.vot.length (votE R.vot),.mp (.int .i64) (valE R.sta)]
def RunsTo (R : Rnd) (v : AV) (σ' : List AObj) : Prop :=
  v = .tup [.agg [.own 3 0 R.acc.length none,.own 4 0 R.pro.length none,.own 5 0 R.sta.length none,.own 6 0 R.vot.length none],.imm (.int .i64 0)] ∧
  nthO σ' 3 = .arr 120 6 R.acc.length (accE R.acc) ∧ nthO σ' 4 = .arr 122 7 R.pro.length (proE R.pro) ∧ nthO σ' 5 = .arr 40 5 R.sta.length (staE R.sta) ∧ nthO σ' 6 = .arr 45 6 R.vot.length (votE R.vot)
set_option maxRecDepth 100000 in
set_option maxHeartbeats 4000000 in
theorem run_raw (n : Int) (ms : List Mov) (hl : ms.length ≤ 9223372036854775807) : TC Try.prog 5 [.imm (.int .i64 n),movs ms] []
    (fun v σ' => (runR n ms = (⟨[],[],[],[]⟩,1) ∧ v = .tup [.agg [nilA,nilA,nilA,nilA],.imm (.int .i64 1)]) ∨ (runR n ms = ((runR n ms).1,0) ∧ RunsTo (runR n ms).1 v σ')) := by
  (refine TC_of_T Γ_ok Try.func5 rfl (by kernel_rfl) ?_;simp only [Try.ntmps5,Try.results5,List.length_cons,List.length_nil,Nat.reduceSub,Nat.reduceAdd,List.replicate,List.cons_append,List.nil_append])
  (have cm1 := kinds_tc;((refine goR0 _ _ _ _ _ _ _ _ ?_ ?_ ?_ ?_ ?_ ?_ ?_ ?_) <;> (repeat intro hb) <;> first | exact True.intro | refine Lf.mk ?_))
  · left
    unfold runR
    rw [if_neg]
    rintro ⟨h1, h2, h3⟩
    omega
  have hb0 := hb
  refine T_loopW (fun q st=>∃ (i : Nat),i ≤ ms.length ∧ q = ms.length - i ∧ (∀ j : Nat,j < i → movB n (gM ms j) = true) ∧ st = ⟨[.imm (.int .i64 n),movs ms,.top,.top,.optr 0 0 0,.imm (.int .i64 0),.map 1] ++ List.replicate 20 .top ++ [movs ms,.imm (.int .i64 ms.length),.imm (.int .i64 i)] ++ List.replicate 54 .top,
    [.box 30 [nilA,nilA,nilA,nilA],.mp (.int .i64) kindE]⟩) ms.length ⟨_,?_,0,by omega,by omega,fun j hj => by omega,rfl⟩ ?_
  · ((try simp only [List.length_append,List.length_cons,List.length_nil,Nat.zero_add]);refine Wk.intro [0,1] (by decide) (by decide) (by intro o ho;simp at ho ⊢ <;> omega) ?_ ?_ <;> repeat' (first|(exact WkO.mpE rfl kindE_free)|exact WkVL.nil|refine WkVL.cons ?_ ?_|exact WkV.top|exact WkV.imm rfl|exact WkV.imm (by simp)|exact WkV.optr rfl|exact WkV.own rfl (by simp)|exact WkV.nil_own (.inl rfl)|exact WkV.map rfl|(refine WkV.free ?_;simp [Free,FreeL] <;> assumption)|(refine WkV.free (fun _ _=>FreeL_nth ?_ _);simp [Free,FreeL];done)|refine WkV.agg ?_|refine WkV.tup ?_|refine WkV.fn ?_ ?_|exact WkO.dead|exact WkO.raw|refine WkO.ghost ?_|exact WkO.mpE rfl trivial|refine WkO.box ?_ rfl|refine WkO.arr ?_|refine And.intro ?_ (And.intro (by first|exact fun h=>h|exact fun _=>rfl|exact nofun) ?_)|exact trivial|(intro i j hi hj)))
  rintro q st ⟨i, h1, h2, h3, rfl⟩
  by_cases hi : i < ms.length
  · have hkv := kind_val (gM ms i).k (.agg [.imm .nilFunc, .imm .nilFunc])
    have hkh := kind_has (gM ms i).k
    have hbad : movB n (gM ms i) = false → runR n ms = (⟨[], [], [], []⟩, 1) := fun h => by
      unfold runR
      rw [if_neg]
      rintro ⟨_, _, h4⟩
      have := List.all_eq_true.1 h4 _ (gM_mem hi)
      rw [h] at this
      cases this
    have hnext : movB n (gM ms i) = true → ∀ j : Nat, j < i + 1 → movB n (gM ms j) = true := fun h j hj => by
      by_cases e : j = i
      · rw [e]; exact h
      · exact h3 j (by omega)
    by_cases hk1 : (gM ms i).k = 1
    · rw [if_pos hk1] at hkv
      rw [show decide ((gM ms i).k = 1 ∨ (gM ms i).k = 2 ∨ (gM ms i).k = 3) = true by simp [hk1]] at hkh
      have hmb : movB n (gM ms i) = ((decide (1 ≤ (gM ms i).b) && decide ((gM ms i).b ≤ 1000000)) && (decide (0 ≤ (gM ms i).t) && decide ((gM ms i).t < n))) := by unfold movB balB;rw [if_pos (.inl hk1)]
      (simp only [go_sem,↓reduceIte,Nat.reduceAdd,Nat.reduceSub,Nat.reduceMul,Nat.reduceLT,Nat.reduceLeDiff,Nat.reduceEqDiff,Nat.reduceGT,Int.reduceToNat,Int.reduceBEq,Int.reduceBNe];try simp (disch := omega) only [wrapI,wrapU,half_sum,toNat_sub1,toNat_add1,Int.toNat_natCast])
      (have cl1 := fun u1=>isBallot_tc u1;have cl2 := fun u1 u2 u3 u4 u5 u6 u7 u8=>validTo_tc u1 u2 u3 u4 u5 u6 u7 u8;have sx1 := hkv;have sx2 := hkh;((have sx3 : (0 : Nat) + 0 = 0 := rfl;have sx4 : (0 : Nat) + 0 = 0 := rfl;have sx5 : (0 : Nat) + 0 = 0 := rfl;have sx6 : (0 : Nat) + 0 = 0 := rfl;have sx7 : (0 : Nat) + 0 = 0 := rfl;have sx8 : (0 : Nat) + 0 = 0 := rfl;have sx9 : (0 : Nat) + 0 = 0 := rfl;refine goR9 _ _ _ _ _ _ _ _ ?_ ?_ ?_ ?_ ?_ ?_ ?_ ?_) <;> (repeat intro hb) <;> first|exact True.intro|refine Lf.mk ?_))
      · left; refine hbad ?_; rw [hmb]; grind
      · refine ⟨ms.length - (i + 1), by omega, _, ?_, i + 1, by omega, by omega, hnext (by rw [hmb]; grind), rfl⟩
        ((try simp only [List.length_append,List.length_cons,List.length_nil,Nat.zero_add]);refine Wk.intro [0,1] (by decide) (by decide) (by intro o ho;simp at ho ⊢ <;> omega) ?_ ?_ <;> repeat' (first|(exact WkO.mpE rfl kindE_free)|exact WkVL.nil|refine WkVL.cons ?_ ?_|exact WkV.top|exact WkV.imm rfl|exact WkV.imm (by simp)|exact WkV.optr rfl|exact WkV.own rfl (by simp)|exact WkV.nil_own (.inl rfl)|exact WkV.map rfl|(refine WkV.free ?_;simp [Free,FreeL] <;> assumption)|(refine WkV.free (fun _ _=>FreeL_nth ?_ _);simp [Free,FreeL];done)|refine WkV.agg ?_|refine WkV.tup ?_|refine WkV.fn ?_ ?_|exact WkO.dead|exact WkO.raw|refine WkO.ghost ?_|exact WkO.mpE rfl trivial|refine WkO.box ?_ rfl|refine WkO.arr ?_|refine And.intro ?_ (And.intro (by first|exact fun h=>h|exact fun _=>rfl|exact nofun) ?_)|exact trivial|(intro i j hi hj)))
    by_cases hk2 : (gM ms i).k = 2
    · rw [if_neg hk1, if_pos hk2] at hkv
      rw [show decide ((gM ms i).k = 1 ∨ (gM ms i).k = 2 ∨ (gM ms i).k = 3) = true by simp [hk2]] at hkh
      have hmb : movB n (gM ms i) = ((decide (1 ≤ (gM ms i).b) && decide ((gM ms i).b ≤ 1000000)) && takeB (gM ms i).x.s (gM ms i).x.c (gM ms i).x.n (gM ms i).x.d) := by unfold movB balB Tk.ok;rw [if_neg (by omega),hk2];simp
      (simp only [go_sem,↓reduceIte,Nat.reduceAdd,Nat.reduceSub,Nat.reduceMul,Nat.reduceLT,Nat.reduceLeDiff,Nat.reduceEqDiff,Nat.reduceGT,Int.reduceToNat,Int.reduceBEq,Int.reduceBNe];try simp (disch := omega) only [wrapI,wrapU,half_sum,toNat_sub1,toNat_add1,Int.toNat_natCast])
      (have cl1 := fun u1=>isBallot_tc u1;have cl2 := fun u1 u2 u3 u4 u5 u6 u7 u8=>validVal_tc u1 u2 u3 u4 u5 u6 u7 u8;have sx1 := hkv;have sx2 := hkh;((have sx3 : (0 : Nat) + 0 = 0 := rfl;have sx4 : (0 : Nat) + 0 = 0 := rfl;have sx5 : (0 : Nat) + 0 = 0 := rfl;have sx6 : (0 : Nat) + 0 = 0 := rfl;have sx7 : (0 : Nat) + 0 = 0 := rfl;have sx8 : (0 : Nat) + 0 = 0 := rfl;have sx9 : (0 : Nat) + 0 = 0 := rfl;refine goR9 _ _ _ _ _ _ _ _ ?_ ?_ ?_ ?_ ?_ ?_ ?_ ?_) <;> (repeat intro hb) <;> first|exact True.intro|refine Lf.mk ?_))
      · left; refine hbad ?_; rw [hmb]; grind
      · refine ⟨ms.length - (i + 1), by omega, _, ?_, i + 1, by omega, by omega, hnext (by rw [hmb]; grind), rfl⟩
        ((try simp only [List.length_append,List.length_cons,List.length_nil,Nat.zero_add]);refine Wk.intro [0,1] (by decide) (by decide) (by intro o ho;simp at ho ⊢ <;> omega) ?_ ?_ <;> repeat' (first|(exact WkO.mpE rfl kindE_free)|exact WkVL.nil|refine WkVL.cons ?_ ?_|exact WkV.top|exact WkV.imm rfl|exact WkV.imm (by simp)|exact WkV.optr rfl|exact WkV.own rfl (by simp)|exact WkV.nil_own (.inl rfl)|exact WkV.map rfl|(refine WkV.free ?_;simp [Free,FreeL] <;> assumption)|(refine WkV.free (fun _ _=>FreeL_nth ?_ _);simp [Free,FreeL];done)|refine WkV.agg ?_|refine WkV.tup ?_|refine WkV.fn ?_ ?_|exact WkO.dead|exact WkO.raw|refine WkO.ghost ?_|exact WkO.mpE rfl trivial|refine WkO.box ?_ rfl|refine WkO.arr ?_|refine And.intro ?_ (And.intro (by first|exact fun h=>h|exact fun _=>rfl|exact nofun) ?_)|exact trivial|(intro i j hi hj)))
    by_cases hk3 : (gM ms i).k = 3
    · rw [if_neg hk1, if_neg hk2, if_pos hk3] at hkv
      rw [show decide ((gM ms i).k = 1 ∨ (gM ms i).k = 2 ∨ (gM ms i).k = 3) = true by simp [hk3]] at hkh
      have hmb : movB n (gM ms i) = ((decide (1 ≤ (gM ms i).b) && decide ((gM ms i).b ≤ 1000000)) && (decide (0 ≤ (gM ms i).t) && decide ((gM ms i).t < n))) := by unfold movB balB;rw [if_pos (.inr hk3)]
      (simp only [go_sem,↓reduceIte,Nat.reduceAdd,Nat.reduceSub,Nat.reduceMul,Nat.reduceLT,Nat.reduceLeDiff,Nat.reduceEqDiff,Nat.reduceGT,Int.reduceToNat,Int.reduceBEq,Int.reduceBNe];try simp (disch := omega) only [wrapI,wrapU,half_sum,toNat_sub1,toNat_add1,Int.toNat_natCast])
      (have cl1 := fun u1=>isBallot_tc u1;have cl2 := fun u1 u2 u3 u4 u5 u6 u7 u8=>validTo_tc u1 u2 u3 u4 u5 u6 u7 u8;have sx1 := hkv;have sx2 := hkh;((have sx3 : (0 : Nat) + 0 = 0 := rfl;have sx4 : (0 : Nat) + 0 = 0 := rfl;have sx5 : (0 : Nat) + 0 = 0 := rfl;have sx6 : (0 : Nat) + 0 = 0 := rfl;have sx7 : (0 : Nat) + 0 = 0 := rfl;have sx8 : (0 : Nat) + 0 = 0 := rfl;have sx9 : (0 : Nat) + 0 = 0 := rfl;refine goR9 _ _ _ _ _ _ _ _ ?_ ?_ ?_ ?_ ?_ ?_ ?_ ?_) <;> (repeat intro hb) <;> first|exact True.intro|refine Lf.mk ?_))
      · left; refine hbad ?_; rw [hmb]; grind
      · refine ⟨ms.length - (i + 1), by omega, _, ?_, i + 1, by omega, by omega, hnext (by rw [hmb]; grind), rfl⟩
        ((try simp only [List.length_append,List.length_cons,List.length_nil,Nat.zero_add]);refine Wk.intro [0,1] (by decide) (by decide) (by intro o ho;simp at ho ⊢ <;> omega) ?_ ?_ <;> repeat' (first|(exact WkO.mpE rfl kindE_free)|exact WkVL.nil|refine WkVL.cons ?_ ?_|exact WkV.top|exact WkV.imm rfl|exact WkV.imm (by simp)|exact WkV.optr rfl|exact WkV.own rfl (by simp)|exact WkV.nil_own (.inl rfl)|exact WkV.map rfl|(refine WkV.free ?_;simp [Free,FreeL] <;> assumption)|(refine WkV.free (fun _ _=>FreeL_nth ?_ _);simp [Free,FreeL];done)|refine WkV.agg ?_|refine WkV.tup ?_|refine WkV.fn ?_ ?_|exact WkO.dead|exact WkO.raw|refine WkO.ghost ?_|exact WkO.mpE rfl trivial|refine WkO.box ?_ rfl|refine WkO.arr ?_|refine And.intro ?_ (And.intro (by first|exact fun h=>h|exact fun _=>rfl|exact nofun) ?_)|exact trivial|(intro i j hi hj)))
    · rw [if_neg hk1, if_neg hk2, if_neg hk3] at hkv
      rw [show decide ((gM ms i).k = 1 ∨ (gM ms i).k = 2 ∨ (gM ms i).k = 3) = false by simp [hk1, hk2, hk3]] at hkh
      have hmb : movB n (gM ms i) = false := by unfold movB; rw [if_neg (by omega)]; simp [hk2]
      (simp only [go_sem,↓reduceIte,Nat.reduceAdd,Nat.reduceSub,Nat.reduceMul,Nat.reduceLT,Nat.reduceLeDiff,Nat.reduceEqDiff,Nat.reduceGT,Int.reduceToNat,Int.reduceBEq,Int.reduceBNe];try simp (disch := omega) only [wrapI,wrapU,half_sum,toNat_sub1,toNat_add1,Int.toNat_natCast])
      repeat' (first
    | (with_reducible refine hK _ ?_; clear hK K)
    | (with_reducible refine gC_skip (.imm (.bool false)) ?_)
    | ((with_reducible apply DC_call);(focus exact rfl);(focus exact rfl);(focus exact rfl);intro N hN;(simp only [go_sem,hkv,hkh,↓reduceIte,Nat.reduceAdd,Nat.reduceSub,Nat.reduceMul,Nat.reduceLT,Nat.reduceLeDiff,Nat.reduceEqDiff,Nat.reduceGT,Int.reduceToNat,Int.reduceBEq,Int.reduceBNe];try simp (disch := omega) only [wrapI,wrapU,half_sum,toNat_sub1,toNat_add1,Int.toNat_natCast]))
    | ((with_reducible first|refine T_seq_region Γ_ok (fun K hK=>?_)|refine T_last_region Γ_ok (fun K hK=>?_)|refine TO_callN rfl (fun N hN=>?_)|refine DCT_fork Γ_ok (fun K2 hK2=>?_)|refine DCT_last Γ_ok ?_|refine DC_ev Γ_ok ?_|refine TO_ev Γ_ok ?_|refine retQ_r ?_|refine retQ_n ?_);(simp only [go_sem,hkv,hkh,↓reduceIte,Nat.reduceAdd,Nat.reduceSub,Nat.reduceMul,Nat.reduceLT,Nat.reduceLeDiff,Nat.reduceEqDiff,Nat.reduceGT,Int.reduceToNat,Int.reduceBEq,Int.reduceBNe];try simp (disch := omega) only [wrapI,wrapU,half_sum,toNat_sub1,toNat_add1,Int.toNat_natCast]))
    | (with_reducible refine hK2 _ ?_ ?_ <;> clear hK2 K2)
    | with_reducible refine gC_false ?_ | with_reducible refine gC_true ?_ | with_reducible refine dCall_true ?_
    | (with_reducible refine hN _ _ ?_; clear hN N)
    | (with_reducible refine hN _ _ (dInl rfl) ?_; clear hN N)
    | ((with_reducible refine hN _ _ (.inr ?_) ?_);(focus (simp only [go_sem,hkv,hkh,↓reduceIte,Nat.reduceAdd,Nat.reduceSub,Nat.reduceMul,Nat.reduceLT,Nat.reduceLeDiff,Nat.reduceEqDiff,Nat.reduceGT,Int.reduceToNat,Int.reduceBEq,Int.reduceBNe];try simp (disch := omega) only [wrapI,wrapU,half_sum,toNat_sub1,toNat_add1,Int.toNat_natCast]));all_goals (try clear hN N))
    | with_reducible refine T_seq ?_|with_reducible refine T_block ?_|with_reducible refine T_ret ?_|with_reducible refine T_exit ?_|with_reducible refine T_skip ?_|with_reducible refine T_label ?_
    | with_reducible refine thenQ_n ?_|with_reducible refine thenQ_e ?_|with_reducible refine thenQ_r ?_|with_reducible refine blockQ_n ?_|with_reducible refine blockQ_e ?_|with_reducible refine blockQ_r ?_
    | with_reducible refine blockQ_o (by decide) ?_
    | ((with_reducible refine T_cond _ rfl (fun hb=>?_) (fun hb=>?_)) <;> first|(cases hb;done)|(simp only [decide_eq_true_eq,decide_eq_false_iff_not,Bool.and_eq_true,Bool.or_eq_true,Bool.and_eq_false_imp,Bool.or_eq_false_iff,Bool.not_eq_true',Bool.not_eq_false',beq_iff_eq,bne_iff_ne,ne_eq,beq_eq_false_iff_ne,bne_eq_false_iff_eq,Int.not_lt,Int.not_le,ge_iff_le,gt_iff_lt] at hb)|skip)
    | (with_reducible refine And.intro (by first | exact trivial | omega | (intro hg;simp at hg ⊢ <;> omega) | (simp <;> omega)) ?_)
    | assumption | omega)
      left; exact hbad hmb
  have hall : ∀ m ∈ ms, movB n m = true := fun m hm => by
    obtain ⟨j, hj, rfl⟩ := mem_gM.1 hm
    exact h3 j (by omega)
  (simp only [go_sem,↓reduceIte,Nat.reduceAdd,Nat.reduceSub,Nat.reduceMul,Nat.reduceLT,Nat.reduceLeDiff,Nat.reduceEqDiff,Nat.reduceGT,Int.reduceToNat,Int.reduceBEq,Int.reduceBNe];try simp (disch := omega) only [wrapI,wrapU,half_sum,toNat_sub1,toNat_add1,Int.toNat_natCast])
  (((refine goR0 _ _ _ _ _ _ _ _ ?_ ?_ ?_ ?_ ?_ ?_ ?_ ?_) <;> (repeat intro hb) <;> first | exact True.intro | refine Lf.mk ?_))
  refine T_loopW (fun q st=>∃ (i : Nat),i ≤ ms.length ∧ q = ms.length - i ∧ st = ⟨[.imm (.int .i64 n),movs ms,.top,.top,.optr 0 0 0,.imm (.int .i64 0),.map 1,.top,.top,.top,.top,.optr 2 0 0] ++ List.replicate 53 .top ++ [movs ms,.imm (.int .i64 ms.length),.imm (.int .i64 i)] ++ List.replicate 16 .top,
    rObj8 n (foldR n (ms.take i))⟩) ms.length ⟨_,Wk.trans (Wk.push 122 7 (proE [])) (Wk.trans (Wk.push 40 5 (staE [])) (Wk.trans (Wk.push 45 6 (votE [])) ?_)),0,by omega,by omega,rfl⟩ ?_
  · have e1 : (foldR n (ms.take 0)).acc = List.replicate n.toNat ⟨0, 0, tk0⟩ := rfl
    have e2 : (foldR n (ms.take 0)).pro = [] := rfl
    have e3 : (foldR n (ms.take 0)).sta = [] := rfl
    have e4 : (foldR n (ms.take 0)).vot = [] := rfl
    simp only [rObj8, e1, e2, e3, e4, List.length_replicate, List.length_nil]
    ((try simp only [List.length_append,List.length_cons,List.length_nil,Nat.zero_add]);refine Wk.intro [0,1,4,2,5,6,7,3] (by decide) (by decide) (by intro o ho;simp at ho ⊢ <;> omega) ?_ ?_ <;> repeat' (first|(exact WkO.mpE rfl kindE_free)|(exact WkO.mpE rfl trivial)|(exact WkV.eqF (acc_zero (by assumption) (by assumption)) (accE_free _ _ _))|exact WkVL.nil|refine WkVL.cons ?_ ?_|exact WkV.top|exact WkV.imm rfl|exact WkV.imm (by simp)|exact WkV.optr rfl|exact WkV.own rfl (by simp)|exact WkV.nil_own (.inl rfl)|exact WkV.map rfl|(refine WkV.free ?_;simp [Free,FreeL] <;> assumption)|(refine WkV.free (fun _ _=>FreeL_nth ?_ _);simp [Free,FreeL];done)|refine WkV.agg ?_|refine WkV.tup ?_|refine WkV.fn ?_ ?_|exact WkO.dead|exact WkO.raw|refine WkO.ghost ?_|exact WkO.mpE rfl trivial|refine WkO.box ?_ rfl|refine WkO.arr ?_|refine And.intro ?_ (And.intro (by first|exact fun h=>h|exact fun _=>rfl|exact nofun) ?_)|exact trivial|(intro i j hi hj)))
  rintro q st ⟨i, h4, h5, rfl⟩
  obtain ⟨hl1, hl2, hl3⟩ := foldR_len n (ms.take i)
  have hlt : (ms.take i).length ≤ ms.length := by simp; omega
  have hI : Inv n (foldR n (ms.take i)) := Inv.run fun m hm => hall m (List.mem_of_mem_take hm)
  have hIl := hI.len
  by_cases hi : i < ms.length
  · have hm := hall _ (gM_mem hi)
    have hkv := kind_val (gM ms i).k (.agg [.imm .nilFunc, .imm .nilFunc])
    by_cases hk1 : (gM ms i).k = 1
    · rw [if_pos hk1] at hkv
      have hs : foldR n (ms.take (i + 1)) = prepS (foldR n (ms.take i)) (gM ms i) := by rw [gM_take hi,foldR_snoc];unfold stepR;simp [hk1]
      (simp only [go_sem,↓reduceIte,Nat.reduceAdd,Nat.reduceSub,Nat.reduceMul,Nat.reduceLT,Nat.reduceLeDiff,Nat.reduceEqDiff,Nat.reduceGT,Int.reduceToNat,Int.reduceBEq,Int.reduceBNe];try simp (disch := omega) only [wrapI,wrapU,half_sum,toNat_sub1,toNat_add1,Int.toNat_natCast])
      repeat' (first
    | (with_reducible refine hK _ ?_; clear hK K)
    | ((refine callGoal_mk ?_ (prepare_run n (foldR n (ms.take i)) (gM ms i) (movB_to hm hk1).1 (by have := (movB_to hm hk1).2;omega) (by omega)) ?_);(focus (exact trivial));(rintro _ _ ⟨rfl,hq⟩;rcases hq with ⟨h0,rfl⟩|rfl))
    | ((with_reducible apply DC_call);(focus exact rfl);(focus exact rfl);(focus exact rfl);intro N hN;(simp only [go_sem,hkv,↓reduceIte,Nat.reduceAdd,Nat.reduceSub,Nat.reduceMul,Nat.reduceLT,Nat.reduceLeDiff,Nat.reduceEqDiff,Nat.reduceGT,Int.reduceToNat,Int.reduceBEq,Int.reduceBNe];try simp (disch := omega) only [wrapI,wrapU,half_sum,toNat_sub1,toNat_add1,Int.toNat_natCast]))
    | ((with_reducible first|refine T_seq_region Γ_ok (fun K hK=>?_)|refine T_last_region Γ_ok (fun K hK=>?_)|refine TO_callN rfl (fun N hN=>?_)|refine DCT_fork Γ_ok (fun K2 hK2=>?_)|refine DCT_last Γ_ok ?_|refine DC_ev Γ_ok ?_|refine TO_ev Γ_ok ?_|refine retQ_r ?_|refine retQ_n ?_);(simp only [go_sem,hkv,↓reduceIte,Nat.reduceAdd,Nat.reduceSub,Nat.reduceMul,Nat.reduceLT,Nat.reduceLeDiff,Nat.reduceEqDiff,Nat.reduceGT,Int.reduceToNat,Int.reduceBEq,Int.reduceBNe];try simp (disch := omega) only [wrapI,wrapU,half_sum,toNat_sub1,toNat_add1,Int.toNat_natCast]))
    | (with_reducible refine hK2 _ ?_ ?_ <;> clear hK2 K2)
    | with_reducible refine gC_false ?_ | with_reducible refine gC_true ?_ | with_reducible refine dCall_true ?_
    | (with_reducible refine hN _ _ ?_; clear hN N)
    | (with_reducible refine hN _ _ (dInl rfl) ?_; clear hN N)
    | ((with_reducible refine hN _ _ (.inr ?_) ?_);(focus (simp only [go_sem,hkv,↓reduceIte,Nat.reduceAdd,Nat.reduceSub,Nat.reduceMul,Nat.reduceLT,Nat.reduceLeDiff,Nat.reduceEqDiff,Nat.reduceGT,Int.reduceToNat,Int.reduceBEq,Int.reduceBNe];try simp (disch := omega) only [wrapI,wrapU,half_sum,toNat_sub1,toNat_add1,Int.toNat_natCast]));all_goals (try clear hN N))
    | with_reducible refine T_seq ?_|with_reducible refine T_block ?_|with_reducible refine T_ret ?_|with_reducible refine T_exit ?_|with_reducible refine T_skip ?_|with_reducible refine T_label ?_
    | with_reducible refine thenQ_n ?_|with_reducible refine thenQ_e ?_|with_reducible refine thenQ_r ?_|with_reducible refine blockQ_n ?_|with_reducible refine blockQ_e ?_|with_reducible refine blockQ_r ?_
    | with_reducible refine blockQ_o (by decide) ?_
    | ((with_reducible refine T_cond _ rfl (fun hb=>?_) (fun hb=>?_)) <;> first|(cases hb;done)|(simp only [decide_eq_true_eq,decide_eq_false_iff_not,Bool.and_eq_true,Bool.or_eq_true,Bool.and_eq_false_imp,Bool.or_eq_false_iff,Bool.not_eq_true',Bool.not_eq_false',beq_iff_eq,bne_iff_ne,ne_eq,beq_eq_false_iff_ne,bne_eq_false_iff_eq,Int.not_lt,Int.not_le,ge_iff_le,gt_iff_lt] at hb)|skip)
    | (with_reducible refine And.intro (by first | exact trivial | omega | (intro hg;simp at hg ⊢ <;> omega) | (simp <;> omega)) ?_)
    | assumption | omega)
      · refine ⟨ms.length - (i + 1), by omega, _, ?_, i + 1, by omega, by omega, rfl⟩
        rw [hs, h0]
        ((try simp only [List.length_append,List.length_cons,List.length_nil,Nat.zero_add]);refine Wk.intro [0,1,2,3,4,5,6,7] (by decide) (by decide) (by intro o ho;simp at ho ⊢ <;> omega) ?_ ?_ <;> repeat' (first|(exact WkO.mpE rfl kindE_free)|(exact WkO.mpE rfl (valE_free _))|exact WkVL.nil|refine WkVL.cons ?_ ?_|exact WkV.top|exact WkV.imm rfl|exact WkV.imm (by simp)|exact WkV.optr rfl|exact WkV.own rfl (by simp)|exact WkV.nil_own (.inl rfl)|exact WkV.map rfl|(refine WkV.free ?_;simp [Free,FreeL] <;> assumption)|(refine WkV.free (fun _ _=>FreeL_nth ?_ _);simp [Free,FreeL];done)|refine WkV.agg ?_|refine WkV.tup ?_|refine WkV.fn ?_ ?_|exact WkO.dead|exact WkO.raw|refine WkO.ghost ?_|exact WkO.mpE rfl trivial|refine WkO.box ?_ rfl|refine WkO.arr ?_|refine And.intro ?_ (And.intro (by first|exact fun h=>h|exact fun _=>rfl|exact nofun) ?_)|exact trivial|(intro i j hi hj)))
      · refine ⟨ms.length - (i + 1), by omega, _, ?_, i + 1, by omega, by omega, rfl⟩
        rw [hs]
        ((try simp only [List.length_append,List.length_cons,List.length_nil,Nat.zero_add]);refine Wk.intro [0,1,2,3,9,5,6,7] (by decide) (by decide) (by intro o ho;simp at ho ⊢ <;> omega) ?_ ?_ <;> repeat' (first|(exact WkO.mpE rfl kindE_free)|(exact WkO.mpE rfl (valE_free _))|exact WkVL.nil|refine WkVL.cons ?_ ?_|exact WkV.top|exact WkV.imm rfl|exact WkV.imm (by simp)|exact WkV.optr rfl|exact WkV.own rfl (by simp)|exact WkV.nil_own (.inl rfl)|exact WkV.map rfl|(refine WkV.free ?_;simp [Free,FreeL] <;> assumption)|(refine WkV.free (fun _ _=>FreeL_nth ?_ _);simp [Free,FreeL];done)|refine WkV.agg ?_|refine WkV.tup ?_|refine WkV.fn ?_ ?_|exact WkO.dead|exact WkO.raw|refine WkO.ghost ?_|exact WkO.mpE rfl trivial|refine WkO.box ?_ rfl|refine WkO.arr ?_|refine And.intro ?_ (And.intro (by first|exact fun h=>h|exact fun _=>rfl|exact nofun) ?_)|exact trivial|(intro i j hi hj)))
    by_cases hk2 : (gM ms i).k = 2
    · rw [if_neg hk1, if_pos hk2] at hkv
      have hs : foldR n (ms.take (i + 1)) = startS n (foldR n (ms.take i)) (gM ms i) := by rw [gM_take hi,foldR_snoc];unfold stepR;simp [hk1,hk2]
      (simp only [go_sem,↓reduceIte,Nat.reduceAdd,Nat.reduceSub,Nat.reduceMul,Nat.reduceLT,Nat.reduceLeDiff,Nat.reduceEqDiff,Nat.reduceGT,Int.reduceToNat,Int.reduceBEq,Int.reduceBNe];try simp (disch := omega) only [wrapI,wrapU,half_sum,toNat_sub1,toNat_add1,Int.toNat_natCast])
      repeat' (first
    | (with_reducible refine hK _ ?_; clear hK K)
    | ((refine callGoal_mk ?_ (start_run n (foldR n (ms.take i)) (gM ms i) (by omega) (by omega)) ?_);(focus (exact trivial));(rintro _ _ ⟨rfl,hq⟩;rcases hq with ⟨h0,rfl⟩ | rfl))
    | ((with_reducible apply DC_call);(focus exact rfl);(focus exact rfl);(focus exact rfl);intro N hN;(simp only [go_sem,hkv,↓reduceIte,Nat.reduceAdd,Nat.reduceSub,Nat.reduceMul,Nat.reduceLT,Nat.reduceLeDiff,Nat.reduceEqDiff,Nat.reduceGT,Int.reduceToNat,Int.reduceBEq,Int.reduceBNe];try simp (disch := omega) only [wrapI,wrapU,half_sum,toNat_sub1,toNat_add1,Int.toNat_natCast]))
    | ((with_reducible first|refine T_seq_region Γ_ok (fun K hK=>?_)|refine T_last_region Γ_ok (fun K hK=>?_)|refine TO_callN rfl (fun N hN=>?_)|refine DCT_fork Γ_ok (fun K2 hK2=>?_)|refine DCT_last Γ_ok ?_|refine DC_ev Γ_ok ?_|refine TO_ev Γ_ok ?_|refine retQ_r ?_|refine retQ_n ?_);(simp only [go_sem,hkv,↓reduceIte,Nat.reduceAdd,Nat.reduceSub,Nat.reduceMul,Nat.reduceLT,Nat.reduceLeDiff,Nat.reduceEqDiff,Nat.reduceGT,Int.reduceToNat,Int.reduceBEq,Int.reduceBNe];try simp (disch := omega) only [wrapI,wrapU,half_sum,toNat_sub1,toNat_add1,Int.toNat_natCast]))
    | (with_reducible refine hK2 _ ?_ ?_ <;> clear hK2 K2)
    | with_reducible refine gC_false ?_ | with_reducible refine gC_true ?_ | with_reducible refine dCall_true ?_
    | (with_reducible refine hN _ _ ?_; clear hN N)
    | (with_reducible refine hN _ _ (dInl rfl) ?_; clear hN N)
    | ((with_reducible refine hN _ _ (.inr ?_) ?_);(focus (simp only [go_sem,hkv,↓reduceIte,Nat.reduceAdd,Nat.reduceSub,Nat.reduceMul,Nat.reduceLT,Nat.reduceLeDiff,Nat.reduceEqDiff,Nat.reduceGT,Int.reduceToNat,Int.reduceBEq,Int.reduceBNe];try simp (disch := omega) only [wrapI,wrapU,half_sum,toNat_sub1,toNat_add1,Int.toNat_natCast]));all_goals (try clear hN N))
    | with_reducible refine T_seq ?_|with_reducible refine T_block ?_|with_reducible refine T_ret ?_|with_reducible refine T_exit ?_|with_reducible refine T_skip ?_|with_reducible refine T_label ?_
    | with_reducible refine thenQ_n ?_|with_reducible refine thenQ_e ?_|with_reducible refine thenQ_r ?_|with_reducible refine blockQ_n ?_|with_reducible refine blockQ_e ?_|with_reducible refine blockQ_r ?_
    | with_reducible refine blockQ_o (by decide) ?_
    | ((with_reducible refine T_cond _ rfl (fun hb=>?_) (fun hb=>?_)) <;> first|(cases hb;done)|(simp only [decide_eq_true_eq,decide_eq_false_iff_not,Bool.and_eq_true,Bool.or_eq_true,Bool.and_eq_false_imp,Bool.or_eq_false_iff,Bool.not_eq_true',Bool.not_eq_false',beq_iff_eq,bne_iff_ne,ne_eq,beq_eq_false_iff_ne,bne_eq_false_iff_eq,Int.not_lt,Int.not_le,ge_iff_le,gt_iff_lt] at hb)|skip)
    | (with_reducible refine And.intro (by first | exact trivial | omega | (intro hg;simp at hg ⊢ <;> omega) | (simp <;> omega)) ?_)
    | assumption | omega)
      · refine ⟨ms.length - (i + 1), by omega, _, ?_, i + 1, by omega, by omega, rfl⟩
        rw [hs, h0]
        ((try simp only [List.length_append,List.length_cons,List.length_nil,Nat.zero_add]);refine Wk.intro [0,1,2,3,4,5,6,7] (by decide) (by decide) (by intro o ho;simp at ho ⊢ <;> omega) ?_ ?_ <;> repeat' (first|(exact WkO.mpE rfl kindE_free)|(exact WkO.mpE rfl (valE_free _))|exact WkVL.nil|refine WkVL.cons ?_ ?_|exact WkV.top|exact WkV.imm rfl|exact WkV.imm (by simp)|exact WkV.optr rfl|exact WkV.own rfl (by simp)|exact WkV.nil_own (.inl rfl)|exact WkV.map rfl|(refine WkV.free ?_;simp [Free,FreeL] <;> assumption)|(refine WkV.free (fun _ _=>FreeL_nth ?_ _);simp [Free,FreeL];done)|refine WkV.agg ?_|refine WkV.tup ?_|refine WkV.fn ?_ ?_|exact WkO.dead|exact WkO.raw|refine WkO.ghost ?_|exact WkO.mpE rfl trivial|refine WkO.box ?_ rfl|refine WkO.arr ?_|refine And.intro ?_ (And.intro (by first|exact fun h=>h|exact fun _=>rfl|exact nofun) ?_)|exact trivial|(intro i j hi hj)))
      · refine ⟨ms.length - (i + 1), by omega, _, ?_, i + 1, by omega, by omega, rfl⟩
        rw [hs]
        ((try simp only [List.length_append,List.length_cons,List.length_nil,Nat.zero_add]);refine Wk.intro [0,1,2,3,4,9,6,7] (by decide) (by decide) (by intro o ho;simp at ho ⊢ <;> omega) ?_ ?_ <;> repeat' (first|(exact WkO.mpE rfl kindE_free)|(exact WkO.mpE rfl (valE_free _))|exact WkVL.nil|refine WkVL.cons ?_ ?_|exact WkV.top|exact WkV.imm rfl|exact WkV.imm (by simp)|exact WkV.optr rfl|exact WkV.own rfl (by simp)|exact WkV.nil_own (.inl rfl)|exact WkV.map rfl|(refine WkV.free ?_;simp [Free,FreeL] <;> assumption)|(refine WkV.free (fun _ _=>FreeL_nth ?_ _);simp [Free,FreeL];done)|refine WkV.agg ?_|refine WkV.tup ?_|refine WkV.fn ?_ ?_|exact WkO.dead|exact WkO.raw|refine WkO.ghost ?_|exact WkO.mpE rfl trivial|refine WkO.box ?_ rfl|refine WkO.arr ?_|refine And.intro ?_ (And.intro (by first|exact fun h=>h|exact fun _=>rfl|exact nofun) ?_)|exact trivial|(intro i j hi hj)))
    have hk3 := (movB_k hm hk1 hk2).1
    · rw [if_neg hk1, if_neg hk2, if_pos hk3] at hkv
      have hs : foldR n (ms.take (i + 1)) = accS (foldR n (ms.take i)) (gM ms i) := by rw [gM_take hi,foldR_snoc];unfold stepR;simp [hk1,hk2,hk3]
      (simp only [go_sem,↓reduceIte,Nat.reduceAdd,Nat.reduceSub,Nat.reduceMul,Nat.reduceLT,Nat.reduceLeDiff,Nat.reduceEqDiff,Nat.reduceGT,Int.reduceToNat,Int.reduceBEq,Int.reduceBNe];try simp (disch := omega) only [wrapI,wrapU,half_sum,toNat_sub1,toNat_add1,Int.toNat_natCast])
      repeat' (first
    | (with_reducible refine hK _ ?_; clear hK K)
    | ((refine callGoal_mk ?_ (accept_run n (foldR n (ms.take i)) (gM ms i) (movB_k hm hk1 hk2).2.1 (by have := (movB_k hm hk1 hk2).2.2;omega) (by omega)) ?_);(focus (exact trivial));(rintro _ _ ⟨rfl,hq⟩;rcases hq with ⟨h0,rfl⟩|rfl))
    | ((with_reducible apply DC_call);(focus exact rfl);(focus exact rfl);(focus exact rfl);intro N hN;(simp only [go_sem,hkv,↓reduceIte,Nat.reduceAdd,Nat.reduceSub,Nat.reduceMul,Nat.reduceLT,Nat.reduceLeDiff,Nat.reduceEqDiff,Nat.reduceGT,Int.reduceToNat,Int.reduceBEq,Int.reduceBNe];try simp (disch := omega) only [wrapI,wrapU,half_sum,toNat_sub1,toNat_add1,Int.toNat_natCast]))
    | ((with_reducible first|refine T_seq_region Γ_ok (fun K hK=>?_)|refine T_last_region Γ_ok (fun K hK=>?_)|refine TO_callN rfl (fun N hN=>?_)|refine DCT_fork Γ_ok (fun K2 hK2=>?_)|refine DCT_last Γ_ok ?_|refine DC_ev Γ_ok ?_|refine TO_ev Γ_ok ?_|refine retQ_r ?_|refine retQ_n ?_);(simp only [go_sem,hkv,↓reduceIte,Nat.reduceAdd,Nat.reduceSub,Nat.reduceMul,Nat.reduceLT,Nat.reduceLeDiff,Nat.reduceEqDiff,Nat.reduceGT,Int.reduceToNat,Int.reduceBEq,Int.reduceBNe];try simp (disch := omega) only [wrapI,wrapU,half_sum,toNat_sub1,toNat_add1,Int.toNat_natCast]))
    | (with_reducible refine hK2 _ ?_ ?_ <;> clear hK2 K2)
    | with_reducible refine gC_false ?_ | with_reducible refine gC_true ?_ | with_reducible refine dCall_true ?_
    | (with_reducible refine hN _ _ ?_; clear hN N)
    | (with_reducible refine hN _ _ (dInl rfl) ?_; clear hN N)
    | ((with_reducible refine hN _ _ (.inr ?_) ?_);(focus (simp only [go_sem,hkv,↓reduceIte,Nat.reduceAdd,Nat.reduceSub,Nat.reduceMul,Nat.reduceLT,Nat.reduceLeDiff,Nat.reduceEqDiff,Nat.reduceGT,Int.reduceToNat,Int.reduceBEq,Int.reduceBNe];try simp (disch := omega) only [wrapI,wrapU,half_sum,toNat_sub1,toNat_add1,Int.toNat_natCast]));all_goals (try clear hN N))
    | with_reducible refine T_seq ?_|with_reducible refine T_block ?_|with_reducible refine T_ret ?_|with_reducible refine T_exit ?_|with_reducible refine T_skip ?_|with_reducible refine T_label ?_
    | with_reducible refine thenQ_n ?_|with_reducible refine thenQ_e ?_|with_reducible refine thenQ_r ?_|with_reducible refine blockQ_n ?_|with_reducible refine blockQ_e ?_|with_reducible refine blockQ_r ?_
    | with_reducible refine blockQ_o (by decide) ?_
    | ((with_reducible refine T_cond _ rfl (fun hb=>?_) (fun hb=>?_)) <;> first|(cases hb;done)|(simp only [decide_eq_true_eq,decide_eq_false_iff_not,Bool.and_eq_true,Bool.or_eq_true,Bool.and_eq_false_imp,Bool.or_eq_false_iff,Bool.not_eq_true',Bool.not_eq_false',beq_iff_eq,bne_iff_ne,ne_eq,beq_eq_false_iff_ne,bne_eq_false_iff_eq,Int.not_lt,Int.not_le,ge_iff_le,gt_iff_lt] at hb)|skip)
    | (with_reducible refine And.intro (by first | exact trivial | omega | (intro hg;simp at hg ⊢ <;> omega) | (simp <;> omega)) ?_)
    | assumption | omega)
      · refine ⟨ms.length - (i + 1), by omega, _, ?_, i + 1, by omega, by omega, rfl⟩
        rw [hs, h0]
        ((try simp only [List.length_append,List.length_cons,List.length_nil,Nat.zero_add]);refine Wk.intro [0,1,2,3,4,5,6,7] (by decide) (by decide) (by intro o ho;simp at ho ⊢ <;> omega) ?_ ?_ <;> repeat' (first|(exact WkO.mpE rfl kindE_free)|(exact WkO.mpE rfl (valE_free _))|exact WkVL.nil|refine WkVL.cons ?_ ?_|exact WkV.top|exact WkV.imm rfl|exact WkV.imm (by simp)|exact WkV.optr rfl|exact WkV.own rfl (by simp)|exact WkV.nil_own (.inl rfl)|exact WkV.map rfl|(refine WkV.free ?_;simp [Free,FreeL] <;> assumption)|(refine WkV.free (fun _ _=>FreeL_nth ?_ _);simp [Free,FreeL];done)|refine WkV.agg ?_|refine WkV.tup ?_|refine WkV.fn ?_ ?_|exact WkO.dead|exact WkO.raw|refine WkO.ghost ?_|exact WkO.mpE rfl trivial|refine WkO.box ?_ rfl|refine WkO.arr ?_|refine And.intro ?_ (And.intro (by first|exact fun h=>h|exact fun _=>rfl|exact nofun) ?_)|exact trivial|(intro i j hi hj)))
      · refine ⟨ms.length - (i + 1), by omega, _, ?_, i + 1, by omega, by omega, rfl⟩
        rw [hs]
        ((try simp only [List.length_append,List.length_cons,List.length_nil,Nat.zero_add]);refine Wk.intro [0,1,2,3,4,5,9,7] (by decide) (by decide) (by intro o ho;simp at ho ⊢ <;> omega) ?_ ?_ <;> repeat' (first|(exact WkO.mpE rfl kindE_free)|(exact WkO.mpE rfl (valE_free _))|exact WkVL.nil|refine WkVL.cons ?_ ?_|exact WkV.top|exact WkV.imm rfl|exact WkV.imm (by simp)|exact WkV.optr rfl|exact WkV.own rfl (by simp)|exact WkV.nil_own (.inl rfl)|exact WkV.map rfl|(refine WkV.free ?_;simp [Free,FreeL] <;> assumption)|(refine WkV.free (fun _ _=>FreeL_nth ?_ _);simp [Free,FreeL];done)|refine WkV.agg ?_|refine WkV.tup ?_|refine WkV.fn ?_ ?_|exact WkO.dead|exact WkO.raw|refine WkO.ghost ?_|exact WkO.mpE rfl trivial|refine WkO.box ?_ rfl|refine WkO.arr ?_|refine And.intro ?_ (And.intro (by first|exact fun h=>h|exact fun _=>rfl|exact nofun) ?_)|exact trivial|(intro i j hi hj)))
  obtain rfl : i = ms.length := by omega
  rw [List.take_length]
  (simp only [go_sem,↓reduceIte,Nat.reduceAdd,Nat.reduceSub,Nat.reduceMul,Nat.reduceLT,Nat.reduceLeDiff,Nat.reduceEqDiff,Nat.reduceGT,Int.reduceToNat,Int.reduceBEq,Int.reduceBNe];try simp (disch := omega) only [wrapI,wrapU,half_sum,toNat_sub1,toNat_add1,Int.toNat_natCast])
  (((refine goR0 _ _ _ _ _ _ _ _ ?_ ?_ ?_ ?_ ?_ ?_ ?_ ?_) <;> (repeat intro hb) <;> first | exact True.intro | refine Lf.mk ?_))
  right
  have e : runR n ms = (foldR n ms, 0) := by
    unfold runR
    rw [if_pos ⟨hb0.1, by omega, List.all_eq_true.2 hall⟩]
  rw [e]
  exact ⟨rfl, rfl, rfl, rfl, rfl, rfl⟩
theorem nthO_app {σ : List AObj} {k : Nat} {a : AObj} (h : nthO σ k = a) (ha : a.alive = true) (t : List AObj) : nthO (σ ++ t) k = a := by
  have h1 := nthO_eq h ha
  have h2 := (List.getElem?_eq_some_iff.1 h1).1
  exact nthO_of_get (by rw [List.getElem?_append_left h2]; exact h1)
theorem run_tc (n : Int) (ms : List Mov) (hl : ms.length ≤ 9223372036854775807) : Makes Try.prog 5 [.imm (.int .i64 n),movs ms] (.tup [rndA (runR n ms).1,.imm (.int .i64 (runR n ms).2)]) (rndO (runR n ms).1) := by
  refine ⟨(((((run_raw n ms hl).pushNone 120 6 (accE [])).pushNone 122 7 (proE [])).pushNone 40 5 (staE [])).pushNone 45 6 (votE [])).weak fun v σ' ⟨σ3,⟨σ2,⟨σ1,⟨σ0,hq,h1⟩,h2⟩,h3⟩,h4⟩=>?_,by simp [VF,VFL],fun a ha=>?_⟩
  · have hs : σ' = σ0 ++ [.arr 120 6 0 (accE []),.arr 122 7 0 (proE []),.arr 40 5 0 (staE []),.arr 45 6 0 (votE [])] := by rw [h4,h3,h2,h1];simp
    rcases hq with ⟨e, hv⟩ | ⟨e, hv, q1, q2, q3, q4⟩
    · have w1 : nthO σ' σ0.length = .arr 120 6 0 (accE []) := nthO_of_get (by rw [hs]; simp)
      have w2 : nthO σ' (σ0.length + 1) = .arr 122 7 0 (proE []) := nthO_of_get (by rw [hs]; simp)
      have w3 : nthO σ' (σ0.length + 2) = .arr 40 5 0 (staE []) := nthO_of_get (by rw [hs]; simp)
      have w4 : nthO σ' (σ0.length + 3) = .arr 45 6 0 (votE []) := nthO_of_get (by rw [hs]; simp)
      refine ⟨[σ0.length,σ0.length + 1,σ0.length + 2,σ0.length + 3],_,_,by simp,by simp,by intro o ho;rw [hs];simp at ho ⊢;omega,?_,?_,rfl,rfl⟩
      · rw [hv, e]
        exact WkV.tup (WkVL.cons (WkV.agg (WkVL.cons (WkV.nil_own (.inl rfl)) (WkVL.cons (WkV.nil_own (.inl rfl)) (WkVL.cons (WkV.nil_own (.inl rfl)) (WkVL.cons (WkV.nil_own (.inl rfl)) WkVL.nil))))) (WkVL.cons (WkV.imm rfl) WkVL.nil))
      · rw [e]
        refine ⟨?_,fun _ => by rw [w1];rfl,?_,fun _ => by rw [w2];rfl,?_,fun _ => by rw [w3];rfl,?_,fun _ => by rw [w4];rfl,trivial⟩
        · rw [w1]; exact WkO.arr fun i j hi => by omega
        · rw [w2]; exact WkO.arr fun i j hi => by omega
        · rw [w3]; exact WkO.arr fun i j hi => by omega
        · rw [w4]; exact WkO.arr fun i j hi => by omega
    · have w1 := nthO_app q1 rfl [.arr 120 6 0 (accE []),.arr 122 7 0 (proE []),.arr 40 5 0 (staE []),.arr 45 6 0 (votE [])]
      have w2 := nthO_app q2 rfl [.arr 120 6 0 (accE []),.arr 122 7 0 (proE []),.arr 40 5 0 (staE []),.arr 45 6 0 (votE [])]
      have w3 := nthO_app q3 rfl [.arr 120 6 0 (accE []),.arr 122 7 0 (proE []),.arr 40 5 0 (staE []),.arr 45 6 0 (votE [])]
      have w4 := nthO_app q4 rfl [.arr 120 6 0 (accE []),.arr 122 7 0 (proE []),.arr 40 5 0 (staE []),.arr 45 6 0 (votE [])]
      rw [← hs] at w1 w2 w3 w4
      have hlen : 6 < σ'.length := (List.getElem?_eq_some_iff.1 (nthO_eq w4 rfl)).1
      have e2 : (runR n ms).2 = 0 := by rw [e]
      refine ⟨[3, 4, 5, 6], _, _, by simp, by simp, by intro o ho; simp at ho; omega, ?_, ?_, rfl, rfl⟩
      · rw [hv, e2]
        exact WkV.tup (WkVL.cons (WkV.agg (WkVL.cons (WkV.own rfl (by simp)) (WkVL.cons (WkV.own rfl (by simp)) (WkVL.cons (WkV.own rfl (by simp)) (WkVL.cons (WkV.own rfl (by simp)) WkVL.nil))))) (WkVL.cons (WkV.imm rfl) WkVL.nil))
      · refine ⟨?_,fun _ => by rw [w1];rfl,?_,fun _ => by rw [w2];rfl,?_,fun _ => by rw [w3];rfl,?_,fun _ => by rw [w4];rfl,trivial⟩
        · rw [w1]; exact WkO.arr fun i j hi _ => WkV.free (accE_free _ _ _)
        · rw [w2]; exact WkO.arr fun i j hi _ => WkV.free (proE_free _ _ _)
        · rw [w3]; exact WkO.arr fun i j hi _ => WkV.free (staE_free _ _ _)
        · rw [w4]; exact WkO.arr fun i j hi _ => WkV.free (votE_free _ _ _)
  · simp only [rndO, List.mem_cons, List.not_mem_nil, or_false] at ha
    rcases ha with rfl | rfl | rfl | rfl
    · exact fun i j => accE_pl _ i j
    · exact fun i j => proE_pl _ i j
    · exact fun i j => staE_pl _ i j
    · exact fun i j => votE_pl _ i j
end Go.Proofs.Ytgljhmnmmaclaaa.Q
