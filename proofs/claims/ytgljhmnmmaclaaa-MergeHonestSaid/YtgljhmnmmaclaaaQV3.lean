/-
  Counting the desks of a ballot (Choose$1).
-/
import Derived.Test.YtgljhmnmmaclaaaQGo
import Derived.Test.YtgljhmnmmaclaaaQV2
set_option linter.unusedSimpArgs false
set_option linter.unusedVariables false
namespace Go.Proofs.Ytgljhmnmmaclaaa.Q
open Go.Ab
def cntP (b : Int) (ps : List Pro) (D : List Int) : List Int := ps.foldl (fun D p => if p.b = b then addD D p.d else D) D
theorem addD_len (D : List Int) (d : Int) : (addD D d).length ≤ D.length + 1 := by unfold addD; split <;> simp
theorem cntP_len (b : Int) : ∀ (ps : List Pro) (D : List Int), (cntP b ps D).length ≤ D.length + ps.length
  | [], D => by simp [cntP]
  | p :: ps, D => by
    have h1 := cntP_len b ps (addD D p.d)
    have h2 := cntP_len b ps D
    have h3 := addD_len D p.d
    unfold cntP at *
    rw [List.foldl_cons]
    simp only [List.length_cons]
    split <;> omega
theorem gP_take {l : List Pro} {i : Nat} (h : i < l.length) : l.take (i + 1) = l.take i ++ [gP l i] := by
  rw [List.take_succ_eq_append_getElem h]
  simp [gP, h]
theorem cntP_succ {b : Int} {ps : List Pro} {D : List Int} {i : Nat} (h : i < ps.length) : cntP b (ps.take (i + 1)) D = if (gP ps i).b = b then addD (cntP b (ps.take i) D) (gP ps i).d else cntP b (ps.take i) D := by
  rw [gP_take h]; unfold cntP; rw [List.foldl_append]; rfl
set_option maxRecDepth 100000 in
set_option maxHeartbeats 4000000 in
theorem eachP_tc (ps : List Pro) (b : Int) (x y : Tk) (D : List Int) (hl : ps.length ≤ 9223372036854775807) : TC Try.prog 72 [.fn (.func 44) [] [.optr 5 0 0],.optr 1 0 0,.optr 0 0 0]
    [.box 3 [.imm (.int .i64 b)], .box 26 [pros ps], .box 38 (tkL x), .box 38 (tkL y), dmO D, .box 111 [.map 4]]
    (fun v σ' => v = .tup [] ∧ σ' = [.box 3 [.imm (.int .i64 b)],.box 26 [pros ps],.box 38 (tkL x),.box 38 (tkL y),dmO (cntP b ps D),.box 111 [.map 4]]) := by
  (refine TC_of_T Γ_ok Try.func72 rfl (by kernel_rfl) ?_;simp only [Try.ntmps72,Try.results72,List.length_cons,List.length_nil,Nat.reduceSub,Nat.reduceAdd,List.replicate,List.cons_append,List.nil_append])
  (((refine goR0 _ _ _ _ _ _ _ _ ?_ ?_ ?_ ?_ ?_ ?_ ?_ ?_) <;> (repeat intro hb) <;> first | exact True.intro | refine Lf.mk ?_))
  refine T_loopW (fun m st=>∃ (i : Nat),i ≤ ps.length ∧ m + i = ps.length ∧ st = ⟨[.fn (.func 44) [] [.optr 5 0 0],.optr 1 0 0,.optr 0 0 0,.top,.top,.top,pros ps,.imm (.int .i64 ps.length),.imm (.int .i64 i)] ++ List.replicate 12 .top,
      [.box 3 [.imm (.int .i64 b)],.box 26 [pros ps],.box 38 (tkL x),.box 38 (tkL y),dmO (cntP b (ps.take i) D),.box 111 [.map 4]]⟩) ps.length ⟨_,?_,0,Nat.zero_le _,rfl,rfl⟩ ?_
  · ((try simp only [List.length_append,List.length_cons,List.length_nil,Nat.zero_add]);refine Wk.intro [0,1,2,3,4,5] (by decide) (by decide) (by intro o ho;simp at ho ⊢ <;> omega) ?_ ?_ <;> repeat' (first|(exact WkO.mpE rfl (dmE_free _))|exact WkVL.nil|refine WkVL.cons ?_ ?_|exact WkV.top|exact WkV.imm rfl|exact WkV.imm (by simp)|exact WkV.optr rfl|exact WkV.own rfl (by simp)|exact WkV.nil_own (.inl rfl)|exact WkV.map rfl|(refine WkV.free ?_;simp [Free,FreeL] <;> assumption)|(refine WkV.free (fun _ _=>FreeL_nth ?_ _);simp [Free,FreeL];done)|refine WkV.agg ?_|refine WkV.tup ?_|refine WkV.fn ?_ ?_|exact WkO.dead|exact WkO.raw|refine WkO.ghost ?_|exact WkO.mpE rfl trivial|refine WkO.box ?_ rfl|refine WkO.arr ?_|refine And.intro ?_ (And.intro (by first|exact fun h=>h|exact fun _=>rfl|exact nofun) ?_)|exact trivial|(intro i j hi hj)))
  rintro m st ⟨i, h1, h2, rfl⟩
  (simp only [go_sem,↓reduceIte,Nat.reduceAdd,Nat.reduceSub,Nat.reduceMul,Nat.reduceLT,Nat.reduceLeDiff,Nat.reduceEqDiff,Nat.reduceGT,Int.reduceToNat,Int.reduceBEq,Int.reduceBNe];try simp (disch := omega) only [wrapI,wrapU,half_sum,toNat_sub1,toNat_add1,Int.toNat_natCast])
  repeat' (first
    | (with_reducible refine hK _ ?_; clear hK K)
    | ((with_reducible refine callGoal_inline Γ_ok Try.func44 rfl (by kernel_rfl) (by first|exact trivial|(simp only [go_sem,and_self];done)|(simp only [go_sem];omega)) ?_);simp only [Try.ntmps44,Try.results44,List.length_cons,List.length_nil,Nat.reduceSub,Nat.reduceAdd,List.replicate,List.cons_append,List.nil_append])
    | ((with_reducible apply DC_call);(focus exact rfl);(focus exact rfl);(focus exact rfl);intro N hN;(simp only [go_sem,↓reduceIte,Nat.reduceAdd,Nat.reduceSub,Nat.reduceMul,Nat.reduceLT,Nat.reduceLeDiff,Nat.reduceEqDiff,Nat.reduceGT,Int.reduceToNat,Int.reduceBEq,Int.reduceBNe];try simp (disch := omega) only [wrapI,wrapU,half_sum,toNat_sub1,toNat_add1,Int.toNat_natCast]))
    | ((with_reducible first|refine T_seq_region Γ_ok (fun K hK=>?_)|refine T_last_region Γ_ok (fun K hK=>?_)|refine TO_callN rfl (fun N hN=>?_)|refine DCT_fork Γ_ok (fun K2 hK2=>?_)|refine DCT_last Γ_ok ?_|refine DC_ev Γ_ok ?_|refine TO_ev Γ_ok ?_|refine retQ_r ?_|refine retQ_n ?_);(simp only [go_sem,↓reduceIte,Nat.reduceAdd,Nat.reduceSub,Nat.reduceMul,Nat.reduceLT,Nat.reduceLeDiff,Nat.reduceEqDiff,Nat.reduceGT,Int.reduceToNat,Int.reduceBEq,Int.reduceBNe];try simp (disch := omega) only [wrapI,wrapU,half_sum,toNat_sub1,toNat_add1,Int.toNat_natCast]))
    | (with_reducible refine hK2 _ ?_ ?_ <;> clear hK2 K2)
    | with_reducible refine gC_false ?_ | with_reducible refine gC_true ?_ | with_reducible refine dCall_true ?_
    | (with_reducible refine hN _ _ ?_; clear hN N)
    | (with_reducible refine hN _ _ (dInl rfl) ?_; clear hN N)
    | ((with_reducible refine hN _ _ (.inr ?_) ?_);(focus (simp only [go_sem,↓reduceIte,Nat.reduceAdd,Nat.reduceSub,Nat.reduceMul,Nat.reduceLT,Nat.reduceLeDiff,Nat.reduceEqDiff,Nat.reduceGT,Int.reduceToNat,Int.reduceBEq,Int.reduceBNe];try simp (disch := omega) only [wrapI,wrapU,half_sum,toNat_sub1,toNat_add1,Int.toNat_natCast]));all_goals (try clear hN N))
    | with_reducible refine T_seq ?_|with_reducible refine T_block ?_|with_reducible refine T_ret ?_|with_reducible refine T_exit ?_|with_reducible refine T_skip ?_|with_reducible refine T_label ?_
    | with_reducible refine thenQ_n ?_|with_reducible refine thenQ_e ?_|with_reducible refine thenQ_r ?_|with_reducible refine blockQ_n ?_|with_reducible refine blockQ_e ?_|with_reducible refine blockQ_r ?_
    | with_reducible refine blockQ_o (by decide) ?_
    | ((with_reducible refine T_cond _ rfl (fun hb=>?_) (fun hb=>?_)) <;> first|(cases hb;done)|(simp only [decide_eq_true_eq,decide_eq_false_iff_not,Bool.and_eq_true,Bool.or_eq_true,Bool.and_eq_false_imp,Bool.or_eq_false_iff,Bool.not_eq_true',Bool.not_eq_false',beq_iff_eq,bne_iff_ne,ne_eq,beq_eq_false_iff_ne,bne_eq_false_iff_eq,Int.not_lt,Int.not_le,ge_iff_le,gt_iff_lt] at hb)|skip)
    | (with_reducible refine And.intro (by first | exact trivial | omega | (intro hg;simp at hg ⊢ <;> omega) | (simp <;> omega)) ?_)
    | assumption | omega)
  · have hs := cntP_succ (b := b) (ps := ps) (D := D) (i := i) (by omega)
    rw [if_pos hb] at hs
    refine ⟨ps.length - (i + 1), by omega, _, ?_, i + 1, by omega, by omega, rfl⟩
    ((try simp only [List.length_append,List.length_cons,List.length_nil,Nat.zero_add]);refine Wk.intro [0,1,2,3,4,5] (by decide) (by decide) (by intro o ho;simp at ho ⊢ <;> omega) ?_ ?_ <;> repeat' (first|(exact WkO.mpE (by rw [hs]) (dmE_free _))|exact WkVL.nil|refine WkVL.cons ?_ ?_|exact WkV.top|exact WkV.imm rfl|exact WkV.imm (by simp)|exact WkV.optr rfl|exact WkV.own rfl (by simp)|exact WkV.nil_own (.inl rfl)|exact WkV.map rfl|(refine WkV.free ?_;simp [Free,FreeL] <;> assumption)|(refine WkV.free (fun _ _=>FreeL_nth ?_ _);simp [Free,FreeL];done)|refine WkV.agg ?_|refine WkV.tup ?_|refine WkV.fn ?_ ?_|exact WkO.dead|exact WkO.raw|refine WkO.ghost ?_|exact WkO.mpE rfl trivial|refine WkO.box ?_ rfl|refine WkO.arr ?_|refine And.intro ?_ (And.intro (by first|exact fun h=>h|exact fun _=>rfl|exact nofun) ?_)|exact trivial|(intro i j hi hj)))
  · have hs := cntP_succ (b := b) (ps := ps) (D := D) (i := i) (by omega)
    rw [if_neg hb] at hs
    refine ⟨ps.length - (i + 1), by omega, _, ?_, i + 1, by omega, by omega, rfl⟩
    ((try simp only [List.length_append,List.length_cons,List.length_nil,Nat.zero_add]);refine Wk.intro [0,1,2,3,4,5] (by decide) (by decide) (by intro o ho;simp at ho ⊢ <;> omega) ?_ ?_ <;> repeat' (first|(exact WkO.mpE (by rw [hs]) (dmE_free _))|exact WkVL.nil|refine WkVL.cons ?_ ?_|exact WkV.top|exact WkV.imm rfl|exact WkV.imm (by simp)|exact WkV.optr rfl|exact WkV.own rfl (by simp)|exact WkV.nil_own (.inl rfl)|exact WkV.map rfl|(refine WkV.free ?_;simp [Free,FreeL] <;> assumption)|(refine WkV.free (fun _ _=>FreeL_nth ?_ _);simp [Free,FreeL];done)|refine WkV.agg ?_|refine WkV.tup ?_|refine WkV.fn ?_ ?_|exact WkO.dead|exact WkO.raw|refine WkO.ghost ?_|exact WkO.mpE rfl trivial|refine WkO.box ?_ rfl|refine WkO.arr ?_|refine And.intro ?_ (And.intro (by first|exact fun h=>h|exact fun _=>rfl|exact nofun) ?_)|exact trivial|(intro i j hi hj)))
  · obtain rfl : i = ps.length := by omega
    rw [List.take_length]
theorem eachP0 (ps : List Pro) (b : Int) (x1 x2 x3 x4 y1 y2 y3 y4 : Int) (hl : ps.length ≤ 9223372036854775807) : TC Try.prog 72 [.fn (.func 44) [] [.optr 5 0 0],.optr 1 0 0,.optr 0 0 0]
    [.box 3 [.imm (.int .i64 b)],.box 26 [pros ps],.box 38 (tkL ⟨x1,x2,x3,x4⟩),.box 38 (tkL ⟨y1,y2,y3,y4⟩),.mp (.int .i64) [],.box 111 [.map 4]]
    (fun v σ'=>v = .tup [] ∧ σ' = [.box 3 [.imm (.int .i64 b)],.box 26 [pros ps],.box 38 (tkL ⟨x1,x2,x3,x4⟩),.box 38 (tkL ⟨y1,y2,y3,y4⟩),dmO (cntP b ps []),.box 111 [.map 4]]) := eachP_tc ps b ⟨x1,x2,x3,x4⟩ ⟨y1,y2,y3,y4⟩ [] hl
def cntV (s : Sta) (vs : List Vot) (D : List Int) : List Int := vs.foldl (fun D w => if w.b = s.b ∧ w.x = s.x then addD D w.d else D) D
theorem cntV_len (s : Sta) : ∀ (ps : List Vot) (D : List Int), (cntV s ps D).length ≤ D.length + ps.length
  | [], D => by simp [cntV]
  | p :: ps, D => by
    have h1 := cntV_len s ps (addD D p.d)
    have h2 := cntV_len s ps D
    have h3 := addD_len D p.d
    unfold cntV at *
    rw [List.foldl_cons]
    simp only [List.length_cons]
    split <;> omega
theorem gV_take {l : List Vot} {i : Nat} (h : i < l.length) : l.take (i + 1) = l.take i ++ [gV l i] := by
  rw [List.take_succ_eq_append_getElem h]
  simp [gV, h]
theorem cntV_succ {s : Sta} {vs : List Vot} {D : List Int} {i : Nat} (h : i < vs.length) : cntV s (vs.take (i + 1)) D = if (gV vs i).b = s.b ∧ (gV vs i).x = s.x then addD (cntV s (vs.take i) D) (gV vs i).d else cntV s (vs.take i) D := by
  rw [gV_take h]; unfold cntV; rw [List.foldl_append]; rfl
end Go.Proofs.Ytgljhmnmmaclaaa.Q
