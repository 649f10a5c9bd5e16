/-
  slices.Contains of integers.
-/
import Derived.Test.YtgljhmnmmaclaaaQGo
import Derived.Test.YtgljhmnmmaclaaaQM5
set_option linter.unusedSimpArgs false
set_option linter.unusedVariables false
namespace Go.Proofs.Ytgljhmnmmaclaaa
open Go.Ab
set_option maxRecDepth 100000 in
set_option maxHeartbeats 4000000 in
theorem index_tc (l : List Int) (x : Int) (hl : l.length ≤ 9223372036854775807) : TC Try.prog 58 [ints l,.imm (.int .i64 x)] [] (fun v σ'=>∃ k : Int,v = .imm (.int .i64 k) ∧ σ' = [] ∧ (0 ≤ k ↔ hasB l x = true)) := by
  (refine TC_of_T Γ_ok Try.func58 rfl (by kernel_rfl) ?_;simp only [Try.ntmps58,Try.results58,List.length_cons,List.length_nil,Nat.reduceSub,Nat.reduceAdd,List.replicate,List.cons_append,List.nil_append])
  (((refine goR0 _ _ _ _ _ _ _ _ ?_ ?_ ?_ ?_ ?_ ?_ ?_ ?_) <;> (repeat intro hb) <;> first | exact True.intro | refine Lf.mk ?_))
  refine T_loopW (fun m st => ∃ i : Nat, i ≤ l.length ∧ m + i = l.length ∧ hasB l x = hasB (l.drop i) x ∧
      st = ⟨[ints l,.imm (.int .i64 x),.top,.top,.imm (.int .i64 0),.top,.top,.imm (.int .i64 l.length),.imm (.int .i64 i)] ++ List.replicate 10 .top,[]⟩)
      l.length ⟨_, ?_, 0, by omega, rfl, rfl, rfl⟩ ?_
  · ((try simp only [List.length_append,List.length_cons,List.length_nil,Nat.zero_add]);refine Wk.intro [] (by decide) (by decide) (by intro o ho;simp at ho ⊢ <;> omega) ?_ ?_ <;> repeat' (first|exact WkVL.nil|refine WkVL.cons ?_ ?_|exact WkV.top|exact WkV.imm rfl|exact WkV.imm (by simp)|exact WkV.optr rfl|exact WkV.own rfl (by simp)|exact WkV.nil_own (.inl rfl)|exact WkV.map rfl|(refine WkV.free ?_;simp [Free,FreeL] <;> assumption)|(refine WkV.free (fun _ _=>FreeL_nth ?_ _);simp [Free,FreeL];done)|refine WkV.agg ?_|refine WkV.tup ?_|refine WkV.fn ?_ ?_|exact WkO.dead|exact WkO.raw|refine WkO.ghost ?_|exact WkO.mpE rfl trivial|refine WkO.box ?_ rfl|refine WkO.arr ?_|refine And.intro ?_ (And.intro (by first|exact fun h=>h|exact fun _=>rfl|exact nofun) ?_)|exact trivial|(intro i j hi hj)))
  rintro m st ⟨i, h0, h1, h2, rfl⟩
  (simp only [go_sem,↓reduceIte,Nat.reduceAdd,Nat.reduceSub,Nat.reduceMul,Nat.reduceLT,Nat.reduceLeDiff,Nat.reduceEqDiff,Nat.reduceGT,Int.reduceToNat,Int.reduceBEq,Int.reduceBNe];try simp (disch := omega) only [wrapI,wrapU,half_sum,toNat_sub1,toNat_add1,Int.toNat_natCast])
  (((refine goR0 _ _ _ _ _ _ _ _ ?_ ?_ ?_ ?_ ?_ ?_ ?_ ?_) <;> (repeat intro hb) <;> first | exact True.intro | refine Lf.mk ?_))
  · refine ⟨i, rfl, ⟨fun _ => ?_, fun _ => by omega⟩⟩
    rw [h2, hasB_drop x (by omega)]; simp [hb]
  · refine ⟨l.length - (i + 1), by omega, _, ?_, i + 1, by omega, by omega, ?_, rfl⟩
    · ((try simp only [List.length_append,List.length_cons,List.length_nil,Nat.zero_add]);refine Wk.intro [] (by decide) (by decide) (by intro o ho;simp at ho ⊢ <;> omega) ?_ ?_ <;> repeat' (first|(refine WkV.imm ?_;congr 1;omega)|exact WkVL.nil|refine WkVL.cons ?_ ?_|exact WkV.top|exact WkV.imm rfl|exact WkV.imm (by simp)|exact WkV.optr rfl|exact WkV.own rfl (by simp)|exact WkV.nil_own (.inl rfl)|exact WkV.map rfl|(refine WkV.free ?_;simp [Free,FreeL] <;> assumption)|(refine WkV.free (fun _ _=>FreeL_nth ?_ _);simp [Free,FreeL];done)|refine WkV.agg ?_|refine WkV.tup ?_|refine WkV.fn ?_ ?_|exact WkO.dead|exact WkO.raw|refine WkO.ghost ?_|exact WkO.mpE rfl trivial|refine WkO.box ?_ rfl|refine WkO.arr ?_|refine And.intro ?_ (And.intro (by first|exact fun h=>h|exact fun _=>rfl|exact nofun) ?_)|exact trivial|(intro i j hi hj)))
    · rw [h2, hasB_drop x (by omega)]; simp [Ne.symm hb]
  · refine ⟨-1, rfl, ⟨fun h => by omega, fun h => ?_⟩⟩
    rw [h2, List.drop_of_length_le (by omega)] at h
    cases h
set_option maxRecDepth 100000 in
set_option maxHeartbeats 4000000 in
theorem contains_tc (l : List Int) (x : Int) (hl : l.length ≤ 9223372036854775807) : Look Try.prog 48 [ints l,.imm (.int .i64 x)] (.imm (.bool (hasB l x))) := by
  refine Look.mk trivial ?_
  (refine TC_of_T Γ_ok Try.func48 rfl (by kernel_rfl) ?_;simp only [Try.ntmps48,Try.results48,List.length_cons,List.length_nil,Nat.reduceSub,Nat.reduceAdd,List.replicate,List.cons_append,List.nil_append])
  repeat' (first
    | (with_reducible refine hK _ ?_; clear hK K)
    | (refine callGoal_mk trivial (index_tc l x hl) ?_;rintro v σ' ⟨k,rfl,rfl,hx⟩;try (simp only [go_sem,↓reduceIte,Nat.reduceAdd,Nat.reduceSub,Nat.reduceMul,Nat.reduceLT,Nat.reduceLeDiff,Nat.reduceEqDiff,Nat.reduceGT,Int.reduceToNat,Int.reduceBEq,Int.reduceBNe];try simp (disch := omega) only [wrapI,wrapU,half_sum,toNat_sub1,toNat_add1,Int.toNat_natCast]))
    | ((with_reducible apply DC_call);(focus exact rfl);(focus exact rfl);(focus exact rfl);intro N hN;(simp only [go_sem,↓reduceIte,Nat.reduceAdd,Nat.reduceSub,Nat.reduceMul,Nat.reduceLT,Nat.reduceLeDiff,Nat.reduceEqDiff,Nat.reduceGT,Int.reduceToNat,Int.reduceBEq,Int.reduceBNe];try simp (disch := omega) only [wrapI,wrapU,half_sum,toNat_sub1,toNat_add1,Int.toNat_natCast]))
    | ((with_reducible first|refine T_seq_region Γ_ok (fun K hK=>?_)|refine T_last_region Γ_ok (fun K hK=>?_)|refine TO_callN rfl (fun N hN=>?_)|refine DCT_fork Γ_ok (fun K2 hK2=>?_)|refine DCT_last Γ_ok ?_|refine DC_ev Γ_ok ?_|refine TO_ev Γ_ok ?_|refine retQ_r ?_|refine retQ_n ?_);(simp only [go_sem,↓reduceIte,Nat.reduceAdd,Nat.reduceSub,Nat.reduceMul,Nat.reduceLT,Nat.reduceLeDiff,Nat.reduceEqDiff,Nat.reduceGT,Int.reduceToNat,Int.reduceBEq,Int.reduceBNe];try simp (disch := omega) only [wrapI,wrapU,half_sum,toNat_sub1,toNat_add1,Int.toNat_natCast]))
    | (with_reducible refine hK2 _ ?_ ?_ <;> clear hK2 K2)
    | with_reducible refine gC_false ?_ | with_reducible refine gC_true ?_ | with_reducible refine dCall_true ?_
    | (with_reducible refine hN _ _ ?_; clear hN N)
    | (with_reducible refine hN _ _ (dInl rfl) ?_; clear hN N)
    | ((with_reducible refine hN _ _ (.inr ?_) ?_);(focus (simp only [go_sem,↓reduceIte,Nat.reduceAdd,Nat.reduceSub,Nat.reduceMul,Nat.reduceLT,Nat.reduceLeDiff,Nat.reduceEqDiff,Nat.reduceGT,Int.reduceToNat,Int.reduceBEq,Int.reduceBNe];try simp (disch := omega) only [wrapI,wrapU,half_sum,toNat_sub1,toNat_add1,Int.toNat_natCast]));all_goals (try clear hN N))
    | with_reducible refine T_seq ?_|with_reducible refine T_block ?_|with_reducible refine T_ret ?_|with_reducible refine T_exit ?_|with_reducible refine T_skip ?_|with_reducible refine T_label ?_
    | with_reducible refine thenQ_n ?_|with_reducible refine thenQ_e ?_|with_reducible refine thenQ_r ?_|with_reducible refine blockQ_n ?_|with_reducible refine blockQ_e ?_|with_reducible refine blockQ_r ?_
    | with_reducible refine blockQ_o (by decide) ?_
    | ((with_reducible refine T_cond _ rfl (fun hb=>?_) (fun hb=>?_)) <;> first|(cases hb;done)|(simp only [decide_eq_true_eq,decide_eq_false_iff_not,Bool.and_eq_true,Bool.or_eq_true,Bool.and_eq_false_imp,Bool.or_eq_false_iff,Bool.not_eq_true',Bool.not_eq_false',beq_iff_eq,bne_iff_ne,ne_eq,beq_eq_false_iff_ne,bne_eq_false_iff_eq,Int.not_lt,Int.not_le,ge_iff_le,gt_iff_lt] at hb)|skip)
    | (with_reducible refine And.intro (by first | exact trivial | omega | (intro hg;simp at hg ⊢ <;> omega) | (simp <;> omega)) ?_)
    | assumption | omega)
  congr 2
  cases hq : hasB l x with
  | false => rw [hq] at hx; simp at hx ⊢; omega
  | true => rw [hq] at hx; simp at hx ⊢; omega
end Go.Proofs.Ytgljhmnmmaclaaa
