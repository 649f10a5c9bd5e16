/-
  ChainConsistent: the steps of the shortest chain.
-/
import Derived.Test.YtmglcamgpgkblaaXGo3
import Derived.Test.YtmglcamgpgkblaaXD6a
import Derived.Test.YtmglcamgpgkblaaXS1
import Derived.Test.YtmglcamgpgkblaaXAb30
set_option linter.unusedSimpArgs false
set_option linter.unusedVariables false
namespace Go.Proofs.Ytmglcamgpgkblaa
open Go.Ab
variable (rd : Rd)
theorem cnt_yes {l : List Sp} {i : Nat} (h : i < l.length) {A B : Int} (hx : (gs l i).fr = A ∧ (gs l i).to = B ∨ (gs l i).fr = B ∧ (gs l i).to = A) : (l.take (i + 1)).countP (crossB A B) = (l.take i).countP (crossB A B) + 1 := by
  have e : l.take (i + 1) = l.take i ++ [gs l i] := by rw [List.take_add_one]; simp [gs, h]
  rw [e, List.countP_append]
  simp [crossB, hx]
theorem cnt_no {l : List Sp} {i : Nat} (h : i < l.length) {A B : Int} (hx : ¬ ((gs l i).fr = A ∧ (gs l i).to = B ∨ (gs l i).fr = B ∧ (gs l i).to = A)) : (l.take (i + 1)).countP (crossB A B) = (l.take i).countP (crossB A B) := by
  have e : l.take (i + 1) = l.take i ++ [gs l i] := by rw [List.take_add_one]; simp [gs, h]
  rw [e, List.countP_append]
  simp [crossB, hx]
@[go_sem,reducible] def enD (l : List Sp) (c i : Nat) (x : AV) : List AV := [.top,.top,.imm (.bool false),.imm (.bool true),.top,.optr 1 0 0] ++ List.replicate 6 .top ++ [.imm (.int .i64 c)] ++ List.replicate 77 .top ++ [sps l,.imm (.int .i64 l.length),.imm (.int .i64 i),x] ++ List.replicate 36 .top
set_option maxRecDepth 100000 in
set_option maxHeartbeats 4000000 in
theorem cross_loop (s : Sc) (w : Pr) (l : List Sp) (hl : l.length ≤ 400) (QF : Exit → St → Prop) (hQF : ∀ b : Bool,QF (.exit 4) ⟨enD l (l.countP (crossB w.a w.b)) l.length (.imm (.bool b)),fxC s w⟩) :
    T Try.prog 0 (rd := rd) (cAt cb7 [true,true,true,true,true,true,true,true,true,false,true,true]) QF ⟨enD l 0 0 .top,fxC s w⟩ := by
  simp only [cAt, cb7, Try.f7, Option.getD_some]
  refine T_loopW (fun m st => ∃ i : Nat,i ≤ l.length ∧ m + i = l.length ∧ st = ⟨enD l ((l.take i).countP (crossB w.a w.b)) i .top,fxC s w⟩) l.length ⟨_,?_,0,by omega,by omega,rfl⟩ ?_
  · exact Wk.refl _
  rintro m st ⟨i, h0, h1, rfl⟩
  have hcl : (l.take i).countP (crossB w.a w.b) ≤ 400 := Nat.le_trans List.countP_le_length (by rw [List.length_take];omega)
  by_cases hi : i < l.length
  · have Y := @cnt_yes l i hi w.a w.b
    have Z := @cnt_no l i hi w.a w.b
    generalize (l.take i).countP (crossB w.a w.b) = c at hcl Y Z
    by_cases hx : (gs l i).fr = w.a ∧ (gs l i).to = w.b ∨ (gs l i).fr = w.b ∧ (gs l i).to = w.a
    · have Y := Y hx
      clear Z
      have e1 : (((gs l i).fr == w.a && (gs l i).to == w.b) || ((gs l i).fr == w.b && (gs l i).to == w.a)) = true := by
        simpa using hx
      (simp only [go_sem,↓reduceIte,Nat.reduceAdd,Nat.reduceSub,Nat.reduceMul,Nat.reduceLT,Nat.reduceLeDiff,Nat.reduceEqDiff,Nat.reduceGT,Int.reduceToNat,Int.reduceBEq,Int.reduceBNe];try simp (disch := omega) only [wrapI,wrapU,half_sum,toNat_sub1,toNat_add1,Int.toNat_natCast])
      (have sx1 := e1;repeat' (first|with_reducible refine T_seq_drawT (id := 11) Γ_ok drawsAny pl7_11 (by kernel_rfl) (fun K hK=>?_)|with_reducible refine T_last_drawT (id := 11) Γ_ok drawsAny pl7_11 (by kernel_rfl) (fun K hK=>?_)|with_reducible refine T_seq_drawT (id := 12) Γ_ok drawsAny pl7_12 (by kernel_rfl) (fun K hK=>?_)|with_reducible refine T_last_drawT (id := 12) Γ_ok drawsAny pl7_12 (by kernel_rfl) (fun K hK=>?_)|((refine goU1 _ _ _ _ _ _ _ _ _ _ _ _ ?_ ?_ ?_ ?_ ?_ ?_ ?_ ?_ ?_ ?_ ?_ ?_) <;> (repeat intro hb) <;> first|exact True.intro|refine Lf.mk ?_)))
      refine ⟨l.length - (i + 1), by omega, _, ?_, i + 1, by omega, by omega, rfl⟩
      rw [Y]
      ((try simp only [List.length_append,List.length_cons,List.length_nil,Nat.zero_add]);refine Wk.intro [0,1] (by decide) (by decide) (by intro o ho;simp at ho ⊢ <;> omega) ?_ ?_ <;> repeat' (first|exact WkVL.nil|refine WkVL.cons ?_ ?_|exact WkV.top|exact WkV.imm rfl|exact WkV.imm (by simp)|exact WkV.optr rfl|exact WkV.own rfl (by simp)|exact WkV.nil_own (.inl rfl)|exact WkV.map rfl|(refine WkV.free ?_;simp [Free,FreeL] <;> assumption)|(refine WkV.free (fun _ _=>FreeL_nth ?_ _);simp [Free,FreeL];done)|refine WkV.agg ?_|refine WkV.tup ?_|refine WkV.fn ?_ ?_|exact WkO.dead|exact WkO.raw|refine WkO.ghost ?_|exact WkO.mpE rfl trivial|refine WkO.box ?_ rfl|refine WkO.arr ?_|refine And.intro ?_ (And.intro (by first|exact fun h=>h|exact fun _=>rfl|exact nofun) ?_)|exact trivial|(intro i j hi hj)))
    · have Z := Z hx
      clear Y
      (simp only [go_sem,↓reduceIte,Nat.reduceAdd,Nat.reduceSub,Nat.reduceMul,Nat.reduceLT,Nat.reduceLeDiff,Nat.reduceEqDiff,Nat.reduceGT,Int.reduceToNat,Int.reduceBEq,Int.reduceBNe];try simp (disch := omega) only [wrapI,wrapU,half_sum,toNat_sub1,toNat_add1,Int.toNat_natCast])
      (have sx1 : (0 : Nat) + 0 = 0 := rfl;repeat' (first|with_reducible refine T_seq_drawT (id := 11) Γ_ok drawsAny pl7_11 (by kernel_rfl) (fun K hK=>?_)|with_reducible refine T_last_drawT (id := 11) Γ_ok drawsAny pl7_11 (by kernel_rfl) (fun K hK=>?_)|with_reducible refine T_seq_drawT (id := 12) Γ_ok drawsAny pl7_12 (by kernel_rfl) (fun K hK=>?_)|with_reducible refine T_last_drawT (id := 12) Γ_ok drawsAny pl7_12 (by kernel_rfl) (fun K hK=>?_)|((refine goU1 _ _ _ _ _ _ _ _ _ _ _ _ ?_ ?_ ?_ ?_ ?_ ?_ ?_ ?_ ?_ ?_ ?_ ?_) <;> (repeat intro hb) <;> first|exact True.intro|refine Lf.mk ?_)))
      refine ⟨l.length - (i + 1), by omega, _, ?_, i + 1, by omega, by omega, rfl⟩
      rw [Z]
      ((try simp only [List.length_append,List.length_cons,List.length_nil,Nat.zero_add]);refine Wk.intro [0,1] (by decide) (by decide) (by intro o ho;simp at ho ⊢ <;> omega) ?_ ?_ <;> repeat' (first|exact WkVL.nil|refine WkVL.cons ?_ ?_|exact WkV.top|exact WkV.imm rfl|exact WkV.imm (by simp)|exact WkV.optr rfl|exact WkV.own rfl (by simp)|exact WkV.nil_own (.inl rfl)|exact WkV.map rfl|(refine WkV.free ?_;simp [Free,FreeL] <;> assumption)|(refine WkV.free (fun _ _=>FreeL_nth ?_ _);simp [Free,FreeL];done)|refine WkV.agg ?_|refine WkV.tup ?_|refine WkV.fn ?_ ?_|exact WkO.dead|exact WkO.raw|refine WkO.ghost ?_|exact WkO.mpE rfl trivial|refine WkO.box ?_ rfl|refine WkO.arr ?_|refine And.intro ?_ (And.intro (by first|exact fun h=>h|exact fun _=>rfl|exact nofun) ?_)|exact trivial|(intro i j hi hj)))
  · obtain rfl : i = l.length := by omega
    rw [List.take_length] at *
    (simp only [go_sem,↓reduceIte,Nat.reduceAdd,Nat.reduceSub,Nat.reduceMul,Nat.reduceLT,Nat.reduceLeDiff,Nat.reduceEqDiff,Nat.reduceGT,Int.reduceToNat,Int.reduceBEq,Int.reduceBNe];try simp (disch := omega) only [wrapI,wrapU,half_sum,toNat_sub1,toNat_add1,Int.toNat_natCast])
    repeat' (first
    | (with_reducible refine hK _ ?_; clear hK K)
    | (exact hQF _)
    | ((with_reducible apply DC_call);(focus exact rfl);(focus exact rfl);(focus exact rfl);intro N hN;(simp only [go_sem,↓reduceIte,Nat.reduceAdd,Nat.reduceSub,Nat.reduceMul,Nat.reduceLT,Nat.reduceLeDiff,Nat.reduceEqDiff,Nat.reduceGT,Int.reduceToNat,Int.reduceBEq,Int.reduceBNe];try simp (disch := omega) only [wrapI,wrapU,half_sum,toNat_sub1,toNat_add1,Int.toNat_natCast]))
    | ((with_reducible first|refine T_seq_region Γ_ok (fun K hK=>?_)|refine T_last_region Γ_ok (fun K hK=>?_)|refine T_seq_draw (id := 11) Γ_ok drawsAny [(0,[],[]),(1,[0],[]),(2,[0,1],[]),(3,[0,1,2],[]),(4,[0,1,2,3],[]),(5,[0,1,2,3],[]),(6,[0,1,2,3,4,5],[]),(7,[0,1,2,3,4,5,6],[]),(8,[0,1,2,3],[]),(9,[0,1,2,3,8],[]),(10,[0,1,2,3],[]),(11,[0,1,2,3,10],[]),(12,[0,1,2,3],[]),(13,[0,1,2,3,8,9,10,11],[]),(14,[0,1,2,3,8,9,10,11,13],[]),(15,[0,1,2,3,8,9,10,11,12,13,14],[]),(16,[0,1,2,3,8,9,10,11,12,13,14,15],[]),(17,[0,1,2,3],[]),(18,[0,1,2,3,17],[]),(19,[0,1,2,3],[]),(20,[0,1,2,3,19],[]),(21,[0,1,2,3],[]),(22,[0,1,2,3,17,18,19,20],[]),(23,[0,1,2,3,17,18,19,20,22],[]),(24,[0,1,2,3,17,18,19,20,21,22,23],[]),(25,[0,1,2,3,17,18,19,20,21,22,23,24],[]),(26,[0,1,2,3,8,9,10,11,12,13,14,15,16,17,18,19,20,21,22,23,24,25],[]),(27,[0,1,2,3,4,5,6,7,8,9,10,11,12,13,14,15,16,17,18,19,20,21,22,23,24,25,26],[]),(28,[0,1,2,3,4,5,6,7,8,9,10,11,12,13,14,15,16,17,18,19,20,21,22,23,24,25,26,27],[])] (by kernel_rfl) (fun K hK=>?_)|refine T_last_draw (id := 11) Γ_ok drawsAny [(0,[],[]),(1,[0],[]),(2,[0,1],[]),(3,[0,1,2],[]),(4,[0,1,2,3],[]),(5,[0,1,2,3],[]),(6,[0,1,2,3,4,5],[]),(7,[0,1,2,3,4,5,6],[]),(8,[0,1,2,3],[]),(9,[0,1,2,3,8],[]),(10,[0,1,2,3],[]),(11,[0,1,2,3,10],[]),(12,[0,1,2,3],[]),(13,[0,1,2,3,8,9,10,11],[]),(14,[0,1,2,3,8,9,10,11,13],[]),(15,[0,1,2,3,8,9,10,11,12,13,14],[]),(16,[0,1,2,3,8,9,10,11,12,13,14,15],[]),(17,[0,1,2,3],[]),(18,[0,1,2,3,17],[]),(19,[0,1,2,3],[]),(20,[0,1,2,3,19],[]),(21,[0,1,2,3],[]),(22,[0,1,2,3,17,18,19,20],[]),(23,[0,1,2,3,17,18,19,20,22],[]),(24,[0,1,2,3,17,18,19,20,21,22,23],[]),(25,[0,1,2,3,17,18,19,20,21,22,23,24],[]),(26,[0,1,2,3,8,9,10,11,12,13,14,15,16,17,18,19,20,21,22,23,24,25],[]),(27,[0,1,2,3,4,5,6,7,8,9,10,11,12,13,14,15,16,17,18,19,20,21,22,23,24,25,26],[]),(28,[0,1,2,3,4,5,6,7,8,9,10,11,12,13,14,15,16,17,18,19,20,21,22,23,24,25,26,27],[])] (by kernel_rfl) (fun K hK=>?_)|refine T_seq_draw (id := 12) Γ_ok drawsAny [(0,[],[]),(1,[0],[]),(2,[],[]),(3,[0,1],[]),(4,[0,1,2,3],[])] (by kernel_rfl) (fun K hK=>?_)|refine T_last_draw (id := 12) Γ_ok drawsAny [(0,[],[]),(1,[0],[]),(2,[],[]),(3,[0,1],[]),(4,[0,1,2,3],[])] (by kernel_rfl) (fun K hK=>?_)|refine TO_callN rfl (fun N hN=>?_)|refine DCT_fork Γ_ok (fun K2 hK2=>?_)|refine DCT_last Γ_ok ?_|refine DC_ev Γ_ok ?_|refine TO_ev Γ_ok ?_|refine retQ_r ?_|refine retQ_n ?_);(simp only [go_sem,↓reduceIte,Nat.reduceAdd,Nat.reduceSub,Nat.reduceMul,Nat.reduceLT,Nat.reduceLeDiff,Nat.reduceEqDiff,Nat.reduceGT,Int.reduceToNat,Int.reduceBEq,Int.reduceBNe];try simp (disch := omega) only [wrapI,wrapU,half_sum,toNat_sub1,toNat_add1,Int.toNat_natCast]))
    | (with_reducible refine hK2 _ ?_ ?_ <;> clear hK2 K2)
    | with_reducible refine gC_false ?_ | with_reducible refine gC_true ?_ | with_reducible refine dCall_true ?_
    | (with_reducible refine hN _ _ ?_; clear hN N)
    | (with_reducible refine hN _ _ (dInl rfl) ?_; clear hN N)
    | ((with_reducible refine hN _ _ (.inr ?_) ?_);(focus (simp only [go_sem,↓reduceIte,Nat.reduceAdd,Nat.reduceSub,Nat.reduceMul,Nat.reduceLT,Nat.reduceLeDiff,Nat.reduceEqDiff,Nat.reduceGT,Int.reduceToNat,Int.reduceBEq,Int.reduceBNe];try simp (disch := omega) only [wrapI,wrapU,half_sum,toNat_sub1,toNat_add1,Int.toNat_natCast]));all_goals (try clear hN N))
    | with_reducible refine T_seq ?_|with_reducible refine T_block ?_|with_reducible refine T_ret ?_|with_reducible refine T_exit ?_|with_reducible refine T_skip ?_|with_reducible refine T_label ?_
    | with_reducible refine thenQ_n ?_|with_reducible refine thenQ_e ?_|with_reducible refine thenQ_r ?_|with_reducible refine blockQ_n ?_|with_reducible refine blockQ_e ?_|with_reducible refine blockQ_r ?_
    | with_reducible refine blockQ_o (by decide) ?_
    | ((with_reducible refine T_cond _ rfl (fun hb=>?_) (fun hb=>?_)) <;> first|(cases hb;done)|(simp only [decide_eq_true_eq,decide_eq_false_iff_not,Bool.and_eq_true,Bool.or_eq_true,Bool.and_eq_false_imp,Bool.or_eq_false_iff,Bool.not_eq_true',Bool.not_eq_false',beq_iff_eq,bne_iff_ne,ne_eq,beq_eq_false_iff_ne,bne_eq_false_iff_eq,Int.not_lt,Int.not_le,ge_iff_le,gt_iff_lt] at hb)|skip)
    | (with_reducible refine And.intro (by first | exact trivial | omega | (intro hg;simp at hg ⊢ <;> omega) | (simp <;> omega)) ?_)
    | assumption | omega)
end Go.Proofs.Ytmglcamgpgkblaa
