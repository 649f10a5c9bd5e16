/-
  ChainConsistent: one pair.
-/
import Derived.Test.YtmglcamgpgkblaaXGo3
import Derived.Test.YtmglcamgpgkblaaXC1
import Derived.Test.YtmglcamgpgkblaaXAb30
set_option linter.unusedSimpArgs false
set_option linter.unusedVariables false
namespace Go.Proofs.Ytmglcamgpgkblaa
open Go.Ab
def cAt : Code → List Bool → Code
  | .seq a _, false :: p => cAt a p
  | .seq _ b, true :: p => cAt b p
  | .block _ c, _ :: p => cAt c p
  | .loop c, _ :: p => cAt c p
  | c, _ => c
@[reducible] noncomputable def cb7 : Code := Try.f7.body.getD .skip
@[go_sem,reducible] def enC (s : Sc) (c i : Nat) : List AV := [.top,.optr 0 0 0,.imm (.bool false),.imm (.bool true),.imm (.int .i64 c),.optr 1 0 0] ++ List.replicate 21 .top ++ [prs s.pairs,.imm (.int .i64 s.pairs.length),.imm (.int .i64 i)] ++ List.replicate 100 .top
@[go_sem, reducible] def fxC (s : Sc) (p : Pr) : List AObj := [.box 26 (scL s), .box 45 (prL p)]
def CK (K : St → Prop) (s : Sc) (c i : Nat) (w : Pr) : Prop := ∀ st', Wk 0 st' ⟨enC s c i, fxC s w⟩ → K st'
variable (rd : Rd)
set_option maxRecDepth 100000 in
set_option maxHeartbeats 4000000 in
theorem pair_bd (s : Sc) (hp4 : s.pairs.length ≤ 400) (c i : Nat) (w : Pr) (hi : i < s.pairs.length) (hbd : (gp s.pairs i).bound ≠ 0) (KF : St → Prop) (hKF : CK KF s c (i + 1) w) (Q : Exit → St → Prop) :
    T Try.prog 0 (rd := rd) (cAt cb7 [true,true,true,true,false,true,true,true]) (thenQ KF Q) ⟨enC s c i,fxC s w⟩ := by
  simp only [cAt, cb7, Try.f7, Option.getD_some]
  have e3 : ((gp s.pairs i).bound == 0) = false := by rw [beq_eq_false_iff_ne]; exact hbd
  (simp only [go_sem,↓reduceIte,Nat.reduceAdd,Nat.reduceSub,Nat.reduceMul,Nat.reduceLT,Nat.reduceLeDiff,Nat.reduceEqDiff,Nat.reduceGT,Int.reduceToNat,Int.reduceBEq,Int.reduceBNe];try simp (disch := omega) only [wrapI,wrapU,half_sum,toNat_sub1,toNat_add1,Int.toNat_natCast])
  (have sx1 : (0 : Nat) + 0 = 0 := rfl;repeat' (first|with_reducible refine T_seq_drawT (id := 11) Γ_ok drawsAny pl7_11 (by kernel_rfl) (fun K hK=>?_)|with_reducible refine T_last_drawT (id := 11) Γ_ok drawsAny pl7_11 (by kernel_rfl) (fun K hK=>?_)|with_reducible refine T_seq_drawT (id := 12) Γ_ok drawsAny pl7_12 (by kernel_rfl) (fun K hK=>?_)|with_reducible refine T_last_drawT (id := 12) Γ_ok drawsAny pl7_12 (by kernel_rfl) (fun K hK=>?_)|((refine goU1 _ _ _ _ _ _ _ _ _ _ _ _ ?_ ?_ ?_ ?_ ?_ ?_ ?_ ?_ ?_ ?_ ?_ ?_) <;> (repeat intro hb) <;> first|exact True.intro|refine Lf.mk ?_)))
  refine T_rounds 7 ?_
  (have sx1 := e3;repeat' (first|with_reducible refine T_seq_drawT (id := 11) Γ_ok drawsAny pl7_11 (by kernel_rfl) (fun K hK=>?_)|with_reducible refine T_last_drawT (id := 11) Γ_ok drawsAny pl7_11 (by kernel_rfl) (fun K hK=>?_)|with_reducible refine T_seq_drawT (id := 12) Γ_ok drawsAny pl7_12 (by kernel_rfl) (fun K hK=>?_)|with_reducible refine T_last_drawT (id := 12) Γ_ok drawsAny pl7_12 (by kernel_rfl) (fun K hK=>?_)|((refine goU1 _ _ _ _ _ _ _ _ _ _ _ _ ?_ ?_ ?_ ?_ ?_ ?_ ?_ ?_ ?_ ?_ ?_ ?_) <;> (repeat intro hb) <;> first|exact True.intro|refine Lf.mk ?_)))
  refine hKF _ ?_
  ((try simp only [List.length_append,List.length_cons,List.length_nil,Nat.zero_add]);refine Wk.intro [0,1] (by decide) (by decide) (by intro o ho;simp at ho ⊢ <;> omega) ?_ ?_ <;> repeat' (first|exact WkVL.nil|refine WkVL.cons ?_ ?_|exact WkV.top|exact WkV.imm rfl|exact WkV.imm (by simp)|exact WkV.optr rfl|exact WkV.own rfl (by simp)|exact WkV.nil_own (.inl rfl)|exact WkV.map rfl|(refine WkV.free ?_;simp [Free,FreeL] <;> assumption)|(refine WkV.free (fun _ _=>FreeL_nth ?_ _);simp [Free,FreeL];done)|refine WkV.agg ?_|refine WkV.tup ?_|refine WkV.fn ?_ ?_|exact WkO.dead|exact WkO.raw|refine WkO.ghost ?_|exact WkO.mpE rfl trivial|refine WkO.box ?_ rfl|refine WkO.arr ?_|refine And.intro ?_ (And.intro (by first|exact fun h=>h|exact fun _=>rfl|exact nofun) ?_)|exact trivial|(intro i j hi hj)))
set_option maxRecDepth 100000 in
set_option maxHeartbeats 4000000 in
theorem pair_0 (s : Sc) (hp4 : s.pairs.length ≤ 400) (hn4 : s.notes.length ≤ 200) (c i : Nat) (hc : c ≤ 400) (w : Pr) (hi : i < s.pairs.length) (hbd : (gp s.pairs i).bound = 0) (hpb : PrB s.notes.length (gp s.pairs i))
    (hA : Bd6 24 (gn s.notes (gp s.pairs i).a.toNat).pl) (hB : Bd6 24 (gn s.notes (gp s.pairs i).b.toNat).pl) (hne : (gp s.pairs i).want.a ≠ (gn s.notes (gp s.pairs i).b.toNat).pl.a - (gn s.notes (gp s.pairs i).a.toNat).pl.a)
    (KF : St → Prop) (hKF : CK KF s (c + 1) (i + 1) (gp s.pairs i)) (Q : Exit → St → Prop) :
    T Try.prog 0 (rd := rd) (cAt cb7 [true,true,true,true,false,true,true,true]) (thenQ KF Q) ⟨enC s c i,fxC s w⟩ := by
  simp only [cAt, cb7, Try.f7, Option.getD_some]
  have e3 : ((gp s.pairs i).bound == 0) = true := by rw [hbd]; rfl
  unfold PrB at hpb
  unfold Bd6 at hA hB
  (simp only [go_sem,↓reduceIte,Nat.reduceAdd,Nat.reduceSub,Nat.reduceMul,Nat.reduceLT,Nat.reduceLeDiff,Nat.reduceEqDiff,Nat.reduceGT,Int.reduceToNat,Int.reduceBEq,Int.reduceBNe];try simp (disch := omega) only [wrapI,wrapU,half_sum,toNat_sub1,toNat_add1,Int.toNat_natCast])
  (have sx1 : (0 : Nat) + 0 = 0 := rfl;repeat' (first|with_reducible refine T_seq_drawT (id := 11) Γ_ok drawsAny pl7_11 (by kernel_rfl) (fun K hK=>?_)|with_reducible refine T_last_drawT (id := 11) Γ_ok drawsAny pl7_11 (by kernel_rfl) (fun K hK=>?_)|with_reducible refine T_seq_drawT (id := 12) Γ_ok drawsAny pl7_12 (by kernel_rfl) (fun K hK=>?_)|with_reducible refine T_last_drawT (id := 12) Γ_ok drawsAny pl7_12 (by kernel_rfl) (fun K hK=>?_)|((refine goU1 _ _ _ _ _ _ _ _ _ _ _ _ ?_ ?_ ?_ ?_ ?_ ?_ ?_ ?_ ?_ ?_ ?_ ?_) <;> (repeat intro hb) <;> first|exact True.intro|refine Lf.mk ?_)))
  refine T_rounds 7 ?_
  (have sx1 := e3;repeat' (first|with_reducible refine T_seq_drawT (id := 11) Γ_ok drawsAny pl7_11 (by kernel_rfl) (fun K hK=>?_)|with_reducible refine T_last_drawT (id := 11) Γ_ok drawsAny pl7_11 (by kernel_rfl) (fun K hK=>?_)|with_reducible refine T_seq_drawT (id := 12) Γ_ok drawsAny pl7_12 (by kernel_rfl) (fun K hK=>?_)|with_reducible refine T_last_drawT (id := 12) Γ_ok drawsAny pl7_12 (by kernel_rfl) (fun K hK=>?_)|((refine goU1 _ _ _ _ _ _ _ _ _ _ _ _ ?_ ?_ ?_ ?_ ?_ ?_ ?_ ?_ ?_ ?_ ?_ ?_) <;> (repeat intro hb) <;> first|exact True.intro|refine Lf.mk ?_)))
  refine hKF _ ?_
  ((try simp only [List.length_append,List.length_cons,List.length_nil,Nat.zero_add]);refine Wk.intro [0,1] (by decide) (by decide) (by intro o ho;simp at ho ⊢ <;> omega) ?_ ?_ <;> repeat' (first|exact WkVL.nil|refine WkVL.cons ?_ ?_|exact WkV.top|exact WkV.imm rfl|exact WkV.imm (by simp)|exact WkV.optr rfl|exact WkV.own rfl (by simp)|exact WkV.nil_own (.inl rfl)|exact WkV.map rfl|(refine WkV.free ?_;simp [Free,FreeL] <;> assumption)|(refine WkV.free (fun _ _=>FreeL_nth ?_ _);simp [Free,FreeL];done)|refine WkV.agg ?_|refine WkV.tup ?_|refine WkV.fn ?_ ?_|exact WkO.dead|exact WkO.raw|refine WkO.ghost ?_|exact WkO.mpE rfl trivial|refine WkO.box ?_ rfl|refine WkO.arr ?_|refine And.intro ?_ (And.intro (by first|exact fun h=>h|exact fun _=>rfl|exact nofun) ?_)|exact trivial|(intro i j hi hj)))
set_option maxRecDepth 100000 in
set_option maxHeartbeats 4000000 in
theorem pair_1 (s : Sc) (hp4 : s.pairs.length ≤ 400) (hn4 : s.notes.length ≤ 200) (c i : Nat) (hc : c ≤ 400) (w : Pr) (hi : i < s.pairs.length) (hbd : (gp s.pairs i).bound = 0) (hpb : PrB s.notes.length (gp s.pairs i))
    (hA : Bd6 24 (gn s.notes (gp s.pairs i).a.toNat).pl) (hB : Bd6 24 (gn s.notes (gp s.pairs i).b.toNat).pl) (h0 : (gp s.pairs i).want.a = (gn s.notes (gp s.pairs i).b.toNat).pl.a - (gn s.notes (gp s.pairs i).a.toNat).pl.a) (hne : (gp s.pairs i).want.b ≠ (gn s.notes (gp s.pairs i).b.toNat).pl.b - (gn s.notes (gp s.pairs i).a.toNat).pl.b)
    (KF : St → Prop) (hKF : CK KF s (c + 1) (i + 1) (gp s.pairs i)) (Q : Exit → St → Prop) :
    T Try.prog 0 (rd := rd) (cAt cb7 [true,true,true,true,false,true,true,true]) (thenQ KF Q) ⟨enC s c i,fxC s w⟩ := by
  simp only [cAt, cb7, Try.f7, Option.getD_some]
  have e3 : ((gp s.pairs i).bound == 0) = true := by rw [hbd]; rfl
  unfold PrB at hpb
  unfold Bd6 at hA hB
  (simp only [go_sem,↓reduceIte,Nat.reduceAdd,Nat.reduceSub,Nat.reduceMul,Nat.reduceLT,Nat.reduceLeDiff,Nat.reduceEqDiff,Nat.reduceGT,Int.reduceToNat,Int.reduceBEq,Int.reduceBNe];try simp (disch := omega) only [wrapI,wrapU,half_sum,toNat_sub1,toNat_add1,Int.toNat_natCast])
  (have sx1 : (0 : Nat) + 0 = 0 := rfl;repeat' (first|with_reducible refine T_seq_drawT (id := 11) Γ_ok drawsAny pl7_11 (by kernel_rfl) (fun K hK=>?_)|with_reducible refine T_last_drawT (id := 11) Γ_ok drawsAny pl7_11 (by kernel_rfl) (fun K hK=>?_)|with_reducible refine T_seq_drawT (id := 12) Γ_ok drawsAny pl7_12 (by kernel_rfl) (fun K hK=>?_)|with_reducible refine T_last_drawT (id := 12) Γ_ok drawsAny pl7_12 (by kernel_rfl) (fun K hK=>?_)|((refine goU1 _ _ _ _ _ _ _ _ _ _ _ _ ?_ ?_ ?_ ?_ ?_ ?_ ?_ ?_ ?_ ?_ ?_ ?_) <;> (repeat intro hb) <;> first|exact True.intro|refine Lf.mk ?_)))
  refine T_rounds 7 ?_
  (have sx1 := e3;repeat' (first|with_reducible refine T_seq_drawT (id := 11) Γ_ok drawsAny pl7_11 (by kernel_rfl) (fun K hK=>?_)|with_reducible refine T_last_drawT (id := 11) Γ_ok drawsAny pl7_11 (by kernel_rfl) (fun K hK=>?_)|with_reducible refine T_seq_drawT (id := 12) Γ_ok drawsAny pl7_12 (by kernel_rfl) (fun K hK=>?_)|with_reducible refine T_last_drawT (id := 12) Γ_ok drawsAny pl7_12 (by kernel_rfl) (fun K hK=>?_)|((refine goU1 _ _ _ _ _ _ _ _ _ _ _ _ ?_ ?_ ?_ ?_ ?_ ?_ ?_ ?_ ?_ ?_ ?_ ?_) <;> (repeat intro hb) <;> first|exact True.intro|refine Lf.mk ?_)))
  refine hKF _ ?_
  ((try simp only [List.length_append,List.length_cons,List.length_nil,Nat.zero_add]);refine Wk.intro [0,1] (by decide) (by decide) (by intro o ho;simp at ho ⊢ <;> omega) ?_ ?_ <;> repeat' (first|exact WkVL.nil|refine WkVL.cons ?_ ?_|exact WkV.top|exact WkV.imm rfl|exact WkV.imm (by simp)|exact WkV.optr rfl|exact WkV.own rfl (by simp)|exact WkV.nil_own (.inl rfl)|exact WkV.map rfl|(refine WkV.free ?_;simp [Free,FreeL] <;> assumption)|(refine WkV.free (fun _ _=>FreeL_nth ?_ _);simp [Free,FreeL];done)|refine WkV.agg ?_|refine WkV.tup ?_|refine WkV.fn ?_ ?_|exact WkO.dead|exact WkO.raw|refine WkO.ghost ?_|exact WkO.mpE rfl trivial|refine WkO.box ?_ rfl|refine WkO.arr ?_|refine And.intro ?_ (And.intro (by first|exact fun h=>h|exact fun _=>rfl|exact nofun) ?_)|exact trivial|(intro i j hi hj)))
set_option maxRecDepth 100000 in
set_option maxHeartbeats 4000000 in
theorem pair_2 (s : Sc) (hp4 : s.pairs.length ≤ 400) (hn4 : s.notes.length ≤ 200) (c i : Nat) (hc : c ≤ 400) (w : Pr) (hi : i < s.pairs.length) (hbd : (gp s.pairs i).bound = 0) (hpb : PrB s.notes.length (gp s.pairs i))
    (hA : Bd6 24 (gn s.notes (gp s.pairs i).a.toNat).pl) (hB : Bd6 24 (gn s.notes (gp s.pairs i).b.toNat).pl) (h0 : (gp s.pairs i).want.a = (gn s.notes (gp s.pairs i).b.toNat).pl.a - (gn s.notes (gp s.pairs i).a.toNat).pl.a) (h1 : (gp s.pairs i).want.b = (gn s.notes (gp s.pairs i).b.toNat).pl.b - (gn s.notes (gp s.pairs i).a.toNat).pl.b) (hne : (gp s.pairs i).want.c ≠ (gn s.notes (gp s.pairs i).b.toNat).pl.c - (gn s.notes (gp s.pairs i).a.toNat).pl.c)
    (KF : St → Prop) (hKF : CK KF s (c + 1) (i + 1) (gp s.pairs i)) (Q : Exit → St → Prop) :
    T Try.prog 0 (rd := rd) (cAt cb7 [true,true,true,true,false,true,true,true]) (thenQ KF Q) ⟨enC s c i,fxC s w⟩ := by
  simp only [cAt, cb7, Try.f7, Option.getD_some]
  have e3 : ((gp s.pairs i).bound == 0) = true := by rw [hbd]; rfl
  unfold PrB at hpb
  unfold Bd6 at hA hB
  (simp only [go_sem,↓reduceIte,Nat.reduceAdd,Nat.reduceSub,Nat.reduceMul,Nat.reduceLT,Nat.reduceLeDiff,Nat.reduceEqDiff,Nat.reduceGT,Int.reduceToNat,Int.reduceBEq,Int.reduceBNe];try simp (disch := omega) only [wrapI,wrapU,half_sum,toNat_sub1,toNat_add1,Int.toNat_natCast])
  (have sx1 : (0 : Nat) + 0 = 0 := rfl;repeat' (first|with_reducible refine T_seq_drawT (id := 11) Γ_ok drawsAny pl7_11 (by kernel_rfl) (fun K hK=>?_)|with_reducible refine T_last_drawT (id := 11) Γ_ok drawsAny pl7_11 (by kernel_rfl) (fun K hK=>?_)|with_reducible refine T_seq_drawT (id := 12) Γ_ok drawsAny pl7_12 (by kernel_rfl) (fun K hK=>?_)|with_reducible refine T_last_drawT (id := 12) Γ_ok drawsAny pl7_12 (by kernel_rfl) (fun K hK=>?_)|((refine goU1 _ _ _ _ _ _ _ _ _ _ _ _ ?_ ?_ ?_ ?_ ?_ ?_ ?_ ?_ ?_ ?_ ?_ ?_) <;> (repeat intro hb) <;> first|exact True.intro|refine Lf.mk ?_)))
  refine T_rounds 7 ?_
  (have sx1 := e3;repeat' (first|with_reducible refine T_seq_drawT (id := 11) Γ_ok drawsAny pl7_11 (by kernel_rfl) (fun K hK=>?_)|with_reducible refine T_last_drawT (id := 11) Γ_ok drawsAny pl7_11 (by kernel_rfl) (fun K hK=>?_)|with_reducible refine T_seq_drawT (id := 12) Γ_ok drawsAny pl7_12 (by kernel_rfl) (fun K hK=>?_)|with_reducible refine T_last_drawT (id := 12) Γ_ok drawsAny pl7_12 (by kernel_rfl) (fun K hK=>?_)|((refine goU1 _ _ _ _ _ _ _ _ _ _ _ _ ?_ ?_ ?_ ?_ ?_ ?_ ?_ ?_ ?_ ?_ ?_ ?_) <;> (repeat intro hb) <;> first|exact True.intro|refine Lf.mk ?_)))
  refine hKF _ ?_
  ((try simp only [List.length_append,List.length_cons,List.length_nil,Nat.zero_add]);refine Wk.intro [0,1] (by decide) (by decide) (by intro o ho;simp at ho ⊢ <;> omega) ?_ ?_ <;> repeat' (first|exact WkVL.nil|refine WkVL.cons ?_ ?_|exact WkV.top|exact WkV.imm rfl|exact WkV.imm (by simp)|exact WkV.optr rfl|exact WkV.own rfl (by simp)|exact WkV.nil_own (.inl rfl)|exact WkV.map rfl|(refine WkV.free ?_;simp [Free,FreeL] <;> assumption)|(refine WkV.free (fun _ _=>FreeL_nth ?_ _);simp [Free,FreeL];done)|refine WkV.agg ?_|refine WkV.tup ?_|refine WkV.fn ?_ ?_|exact WkO.dead|exact WkO.raw|refine WkO.ghost ?_|exact WkO.mpE rfl trivial|refine WkO.box ?_ rfl|refine WkO.arr ?_|refine And.intro ?_ (And.intro (by first|exact fun h=>h|exact fun _=>rfl|exact nofun) ?_)|exact trivial|(intro i j hi hj)))
end Go.Proofs.Ytmglcamgpgkblaa
