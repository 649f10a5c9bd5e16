/-
  natural: compare, Cmp.
-/
import Derived.Test.YtonmienclploaaaGreatDoorQGo
import Derived.Test.YtonmienclploaaaGreatDoorQN5
set_option linter.unusedSimpArgs false
set_option linter.unusedVariables false
namespace Go.Proofs.YtonmienclploaaaGreatDoor.Q
open Go.Ab
def cmpI (x y : Int) : Int := if x < y then -1 else if x > y then 1 else 0
set_option maxRecDepth 100000 in
set_option maxHeartbeats 4000000 in
theorem isNaN_tc (x : Int) : Look Tryz.prog 86 [.imm (.int .i64 x)] (.imm (.bool false)) := by
  refine Look.mk trivial ?_
  (refine TC_of_T Γ_ok Tryz.func86 rfl (by kernel_rfl) ?_;simp only [Tryz.ntmps86,Tryz.results86,List.length_cons,List.length_nil,Nat.reduceSub,Nat.reduceAdd,List.replicate,List.cons_append,List.nil_append])
  (((refine goR0 _ _ _ _ _ _ _ _ ?_ ?_ ?_ ?_ ?_ ?_ ?_ ?_) <;> (repeat intro hb) <;> first | exact True.intro | refine Lf.mk ?_))
  all_goals simp
set_option maxRecDepth 100000 in
set_option maxHeartbeats 4000000 in
theorem isNaNU_tc (x : Int) : Look Tryz.prog 135 [.imm (.int .u32 x)] (.imm (.bool false)) := by
  refine Look.mk trivial ?_
  (refine TC_of_T Γ_ok Tryz.func135 rfl (by kernel_rfl) ?_;simp only [Tryz.ntmps135,Tryz.results135,List.length_cons,List.length_nil,Nat.reduceSub,Nat.reduceAdd,List.replicate,List.cons_append,List.nil_append])
  (((refine goR0 _ _ _ _ _ _ _ _ ?_ ?_ ?_ ?_ ?_ ?_ ?_ ?_) <;> (repeat intro hb) <;> first | exact True.intro | refine Lf.mk ?_))
  all_goals simp
set_option maxRecDepth 100000 in
set_option maxHeartbeats 4000000 in
theorem cmp_tc (x y : Int) : Look Tryz.prog 59 [.imm (.int .i64 x),.imm (.int .i64 y)] (.imm (.int .i64 (cmpI x y))) := by
  refine Look.mk trivial ?_
  (refine TC_of_T Γ_ok Tryz.func59 rfl (by kernel_rfl) ?_;simp only [Tryz.ntmps59,Tryz.results59,List.length_cons,List.length_nil,Nat.reduceSub,Nat.reduceAdd,List.replicate,List.cons_append,List.nil_append])
  (have cl1 := fun u1 => isNaN_tc u1;((refine goR0 _ _ _ _ _ _ _ _ ?_ ?_ ?_ ?_ ?_ ?_ ?_ ?_) <;> (repeat intro hb) <;> first | exact True.intro | refine Lf.mk ?_))
  all_goals (congr 2; unfold cmpI)
  · rw [if_pos hb]
  · rename_i h; rw [if_neg (by omega), if_pos hb]
  · rw [if_neg (by omega), if_neg (by omega)]
set_option maxRecDepth 100000 in
set_option maxHeartbeats 4000000 in
theorem cmpU_tc (x y : Int) : Look Tryz.prog 128 [.imm (.int .u32 x),.imm (.int .u32 y)] (.imm (.int .i64 (cmpI x y))) := by
  refine Look.mk trivial ?_
  (refine TC_of_T Γ_ok Tryz.func128 rfl (by kernel_rfl) ?_;simp only [Tryz.ntmps128,Tryz.results128,List.length_cons,List.length_nil,Nat.reduceSub,Nat.reduceAdd,List.replicate,List.cons_append,List.nil_append])
  (have cl1 := fun u1 => isNaNU_tc u1;((refine goR0 _ _ _ _ _ _ _ _ ?_ ?_ ?_ ?_ ?_ ?_ ?_ ?_) <;> (repeat intro hb) <;> first | exact True.intro | refine Lf.mk ?_))
  all_goals (congr 2; unfold cmpI)
  · rw [if_pos hb]
  · rename_i h; rw [if_neg (by omega), if_pos hb]
  · rw [if_neg (by omega), if_neg (by omega)]
def cmpN (a b : Nat) : Int := if a < b then -1 else if a = b then 0 else 1
theorem cmpN_lt {a b : Nat} (h : a < b) : cmpN a b = -1 := if_pos h
theorem cmpN_gt {a b : Nat} (h : b < a) : cmpN a b = 1 := by unfold cmpN; rw [if_neg (by omega), if_neg (by omega)]
theorem cmpN_eq (a : Nat) : cmpN a a = 0 := by unfold cmpN; rw [if_neg (by omega), if_pos rfl]
theorem lmN_lt {a b : Nat} (h : lmN a < lmN b) : a < b := by
  rcases Nat.lt_or_ge a b with h2 | h2
  · exact h2
  · have := lmN_mono h2; omega
set_option maxRecDepth 100000 in
set_option maxHeartbeats 4000000 in
theorem compare_tc (a b : Nat) (ha : lmN a ≤ 640) (hb' : lmN b ≤ 640) : Look Tryz.prog 110 [natV a,natV b] (.imm (.int .i64 (cmpN a b))) := by
  refine Look.mk trivial ?_
  generalize hQ : cmpN a b = Q
  by_cases hl : lmN a = lmN b
  · (refine TC_of_T Γ_ok Tryz.func110 rfl (by kernel_rfl) ?_;simp only [Tryz.ntmps110,Tryz.results110,List.length_cons,List.length_nil,Nat.reduceSub,Nat.reduceAdd,List.replicate,List.cons_append,List.nil_append])
    (repeat' (first|with_reducible refine T_seq_drawT (id := 6) Γ_ok drawsAny pl110_6 (by kernel_rfl) (fun K hK=>?_)|with_reducible refine T_last_drawT (id := 6) Γ_ok drawsAny pl110_6 (by kernel_rfl) (fun K hK=>?_)|with_reducible refine T_seq_drawT (id := 7) Γ_ok drawsAny pl110_7 (by kernel_rfl) (fun K hK=>?_)|with_reducible refine T_last_drawT (id := 7) Γ_ok drawsAny pl110_7 (by kernel_rfl) (fun K hK=>?_)|((refine goR0 _ _ _ _ _ _ _ _ ?_ ?_ ?_ ?_ ?_ ?_ ?_ ?_) <;> (repeat intro hb) <;> first|exact True.intro|refine Lf.mk ?_)))
    refine T_loopW (fun m st=>∃ n : Nat,n ≤ lmN a ∧ m = n ∧ (∀ j,n ≤ j → j < lmN a → lm a j = lm b j) ∧ st = ⟨[natV a,natV b,.top,.top,.imm (.int .i64 0),.imm (.int .i64 ((n : Int) - 1))] ++ List.replicate 35 .top,[]⟩)
      (lmN a) ⟨_, ?_, lmN a, by omega, rfl, fun j h1 h2 => by omega, rfl⟩ ?_
    · ((try simp only [List.length_append,List.length_cons,List.length_nil,Nat.zero_add]);refine Wk.intro [] (by decide) (by decide) (by intro o ho;simp at ho ⊢ <;> omega) ?_ ?_ <;> repeat' (first|exact WkVL.nil|refine WkVL.cons ?_ ?_|exact WkV.top|exact WkV.imm rfl|exact WkV.imm (by simp)|exact WkV.optr rfl|exact WkV.own rfl (by simp)|exact WkV.nil_own (.inl rfl)|exact WkV.map rfl|(refine WkV.free ?_;simp [Free,FreeL] <;> assumption)|(refine WkV.free (fun _ _=>FreeL_nth ?_ _);simp [Free,FreeL];done)|refine WkV.agg ?_|refine WkV.tup ?_|refine WkV.fn ?_ ?_|exact WkO.dead|exact WkO.raw|refine WkO.ghost ?_|exact WkO.mpE rfl trivial|refine WkO.box ?_ rfl|refine WkO.arr ?_|refine And.intro ?_ (And.intro (by first|exact fun h=>h|exact fun _=>rfl|exact nofun) ?_)|exact trivial|(intro i j hi hj)))
    rintro m st ⟨n, h0, rfl, h1, rfl⟩
    have hA : a < Bs ^ lmN a := lt_pow.2 (Nat.le_refl _)
    have hB : b < Bs ^ lmN a := lt_pow.2 (by omega)
    match m, h0, h1 with
    | 0, h0, h1 =>
      have hq : Q = 0 := by
        rw [← hQ, lm_ext hA hB fun i hi => h1 i (by omega) hi]; exact cmpN_eq b
      subst hq
      (simp only [go_sem,↓reduceIte,Nat.reduceAdd,Nat.reduceSub,Nat.reduceMul,Nat.reduceLT,Nat.reduceLeDiff,Nat.reduceEqDiff,Nat.reduceGT,Int.reduceToNat,Int.reduceBEq,Int.reduceBNe];try simp (disch := omega) only [wrapI,wrapU,half_sum,toNat_sub1,toNat_add1,Int.toNat_natCast])
      (repeat' (first|with_reducible refine T_seq_drawT (id := 6) Γ_ok drawsAny pl110_6 (by kernel_rfl) (fun K hK=>?_)|with_reducible refine T_last_drawT (id := 6) Γ_ok drawsAny pl110_6 (by kernel_rfl) (fun K hK=>?_)|with_reducible refine T_seq_drawT (id := 7) Γ_ok drawsAny pl110_7 (by kernel_rfl) (fun K hK=>?_)|with_reducible refine T_last_drawT (id := 7) Γ_ok drawsAny pl110_7 (by kernel_rfl) (fun K hK=>?_)|((refine goR0 _ _ _ _ _ _ _ _ ?_ ?_ ?_ ?_ ?_ ?_ ?_ ?_) <;> (repeat intro hb) <;> first|exact True.intro|refine Lf.mk ?_)))
    | k + 1, h0, h1 =>
      have e1 : (((k + 1 : Nat) : Int) - 1) = (k : Int) := by omega
      rw [e1]
      have c1 := cmpU_tc (lm a k : Int) (lm b k : Int)
      (simp only [go_sem,↓reduceIte,Nat.reduceAdd,Nat.reduceSub,Nat.reduceMul,Nat.reduceLT,Nat.reduceLeDiff,Nat.reduceEqDiff,Nat.reduceGT,Int.reduceToNat,Int.reduceBEq,Int.reduceBNe];try simp (disch := omega) only [wrapI,wrapU,half_sum,toNat_sub1,toNat_add1,Int.toNat_natCast])
      (have cl1 := c1;repeat' (first|with_reducible refine T_seq_drawT (id := 6) Γ_ok drawsAny pl110_6 (by kernel_rfl) (fun K hK=>?_)|with_reducible refine T_last_drawT (id := 6) Γ_ok drawsAny pl110_6 (by kernel_rfl) (fun K hK=>?_)|with_reducible refine T_seq_drawT (id := 7) Γ_ok drawsAny pl110_7 (by kernel_rfl) (fun K hK=>?_)|with_reducible refine T_last_drawT (id := 7) Γ_ok drawsAny pl110_7 (by kernel_rfl) (fun K hK=>?_)|((refine goR0 _ _ _ _ _ _ _ _ ?_ ?_ ?_ ?_ ?_ ?_ ?_ ?_) <;> (repeat intro hb) <;> first|exact True.intro|refine Lf.mk ?_)))
      · rw [← hQ]
        unfold cmpI
        rcases Nat.lt_trichotomy (lm a k) (lm b k) with h2 | h2 | h2
        · rw [if_pos (by omega), cmpN_lt (lm_cmp hA hB h0 (fun j q1 q2 => h1 j (by omega) q2) h2)]
        · omega
        · rw [if_neg (by omega),if_pos (by omega),cmpN_gt (lm_cmp hB hA h0 (fun j q1 q2 => (h1 j (by omega) q2).symm) h2)]
      · refine ⟨k, by omega, _, ?_, k, by omega, rfl, fun j q1 q2 => ?_, rfl⟩
        · ((try simp only [List.length_append,List.length_cons,List.length_nil,Nat.zero_add]);refine Wk.intro [] (by decide) (by decide) (by intro o ho;simp at ho ⊢ <;> omega) ?_ ?_ <;> repeat' (first|(refine WkV.imm ?_;congr 1;omega)|exact WkVL.nil|refine WkVL.cons ?_ ?_|exact WkV.top|exact WkV.imm rfl|exact WkV.imm (by simp)|exact WkV.optr rfl|exact WkV.own rfl (by simp)|exact WkV.nil_own (.inl rfl)|exact WkV.map rfl|(refine WkV.free ?_;simp [Free,FreeL] <;> assumption)|(refine WkV.free (fun _ _=>FreeL_nth ?_ _);simp [Free,FreeL];done)|refine WkV.agg ?_|refine WkV.tup ?_|refine WkV.fn ?_ ?_|exact WkO.dead|exact WkO.raw|refine WkO.ghost ?_|exact WkO.mpE rfl trivial|refine WkO.box ?_ rfl|refine WkO.arr ?_|refine And.intro ?_ (And.intro (by first|exact fun h=>h|exact fun _=>rfl|exact nofun) ?_)|exact trivial|(intro i j hi hj)))
        · by_cases e : j = k
          · subst e; omega
          · exact h1 j (by omega) q2
  · have c1 := cmp_tc (lmN a : Int) (lmN b : Int)
    (refine TC_of_T Γ_ok Tryz.func110 rfl (by kernel_rfl) ?_;simp only [Tryz.ntmps110,Tryz.results110,List.length_cons,List.length_nil,Nat.reduceSub,Nat.reduceAdd,List.replicate,List.cons_append,List.nil_append])
    (have cl1 := c1;repeat' (first|with_reducible refine T_seq_drawT (id := 6) Γ_ok drawsAny pl110_6 (by kernel_rfl) (fun K hK=>?_)|with_reducible refine T_last_drawT (id := 6) Γ_ok drawsAny pl110_6 (by kernel_rfl) (fun K hK=>?_)|with_reducible refine T_seq_drawT (id := 7) Γ_ok drawsAny pl110_7 (by kernel_rfl) (fun K hK=>?_)|with_reducible refine T_last_drawT (id := 7) Γ_ok drawsAny pl110_7 (by kernel_rfl) (fun K hK=>?_)|((refine goR0 _ _ _ _ _ _ _ _ ?_ ?_ ?_ ?_ ?_ ?_ ?_ ?_) <;> (repeat intro hb) <;> first|exact True.intro|refine Lf.mk ?_)))
    rw [← hQ]
    refine congrArg (fun x => AV.imm (.int .i64 x)) ?_
    unfold cmpI
    rcases Nat.lt_or_ge (lmN a) (lmN b) with h | h
    · rw [if_pos (by omega), cmpN_lt (lmN_lt h)]
    · rw [if_neg (by omega), if_pos (by omega), cmpN_gt (lmN_lt (by omega))]
set_option maxRecDepth 100000 in
set_option maxHeartbeats 4000000 in
theorem ncmp_tc (a b : Nat) (ha : lmN a ≤ 640) (hb' : lmN b ≤ 640) : Look Tryz.prog 75 [natV a,natV b] (.tup [.imm (.int .i64 (cmpN a b)),.imm (.int .i64 0)]) := by
  refine Look.mk (by simp [Pl, PlL]) ?_
  have c1 := valid_tc a ha
  have c2 := valid_tc b hb'
  have c3 := compare_tc a b ha hb'
  (refine TC_of_T Γ_ok Tryz.func75 rfl (by kernel_rfl) ?_;simp only [Tryz.ntmps75,Tryz.results75,List.length_cons,List.length_nil,Nat.reduceSub,Nat.reduceAdd,List.replicate,List.cons_append,List.nil_append])
  (have dl1 := c1;have dl2 := c2;have cl1 := c3;((refine goR0 _ _ _ _ _ _ _ _ ?_ ?_ ?_ ?_ ?_ ?_ ?_ ?_) <;> (repeat intro hb) <;> first | exact True.intro | refine Lf.mk ?_))
end Go.Proofs.YtonmienclploaaaGreatDoor.Q
