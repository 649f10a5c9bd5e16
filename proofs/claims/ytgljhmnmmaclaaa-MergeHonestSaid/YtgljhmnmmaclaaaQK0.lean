/-
  The elements that are sorted: clashes.
-/
import Derived.Test.YtgljhmnmmaclaaaQGo
import Derived.Test.YtgljhmnmmaclaaaQA5
import Derived.Sort.Defs
set_option linter.unusedSimpArgs false
set_option linter.unusedVariables false
namespace Go.Proofs.Ytgljhmnmmaclaaa
open Go.Ab
structure Cl where
  s : Int
  a : Int
  b : Int
instance : Inhabited Cl := ⟨⟨0, 0, 0⟩⟩
abbrev El := Cl
@[go_sem, reducible] def elL (x : Cl) : List AV := [.imm (.int .i64 x.s), .imm (.int .i64 x.a), .imm (.int .i64 x.b)]
@[go_sem, reducible] def elA (x : Cl) : AV := .agg (elL x)
@[go_sem, reducible] def elS : Nat := 3
theorem elL_len (x : El) : (elL x).length = elS := rfl
theorem elL_free (x : El) : FreeL (elL x) := by simp [elL, FreeL, Free]
def elE (d : Array Cl) (i j : Nat) : AV := nth (elL d[i]!) j
@[go_sem] theorem elE_0 (d : Array Cl) (i : Nat) : elE d i 0 = .imm (.int .i64 d[i]!.s) := rfl
@[go_sem] theorem elE_1 (d : Array Cl) (i : Nat) : elE d i 1 = .imm (.int .i64 d[i]!.a) := rfl
@[go_sem] theorem elE_2 (d : Array Cl) (i : Nat) : elE d i 2 = .imm (.int .i64 d[i]!.b) := rfl
@[simp] theorem elE_free (d : Array Cl) (i j : Nat) : Free (elE d i j) := FreeL_nth (elL_free _) _
theorem elE_pl (d : Array Cl) (i j : Nat) : Pl (elE d i j) := by
  rcases j with _ | _ | _ | j <;> trivial
def cmpI (x y : Int) : Int := if x < y then -1 else if x > y then 1 else 0
def or3 (x y z : Int) : Int := if x ≠ 0 then x else if y ≠ 0 then y else z
def cmpE (x y : Cl) : Int := or3 (cmpI x.s y.s) (cmpI x.a y.a) (cmpI x.b y.b)
set_option maxRecDepth 100000 in
set_option maxHeartbeats 4000000 in
theorem isNaN_tc (x : Int) : Look Try.prog 46 [.imm (.int .i64 x)] (.imm (.bool false)) := by
  refine Look.mk trivial ?_
  (refine TC_of_T Γ_ok Try.func46 rfl (by kernel_rfl) ?_;simp only [Try.ntmps46,Try.results46,List.length_cons,List.length_nil,Nat.reduceSub,Nat.reduceAdd,List.replicate,List.cons_append,List.nil_append])
  (((refine goL0 _ _ _ _ _ _ _ _ ?_ ?_ ?_ ?_ ?_ ?_ ?_ ?_) <;> (repeat intro hb) <;> first | exact True.intro | refine Lf.mk ?_))
  all_goals simp
set_option maxRecDepth 100000 in
set_option maxHeartbeats 4000000 in
theorem cmp_tc (x y : Int) : Look Try.prog 27 [.imm (.int .i64 x),.imm (.int .i64 y)] (.imm (.int .i64 (cmpI x y))) := by
  refine Look.mk trivial ?_
  (refine TC_of_T Γ_ok Try.func27 rfl (by kernel_rfl) ?_;simp only [Try.ntmps27,Try.results27,List.length_cons,List.length_nil,Nat.reduceSub,Nat.reduceAdd,List.replicate,List.cons_append,List.nil_append])
  (have cl1 := fun u1 => isNaN_tc u1;((refine goL0 _ _ _ _ _ _ _ _ ?_ ?_ ?_ ?_ ?_ ?_ ?_ ?_) <;> (repeat intro hb) <;> first | exact True.intro | refine Lf.mk ?_))
  all_goals (congr 2; unfold cmpI)
  · rw [if_pos hb]
  · rename_i h; rw [if_neg (by omega), if_pos hb]
  · rw [if_neg (by omega), if_neg (by omega)]
def l3 (x y z : Int) (i : Nat) (_ : Nat) : AV := .imm (.int .i64 ([x, y, z].getD i 0))
@[simp] theorem l3_free (x y z : Int) (i j : Nat) : Free (l3 x y z i j) := trivial
@[go_sem] theorem l3_us (x y z : Int) (i j : Nat) : l3 x y z i j = .imm (.int .i64 ([x, y, z].getD i 0)) := rfl
set_option maxRecDepth 100000 in
set_option maxHeartbeats 4000000 in
theorem or_tc (x y z : Int) : Look Try.prog 37 [.view 3 1 (l3 x y z)] (.imm (.int .i64 (or3 x y z))) := by
  refine Look.mk trivial ?_
  (refine TC_of_T Γ_ok Try.func37 rfl (by kernel_rfl) ?_;simp only [Try.ntmps37,Try.results37,List.length_cons,List.length_nil,Nat.reduceSub,Nat.reduceAdd,List.replicate,List.cons_append,List.nil_append])
  (((refine goL0 _ _ _ _ _ _ _ _ ?_ ?_ ?_ ?_ ?_ ?_ ?_ ?_) <;> (repeat intro hb) <;> first | exact True.intro | refine Lf.mk ?_))
  refine T_loopW (fun m st => ∃ i : Nat, i ≤ 3 ∧ m + i = 3 ∧ (∀ j, j < i → [x, y, z].getD j 0 = 0) ∧
      st = ⟨[.view 3 1 (l3 x y z),.top,.imm (.int .i64 0),.imm (.int .i64 0),.top,.top,.view 3 1 (l3 x y z),.imm (.int .i64 3),.imm (.int .i64 i)] ++ List.replicate 9 .top,[]⟩)
      3 ⟨_, ?_, 0, by omega, rfl, fun j hj => by omega, rfl⟩ ?_
  · ((try simp only [List.length_append,List.length_cons,List.length_nil,Nat.zero_add]);refine Wk.intro [] (by decide) (by decide) (by intro o ho;simp at ho ⊢ <;> omega) ?_ ?_ <;> repeat' (first|exact WkVL.nil|refine WkVL.cons ?_ ?_|exact WkV.top|exact WkV.imm rfl|exact WkV.imm (by simp)|exact WkV.optr rfl|exact WkV.own rfl (by simp)|exact WkV.nil_own (.inl rfl)|exact WkV.map rfl|(refine WkV.free ?_;simp [Free,FreeL] <;> assumption)|(refine WkV.free (fun _ _=>FreeL_nth ?_ _);simp [Free,FreeL];done)|refine WkV.agg ?_|refine WkV.tup ?_|refine WkV.fn ?_ ?_|exact WkO.dead|exact WkO.raw|refine WkO.ghost ?_|exact WkO.mpE rfl trivial|refine WkO.box ?_ rfl|refine WkO.arr ?_|refine And.intro ?_ (And.intro (by first|exact fun h=>h|exact fun _=>rfl|exact nofun) ?_)|exact trivial|(intro i j hi hj)))
  rintro m st ⟨i, h0, h1, h2, rfl⟩
  (simp only [go_sem,↓reduceIte,Nat.reduceAdd,Nat.reduceSub,Nat.reduceMul,Nat.reduceLT,Nat.reduceLeDiff,Nat.reduceEqDiff,Nat.reduceGT,Int.reduceToNat,Int.reduceBEq,Int.reduceBNe];try simp (disch := omega) only [wrapI,wrapU,half_sum,toNat_sub1,toNat_add1,Int.toNat_natCast])
  (((refine goL0 _ _ _ _ _ _ _ _ ?_ ?_ ?_ ?_ ?_ ?_ ?_ ?_) <;> (repeat intro hb) <;> first | exact True.intro | refine Lf.mk ?_))
  · congr 2
    have h3 : i = 0 ∨ i = 1 ∨ i = 2 := by omega
    rcases h3 with rfl | rfl | rfl
    · simp only [List.getD_cons_zero] at hb ⊢; unfold or3; rw [if_pos hb]
    · have e0 := h2 0 (by omega)
      simp only [List.getD_cons_zero, List.getD_cons_succ] at hb e0 ⊢; unfold or3; rw [if_neg (by omega), if_pos hb]
    · have e0 := h2 0 (by omega)
      have e1 := h2 1 (by omega)
      simp only [List.getD_cons_zero,List.getD_cons_succ] at hb e0 e1 ⊢;unfold or3;rw [if_neg (by omega),if_neg (by omega)]
  · refine ⟨3 - (i + 1), by omega, _, ?_, i + 1, by omega, by omega, fun j hj => ?_, rfl⟩
    · ((try simp only [List.length_append,List.length_cons,List.length_nil,Nat.zero_add]);refine Wk.intro [] (by decide) (by decide) (by intro o ho;simp at ho ⊢ <;> omega) ?_ ?_ <;> repeat' (first|(refine WkV.imm ?_;congr 1;omega)|exact WkVL.nil|refine WkVL.cons ?_ ?_|exact WkV.top|exact WkV.imm rfl|exact WkV.imm (by simp)|exact WkV.optr rfl|exact WkV.own rfl (by simp)|exact WkV.nil_own (.inl rfl)|exact WkV.map rfl|(refine WkV.free ?_;simp [Free,FreeL] <;> assumption)|(refine WkV.free (fun _ _=>FreeL_nth ?_ _);simp [Free,FreeL];done)|refine WkV.agg ?_|refine WkV.tup ?_|refine WkV.fn ?_ ?_|exact WkO.dead|exact WkO.raw|refine WkO.ghost ?_|exact WkO.mpE rfl trivial|refine WkO.box ?_ rfl|refine WkO.arr ?_|refine And.intro ?_ (And.intro (by first|exact fun h=>h|exact fun _=>rfl|exact nofun) ?_)|exact trivial|(intro i j hi hj)))
    · by_cases e : j = i
      · subst e; exact hb
      · exact h2 j (by omega)
  · have : i = 3 := by omega
    subst this
    have e0 := h2 0 (by omega)
    have e1 := h2 1 (by omega)
    have e2 := h2 2 (by omega)
    simp only [List.getD_cons_zero, List.getD_cons_succ] at e0 e1 e2
    congr 2
    unfold or3
    rw [if_neg (by omega), if_neg (by omega), e2]
set_option maxRecDepth 100000 in
set_option maxHeartbeats 4000000 in
theorem cmpE_tc (x y : El) : Look Try.prog 36 [elA x, elA y] (.imm (.int .i64 (cmpE x y))) := by
  refine Look.mk trivial ?_
  (refine TC_of_T Γ_ok Try.func36 rfl (by kernel_rfl) ?_;simp only [Try.ntmps36,Try.results36,List.length_cons,List.length_nil,Nat.reduceSub,Nat.reduceAdd,List.replicate,List.cons_append,List.nil_append])
  (have cl1 := fun u1 u2=>cmp_tc u1 u2;have cl2 := or_tc (cmpI x.s y.s) (cmpI x.a y.a) (cmpI x.b y.b);repeat' (first|with_reducible refine T_seq_drawT (id := 1) Γ_ok drawsAny pl36_1 (by kernel_rfl) (fun K hK=>?_)|with_reducible refine T_last_drawT (id := 1) Γ_ok drawsAny pl36_1 (by kernel_rfl) (fun K hK=>?_)|((refine goL0 _ _ _ _ _ _ _ _ ?_ ?_ ?_ ?_ ?_ ?_ ?_ ?_) <;> (repeat intro hb) <;> first|exact True.intro|refine Lf.mk ?_)))
  all_goals rfl
end Go.Proofs.Ytgljhmnmmaclaaa
