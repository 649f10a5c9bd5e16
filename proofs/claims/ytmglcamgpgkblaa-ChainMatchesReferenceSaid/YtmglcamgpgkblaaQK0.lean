/-
  The elements that are sorted: steps with their products.
-/
import Derived.Test.YtmglcamgpgkblaaQGo
import Derived.Test.YtmglcamgpgkblaaQB1
import Derived.Test.YtmglcamgpgkblaaQA5
import Derived.Sort.Defs
set_option linter.unusedSimpArgs false
set_option linter.unusedVariables false
namespace Go.Proofs.Ytmglcamgpgkblaa
open Go.Ab
structure Ed where
  fr : Int
  to : Int
  k : Int
  v : P6
  deriving DecidableEq
def ed0 : Ed := ⟨0, 0, 0, z6⟩
instance : Inhabited Ed := ⟨ed0⟩
abbrev El := Ed
@[go_sem,reducible] def elL (k : Ed) : List AV := [.imm (.int .i64 k.fr),.imm (.int .i64 k.to),.imm (.int .i64 k.k),.imm (.int .i64 k.v.a),.imm (.int .i64 k.v.b),.imm (.int .i64 k.v.c),.imm (.int .i64 k.v.d),.imm (.int .i64 k.v.e),.imm (.int .i64 k.v.f)]
@[go_sem, reducible] def elA (x : Ed) : AV := .agg (elL x)
@[go_sem, reducible] def elS : Nat := 9
theorem elL_len (x : El) : (elL x).length = elS := rfl
theorem elL_free (x : El) : FreeL (elL x) := by simp [elL, FreeL, Free]
def elE (d : Array Ed) (i j : Nat) : AV := nth (elL d[i]!) j
@[go_sem] theorem elE_0 (d : Array Ed) (i : Nat) : elE d i 0 = .imm (.int .i64 d[i]!.fr) := rfl
@[go_sem] theorem elE_1 (d : Array Ed) (i : Nat) : elE d i 1 = .imm (.int .i64 d[i]!.to) := rfl
@[go_sem] theorem elE_2 (d : Array Ed) (i : Nat) : elE d i 2 = .imm (.int .i64 d[i]!.k) := rfl
@[go_sem] theorem elE_3 (d : Array Ed) (i : Nat) : elE d i 3 = .imm (.int .i64 d[i]!.v.a) := rfl
@[go_sem] theorem elE_4 (d : Array Ed) (i : Nat) : elE d i 4 = .imm (.int .i64 d[i]!.v.b) := rfl
@[go_sem] theorem elE_5 (d : Array Ed) (i : Nat) : elE d i 5 = .imm (.int .i64 d[i]!.v.c) := rfl
@[go_sem] theorem elE_6 (d : Array Ed) (i : Nat) : elE d i 6 = .imm (.int .i64 d[i]!.v.d) := rfl
@[go_sem] theorem elE_7 (d : Array Ed) (i : Nat) : elE d i 7 = .imm (.int .i64 d[i]!.v.e) := rfl
@[go_sem] theorem elE_8 (d : Array Ed) (i : Nat) : elE d i 8 = .imm (.int .i64 d[i]!.v.f) := rfl
@[simp] theorem elE_free (d : Array Ed) (i j : Nat) : Free (elE d i j) := FreeL_nth (elL_free _) _
theorem elE_pl (d : Array Ed) (i j : Nat) : Pl (elE d i j) := by
  rcases j with _ | _ | _ | _ | _ | _ | _ | _ | _ | j <;> trivial
def cmpI (x y : Int) : Int := if x < y then -1 else if x > y then 1 else 0
def or2 (x y : Int) : Int := if x ≠ 0 then x else y
def cmpE (x y : Ed) : Int := cmpI x.to y.to
set_option maxRecDepth 100000 in
set_option maxHeartbeats 4000000 in
theorem isNaN_tc (x : Int) : Look Try.prog 71 [.imm (.int .i64 x)] (.imm (.bool false)) := by
  refine Look.mk trivial ?_
  (refine TC_of_T Γ_ok Try.func71 rfl (by kernel_rfl) ?_;simp only [Try.ntmps71,Try.results71,List.length_cons,List.length_nil,Nat.reduceSub,Nat.reduceAdd,List.replicate,List.cons_append,List.nil_append])
  (((have sx1 : (0 : Nat) + 0 = 0 := rfl;refine goL1 _ _ _ _ _ _ _ _ ?_ ?_ ?_ ?_ ?_ ?_ ?_ ?_) <;> (repeat intro hb) <;> first | exact True.intro | refine Lf.mk ?_))
  all_goals simp
set_option maxRecDepth 100000 in
set_option maxHeartbeats 4000000 in
theorem cmp_tc (x y : Int) : Look Try.prog 47 [.imm (.int .i64 x),.imm (.int .i64 y)] (.imm (.int .i64 (cmpI x y))) := by
  refine Look.mk trivial ?_
  (refine TC_of_T Γ_ok Try.func47 rfl (by kernel_rfl) ?_;simp only [Try.ntmps47,Try.results47,List.length_cons,List.length_nil,Nat.reduceSub,Nat.reduceAdd,List.replicate,List.cons_append,List.nil_append])
  (have cl1 := fun u1 => isNaN_tc u1;((have sx1 : (0 : Nat) + 0 = 0 := rfl;refine goL1 _ _ _ _ _ _ _ _ ?_ ?_ ?_ ?_ ?_ ?_ ?_ ?_) <;> (repeat intro hb) <;> first | exact True.intro | refine Lf.mk ?_))
  all_goals (congr 2; unfold cmpI)
  · rw [if_pos hb]
  · rename_i h; rw [if_neg (by omega), if_pos hb]
  · rw [if_neg (by omega), if_neg (by omega)]
def l2 (x y : Int) (i : Nat) (_ : Nat) : AV := .imm (.int .i64 ([x, y].getD i 0))
@[simp] theorem l2_free (x y : Int) (i j : Nat) : Free (l2 x y i j) := trivial
@[go_sem] theorem l2_us (x y : Int) (i j : Nat) : l2 x y i j = .imm (.int .i64 ([x, y].getD i 0)) := rfl
set_option maxRecDepth 100000 in
set_option maxHeartbeats 4000000 in
theorem or_tc (x y : Int) : Look Try.prog 63 [.view 2 1 (l2 x y)] (.imm (.int .i64 (or2 x y))) := by
  refine Look.mk trivial ?_
  (refine TC_of_T Γ_ok Try.func63 rfl (by kernel_rfl) ?_;simp only [Try.ntmps63,Try.results63,List.length_cons,List.length_nil,Nat.reduceSub,Nat.reduceAdd,List.replicate,List.cons_append,List.nil_append])
  (((have sx1 : (0 : Nat) + 0 = 0 := rfl;refine goL1 _ _ _ _ _ _ _ _ ?_ ?_ ?_ ?_ ?_ ?_ ?_ ?_) <;> (repeat intro hb) <;> first | exact True.intro | refine Lf.mk ?_))
  refine T_loopW (fun m st => ∃ i : Nat, i ≤ 2 ∧ m + i = 2 ∧ (∀ j, j < i → [x, y].getD j 0 = 0) ∧
      st = ⟨[.view 2 1 (l2 x y),.top,.imm (.int .i64 0),.imm (.int .i64 0),.top,.top,.view 2 1 (l2 x y),.imm (.int .i64 2),.imm (.int .i64 i)] ++ List.replicate 9 .top,[]⟩)
      2 ⟨_, ?_, 0, by omega, rfl, fun j hj => by omega, rfl⟩ ?_
  · ((try simp only [List.length_append,List.length_cons,List.length_nil,Nat.zero_add]);refine Wk.intro [] (by decide) (by decide) (by intro o ho;simp at ho ⊢ <;> omega) ?_ ?_ <;> repeat' (first|exact WkVL.nil|refine WkVL.cons ?_ ?_|exact WkV.top|exact WkV.imm rfl|exact WkV.imm (by simp)|exact WkV.optr rfl|exact WkV.own rfl (by simp)|exact WkV.nil_own (.inl rfl)|exact WkV.map rfl|(refine WkV.free ?_;simp [Free,FreeL] <;> assumption)|(refine WkV.free (fun _ _=>FreeL_nth ?_ _);simp [Free,FreeL];done)|refine WkV.agg ?_|refine WkV.tup ?_|refine WkV.fn ?_ ?_|exact WkO.dead|exact WkO.raw|refine WkO.ghost ?_|exact WkO.mpE rfl trivial|refine WkO.box ?_ rfl|refine WkO.arr ?_|refine And.intro ?_ (And.intro (by first|exact fun h=>h|exact fun _=>rfl|exact nofun) ?_)|exact trivial|(intro i j hi hj)))
  rintro m st ⟨i, h0, h1, h2, rfl⟩
  (simp only [go_sem,↓reduceIte,Nat.reduceAdd,Nat.reduceSub,Nat.reduceMul,Nat.reduceLT,Nat.reduceLeDiff,Nat.reduceEqDiff,Nat.reduceGT,Int.reduceToNat,Int.reduceBEq,Int.reduceBNe];try simp (disch := omega) only [wrapI,wrapU,half_sum,toNat_sub1,toNat_add1,Int.toNat_natCast])
  (((have sx1 : (0 : Nat) + 0 = 0 := rfl;refine goL1 _ _ _ _ _ _ _ _ ?_ ?_ ?_ ?_ ?_ ?_ ?_ ?_) <;> (repeat intro hb) <;> first | exact True.intro | refine Lf.mk ?_))
  · congr 2
    have h3 : i = 0 ∨ i = 1 := by omega
    rcases h3 with rfl | rfl
    · simp only [List.getD_cons_zero] at hb ⊢; unfold or2; rw [if_pos hb]
    · have e0 := h2 0 (by omega)
      simp only [List.getD_cons_zero, List.getD_cons_succ] at hb e0 ⊢; unfold or2; rw [if_neg (by omega)]
  · refine ⟨2 - (i + 1), by omega, _, ?_, i + 1, by omega, by omega, fun j hj => ?_, rfl⟩
    · ((try simp only [List.length_append,List.length_cons,List.length_nil,Nat.zero_add]);refine Wk.intro [] (by decide) (by decide) (by intro o ho;simp at ho ⊢ <;> omega) ?_ ?_ <;> repeat' (first|(refine WkV.imm ?_;congr 1;omega)|exact WkVL.nil|refine WkVL.cons ?_ ?_|exact WkV.top|exact WkV.imm rfl|exact WkV.imm (by simp)|exact WkV.optr rfl|exact WkV.own rfl (by simp)|exact WkV.nil_own (.inl rfl)|exact WkV.map rfl|(refine WkV.free ?_;simp [Free,FreeL] <;> assumption)|(refine WkV.free (fun _ _=>FreeL_nth ?_ _);simp [Free,FreeL];done)|refine WkV.agg ?_|refine WkV.tup ?_|refine WkV.fn ?_ ?_|exact WkO.dead|exact WkO.raw|refine WkO.ghost ?_|exact WkO.mpE rfl trivial|refine WkO.box ?_ rfl|refine WkO.arr ?_|refine And.intro ?_ (And.intro (by first|exact fun h=>h|exact fun _=>rfl|exact nofun) ?_)|exact trivial|(intro i j hi hj)))
    · by_cases e : j = i
      · subst e; exact hb
      · exact h2 j (by omega)
  · have : i = 2 := by omega
    subst this
    have e0 := h2 0 (by omega)
    have e1 := h2 1 (by omega)
    simp only [List.getD_cons_zero, List.getD_cons_succ] at e0 e1
    congr 2
    unfold or2
    rw [if_neg (by omega), e1]
set_option maxRecDepth 100000 in
set_option maxHeartbeats 4000000 in
theorem cmpE_tc (x y : El) : Look Try.prog 46 [elA x, elA y] (.imm (.int .i64 (cmpE x y))) := by
  refine Look.mk trivial ?_
  (refine TC_of_T Γ_ok Try.func46 rfl (by kernel_rfl) ?_;simp only [Try.ntmps46,Try.results46,List.length_cons,List.length_nil,Nat.reduceSub,Nat.reduceAdd,List.replicate,List.cons_append,List.nil_append])
  (have cl1 := fun u1 u2=>cmp_tc u1 u2;((have sx1 : (0 : Nat) + 0 = 0 := rfl;refine goL1 _ _ _ _ _ _ _ _ ?_ ?_ ?_ ?_ ?_ ?_ ?_ ?_) <;> (repeat intro hb) <;> first|exact True.intro|refine Lf.mk ?_))
  all_goals rfl
end Go.Proofs.Ytmglcamgpgkblaa
