/-
  Entries: what is valid.
-/
import Derived.Test.YtgljhmnmmaclaaaQGo
import Derived.Test.YtgljhmnmmaclaaaQW1
import Derived.Test.YtgljhmnmmaclaaaQA5
set_option linter.unusedSimpArgs false
set_option linter.unusedVariables false
namespace Go.Proofs.Ytgljhmnmmaclaaa
open Go.Ab
set_option maxRecDepth 100000 in
set_option maxHeartbeats 4000000 in
theorem isCount_tc (n : Int) : Look Try.prog 28 [.imm (.int .i64 n)] (.imm (.bool (decide (1 ≤ n) && decide (n ≤ 8)))) := by
  refine Look.mk trivial ?_
  (refine TC_of_T Γ_ok Try.func28 rfl (by kernel_rfl) ?_;simp only [Try.ntmps28,Try.results28,List.length_cons,List.length_nil,Nat.reduceSub,Nat.reduceAdd,List.replicate,List.cons_append,List.nil_append])
  (((refine goR0 _ _ _ _ _ _ _ _ ?_ ?_ ?_ ?_ ?_ ?_ ?_ ?_) <;> (repeat intro hb) <;> first | exact True.intro | refine Lf.mk ?_))
structure En where
  s : Int
  c : Int
  n : Int
  d : Int
  b : Int
  v : List Int
def gi (l : List Int) (i : Nat) : Int := l.getD i 0
def inE (l : List Int) (i : Nat) (_ : Nat) : AV := .imm (.int .i64 (gi l i))
@[simp] theorem inE_free (l : List Int) (i j : Nat) : Free (inE l i j) := trivial
@[simp] theorem inE_pl (l : List Int) (i j : Nat) : Pl (inE l i j) := trivial
@[go_sem] theorem inE_us (l : List Int) (i j : Nat) : inE l i j = .imm (.int .i64 (gi l i)) := rfl
@[go_sem, reducible] def ints (l : List Int) : AV := .view l.length 1 (inE l)
@[go_sem,reducible] def enL (x : En) : List AV := [.imm (.int .i64 x.s),.imm (.int .i64 x.c),.imm (.int .i64 x.n),.imm (.int .i64 x.d),.imm (.int .i64 x.b),ints x.v]
@[go_sem, reducible] def enA (x : En) : AV := .agg (enL x)
def risB (n : Int) : Int → List Int → Bool
  | _, [] => true
  | l, d :: r => if d ≤ l ∨ d ≥ n then false else risB n d r
def enB (n : Int) (x : En) : Bool := takeB x.s x.c x.n x.d && decide (1 ≤ x.b) && decide (x.b ≤ 1000000) && decide (n < IntKind.i64.wrap (2 * x.v.length)) && risB n (-1) x.v
theorem risB_drop (n l : Int) {v : List Int} {i : Nat} (h : i < v.length) : risB n l (v.drop i) = if gi v i ≤ l ∨ gi v i ≥ n then false else risB n (gi v i) (v.drop (i + 1)) := by
  rw [List.drop_eq_getElem_cons h, risB]
  simp only [gi, List.getD_eq_getElem?_getD, List.getElem?_eq_getElem h, Option.getD_some]
set_option maxRecDepth 100000 in
set_option maxHeartbeats 4000000 in
theorem isEntry_tc (n : Int) (x : En) (hl : x.v.length ≤ 9223372036854775807) : Look Try.prog 29 [.imm (.int .i64 n),enA x] (.imm (.bool (enB n x))) := by
  refine Look.mk trivial ?_
  (refine TC_of_T Γ_ok Try.func29 rfl (by kernel_rfl) ?_;simp only [Try.ntmps29,Try.results29,List.length_cons,List.length_nil,Nat.reduceSub,Nat.reduceAdd,List.replicate,List.cons_append,List.nil_append])
  (have cl1 := fun u1 u2 u3 u4 => take_tc u1 u2 u3 u4;((refine goR0 _ _ _ _ _ _ _ _ ?_ ?_ ?_ ?_ ?_ ?_ ?_ ?_) <;> (repeat intro hb) <;> first | exact True.intro | refine Lf.mk ?_))
  · congr 2
    unfold enB
    rcases hb with ((h | h) | h) | h
    · simp [h]
    · simp [show ¬ 1 ≤ x.b by omega]
    · simp [show ¬ x.b ≤ 1000000 by omega]
    · simp [show ¬ n < IntKind.i64.wrap (2 * x.v.length) by omega]
  · have he : enB n x = risB n (-1) x.v := by
      unfold enB
      simp [hb.1.1.1, hb.1.1.2, hb.1.2, hb.2]
    rw [he]
    refine T_loopW (fun m st => ∃ (i : Nat) (last : Int),i ≤ x.v.length ∧ m + i = x.v.length ∧ risB n (-1) x.v = risB n last (x.v.drop i) ∧
      st = ⟨[.imm (.int .i64 n),enA x,.top,.optr 0 0 0,.imm (.bool false),.imm (.int .i64 last)] ++ List.replicate 25 .top ++ [ints x.v,.imm (.int .i64 x.v.length),.imm (.int .i64 i)] ++ List.replicate 13 .top,[.box 43 (enL x)]⟩)
      x.v.length ⟨_, ?_, 0, -1, by omega, rfl, rfl, rfl⟩ ?_
    · ((try simp only [List.length_append,List.length_cons,List.length_nil,Nat.zero_add]);refine Wk.intro [0] (by decide) (by decide) (by intro o ho;simp at ho ⊢ <;> omega) ?_ ?_ <;> repeat' (first|exact WkVL.nil|refine WkVL.cons ?_ ?_|exact WkV.top|exact WkV.imm rfl|exact WkV.imm (by simp)|exact WkV.optr rfl|exact WkV.own rfl (by simp)|exact WkV.nil_own (.inl rfl)|exact WkV.map rfl|(refine WkV.free ?_;simp [Free,FreeL] <;> assumption)|(refine WkV.free (fun _ _=>FreeL_nth ?_ _);simp [Free,FreeL];done)|refine WkV.agg ?_|refine WkV.tup ?_|refine WkV.fn ?_ ?_|exact WkO.dead|exact WkO.raw|refine WkO.ghost ?_|exact WkO.mpE rfl trivial|refine WkO.box ?_ rfl|refine WkO.arr ?_|refine And.intro ?_ (And.intro (by first|exact fun h=>h|exact fun _=>rfl|exact nofun) ?_)|exact trivial|(intro i j hi hj)))
    rintro m st ⟨i, last, h0, h1, h2, rfl⟩
    (simp only [go_sem,↓reduceIte,Nat.reduceAdd,Nat.reduceSub,Nat.reduceMul,Nat.reduceLT,Nat.reduceLeDiff,Nat.reduceEqDiff,Nat.reduceGT,Int.reduceToNat,Int.reduceBEq,Int.reduceBNe];try simp (disch := omega) only [wrapI,wrapU,half_sum,toNat_sub1,toNat_add1,Int.toNat_natCast])
    (((refine goR0 _ _ _ _ _ _ _ _ ?_ ?_ ?_ ?_ ?_ ?_ ?_ ?_) <;> (repeat intro hb) <;> first | exact True.intro | refine Lf.mk ?_))
    · rw [h2, risB_drop n last (by omega), if_pos hb]
    · refine ⟨x.v.length - (i + 1), by omega, _, ?_, i + 1, gi x.v i, by omega, by omega, ?_, rfl⟩
      · ((try simp only [List.length_append,List.length_cons,List.length_nil,Nat.zero_add]);refine Wk.intro [0] (by decide) (by decide) (by intro o ho;simp at ho ⊢ <;> omega) ?_ ?_ <;> repeat' (first|(refine WkV.imm ?_;congr 1;omega)|exact WkVL.nil|refine WkVL.cons ?_ ?_|exact WkV.top|exact WkV.imm rfl|exact WkV.imm (by simp)|exact WkV.optr rfl|exact WkV.own rfl (by simp)|exact WkV.nil_own (.inl rfl)|exact WkV.map rfl|(refine WkV.free ?_;simp [Free,FreeL] <;> assumption)|(refine WkV.free (fun _ _=>FreeL_nth ?_ _);simp [Free,FreeL];done)|refine WkV.agg ?_|refine WkV.tup ?_|refine WkV.fn ?_ ?_|exact WkO.dead|exact WkO.raw|refine WkO.ghost ?_|exact WkO.mpE rfl trivial|refine WkO.box ?_ rfl|refine WkO.arr ?_|refine And.intro ?_ (And.intro (by first|exact fun h=>h|exact fun _=>rfl|exact nofun) ?_)|exact trivial|(intro i j hi hj)))
      · rw [h2, risB_drop n last (by omega), if_neg (by omega)]
    · congr 2
      rw [h2, List.drop_of_length_le (by omega)]
      rfl
end Go.Proofs.Ytgljhmnmmaclaaa
