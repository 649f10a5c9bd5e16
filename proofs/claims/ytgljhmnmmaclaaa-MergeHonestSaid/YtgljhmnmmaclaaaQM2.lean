/-
  Journals: what is valid.
-/
import Derived.Test.YtgljhmnmmaclaaaQGo
import Derived.Test.YtgljhmnmmaclaaaQM1
set_option linter.unusedSimpArgs false
set_option linter.unusedVariables false
namespace Go.Proofs.Ytgljhmnmmaclaaa
open Go.Ab
structure Jn where
  d : Int
  e : List En
def en0 : En := ⟨0, 0, 0, 0, 0, []⟩
def ge (l : List En) (i : Nat) : En := l.getD i en0
def enE (l : List En) (i j : Nat) : AV := nth (enL (ge l i)) j
@[go_sem] theorem enE_0 (l : List En) (i : Nat) : enE l i 0 = .imm (.int .i64 (ge l i).s) := rfl
@[go_sem] theorem enE_1 (l : List En) (i : Nat) : enE l i 1 = .imm (.int .i64 (ge l i).c) := rfl
@[go_sem] theorem enE_2 (l : List En) (i : Nat) : enE l i 2 = .imm (.int .i64 (ge l i).n) := rfl
@[go_sem] theorem enE_3 (l : List En) (i : Nat) : enE l i 3 = .imm (.int .i64 (ge l i).d) := rfl
@[go_sem] theorem enE_4 (l : List En) (i : Nat) : enE l i 4 = .imm (.int .i64 (ge l i).b) := rfl
@[go_sem] theorem enE_5 (l : List En) (i : Nat) : enE l i 5 = ints (ge l i).v := rfl
@[simp] theorem enE_free (l : List En) (i j : Nat) : Free (enE l i j) := FreeL_nth (by simp [enL, ints, FreeL, Free]) _
@[go_sem, reducible] def ens (l : List En) : AV := .view l.length 6 (enE l)
@[go_sem, reducible] def jnL (j : Jn) : List AV := [.imm (.int .i64 j.d), ens j.e]
@[go_sem, reducible] def jnA (j : Jn) : AV := .agg (jnL j)
def secB (n : Int) : Int → List En → Bool
  | _, [] => true
  | l, x :: r => if enB n x = false ∨ x.s ≤ l then false else secB n x.s r
def cntB (n : Int) : Bool := decide (1 ≤ n) && decide (n ≤ 8)
def jnB (n : Int) (j : Jn) : Bool := cntB n && decide (0 ≤ j.d) && decide (j.d < n) && secB n 0 j.e
theorem secB_drop (n l : Int) {v : List En} {i : Nat} (h : i < v.length) : secB n l (v.drop i) = if enB n (ge v i) = false ∨ (ge v i).s ≤ l then false else secB n (ge v i).s (v.drop (i + 1)) := by
  rw [List.drop_eq_getElem_cons h, secB]
  simp only [ge, List.getD_eq_getElem?_getD, List.getElem?_eq_getElem h, Option.getD_some]
set_option maxRecDepth 100000 in
set_option maxHeartbeats 4000000 in
theorem valid_tc (n : Int) (j : Jn) (hl : j.e.length ≤ 9223372036854775807) (hv : ∀ i,(ge j.e i).v.length ≤ 9223372036854775807) : Look Try.prog 8 [.imm (.int .i64 n),jnA j] (.imm (.bool (jnB n j))) := by
  refine Look.mk trivial ?_
  (refine TC_of_T Γ_ok Try.func8 rfl (by kernel_rfl) ?_;simp only [Try.ntmps8,Try.results8,List.length_cons,List.length_nil,Nat.reduceSub,Nat.reduceAdd,List.replicate,List.cons_append,List.nil_append])
  (have cl1 := fun u1 => isCount_tc u1;((refine goR0 _ _ _ _ _ _ _ _ ?_ ?_ ?_ ?_ ?_ ?_ ?_ ?_) <;> (repeat intro hb) <;> first | exact True.intro | refine Lf.mk ?_))
  · congr 2
    unfold jnB cntB
    grind
  · have he : jnB n j = secB n 0 j.e := by
      unfold jnB cntB
      grind
    rw [he]
    refine T_loopW (fun m st => ∃ (i : Nat) (last : Int),i ≤ j.e.length ∧ m + i = j.e.length ∧ secB n 0 j.e = secB n last (j.e.drop i) ∧
      st = ⟨[.imm (.int .i64 n),jnA j,.top,.optr 0 0 0,.imm (.bool false),.imm (.int .i64 last)] ++ List.replicate 17 .top ++ [ens j.e,.imm (.int .i64 j.e.length),.imm (.int .i64 i)] ++ List.replicate 18 .top,[.box 49 (jnL j)]⟩)
      j.e.length ⟨_, ?_, 0, 0, by omega, rfl, rfl, rfl⟩ ?_
    · ((try simp only [List.length_append,List.length_cons,List.length_nil,Nat.zero_add]);refine Wk.intro [0] (by decide) (by decide) (by intro o ho;simp at ho ⊢ <;> omega) ?_ ?_ <;> repeat' (first|exact WkVL.nil|refine WkVL.cons ?_ ?_|exact WkV.top|exact WkV.imm rfl|exact WkV.imm (by simp)|exact WkV.optr rfl|exact WkV.own rfl (by simp)|exact WkV.nil_own (.inl rfl)|exact WkV.map rfl|(refine WkV.free ?_;simp [Free,FreeL] <;> assumption)|(refine WkV.free (fun _ _=>FreeL_nth ?_ _);simp [Free,FreeL];done)|refine WkV.agg ?_|refine WkV.tup ?_|refine WkV.fn ?_ ?_|exact WkO.dead|exact WkO.raw|refine WkO.ghost ?_|exact WkO.mpE rfl trivial|refine WkO.box ?_ rfl|refine WkO.arr ?_|refine And.intro ?_ (And.intro (by first|exact fun h=>h|exact fun _=>rfl|exact nofun) ?_)|exact trivial|(intro i j hi hj)))
    rintro m st ⟨i, last, h0, h1, h2, rfl⟩
    (simp only [go_sem,↓reduceIte,Nat.reduceAdd,Nat.reduceSub,Nat.reduceMul,Nat.reduceLT,Nat.reduceLeDiff,Nat.reduceEqDiff,Nat.reduceGT,Int.reduceToNat,Int.reduceBEq,Int.reduceBNe];try simp (disch := omega) only [wrapI,wrapU,half_sum,toNat_sub1,toNat_add1,Int.toNat_natCast])
    (have cl1 := isEntry_tc n (ge j.e i) (hv i);((refine goR0 _ _ _ _ _ _ _ _ ?_ ?_ ?_ ?_ ?_ ?_ ?_ ?_) <;> (repeat intro hb) <;> first | exact True.intro | refine Lf.mk ?_))
    · rw [h2, secB_drop n last (by omega), if_pos hb]
    · refine ⟨j.e.length - (i + 1), by omega, _, ?_, i + 1, (ge j.e i).s, by omega, by omega, ?_, rfl⟩
      · ((try simp only [List.length_append,List.length_cons,List.length_nil,Nat.zero_add]);refine Wk.intro [0] (by decide) (by decide) (by intro o ho;simp at ho ⊢ <;> omega) ?_ ?_ <;> repeat' (first|(refine WkV.imm ?_;congr 1;omega)|exact WkVL.nil|refine WkVL.cons ?_ ?_|exact WkV.top|exact WkV.imm rfl|exact WkV.imm (by simp)|exact WkV.optr rfl|exact WkV.own rfl (by simp)|exact WkV.nil_own (.inl rfl)|exact WkV.map rfl|(refine WkV.free ?_;simp [Free,FreeL] <;> assumption)|(refine WkV.free (fun _ _=>FreeL_nth ?_ _);simp [Free,FreeL];done)|refine WkV.agg ?_|refine WkV.tup ?_|refine WkV.fn ?_ ?_|exact WkO.dead|exact WkO.raw|refine WkO.ghost ?_|exact WkO.mpE rfl trivial|refine WkO.box ?_ rfl|refine WkO.arr ?_|refine And.intro ?_ (And.intro (by first|exact fun h=>h|exact fun _=>rfl|exact nofun) ?_)|exact trivial|(intro i j hi hj)))
      · rw [h2, secB_drop n last (by omega), if_neg (by simpa using hb)]
    · congr 2
      rw [h2, List.drop_of_length_le (by omega)]
      rfl
end Go.Proofs.Ytgljhmnmmaclaaa
