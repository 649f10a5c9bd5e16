/-
  The list of marked desks.
-/
import Derived.Test.YtgljhmnmmaclaaaQGo
import Derived.Test.YtgljhmnmmaclaaaQM7
set_option linter.unusedSimpArgs false
set_option linter.unusedVariables false
namespace Go.Proofs.Ytgljhmnmmaclaaa
open Go.Ab
@[go_sem, reducible] def intO (l : List Int) : AObj := .arr 3 1 l.length (inE l)
@[go_sem, reducible] def ownI (l : List Int) : AV := .own 0 0 l.length none
theorem inE_snoc (l : List Int) (x : Int) {i : Nat} (j : Nat) (hj : j < 1) (h : i < l.length + 1) : catE l.length (inE l) (fun i j=>nth [.imm (.int .i64 x)] (i * 1 + j)) i j = inE (l ++ [x]) i j := by
  unfold catE inE gi
  obtain rfl : j = 0 := by omega
  split
  · rename_i h1
    simp [List.getElem?_append_left h1]
  · obtain rfl : i = l.length := by omega
    simp [nth]
def mkR (M : Nat → Bool) (i : Nat) : List Int := ((List.range i).filter M).map Int.ofNat
theorem mkR_succ (M : Nat → Bool) (i : Nat) : mkR M (i + 1) = if M i = true then mkR M i ++ [(i : Int)] else mkR M i := by
  unfold mkR
  rw [List.range_succ, List.filter_append, List.map_append]
  by_cases h : M i = true <;> simp [h, List.filter_cons]
theorem mkR_len (M : Nat → Bool) (i : Nat) : (mkR M i).length ≤ i := by
  unfold mkR
  rw [List.length_map]
  exact Nat.le_trans (List.length_filter_le _ _) (by simp)
@[go_sem] theorem mkL_one (M : Nat → Bool) : oneL (mkL M) = true := rfl
theorem mkL_nth (M : Nat → Bool) {k : Nat} (h : k < 8) : nth (mkL M) k = .imm (.bool (M k)) := by
  obtain rfl | rfl | rfl | rfl | rfl | rfl | rfl | rfl : k = 0 ∨ k = 1 ∨ k = 2 ∨ k = 3 ∨ k = 4 ∨ k = 5 ∨ k = 6 ∨ k = 7 := by omega
  all_goals rfl
set_option maxRecDepth 100000 in
set_option maxHeartbeats 4000000 in
theorem list_raw (M : Nat → Bool) : TC Try.prog 33 [.agg (mkL M)] [] (fun v σ' =>
    (v = .imm (.slice none 0 0) ∧ (mkR M 8).length = 0) ∨ ∃ k E',v = .own k 0 (mkR M 8).length none ∧ nthO σ' k = .arr 3 1 (mkR M 8).length E' ∧ ∀ i j,i < (mkR M 8).length → E' i j = inE (mkR M 8) i j) := by
  (refine TC_of_T Γ_ok Try.func33 rfl (by kernel_rfl) ?_;simp only [Try.ntmps33,Try.results33,List.length_cons,List.length_nil,Nat.reduceSub,Nat.reduceAdd,List.replicate,List.cons_append,List.nil_append])
  (((refine goR0 _ _ _ _ _ _ _ _ ?_ ?_ ?_ ?_ ?_ ?_ ?_ ?_) <;> (repeat intro hb) <;> first | exact True.intro | refine Lf.mk ?_))
  refine T_loopW (fun m st => ∃ (k : Nat) (c : List Int), k ≤ 8 ∧ m + k = 8 ∧ c = mkR M k ∧
      st = ⟨[.agg (mkL M),.top,.imm (.slice none 0 0),ownI c,.top,.top,.agg (mkL M),.imm (.int .i64 k)] ++ List.replicate 10 .top,[intO c]⟩)
    8 ⟨_, Wk.trans (Wk.push 3 1 (inE [])) ?_, 0, [], by omega, rfl, rfl, rfl⟩ ?_
  · ((try simp only [List.length_append,List.length_cons,List.length_nil,Nat.zero_add]);refine Wk.intro [1] (by decide) (by decide) (by intro o ho;simp at ho ⊢ <;> omega) ?_ ?_ <;> repeat' (first|exact WkVL.nil|refine WkVL.cons ?_ ?_|exact WkV.top|exact WkV.imm rfl|exact WkV.imm (by simp)|exact WkV.optr rfl|exact WkV.own rfl (by simp)|exact WkV.nil_own (.inl rfl)|exact WkV.map rfl|(refine WkV.free ?_;simp [Free,FreeL] <;> assumption)|(refine WkV.free (fun _ _=>FreeL_nth ?_ _);simp [Free,FreeL];done)|refine WkV.agg ?_|refine WkV.tup ?_|refine WkV.fn ?_ ?_|exact WkO.dead|exact WkO.raw|refine WkO.ghost ?_|exact WkO.mpE rfl trivial|refine WkO.box ?_ rfl|refine WkO.arr ?_|refine And.intro ?_ (And.intro (by first|exact fun h=>h|exact fun _=>rfl|exact nofun) ?_)|exact trivial|(intro i j hi hj)))
  rintro m st ⟨k, c, h1, h2, rfl, rfl⟩
  have hcl := mkR_len M k
  have hsucc := mkR_succ M k
  by_cases h8 : k < 8
  · have hnth : nth (mkL M) (k * 1) = .imm (.bool (M k)) := by rw [Nat.mul_one]; exact mkL_nth M h8
    (simp only [go_sem,↓reduceIte,Nat.reduceAdd,Nat.reduceSub,Nat.reduceMul,Nat.reduceLT,Nat.reduceLeDiff,Nat.reduceEqDiff,Nat.reduceGT,Int.reduceToNat,Int.reduceBEq,Int.reduceBNe];try simp (disch := omega) only [wrapI,wrapU,half_sum,toNat_sub1,toNat_add1,Int.toNat_natCast])
    (have sx1 := hnth;have sx2 : (0 : Nat) + 0 = 0 := rfl;((have sx3 : (0 : Nat) + 0 = 0 := rfl;have sx4 : (0 : Nat) + 0 = 0 := rfl;have sx5 : (0 : Nat) + 0 = 0 := rfl;have sx6 : (0 : Nat) + 0 = 0 := rfl;have sx7 : (0 : Nat) + 0 = 0 := rfl;have sx8 : (0 : Nat) + 0 = 0 := rfl;have sx9 : (0 : Nat) + 0 = 0 := rfl;refine goR9 _ _ _ _ _ _ _ _ ?_ ?_ ?_ ?_ ?_ ?_ ?_ ?_) <;> (repeat intro hb) <;> first|exact True.intro|refine Lf.mk ?_))
    · rw [if_pos hb] at hsucc
      refine ⟨8 - (k + 1), by omega, _, ?_, k + 1, _, by omega, by omega, hsucc.symm, rfl⟩
      ((try simp only [List.length_append,List.length_cons,List.length_nil,Nat.zero_add]);refine Wk.intro [2] (by decide) (by decide) (by intro o ho;simp at ho ⊢ <;> omega) ?_ ?_ <;> repeat' (first|(exact WkV.eqF (inE_snoc _ _ _ hj hi) (inE_free _ _ _))|exact WkVL.nil|refine WkVL.cons ?_ ?_|exact WkV.top|exact WkV.imm rfl|exact WkV.imm (by simp)|exact WkV.optr rfl|exact WkV.own rfl (by simp)|exact WkV.nil_own (.inl rfl)|exact WkV.map rfl|(refine WkV.free ?_;simp [Free,FreeL] <;> assumption)|(refine WkV.free (fun _ _=>FreeL_nth ?_ _);simp [Free,FreeL];done)|refine WkV.agg ?_|refine WkV.tup ?_|refine WkV.fn ?_ ?_|exact WkO.dead|exact WkO.raw|refine WkO.ghost ?_|exact WkO.mpE rfl trivial|refine WkO.box ?_ rfl|refine WkO.arr ?_|refine And.intro ?_ (And.intro (by first|exact fun h=>h|exact fun _=>rfl|exact nofun) ?_)|exact trivial|(intro i j hi hj)))
    · rw [if_neg (by simp [hb])] at hsucc
      refine ⟨8 - (k + 1), by omega, _, ?_, k + 1, _, by omega, by omega, hsucc.symm, rfl⟩
      ((try simp only [List.length_append,List.length_cons,List.length_nil,Nat.zero_add]);refine Wk.intro [0] (by decide) (by decide) (by intro o ho;simp at ho ⊢ <;> omega) ?_ ?_ <;> repeat' (first|exact WkVL.nil|refine WkVL.cons ?_ ?_|exact WkV.top|exact WkV.imm rfl|exact WkV.imm (by simp)|exact WkV.optr rfl|exact WkV.own rfl (by simp)|exact WkV.nil_own (.inl rfl)|exact WkV.map rfl|(refine WkV.free ?_;simp [Free,FreeL] <;> assumption)|(refine WkV.free (fun _ _=>FreeL_nth ?_ _);simp [Free,FreeL];done)|refine WkV.agg ?_|refine WkV.tup ?_|refine WkV.fn ?_ ?_|exact WkO.dead|exact WkO.raw|refine WkO.ghost ?_|exact WkO.mpE rfl trivial|refine WkO.box ?_ rfl|refine WkO.arr ?_|refine And.intro ?_ (And.intro (by first|exact fun h=>h|exact fun _=>rfl|exact nofun) ?_)|exact trivial|(intro i j hi hj)))
  · obtain rfl : k = 8 := by omega
    (simp only [go_sem,↓reduceIte,Nat.reduceAdd,Nat.reduceSub,Nat.reduceMul,Nat.reduceLT,Nat.reduceLeDiff,Nat.reduceEqDiff,Nat.reduceGT,Int.reduceToNat,Int.reduceBEq,Int.reduceBNe];try simp (disch := omega) only [wrapI,wrapU,half_sum,toNat_sub1,toNat_add1,Int.toNat_natCast])
    (((refine goR0 _ _ _ _ _ _ _ _ ?_ ?_ ?_ ?_ ?_ ?_ ?_ ?_) <;> (repeat intro hb) <;> first | exact True.intro | refine Lf.mk ?_))
    exact .inr ⟨0, _, rfl, rfl, fun _ _ _ => rfl⟩
theorem list_tc (M : Nat → Bool) : Makes Try.prog 33 [.agg (mkL M)] (ownI (mkR M 8)) [intO (mkR M 8)] :=
  Makes.lst1 (fun i j => inE_pl _ i j) (list_raw M)
end Go.Proofs.Ytgljhmnmmaclaaa
