/-
  Marks of desks.
-/
import Derived.Test.YtgljhmnmmaclaaaQGo
import Derived.Test.YtgljhmnmmaclaaaQM6
set_option linter.unusedSimpArgs false
set_option linter.unusedVariables false
namespace Go.Proofs.Ytgljhmnmmaclaaa
open Go.Ab
def mkL (M : Nat → Bool) : List AV := (List.range 8).map fun k => .imm (.bool (M k))
@[go_sem] theorem mkL_length (M : Nat → Bool) : (mkL M).length = 8 := by simp [mkL]
theorem mkL_set (M : Nat → Bool) (k : Nat) (b : Bool) (h : k < 8) : setC (mkL M) k [.imm (.bool b)] = mkL (fun i => if i = k then b else M i) := by
  obtain rfl | rfl | rfl | rfl | rfl | rfl | rfl | rfl : k = 0 ∨ k = 1 ∨ k = 2 ∨ k = 3 ∨ k = 4 ∨ k = 5 ∨ k = 6 ∨ k = 7 := by omega
  all_goals rfl
theorem mkL_upd (M : Nat → Bool) (k : Nat) (b : Bool) (h : k < 8) : List.take k (mkL M) ++ [.imm (.bool b)] ++ List.drop (k + 1) (mkL M) = mkL (fun i => if i = k then b else M i) := mkL_set M k b h
def mkN (M : Nat → Bool) (a b : List Int) : Nat → Nat → Bool
  | 0, k => M k
  | i + 1, k => if hasB b (gi a i) = true ∧ (k : Int) = gi a i then true else mkN M a b i k
set_option maxRecDepth 100000 in
set_option maxHeartbeats 4000000 in
theorem mark_raw (M : Nat → Bool) (a b : En) (hl : a.v.length ≤ 9223372036854775807) (hb' : b.v.length ≤ 9223372036854775807) (hv : ∀ i,i < a.v.length → 0 ≤ gi a.v i ∧ gi a.v i < 8) :
    TC Try.prog 32 [.optr 0 0 0,enA a,enA b] [.box 100 (mkL M)] (fun v σ' => v = .tup [] ∧ σ' = [.box 100 (mkL (mkN M a.v b.v a.v.length)),.box 43 (enL a),.box 43 (enL b)]) := by
  (refine TC_of_T Γ_ok Try.func32 rfl (by kernel_rfl) ?_;simp only [Try.ntmps32,Try.results32,List.length_cons,List.length_nil,Nat.reduceSub,Nat.reduceAdd,List.replicate,List.cons_append,List.nil_append])
  (((refine goR0 _ _ _ _ _ _ _ _ ?_ ?_ ?_ ?_ ?_ ?_ ?_ ?_) <;> (repeat intro hb) <;> first | exact True.intro | refine Lf.mk ?_))
  · refine T_loopW (fun m st => ∃ i : Nat, i ≤ a.v.length ∧ m + i = a.v.length ∧
      st = ⟨[.optr 0 0 0,enA a,enA b,.top,.optr 1 0 0,.optr 2 0 0,.top,.top,.top,ints a.v,.imm (.int .i64 a.v.length),.imm (.int .i64 i)] ++ List.replicate 12 .top,[.box 100 (mkL (mkN M a.v b.v i)),.box 43 (enL a),.box 43 (enL b)]⟩)
      a.v.length ⟨_, ?_, 0, by omega, rfl, rfl⟩ ?_
    · ((try simp only [List.length_append,List.length_cons,List.length_nil,Nat.zero_add]);refine Wk.intro [0,1,2] (by decide) (by decide) (by intro o ho;simp at ho ⊢ <;> omega) ?_ ?_ <;> repeat' (first|exact WkVL.nil|refine WkVL.cons ?_ ?_|exact WkV.top|exact WkV.imm rfl|exact WkV.imm (by simp)|exact WkV.optr rfl|exact WkV.own rfl (by simp)|exact WkV.nil_own (.inl rfl)|exact WkV.map rfl|(refine WkV.free ?_;simp [Free,FreeL] <;> assumption)|(refine WkV.free (fun _ _=>FreeL_nth ?_ _);simp [Free,FreeL];done)|refine WkV.agg ?_|refine WkV.tup ?_|refine WkV.fn ?_ ?_|exact WkO.dead|exact WkO.raw|refine WkO.ghost ?_|exact WkO.mpE rfl trivial|refine WkO.box ?_ rfl|refine WkO.arr ?_|refine And.intro ?_ (And.intro (by first|exact fun h=>h|exact fun _=>rfl|exact nofun) ?_)|exact trivial|(intro i j hi hj)))
    rintro m st ⟨i, h0, h1, rfl⟩
    have hv' : i < a.v.length → 0 ≤ gi a.v i ∧ gi a.v i < 8 := hv i
    (simp only [go_sem,↓reduceIte,Nat.reduceAdd,Nat.reduceSub,Nat.reduceMul,Nat.reduceLT,Nat.reduceLeDiff,Nat.reduceEqDiff,Nat.reduceGT,Int.reduceToNat,Int.reduceBEq,Int.reduceBNe];try simp (disch := omega) only [wrapI,wrapU,half_sum,toNat_sub1,toNat_add1,Int.toNat_natCast])
    (have cl1 := fun u1 => contains_tc b.v u1 hb';((refine goR0 _ _ _ _ _ _ _ _ ?_ ?_ ?_ ?_ ?_ ?_ ?_ ?_) <;> (repeat intro hb) <;> first | exact True.intro | refine Lf.mk ?_))
    · have hi : i < a.v.length := by omega
      refine ⟨a.v.length - (i + 1), by omega, _, ?_, i + 1, by omega, by omega, rfl⟩
      have e : List.take ((gi a.v i).toNat * 1) (mkL (mkN M a.v b.v i)) ++ [AV.imm (Value.bool true)] ++ List.drop ((gi a.v i).toNat * 1 + 1) (mkL (mkN M a.v b.v i)) = mkL (mkN M a.v b.v (i + 1)) := by
        rw [Nat.mul_one, mkL_upd _ _ _ (by have := hv i hi; omega)]
        congr 1
        funext k
        unfold mkN
        simp only [hb, true_and]
        have := hv i hi
        by_cases h : k = (gi a.v i).toNat
        · rw [if_pos h, if_pos (by omega)]
        · rw [if_neg h, if_neg (by omega)]; cases i <;> rfl
      rw [e]
      ((try simp only [List.length_append,List.length_cons,List.length_nil,Nat.zero_add]);refine Wk.intro [0,1,2] (by decide) (by decide) (by intro o ho;simp at ho ⊢ <;> omega) ?_ ?_ <;> repeat' (first|(refine WkV.imm ?_;congr 1;omega)|exact WkVL.nil|refine WkVL.cons ?_ ?_|exact WkV.top|exact WkV.imm rfl|exact WkV.imm (by simp)|exact WkV.optr rfl|exact WkV.own rfl (by simp)|exact WkV.nil_own (.inl rfl)|exact WkV.map rfl|(refine WkV.free ?_;simp [Free,FreeL] <;> assumption)|(refine WkV.free (fun _ _=>FreeL_nth ?_ _);simp [Free,FreeL];done)|refine WkV.agg ?_|refine WkV.tup ?_|refine WkV.fn ?_ ?_|exact WkO.dead|exact WkO.raw|refine WkO.ghost ?_|exact WkO.mpE rfl trivial|refine WkO.box ?_ rfl|refine WkO.arr ?_|refine And.intro ?_ (And.intro (by first|exact fun h=>h|exact fun _=>rfl|exact nofun) ?_)|exact trivial|(intro i j hi hj)))
    · refine ⟨a.v.length - (i + 1), by omega, _, ?_, i + 1, by omega, by omega, rfl⟩
      have e : mkN M a.v b.v (i + 1) = mkN M a.v b.v i := by
        funext k
        rw [mkN]
        simp [hb]
      rw [e]
      ((try simp only [List.length_append,List.length_cons,List.length_nil,Nat.zero_add]);refine Wk.intro [0,1,2] (by decide) (by decide) (by intro o ho;simp at ho ⊢ <;> omega) ?_ ?_ <;> repeat' (first|(refine WkV.imm ?_;congr 1;omega)|exact WkVL.nil|refine WkVL.cons ?_ ?_|exact WkV.top|exact WkV.imm rfl|exact WkV.imm (by simp)|exact WkV.optr rfl|exact WkV.own rfl (by simp)|exact WkV.nil_own (.inl rfl)|exact WkV.map rfl|(refine WkV.free ?_;simp [Free,FreeL] <;> assumption)|(refine WkV.free (fun _ _=>FreeL_nth ?_ _);simp [Free,FreeL];done)|refine WkV.agg ?_|refine WkV.tup ?_|refine WkV.fn ?_ ?_|exact WkO.dead|exact WkO.raw|refine WkO.ghost ?_|exact WkO.mpE rfl trivial|refine WkO.box ?_ rfl|refine WkO.arr ?_|refine And.intro ?_ (And.intro (by first|exact fun h=>h|exact fun _=>rfl|exact nofun) ?_)|exact trivial|(intro i j hi hj)))
    · obtain rfl : i = a.v.length := by omega
      rfl
theorem mark_tc (M : Nat → Bool) (a b : En) (hl : a.v.length ≤ 9223372036854775807) (hb' : b.v.length ≤ 9223372036854775807) (hv : ∀ i,i < a.v.length → 0 ≤ gi a.v i ∧ gi a.v i < 8) :
    Turns Try.prog 32 [.optr 0 0 0,enA a,enA b] [.box 100 (mkL M)] (.tup []) [.box 100 (mkL (mkN M a.v b.v a.v.length)),.dead,.dead] := by
  have hp : ∀ M, PlL (mkL M) := fun M => by simp [mkL, PlL, Pl, List.range_succ]
  refine ⟨?_,by simp [VF,VFL],fun a ha => by simp at ha;rcases ha with rfl | rfl;exact PlL.VF _ (hp _);exact trivial⟩
  refine (mark_raw M a b hl hb' hv).weak fun v σ' ⟨hv,hs⟩ => ⟨[0,1,2],_,_,by simp [List.range_succ],by simp,by simp [hs],?_,?_,rfl,rfl⟩
  · rw [hv]; exact WkV.tup WkVL.nil
  · rw [hs]
    exact ⟨WkO.box (fun ρ w xs _ hx => PlL.any _ (hp _) hx) rfl,fun h => h,WkO.dead,fun h => (nomatch h),WkO.dead,fun h => (nomatch h),trivial⟩
end Go.Proofs.Ytgljhmnmmaclaaa
