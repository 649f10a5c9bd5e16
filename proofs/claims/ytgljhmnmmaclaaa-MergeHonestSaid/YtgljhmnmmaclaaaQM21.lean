/-
  The reference's SameTakes, SameClashes.
-/
import Derived.Test.YtgljhmnmmaclaaaQGo
import Derived.Test.YtgljhmnmmaclaaaQM17
set_option linter.unusedSimpArgs false
set_option linter.unusedVariables false
namespace Go.Proofs.Ytgljhmnmmaclaaa
open Go.Ab
set_option maxRecDepth 100000 in
set_option maxHeartbeats 4000000 in
theorem sameT_tc (a b : List Tk) (hl : a.length ≤ 9223372036854775807) (hb' : b.length ≤ 9223372036854775807) : Look Try.prog 11 [tks a,tks b] (.imm (.bool (decide (a = b)))) := by
  refine Look.mk trivial ?_
  (refine TC_of_T Γ_ok Try.func11 rfl (by kernel_rfl) ?_;simp only [Try.ntmps11,Try.results11,List.length_cons,List.length_nil,Nat.reduceSub,Nat.reduceAdd,List.replicate,List.cons_append,List.nil_append])
  (repeat' (first|with_reducible refine T_seq_drawT (id := 6) Γ_ok drawsAny pl11_6 (by kernel_rfl) (fun K hK=>?_)|with_reducible refine T_last_drawT (id := 6) Γ_ok drawsAny pl11_6 (by kernel_rfl) (fun K hK=>?_)|((refine goR0 _ _ _ _ _ _ _ _ ?_ ?_ ?_ ?_ ?_ ?_ ?_ ?_) <;> (repeat intro hb) <;> first|exact True.intro|refine Lf.mk ?_)))
  · congr 2
    rw [decide_eq_false]
    intro h; subst h; exact hb rfl
  · have hlen : a.length = b.length := by omega
    refine T_loopW (fun m st => ∃ k : Nat, k ≤ a.length ∧ m + k = a.length ∧ (∀ j, j < k → gt a j = gt b j) ∧
      st = ⟨[tks a, tks b, .top, .top, .imm (.bool false), .imm (.int .i64 k)] ++ List.replicate 20 .top, []⟩)
      a.length ⟨_, ?_, 0, by omega, rfl, fun j hj => by omega, rfl⟩ ?_
    · ((try simp only [List.length_append,List.length_cons,List.length_nil,Nat.zero_add]);refine Wk.intro [] (by decide) (by decide) (by intro o ho;simp at ho ⊢ <;> omega) ?_ ?_ <;> repeat' (first|exact WkVL.nil|refine WkVL.cons ?_ ?_|exact WkV.top|exact WkV.imm rfl|exact WkV.imm (by simp)|exact WkV.optr rfl|exact WkV.own rfl (by simp)|exact WkV.nil_own (.inl rfl)|exact WkV.map rfl|(refine WkV.free ?_;simp [Free,FreeL] <;> assumption)|(refine WkV.free (fun _ _=>FreeL_nth ?_ _);simp [Free,FreeL];done)|refine WkV.agg ?_|refine WkV.tup ?_|refine WkV.fn ?_ ?_|exact WkO.dead|exact WkO.raw|refine WkO.ghost ?_|exact WkO.mpE rfl trivial|refine WkO.box ?_ rfl|refine WkO.arr ?_|refine And.intro ?_ (And.intro (by first|exact fun h=>h|exact fun _=>rfl|exact nofun) ?_)|exact trivial|(intro i j hi hj)))
    rintro m st ⟨k, h1, h2, h3, rfl⟩
    (simp only [go_sem,↓reduceIte,Nat.reduceAdd,Nat.reduceSub,Nat.reduceMul,Nat.reduceLT,Nat.reduceLeDiff,Nat.reduceEqDiff,Nat.reduceGT,Int.reduceToNat,Int.reduceBEq,Int.reduceBNe];try simp (disch := omega) only [wrapI,wrapU,half_sum,toNat_sub1,toNat_add1,Int.toNat_natCast])
    (repeat' (first|with_reducible refine T_seq_drawT (id := 6) Γ_ok drawsAny pl11_6 (by kernel_rfl) (fun K hK=>?_)|with_reducible refine T_last_drawT (id := 6) Γ_ok drawsAny pl11_6 (by kernel_rfl) (fun K hK=>?_)|((refine goR0 _ _ _ _ _ _ _ _ ?_ ?_ ?_ ?_ ?_ ?_ ?_ ?_) <;> (repeat intro hb) <;> first|exact True.intro|refine Lf.mk ?_)))
    · congr 2
      rw [decide_eq_false]
      intro h; subst h; exact hb rfl rfl rfl rfl
    · refine ⟨a.length - (k + 1), by omega, _, ?_, k + 1, by omega, by omega, fun j hj => ?_, rfl⟩
      · ((try simp only [List.length_append,List.length_cons,List.length_nil,Nat.zero_add]);refine Wk.intro [] (by decide) (by decide) (by intro o ho;simp at ho ⊢ <;> omega) ?_ ?_ <;> repeat' (first|(refine WkV.imm ?_;congr 1;omega)|exact WkVL.nil|refine WkVL.cons ?_ ?_|exact WkV.top|exact WkV.imm rfl|exact WkV.imm (by simp)|exact WkV.optr rfl|exact WkV.own rfl (by simp)|exact WkV.nil_own (.inl rfl)|exact WkV.map rfl|(refine WkV.free ?_;simp [Free,FreeL] <;> assumption)|(refine WkV.free (fun _ _=>FreeL_nth ?_ _);simp [Free,FreeL];done)|refine WkV.agg ?_|refine WkV.tup ?_|refine WkV.fn ?_ ?_|exact WkO.dead|exact WkO.raw|refine WkO.ghost ?_|exact WkO.mpE rfl trivial|refine WkO.box ?_ rfl|refine WkO.arr ?_|refine And.intro ?_ (And.intro (by first|exact fun h=>h|exact fun _=>rfl|exact nofun) ?_)|exact trivial|(intro i j hi hj)))
      · by_cases e : j = k
        · subst e
          obtain ⟨q1, q2, q3, q4⟩ := hb
          generalize gt a j = x at *
          generalize gt b j = y at *
          cases x; cases y; simp_all
        · exact h3 j (by omega)
    · congr 2
      rw [decide_eq_true]
      apply List.ext_getElem hlen
      intro j h4 h5
      have := h3 j (by omega)
      simpa [gt, List.getD_eq_getElem?_getD, List.getElem?_eq_getElem h4, List.getElem?_eq_getElem h5] using this
instance : DecidableEq Cl := fun x y => if h : x.s = y.s ∧ x.a = y.a ∧ x.b = y.b then isTrue (by cases x;cases y;simp_all) else isFalse (fun e => h (by subst e;simp))
@[go_sem, reducible] def cls (c : List Cl) : AV := .view c.length 3 (elE c.toArray)
set_option maxRecDepth 100000 in
set_option maxHeartbeats 4000000 in
theorem sameC_tc (a b : List Cl) (hl : a.length ≤ 9223372036854775807) (hb' : b.length ≤ 9223372036854775807) : Look Try.prog 15 [cls a,cls b] (.imm (.bool (decide (a.toArray = b.toArray)))) := by
  refine Look.mk trivial ?_
  (refine TC_of_T Γ_ok Try.func15 rfl (by kernel_rfl) ?_;simp only [Try.ntmps15,Try.results15,List.length_cons,List.length_nil,Nat.reduceSub,Nat.reduceAdd,List.replicate,List.cons_append,List.nil_append])
  (repeat' (first|with_reducible refine T_seq_drawT (id := 6) Γ_ok drawsAny pl15_6 (by kernel_rfl) (fun K hK=>?_)|with_reducible refine T_last_drawT (id := 6) Γ_ok drawsAny pl15_6 (by kernel_rfl) (fun K hK=>?_)|((refine goR0 _ _ _ _ _ _ _ _ ?_ ?_ ?_ ?_ ?_ ?_ ?_ ?_) <;> (repeat intro hb) <;> first|exact True.intro|refine Lf.mk ?_)))
  · congr 2
    rw [decide_eq_false]
    intro h; have := congrArg Array.size h; simp at this; omega
  · have hlen : a.length = b.length := by omega
    refine T_loopW (fun m st => ∃ k : Nat,k ≤ a.length ∧ m + k = a.length ∧ (∀ j,j < k → a.toArray[j]! = b.toArray[j]!) ∧
      st = ⟨[cls a, cls b, .top, .top, .imm (.bool false), .imm (.int .i64 k)] ++ List.replicate 20 .top, []⟩)
      a.length ⟨_, ?_, 0, by omega, rfl, fun j hj => by omega, rfl⟩ ?_
    · ((try simp only [List.length_append,List.length_cons,List.length_nil,Nat.zero_add]);refine Wk.intro [] (by decide) (by decide) (by intro o ho;simp at ho ⊢ <;> omega) ?_ ?_ <;> repeat' (first|exact WkVL.nil|refine WkVL.cons ?_ ?_|exact WkV.top|exact WkV.imm rfl|exact WkV.imm (by simp)|exact WkV.optr rfl|exact WkV.own rfl (by simp)|exact WkV.nil_own (.inl rfl)|exact WkV.map rfl|(refine WkV.free ?_;simp [Free,FreeL] <;> assumption)|(refine WkV.free (fun _ _=>FreeL_nth ?_ _);simp [Free,FreeL];done)|refine WkV.agg ?_|refine WkV.tup ?_|refine WkV.fn ?_ ?_|exact WkO.dead|exact WkO.raw|refine WkO.ghost ?_|exact WkO.mpE rfl trivial|refine WkO.box ?_ rfl|refine WkO.arr ?_|refine And.intro ?_ (And.intro (by first|exact fun h=>h|exact fun _=>rfl|exact nofun) ?_)|exact trivial|(intro i j hi hj)))
    rintro m st ⟨k, h1, h2, h3, rfl⟩
    (simp only [go_sem,↓reduceIte,Nat.reduceAdd,Nat.reduceSub,Nat.reduceMul,Nat.reduceLT,Nat.reduceLeDiff,Nat.reduceEqDiff,Nat.reduceGT,Int.reduceToNat,Int.reduceBEq,Int.reduceBNe];try simp (disch := omega) only [wrapI,wrapU,half_sum,toNat_sub1,toNat_add1,Int.toNat_natCast])
    (repeat' (first|with_reducible refine T_seq_drawT (id := 6) Γ_ok drawsAny pl15_6 (by kernel_rfl) (fun K hK=>?_)|with_reducible refine T_last_drawT (id := 6) Γ_ok drawsAny pl15_6 (by kernel_rfl) (fun K hK=>?_)|((refine goR0 _ _ _ _ _ _ _ _ ?_ ?_ ?_ ?_ ?_ ?_ ?_ ?_) <;> (repeat intro hb) <;> first|exact True.intro|refine Lf.mk ?_)))
    · congr 2
      rw [decide_eq_false]
      intro h; rw [h] at hb; exact hb rfl rfl rfl
    · refine ⟨a.length - (k + 1), by omega, _, ?_, k + 1, by omega, by omega, fun j hj => ?_, rfl⟩
      · ((try simp only [List.length_append,List.length_cons,List.length_nil,Nat.zero_add]);refine Wk.intro [] (by decide) (by decide) (by intro o ho;simp at ho ⊢ <;> omega) ?_ ?_ <;> repeat' (first|(refine WkV.imm ?_;congr 1;omega)|exact WkVL.nil|refine WkVL.cons ?_ ?_|exact WkV.top|exact WkV.imm rfl|exact WkV.imm (by simp)|exact WkV.optr rfl|exact WkV.own rfl (by simp)|exact WkV.nil_own (.inl rfl)|exact WkV.map rfl|(refine WkV.free ?_;simp [Free,FreeL] <;> assumption)|(refine WkV.free (fun _ _=>FreeL_nth ?_ _);simp [Free,FreeL];done)|refine WkV.agg ?_|refine WkV.tup ?_|refine WkV.fn ?_ ?_|exact WkO.dead|exact WkO.raw|refine WkO.ghost ?_|exact WkO.mpE rfl trivial|refine WkO.box ?_ rfl|refine WkO.arr ?_|refine And.intro ?_ (And.intro (by first|exact fun h=>h|exact fun _=>rfl|exact nofun) ?_)|exact trivial|(intro i j hi hj)))
      · by_cases e : j = k
        · subst e
          obtain ⟨q1, q2, q3⟩ := hb
          generalize a.toArray[j]! = x at *
          generalize b.toArray[j]! = y at *
          cases x; cases y; simp_all
        · exact h3 j (by omega)
    · congr 2
      rw [decide_eq_true]
      congr 1
      apply List.ext_getElem hlen
      intro j h4 h5
      have := h3 j (by omega)
      simpa [h4, h5] using this
end Go.Proofs.Ytgljhmnmmaclaaa
