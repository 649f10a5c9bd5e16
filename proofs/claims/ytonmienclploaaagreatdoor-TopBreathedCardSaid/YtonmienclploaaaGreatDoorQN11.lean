/-
  pitch.multiply.
-/
import Derived.Test.YtonmienclploaaaGreatDoorQGo
import Derived.Test.YtonmienclploaaaGreatDoorQN10
set_option linter.unusedSimpArgs false
set_option linter.unusedVariables false
namespace Go.Proofs.YtonmienclploaaaGreatDoor.Q
open Go.Ab
set_option maxRecDepth 100000 in
set_option maxHeartbeats 4000000 in
theorem multiply_mk (l : List Nat) (hl : l.length ≤ 1000) (h1 : ∀ i,i < l.length → lmN (gN l i) ≤ 640) (h2 : ∀ i,i ≤ l.length → lmN (prK l i) ≤ 640) : Makes Tryz.prog 108 [nvs l] (.own 0 0 (lmN (prodN l)) none) [natO (lmN (prodN l)) (prodN l)] := by
  refine natMk ?_
  generalize hQ : (fun (v : AV) (σ' : List AObj)=>∃ k L c E',v = .own k 0 (lmN (prodN l)) c ∧ nthO σ' k = .arr 179 1 L E' ∧ lmN (prodN l) ≤ L ∧ ∀ i,i < lmN (prodN l) → E' i 0 = lmE (prodN l) i 0) = Q
  have c1 := make_mk 1 (by omega)
  rw [Int.natCast_one] at c1
  (refine TC_of_T Γ_ok Tryz.func108 rfl (by kernel_rfl) ?_;simp only [Tryz.ntmps108,Tryz.results108,List.length_cons,List.length_nil,Nat.reduceSub,Nat.reduceAdd,List.replicate,List.cons_append,List.nil_append])
  (have cm1 := c1;((refine goR0 _ _ _ _ _ _ _ _ ?_ ?_ ?_ ?_ ?_ ?_ ?_ ?_) <;> (repeat intro hb) <;> first | exact True.intro | refine Lf.mk ?_))
  refine T_loopW (fun m st => ∃ i : Nat,i ≤ l.length ∧ m + i = l.length ∧ st = ⟨enM l (prK l i) i,[natO (lmN (prK l i)) (prK l i)]⟩)
    l.length ⟨_, ?_, 0, by omega, rfl, rfl⟩ ?_
  · rw [show prK l 0 = 1 from rfl]
    ((try simp only [List.length_append,List.length_cons,List.length_nil,Nat.zero_add]);refine Wk.intro [0] (by decide) (by decide) (by intro o ho;simp at ho ⊢ <;> omega) ?_ ?_ <;> repeat' (first|exact WkVL.nil|refine WkVL.cons ?_ ?_|exact WkV.top|exact WkV.imm rfl|exact WkV.imm (by simp)|exact WkV.optr rfl|exact WkV.own rfl (by simp)|exact WkV.nil_own (.inl rfl)|exact WkV.map rfl|(refine WkV.free ?_;simp [Free,FreeL] <;> assumption)|(refine WkV.free (fun _ _=>FreeL_nth ?_ _);simp [Free,FreeL];done)|refine WkV.agg ?_|refine WkV.tup ?_|refine WkV.fn ?_ ?_|exact WkO.dead|exact WkO.raw|refine WkO.ghost ?_|exact WkO.mpE rfl trivial|refine WkO.box ?_ rfl|refine WkO.arr ?_|refine And.intro ?_ (And.intro (by first|exact fun h=>h|exact fun _=>rfl|exact nofun) ?_)|exact trivial|(intro i j hi hj)))
  rintro m st ⟨i, k0, k1, rfl⟩
  by_cases hi : i < l.length
  · have hp := prK_s hi
    obtain ⟨V, hV⟩ : ∃ V, V = prK l i := ⟨_, rfl⟩
    have l0 := h2 i k0
    have l1 := h2 (i + 1) hi
    rw [← hV] at hp l0 ⊢
    rw [hp] at l1
    have c2 := mul_mk V (gN l i) l0 (h1 i hi) l1
    rw [← hp] at c2
    (simp only [go_sem,↓reduceIte,Nat.reduceAdd,Nat.reduceSub,Nat.reduceMul,Nat.reduceLT,Nat.reduceLeDiff,Nat.reduceEqDiff,Nat.reduceGT,Int.reduceToNat,Int.reduceBEq,Int.reduceBNe];try simp (disch := omega) only [wrapI,wrapU,half_sum,toNat_sub1,toNat_add1,Int.toNat_natCast])
    (have cm1 := c2;((refine goR0 _ _ _ _ _ _ _ _ ?_ ?_ ?_ ?_ ?_ ?_ ?_ ?_) <;> (repeat intro hb) <;> first | exact True.intro | refine Lf.mk ?_))
    refine ⟨l.length - (i + 1),by omega,⟨enM l (prK l (i + 1)) (i + 1),[natO (lmN (prK l (i + 1))) (prK l (i + 1))]⟩,?_,i + 1,by omega,by omega,rfl⟩
    ((try simp only [List.length_append,List.length_cons,List.length_nil,Nat.zero_add]);refine Wk.intro [1] (by decide) (by decide) (by intro o ho;simp at ho ⊢ <;> omega) ?_ ?_ <;> repeat' (first|(refine WkV.imm ?_;congr 1;omega)|exact WkVL.nil|refine WkVL.cons ?_ ?_|exact WkV.top|exact WkV.imm rfl|exact WkV.imm (by simp)|exact WkV.optr rfl|exact WkV.own rfl (by simp)|exact WkV.nil_own (.inl rfl)|exact WkV.map rfl|(refine WkV.free ?_;simp [Free,FreeL] <;> assumption)|(refine WkV.free (fun _ _=>FreeL_nth ?_ _);simp [Free,FreeL];done)|refine WkV.agg ?_|refine WkV.tup ?_|refine WkV.fn ?_ ?_|exact WkO.dead|exact WkO.raw|refine WkO.ghost ?_|exact WkO.mpE rfl trivial|refine WkO.box ?_ rfl|refine WkO.arr ?_|refine And.intro ?_ (And.intro (by first|exact fun h=>h|exact fun _=>rfl|exact nofun) ?_)|exact trivial|(intro i j hi hj)))
  · obtain rfl : i = l.length := by omega
    rw [prK_end]
    (simp only [go_sem,↓reduceIte,Nat.reduceAdd,Nat.reduceSub,Nat.reduceMul,Nat.reduceLT,Nat.reduceLeDiff,Nat.reduceEqDiff,Nat.reduceGT,Int.reduceToNat,Int.reduceBEq,Int.reduceBNe];try simp (disch := omega) only [wrapI,wrapU,half_sum,toNat_sub1,toNat_add1,Int.toNat_natCast])
    (((refine goR0 _ _ _ _ _ _ _ _ ?_ ?_ ?_ ?_ ?_ ?_ ?_ ?_) <;> (repeat intro hb) <;> first | exact True.intro | refine Lf.mk ?_))
    rw [← hQ]
    exact ⟨_, _, _, _, rfl, rfl, Nat.le_refl _, fun _ _ => rfl⟩
end Go.Proofs.YtonmienclploaaaGreatDoor.Q
