/-
  The reference's step.
-/
import Derived.Test.YtmglcamgpgkblaaQGo
import Derived.Test.YtmglcamgpgkblaaQR2
import Derived.Test.YtmglcamgpgkblaaQB9
set_option linter.unusedSimpArgs false
set_option linter.unusedVariables false
namespace Go.Proofs.Ytmglcamgpgkblaa
open Go.Ab
def stE (s : Sc) (a b : Nat) : Ed := match stepR s a b with | some (k, v) => ⟨a, b, k, v⟩ | none => ⟨0, 0, 0, z6⟩
theorem befI_eq {s : Sc} {n k : Nat} : befI s n = (k : Int) ↔ befN s n = some k := by
  unfold befI
  cases befN s n with
  | none => simp
  | some m => simp; omega
theorem find_at {l : List Pr} {q : Pr → Bool} {i : Nat} (hi : i < l.length) (h : q (gp l i) = true) (hn : ∀ j,j < i → q (gp l j) = false) : l.find? q = some (gp l i) := by
  induction l generalizing i with
  | nil => simp at hi
  | cons x l ih =>
    cases i with
    | zero => rw [List.find?_cons_of_pos]; rfl; exact h
    | succ i =>
      have h0 := hn 0 (by omega)
      rw [List.find?_cons_of_neg]
      · exact ih (by simpa using hi) h fun j hj => hn (j + 1) (by omega)
      · rw [show gp (x :: l) 0 = x from rfl] at h0; rw [h0]; simp
theorem find_no {l : List Pr} {q : Pr → Bool} (hn : ∀ j, j < l.length → q (gp l j) = false) : l.find? q = none := by
  rw [List.find?_eq_none]
  intro p hp
  obtain ⟨i, h1, rfl⟩ := mem_gp hp
  rw [hn i h1]; simp
@[go_sem, reducible] def fxP3 (s : Sc) : List AObj := [.box 26 (scL s), .box 59 (elL ⟨0, 0, 0, ⟨0, 0, 0, 0, 0, 0⟩⟩)]
@[go_sem,reducible] def enP3 (a b i : Nat) : List AV := [.top,.imm (.int .i64 a),.imm (.int .i64 b),.optr 0 0 0,.top,.top,.optr 1 0 0,.imm (.bool false),.top,.top,.top,.top,.imm (.int .i64 i)] ++ List.replicate 82 .top
set_option maxRecDepth 100000 in
set_option maxHeartbeats 4000000 in
theorem rstep_tc (s : Sc) (hl : ScL s) (hs : ScOk s) (a b : Nat) (ha : a < s.notes.length) (hb : b < s.notes.length) : Look Try.prog 29 [scA s,.imm (.int .i64 a),.imm (.int .i64 b)] (.tup [elA (stE s a b),.imm (.bool (stepR s a b).isSome)]) := by
  have hsz := hs.sz
  unfold SzOk at hsz
  have c1 := rbefore_tc s hl hs a ha
  have c2 := rbefore_tc s hl hs b hb
  have e1 := @befI_eq s a b
  have e2 := @befI_eq s b a
  have hst : stepR s a b = if tieB s a b = true then some (1,z6) else (s.pairs.find? (pairB a b)).map fun p=>(2,if p.a = (a : Int) then p.want else p.want.neg) := by unfold stepR;rw [if_pos ⟨ha,hb⟩]
  refine Look.mk (by simp [Pl, PlL]) ?_
  generalize hR : stE s a b = R
  generalize hF : (stepR s a b).isSome = F
  unfold stE at hR
  by_cases ht : tieB s a b = true
  · rw [if_pos ht] at hst
    rw [hst] at hR hF
    simp only [Option.isSome_some, Option.isSome_none] at hF
    subst hR
    subst hF
    have q : befI s a = b ∨ befI s b = a := by
      unfold tieB at ht
      rw [Bool.or_eq_true, decide_eq_true_eq, decide_eq_true_eq] at ht
      exact ht.imp e1.2 e2.2
    simp only [z6]
    clear e1 e2
    (refine TC_of_T Γ_ok Try.func29 rfl (by kernel_rfl) ?_;simp only [Try.ntmps29,Try.results29,List.length_cons,List.length_nil,Nat.reduceSub,Nat.reduceAdd,List.replicate,List.cons_append,List.nil_append])
    (have dl1 := c1;have dl2 := c2;((have sx1 := Nat.add_zero 0;refine goU1 _ _ _ _ _ _ _ _ _ _ _ _ ?_ ?_ ?_ ?_ ?_ ?_ ?_ ?_ ?_ ?_ ?_ ?_) <;> (repeat intro hb) <;> first|exact True.intro|refine Lf.mk ?_))
  · have q : ¬ (befI s a = b) ∧ ¬ (befI s b = a) := by
      unfold tieB at ht
      rw [Bool.or_eq_true, decide_eq_true_eq, decide_eq_true_eq] at ht
      exact ⟨fun h => ht (.inl (e1.1 h)), fun h => ht (.inr (e2.1 h))⟩
    rw [if_neg ht] at hst
    clear e1 e2
    (refine TC_of_T Γ_ok Try.func29 rfl (by kernel_rfl) ?_;simp only [Try.ntmps29,Try.results29,List.length_cons,List.length_nil,Nat.reduceSub,Nat.reduceAdd,List.replicate,List.cons_append,List.nil_append])
    (have dl1 := c1;have dl2 := c2;((have sx1 := Nat.add_zero 0;refine goU1 _ _ _ _ _ _ _ _ _ _ _ _ ?_ ?_ ?_ ?_ ?_ ?_ ?_ ?_ ?_ ?_ ?_ ?_) <;> (repeat intro hb) <;> first|exact True.intro|refine Lf.mk ?_))
    refine T_loopW (fun m st => ∃ i : Nat,i ≤ s.pairs.length ∧ m + i = s.pairs.length ∧ (∀ j,j < i → pairB a b (gp s.pairs j) = false) ∧ st = ⟨enP3 a b i,fxP3 s⟩)
      s.pairs.length ⟨_, ?_, 0, by omega, by omega, fun j hj => absurd hj (by omega), rfl⟩ ?_
    · ((try simp only [List.length_append,List.length_cons,List.length_nil,Nat.zero_add]);refine Wk.intro [0,1] (by decide) (by decide) (by intro o ho;simp at ho ⊢ <;> omega) ?_ ?_ <;> repeat' (first|exact WkVL.nil|refine WkVL.cons ?_ ?_|exact WkV.top|exact WkV.imm rfl|exact WkV.imm (by simp)|exact WkV.optr rfl|exact WkV.own rfl (by simp)|exact WkV.nil_own (.inl rfl)|exact WkV.map rfl|(refine WkV.free ?_;simp [Free,FreeL] <;> assumption)|(refine WkV.free (fun _ _=>FreeL_nth ?_ _);simp [Free,FreeL];done)|refine WkV.agg ?_|refine WkV.tup ?_|refine WkV.fn ?_ ?_|exact WkO.dead|exact WkO.raw|refine WkO.ghost ?_|exact WkO.mpE rfl trivial|refine WkO.box ?_ rfl|refine WkO.arr ?_|refine And.intro ?_ (And.intro (by first|exact fun h=>h|exact fun _=>rfl|exact nofun) ?_)|exact trivial|(intro i j hi hj)))
    rintro m st ⟨i, h0, h1, h2, rfl⟩
    by_cases hi : i < s.pairs.length
    · have hpb := (hs.ps.one i hi).1
      unfold PrB at hpb
      have hw : Bd6 1000000 (gp s.pairs i).want := by
        have := hpb.2.2.2.1
        unfold P6.all inB at this
        simp only [Bool.and_eq_true, decide_eq_true_eq] at this
        unfold Bd6; omega
      by_cases k1 : (gp s.pairs i).bound = 0 ∧ (gp s.pairs i).a = a ∧ (gp s.pairs i).b = b
      · have hf := find_at hi (q := pairB a b) (by unfold pairB; simp [k1]) h2
        rw [hf] at hst
        simp only [Option.map_some, if_pos k1.2.1] at hst
        rw [hst] at hR hF
        simp only [Option.isSome_some, Option.isSome_none] at hF
        subst hR
        subst hF
        (simp only [go_sem,↓reduceIte,Nat.reduceAdd,Nat.reduceSub,Nat.reduceMul,Nat.reduceLT,Nat.reduceLeDiff,Nat.reduceEqDiff,Nat.reduceGT,Int.reduceToNat,Int.reduceBEq,Int.reduceBNe];try simp (disch := omega) only [wrapI,wrapU,half_sum,toNat_sub1,toNat_add1,Int.toNat_natCast])
        (((have sx1 := Nat.add_zero 0;refine goU1 _ _ _ _ _ _ _ _ _ _ _ _ ?_ ?_ ?_ ?_ ?_ ?_ ?_ ?_ ?_ ?_ ?_ ?_) <;> (repeat intro hb) <;> first | exact True.intro | refine Lf.mk ?_))
      · by_cases k2 : (gp s.pairs i).bound = 0 ∧ (gp s.pairs i).a = b ∧ (gp s.pairs i).b = a
        · have hf := find_at hi (q := pairB a b) (by unfold pairB; simp [k2]) h2
          rw [hf] at hst
          simp only [Option.map_some, if_neg (show ¬ (gp s.pairs i).a = (a : Int) by omega)] at hst
          rw [hst] at hR hF
          simp only [Option.isSome_some, Option.isSome_none] at hF
          subst hR
          subst hF
          have c3 := rminus_tc (gp s.pairs i).want hw
          simp only [P6.neg] at c3 ⊢
          (simp only [go_sem,↓reduceIte,Nat.reduceAdd,Nat.reduceSub,Nat.reduceMul,Nat.reduceLT,Nat.reduceLeDiff,Nat.reduceEqDiff,Nat.reduceGT,Int.reduceToNat,Int.reduceBEq,Int.reduceBNe];try simp (disch := omega) only [wrapI,wrapU,half_sum,toNat_sub1,toNat_add1,Int.toNat_natCast])
          (have cl1 := c3;((have sx1 := Nat.add_zero 0;refine goU1 _ _ _ _ _ _ _ _ _ _ _ _ ?_ ?_ ?_ ?_ ?_ ?_ ?_ ?_ ?_ ?_ ?_ ?_) <;> (repeat intro hb) <;> first | exact True.intro | refine Lf.mk ?_))
        · have hpn : pairB a b (gp s.pairs i) = false := by
            unfold pairB
            rw [Bool.and_eq_false_iff]
            by_cases hz : (gp s.pairs i).bound = 0
            · right
              simp only [Bool.or_eq_false_iff, Bool.and_eq_false_iff, decide_eq_false_iff_not]
              omega
            · left; simpa using hz
          (simp only [go_sem,↓reduceIte,Nat.reduceAdd,Nat.reduceSub,Nat.reduceMul,Nat.reduceLT,Nat.reduceLeDiff,Nat.reduceEqDiff,Nat.reduceGT,Int.reduceToNat,Int.reduceBEq,Int.reduceBNe];try simp (disch := omega) only [wrapI,wrapU,half_sum,toNat_sub1,toNat_add1,Int.toNat_natCast])
          (((have sx1 := Nat.add_zero 0;refine goU1 _ _ _ _ _ _ _ _ _ _ _ _ ?_ ?_ ?_ ?_ ?_ ?_ ?_ ?_ ?_ ?_ ?_ ?_) <;> (repeat intro hb) <;> first | exact True.intro | refine Lf.mk ?_))
          refine ⟨s.pairs.length - (i + 1), by omega, _, ?_, i + 1, by omega, by omega, fun j hj => ?_, rfl⟩
          · ((try simp only [List.length_append,List.length_cons,List.length_nil,Nat.zero_add]);refine Wk.intro [0,1] (by decide) (by decide) (by intro o ho;simp at ho ⊢ <;> omega) ?_ ?_ <;> repeat' (first|exact WkVL.nil|refine WkVL.cons ?_ ?_|exact WkV.top|exact WkV.imm rfl|exact WkV.imm (by simp)|exact WkV.optr rfl|exact WkV.own rfl (by simp)|exact WkV.nil_own (.inl rfl)|exact WkV.map rfl|(refine WkV.free ?_;simp [Free,FreeL] <;> assumption)|(refine WkV.free (fun _ _=>FreeL_nth ?_ _);simp [Free,FreeL];done)|refine WkV.agg ?_|refine WkV.tup ?_|refine WkV.fn ?_ ?_|exact WkO.dead|exact WkO.raw|refine WkO.ghost ?_|exact WkO.mpE rfl trivial|refine WkO.box ?_ rfl|refine WkO.arr ?_|refine And.intro ?_ (And.intro (by first|exact fun h=>h|exact fun _=>rfl|exact nofun) ?_)|exact trivial|(intro i j hi hj)))
          · by_cases hji : j = i
            · subst hji; exact hpn
            · exact h2 j (by omega)
    · obtain rfl : i = s.pairs.length := by omega
      rw [find_no h2, Option.map_none] at hst
      rw [hst] at hR hF
      simp only [Option.isSome_some, Option.isSome_none] at hF
      subst hR
      subst hF
      simp only [z6]
      (simp only [go_sem,↓reduceIte,Nat.reduceAdd,Nat.reduceSub,Nat.reduceMul,Nat.reduceLT,Nat.reduceLeDiff,Nat.reduceEqDiff,Nat.reduceGT,Int.reduceToNat,Int.reduceBEq,Int.reduceBNe];try simp (disch := omega) only [wrapI,wrapU,half_sum,toNat_sub1,toNat_add1,Int.toNat_natCast])
      (((have sx1 := Nat.add_zero 0;refine goU1 _ _ _ _ _ _ _ _ _ _ _ _ ?_ ?_ ?_ ?_ ?_ ?_ ?_ ?_ ?_ ?_ ?_ ?_) <;> (repeat intro hb) <;> first | exact True.intro | refine Lf.mk ?_))
end Go.Proofs.Ytmglcamgpgkblaa
