/-
  The laws StoreContinued, StoreCompact.
-/
import Derived.Test.YtnomenmakhielaaDoorQGo
import Derived.Test.YtnomenmakhielaaDoorQGo2
import Derived.Test.YtnomenmakhielaaDoorQS40
set_option linter.unusedSimpArgs false
set_option linter.unusedVariables false
namespace Go.Proofs.YtnomenmakhielaaDoor
open Go.Ab

theorem compact_bytes (d : Dsk) : ByOk (compactR d).1.b := by
  by_cases h : (compactR d).2 = 0
  · obtain ⟨_, h2, h3, _⟩ := compact_ok h
    rw [h3]
    exact framesN_ok (fewest_ok (foldR_ok h2))
  · have e : (compactR d).1.b = [] := by
      unfold compactR at h ⊢
      split
      · rfl
      · rename_i c1
        rw [if_neg c1] at h
        split
        · rfl
        · rename_i c2; rw [if_neg c2] at h; exact absurd rfl h
    rw [e]; intro x hx; cases hx

set_option maxRecDepth 100000 in
set_option maxHeartbeats 4000000 in
theorem law_continued (d : Dsk) (more : List Rcd) (hb : ByOk d.b) (hd : d.b.length ≤ 9223372036854775807) (hm : more.length * 56 ≤ 140737488351232) : Look Tryd.prog 6 [dsA d, rcs more] (.imm (.bool true)) := by
  refine Look.mk trivial ?_
  have h1 := compact_tc d hb hd
  have h2 := recover_tc d hb hd
  have h3 := recover_tc (compactR d).1 (compact_bytes d) (by have := compactR_len d; omega)
  by_cases he : (compactR d).2 = 0
  · obtain ⟨g1, g2, g3, g4, g5, g6, g7⟩ := compact_ok he
    have hlr := (recoverR_lens d).1
    rw [g4] at h3
    have hf1 := fold_app (recoverR d).1 more (by simp; omega)
    have hf2 := fold_app (fewest (foldR (recoverR d).1).1) more (by simp; omega)
    have hbh : ((recoverR d).1 ++ more).length ≤ 500 → foldR (fewest (foldR (recoverR d).1).1 ++ more) = foldR ((recoverR d).1 ++ more) := foldR_behind g2 g5 g7
    rw [List.length_append] at hbh
    have hlm := foldR_lens ((recoverR d).1 ++ more)
    have hsm := sameM_self (foldR ((recoverR d).1 ++ more)).1 (by omega) (by omega)
    have hcd : (foldR ((recoverR d).1 ++ more)).2 = 0 → (recoverR d).1.length + more.length ≤ 500 := fun h => by have := (foldR_cond h).1; rwa [List.length_append] at this
    clear g3 g4 g5 g6 hlm
    generalize fewest (foldR (recoverR d).1).1 = K at *
    generalize foldR ((recoverR d).1 ++ more) = q1 at *
    generalize foldR (K ++ more) = q2 at *
    generalize compactR d = c at *
    obtain ⟨c, ce⟩ := c
    simp only [] at he h1 h3
    subst he
    clear g2
    generalize recoverR d = r at *
    obtain ⟨L, d', re⟩ := r
    simp only [] at g1 g7 h2 hlr hbh hcd hf1
    subst g1
    by_cases hq : q1.2 = 0
    · rw [hbh (hcd hq)] at hf2
      obtain ⟨m, e⟩ := q1
      simp only [] at hq
      subst hq
      simp only [] at hf1 hf2
      (refine TC_of_T Γ_ok Tryd.func6 rfl (by kernel_rfl) ?_; simp only [Tryd.ntmps6, Tryd.results6, List.length_cons, List.length_nil, Nat.reduceSub, Nat.reduceAdd, List.replicate, List.cons_append, List.nil_append])
      (have cl1 := head_tc; have cm1 := h2; have dm1 := h3; have cm2 := h1; have dm2 := hf1; have dm3 := hf2; have cl2 := hsm; ((refine goR0 _ _ _ _ _ _ _ _ ?_ ?_ ?_ ?_ ?_ ?_ ?_ ?_) <;> (repeat intro hb) <;> first | exact True.intro | refine Lf.mk ?_))
    · have hq' : (q1.2 != 0) = true := by simpa using hq
      (refine TC_of_T Γ_ok Tryd.func6 rfl (by kernel_rfl) ?_; simp only [Tryd.ntmps6, Tryd.results6, List.length_cons, List.length_nil, Nat.reduceSub, Nat.reduceAdd, List.replicate, List.cons_append, List.nil_append])
      have h9 : (q2.2 == q1.2 || decide ((L.length : Int) + more.length > 500)) = true := by
        by_cases h5 : L.length + more.length ≤ 500
        · rw [hbh h5]; simp
        · simp; omega
      (have cl1 := head_tc; have cm1 := h2; have dm1 := h3; have cm2 := h1; have dm2 := hf1; have dm3 := hf2; have sx1 := hq'; ((refine goR1 _ _ _ _ _ _ _ _ ?_ ?_ ?_ ?_ ?_ ?_ ?_ ?_) <;> (repeat intro hb) <;> first | exact True.intro | refine Lf.mk ?_))
      all_goals rw [h9]
  · have he' : ((compactR d).2 != 0) = true := by simpa using he
    (refine TC_of_T Γ_ok Tryd.func6 rfl (by kernel_rfl) ?_; simp only [Tryd.ntmps6, Tryd.results6, List.length_cons, List.length_nil, Nat.reduceSub, Nat.reduceAdd, List.replicate, List.cons_append, List.nil_append])
    (have cl1 := head_tc; have cm1 := h2; have dm1 := h3; have cm2 := h1; have sx1 := he'; ((refine goR1 _ _ _ _ _ _ _ _ ?_ ?_ ?_ ?_ ?_ ?_ ?_ ?_) <;> (repeat intro hb) <;> first | exact True.intro | refine Lf.mk ?_))

set_option maxRecDepth 100000 in
set_option maxHeartbeats 4000000 in
theorem law_compact (d : Dsk) (other : List Rcd) (hb : ByOk d.b) (hd : d.b.length ≤ 9223372036854775807) (hm : other.length ≤ 9223372036854775807) : Look Tryd.prog 5 [dsA d, rcs other] (.imm (.bool true)) := by
  refine Look.mk trivial ?_
  have h1 := compact_tc d hb hd
  have h2 := recover_tc d hb hd
  have hlr := (recoverR_lens d).1
  have hf := fold_tc (recoverR d).1 (by omega)
  by_cases he : (compactR d).2 = 0
  · obtain ⟨g1, g2, g3, g4, g5, g6, g7⟩ := compact_ok he
    have h3 := recover_tc (compactR d).1 (compact_bytes d) (by have := compactR_len d; omega)
    have h4 := compact_tc (compactR d).1 (compact_bytes d) (by have := compactR_len d; omega)
    rw [g4] at h3
    rw [g6] at h4
    have hk := fold_tc (fewest (foldR (recoverR d).1).1) (by omega)
    rw [g5] at hk
    have ho := fold_tc other hm
    have hlm := foldR_lens (recoverR d).1
    have hlo := foldR_lens other
    have hsm := sameM_self (foldR (recoverR d).1).1 (by omega) (by omega)
    have hso := sameM_tc (foldR other).1 (foldR (recoverR d).1).1 (by omega) (by omega) (by omega) (by omega)
    have hds := disks_self (compactR d).1 (by have := compactR_len d; omega)
    have hsy : (compactR d).1.s = ((compactR d).1.b.length : Int) := by rw [g3]
    have hfew : (foldR other).2 = 0 → (foldR other).1 = (foldR (recoverR d).1).1 → (fewest (foldR (recoverR d).1).1).length ≤ other.length := fun e1 e2 => by rw [← e2]; exact foldR_few e1
    clear g3 g4 g5 g6
    generalize fewest (foldR (recoverR d).1).1 = K at *
    generalize foldR other = q2 at *
    generalize compactR d = c at *
    obtain ⟨⟨cb, cs⟩, ce⟩ := c
    simp only [] at he h1 h3 h4 hds hsy
    subst he hsy
    generalize foldR (recoverR d).1 = q1 at *
    obtain ⟨m, e⟩ := q1
    simp only [] at g2 hf hk hsm hso hfew
    subst g2
    generalize recoverR d = r at *
    obtain ⟨L, d', re⟩ := r
    simp only [] at g1 g7 h2 hlr hf
    subst g1
    by_cases hq : q2.2 = 0 ∧ q2.1 = m
    · have hfl := hfew hq.1 hq.2
      obtain ⟨m2, e2⟩ := q2
      simp only [] at hq
      obtain ⟨rfl, rfl⟩ := hq
      have hso := hso.eq (show _ = AV.imm (.bool true) from by congr 2; exact @decide_eq_true _ (_) rfl)
      simp only [] at ho
      have hlt : decide ((other.length : Int) < K.length) = false := decide_eq_false (by omega)
      have hle : decide ((K.length : Int) ≤ L.length) = true := decide_eq_true (by omega)
      (refine TC_of_T Γ_ok Tryd.func5 rfl (by kernel_rfl) ?_; simp only [Tryd.ntmps5, Tryd.results5, List.length_cons, List.length_nil, Nat.reduceSub, Nat.reduceAdd, List.replicate, List.cons_append, List.nil_append])
      (have cl1 := head_tc; have dl1 := hso; have dl2 := hsm; have dl3 := hds; have cm1 := h1; have dm1 := h4; have cm2 := h2; have dm2 := h3; have cm3 := hf; have dm3 := hk; have dm4 := ho; have sx1 := @beq_self_eq_true Int _ _; have sx2 := hlt; have sx3 := hle; ((refine goR3 _ _ _ _ _ _ _ _ ?_ ?_ ?_ ?_ ?_ ?_ ?_ ?_) <;> (repeat intro hb) <;> first | exact True.intro | refine Lf.mk ?_))
    · by_cases e0 : q2.2 = 0
      · have hne : ¬ q2.1 = m := fun h => hq ⟨e0, h⟩
        obtain ⟨m2, e2⟩ := q2
        simp only [] at e0 hne
        subst e0
        have hso := hso.eq (show _ = AV.imm (.bool false) from by congr 2; exact @decide_eq_false _ (_) hne)
        simp only [] at ho
        have hle : decide ((K.length : Int) ≤ L.length) = true := decide_eq_true (by omega)
        (refine TC_of_T Γ_ok Tryd.func5 rfl (by kernel_rfl) ?_; simp only [Tryd.ntmps5, Tryd.results5, List.length_cons, List.length_nil, Nat.reduceSub, Nat.reduceAdd, List.replicate, List.cons_append, List.nil_append])
        (have cl1 := head_tc; have dl1 := hso; have dl2 := hsm; have dl3 := hds; have cm1 := h1; have dm1 := h4; have cm2 := h2; have dm2 := h3; have cm3 := hf; have dm3 := hk; have dm4 := ho; have sx1 := @beq_self_eq_true Int _ _; have sx2 := hle; ((refine goR2 _ _ _ _ _ _ _ _ ?_ ?_ ?_ ?_ ?_ ?_ ?_ ?_) <;> (repeat intro hb) <;> first | exact True.intro | refine Lf.mk ?_))
      · have he0 : (q2.2 == 0) = false := by simpa using e0
        have hle : decide ((K.length : Int) ≤ L.length) = true := decide_eq_true (by omega)
        have hx := And.intro hle he0
        (refine TC_of_T Γ_ok Tryd.func5 rfl (by kernel_rfl) ?_; simp only [Tryd.ntmps5, Tryd.results5, List.length_cons, List.length_nil, Nat.reduceSub, Nat.reduceAdd, List.replicate, List.cons_append, List.nil_append])
        (have cl1 := head_tc; have dl1 := hsm; have dl2 := hds; have cm1 := h1; have dm1 := h4; have cm2 := h2; have dm2 := h3; have cm3 := hf; have dm3 := hk; have dm4 := ho; have sx1 := @beq_self_eq_true Int _ _; have sx2 := hx; ((refine goB2 _ _ _ _ _ _ _ _ ?_ ?_ ?_ ?_ ?_ ?_ ?_ ?_) <;> (repeat intro hb) <;> first | exact True.intro | refine Lf.mk ?_))
  · have he' : ((compactR d).2 != 0) = true := by simpa using he
    by_cases c1 : (recoverR d).2.2 = 0
    · have ec : (compactR d).2 = (foldR (recoverR d).1).2 := by
        unfold compactR at he ⊢
        rw [if_neg (by simp [c1])] at he ⊢
        by_cases c2 : (foldR (recoverR d).1).2 = 0
        · rw [if_neg (by simp [c2])] at he; exact absurd rfl he
        · rw [if_pos c2]
      have ek : ((0 : Int) == (foldR (recoverR d).1).2) = false := by rw [ec] at he; simpa using Ne.symm he
      rw [ec] at he'
      generalize compactR d = c at *
      obtain ⟨c, ce⟩ := c
      simp only [] at ec h1
      subst ec
      generalize recoverR d = r at *
      obtain ⟨L, d', re⟩ := r
      simp only [] at c1 h1 h2 hf hlr he' ek
      subst c1
      generalize foldR L = q1 at *
      have hx := And.intro he' ek
      (refine TC_of_T Γ_ok Tryd.func5 rfl (by kernel_rfl) ?_; simp only [Tryd.ntmps5, Tryd.results5, List.length_cons, List.length_nil, Nat.reduceSub, Nat.reduceAdd, List.replicate, List.cons_append, List.nil_append])
      (have cl1 := head_tc; have cm1 := h1; have cm2 := h2; have cm3 := hf; have sx1 := @beq_self_eq_true Int _ _; have sx2 := hx; ((refine goB2 _ _ _ _ _ _ _ _ ?_ ?_ ?_ ?_ ?_ ?_ ?_ ?_) <;> (repeat intro hb) <;> first | exact True.intro | refine Lf.mk ?_))
    · have ec : (compactR d).2 = (recoverR d).2.2 := by unfold compactR; rw [if_pos c1]
      rw [ec] at he'
      generalize compactR d = c at *
      obtain ⟨c, ce⟩ := c
      simp only [] at ec h1
      subst ec
      generalize recoverR d = r at *
      obtain ⟨L, d', re⟩ := r
      simp only [] at c1 h1 h2 hf hlr he'
      (refine TC_of_T Γ_ok Tryd.func5 rfl (by kernel_rfl) ?_; simp only [Tryd.ntmps5, Tryd.results5, List.length_cons, List.length_nil, Nat.reduceSub, Nat.reduceAdd, List.replicate, List.cons_append, List.nil_append])
      (have cl1 := head_tc; have cm1 := h1; have cm2 := h2; have cm3 := hf; have sx1 := @beq_self_eq_true Int _ _; have sx2 := he'; ((refine goB2 _ _ _ _ _ _ _ _ ?_ ?_ ?_ ?_ ?_ ?_ ?_ ?_) <;> (repeat intro hb) <;> first | exact True.intro | refine Lf.mk ?_))
end Go.Proofs.YtnomenmakhielaaDoor
