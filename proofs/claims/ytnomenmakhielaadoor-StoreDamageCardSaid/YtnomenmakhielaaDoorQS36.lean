/-
  The law's head: the examples of the chapter.
-/
import Derived.Test.YtnomenmakhielaaDoorQGo
import Derived.Test.YtnomenmakhielaaDoorQS35
set_option linter.unusedSimpArgs false
set_option linter.unusedVariables false
namespace Go.Proofs.YtnomenmakhielaaDoor
open Go.Ab

def tA : Tk := ⟨2, 1, -1, 3⟩
def L3 : List Rcd := [⟨1, 2, 258, tk0⟩, ⟨2, 2, 300, tA⟩, ⟨3, 2, 0, tA⟩]
def F3 : List Nat := [5, 1, 2, 0, 1, 2, 129, 115, 129, 70, 8, 2, 2, 0, 1, 44, 1, 0, 3, 199, 36, 162, 89, 5, 3, 2, 1, 0, 3, 148, 109, 185, 198]
def M3 : Mem := ⟨[ac0, ⟨300, 300, tA⟩], [tA]⟩
theorem F3_eq : framesN L3 = F3 := by decide +kernel
theorem L3_ok : allOk L3 = true := by decide +kernel
theorem D3_ok : allOk (L3.drop 1) = true := by decide +kernel
theorem tA_ok : OkT tA := by unfold OkT; decide +kernel
theorem val0 : Val [] := ⟨fun i hi => by simp at hi, fun i hi => by simp at hi⟩
theorem ok_1 : Rcd.ok ⟨1, 2, 258, tk0⟩ = true := by decide +kernel
theorem ok_2 : Rcd.ok ⟨2, 2, 300, tA⟩ = true := by decide +kernel
theorem ok_4 : Rcd.ok ⟨1, 2, 300, tk0⟩ = true := by decide +kernel
theorem do_1 : doR ⟨[], []⟩ ⟨1, 2, 258, tk0⟩ = (⟨[ac0, ⟨258, 0, tk0⟩], []⟩, 0) := by
  rcases doR_1 mem0_ok ok_1 rfl with ⟨h, _⟩ | ⟨_, e⟩
  · exact absurd h (by decide)
  · rw [e]; rfl
theorem mem1_ok : MemOk ⟨[ac0, ⟨258, 0, tk0⟩], []⟩ := by
  have := doR_ok mem0_ok ok_1 (by rw [do_1])
  rwa [do_1] at this
theorem do_2 : doR ⟨[ac0, ⟨258, 0, tk0⟩], []⟩ ⟨2, 2, 300, tA⟩ = (⟨[ac0, ⟨300, 300, tA⟩], []⟩, 0) := by
  rcases doR_2 mem1_ok ok_2 rfl with ⟨h, _⟩ | ⟨_, e⟩
  · exact absurd h (by decide)
  · rw [e]; rfl
theorem do_2' : doR ⟨[], []⟩ ⟨2, 2, 300, tA⟩ = (⟨[ac0, ⟨300, 300, tA⟩], []⟩, 0) := by
  rcases doR_2 mem0_ok ok_2 rfl with ⟨h, _⟩ | ⟨_, e⟩
  · exact absurd h (by decide)
  · rw [e]; rfl
theorem mem2_ok : MemOk ⟨[ac0, ⟨300, 300, tA⟩], []⟩ := by
  have := doR_ok mem0_ok ok_2 (by rw [do_2'])
  rwa [do_2'] at this
theorem do_3 : doR ⟨[ac0, ⟨300, 300, tA⟩], []⟩ ⟨3, 2, 0, tA⟩ = (M3, 0) := by
  have el : learnR [] tA = ([tA], 0) := by
    unfold learnR; rw [if_pos ⟨tA_ok, val0⟩, if_neg (fun h => Nat.not_lt_zero _ h.1)]; rfl
  unfold doR; rw [if_neg (by decide), if_neg (by decide)]; simp only []; rw [el]; rfl
theorem do_4 : (doR ⟨[ac0, ⟨300, 300, tA⟩], []⟩ ⟨1, 2, 300, tk0⟩).2 = 24 := by
  rcases doR_1 mem2_ok ok_4 rfl with ⟨_, e⟩ | ⟨h, _⟩
  · exact e
  · exact absurd h (by decide)
theorem fold_3 : foldR L3 = (M3, 0) := by
  unfold foldR
  rw [if_pos ⟨by decide, L3_ok⟩]
  unfold L3
  simp only [runM, do_1, do_2, do_3, if_true]
theorem fold_4 : foldR [⟨2, 2, 300, tA⟩, ⟨1, 2, 300, tk0⟩] = (⟨[], []⟩, 24) := by
  unfold foldR
  rw [if_pos ⟨by decide, by decide +kernel⟩]
  simp only [runM, do_2', do_4, if_true]
  rfl
theorem few_3 : fewest M3 = L3.drop 1 := by rfl
theorem rec_3 : recoverR ⟨framesN L3, 0⟩ = (L3, ⟨framesN L3, ((framesN L3).length : Nat)⟩, 0) := recover_frames L3_ok (by decide) (by omega)
theorem cmp_3 : compactR ⟨framesN L3, 0⟩ = (⟨framesN (L3.drop 1), ((framesN (L3.drop 1)).length : Nat)⟩, 0) := by
  unfold compactR
  simp only [rec_3, fold_3, few_3]
  rfl
theorem rec_4 : recoverR ⟨framesN (L3.drop 1), ((framesN (L3.drop 1)).length : Nat)⟩ = (L3.drop 1, ⟨framesN (L3.drop 1), ((framesN (L3.drop 1)).length : Nat)⟩, 0) := recover_frames D3_ok (by decide) (by omega)

set_option maxRecDepth 100000 in
set_option maxHeartbeats 4000000 in
theorem head_tc : Look Tryd.prog 11 [] (.imm (.bool true)) := by
  refine Look.mk trivial ?_
  have hE3 : ∀ i j, i < 3 → j < 7 → nth (rcL ⟨1, 2, 258, tk0⟩ ++ rcL ⟨2, 2, 300, tA⟩ ++ rcL ⟨3, 2, 0, tA⟩) (i * 7 + j) = rcE L3 i j := by
    intro i j hi hj
    rcases i with _ | _ | _ | i
    · rcases j with _ | _ | _ | _ | _ | _ | _ | j <;> first | rfl | omega
    · rcases j with _ | _ | _ | _ | _ | _ | _ | j <;> first | rfl | omega
    · rcases j with _ | _ | _ | _ | _ | _ | _ | j <;> first | rfl | omega
    · omega
  (refine TC_of_T Γ_ok Tryd.func11 rfl (by kernel_rfl) ?_; simp only [Tryd.ntmps11, Tryd.results11, List.length_cons, List.length_nil, Nat.reduceSub, Nat.reduceAdd, List.replicate, List.cons_append, List.nil_append])
  (repeat' (first | with_reducible refine T_seq_drawT (id := 8) Γ_ok drawsAny pl11_8 (by kernel_rfl) (fun K hK => ?_) | with_reducible refine T_last_drawT (id := 8) Γ_ok drawsAny pl11_8 (by kernel_rfl) (fun K hK => ?_) | ((refine goL0 _ _ _ _ _ _ _ _ ?_ ?_ ?_ ?_ ?_ ?_ ?_ ?_) <;> (repeat intro hb) <;> first | exact True.intro | refine Lf.mk ?_)))
  refine T_loopW (fun m st => ∃ (i : Nat), i ≤ 3 ∧ m + i = 3 ∧
      st = ⟨[.imm (.bool false), .optr 0 0 0, .own 1 0 3 none, .optr 2 0 0, .imm (.bool true), .imm (.int .i64 i)] ++ List.replicate 125 .top,
        [.box 33 (tkL tA), rcO L3, .box 43 [.own 3 0 (framesN (L3.take i)).length none, .imm (.int .i64 0)], byO (framesN (L3.take i))]⟩)
    3 ⟨_, Wk.trans (Wk.push 5 1 (byE [])) ?_, 0, by omega, rfl, rfl⟩ ?_
  · ((try simp only [List.length_append, List.length_cons, List.length_nil, Nat.zero_add]); refine Wk.intro [0, 1, 2, 3] (by decide) (by decide) (by intro o ho; simp at ho ⊢ <;> omega) ?_ ?_ <;> repeat' (first | exact WkV.eqF (hE3 _ _ (by assumption) (by assumption)) (rcE_free _ _ _) | exact WkVL.nil | refine WkVL.cons ?_ ?_ | exact WkV.top | exact WkV.imm rfl | exact WkV.imm (by simp) | exact WkV.optr rfl | exact WkV.own rfl (by simp) | exact WkV.nil_own (.inl rfl) | exact WkV.map rfl | (refine WkV.free ?_; simp [Free, FreeL] <;> assumption) | (refine WkV.free (fun _ _ => FreeL_nth ?_ _); simp [Free, FreeL]; done) | refine WkV.agg ?_ | refine WkV.tup ?_ | refine WkV.fn ?_ ?_ | exact WkO.dead | exact WkO.raw | refine WkO.ghost ?_ | exact WkO.mpE rfl trivial | refine WkO.box ?_ rfl | refine WkO.arr ?_ | refine And.intro ?_ (And.intro (by first | exact fun h => h | exact fun _ => rfl | exact nofun) ?_) | exact trivial | (intro i j hi hj)))
  rintro m st ⟨i, h1, h2, rfl⟩
  (simp only [go_sem, ↓reduceIte, Nat.reduceAdd, Nat.reduceSub, Nat.reduceMul, Nat.reduceLT, Nat.reduceLeDiff, Nat.reduceEqDiff, Nat.reduceGT, Int.reduceToNat, Int.reduceBEq, Int.reduceBNe]; try simp (disch := omega) only [wrapI, wrapU, half_sum, toNat_sub1, toNat_add1, Int.toNat_natCast])
  have hl3 : L3.length = 3 := rfl
  have hot := allOk_take L3_ok i
  have hbt := framesN_ok hot
  have hlt' := framesN_len hot
  have htl : (L3.take i).length ≤ 3 := by simp; omega
  by_cases hlt : i < 3
  · have hro := allOk_gR L3_ok (i := i) (by omega)
    have hst := frames_step (l := L3) (i := i) (by omega)
    have hap := append_tc ⟨framesN (L3.take i), 0⟩ (gR L3 i) hbt (by simp only []; omega)
    rw [append_step hot hro (by omega) (by omega), ← hst] at hap
    simp only [rcA, rcL] at hap
    generalize hA : framesN (L3.take (i + 1)) = B' at *
    generalize framesN (L3.take i) = B at *
    (have cm1 := hap; repeat' (first | with_reducible refine T_seq_drawT (id := 8) Γ_ok drawsAny pl11_8 (by kernel_rfl) (fun K hK => ?_) | with_reducible refine T_last_drawT (id := 8) Γ_ok drawsAny pl11_8 (by kernel_rfl) (fun K hK => ?_) | ((refine goL0 _ _ _ _ _ _ _ _ ?_ ?_ ?_ ?_ ?_ ?_ ?_ ?_) <;> (repeat intro hb) <;> first | exact True.intro | refine Lf.mk ?_)))
    all_goals refine ⟨3 - (i + 1), by omega, _, ?_, i + 1, by omega, by omega, rfl⟩
    all_goals rw [hA]
    · ((try simp only [List.length_append, List.length_cons, List.length_nil, Nat.zero_add]); refine Wk.intro [0, 1, 2, 4] (by decide) (by decide) (by intro o ho; simp at ho ⊢ <;> omega) ?_ ?_ <;> repeat' (first | exact WkVL.nil | refine WkVL.cons ?_ ?_ | exact WkV.top | exact WkV.imm rfl | exact WkV.imm (by simp) | exact WkV.optr rfl | exact WkV.own rfl (by simp) | exact WkV.nil_own (.inl rfl) | exact WkV.map rfl | (refine WkV.free ?_; simp [Free, FreeL] <;> assumption) | (refine WkV.free (fun _ _ => FreeL_nth ?_ _); simp [Free, FreeL]; done) | refine WkV.agg ?_ | refine WkV.tup ?_ | refine WkV.fn ?_ ?_ | exact WkO.dead | exact WkO.raw | refine WkO.ghost ?_ | exact WkO.mpE rfl trivial | refine WkO.box ?_ rfl | refine WkO.arr ?_ | refine And.intro ?_ (And.intro (by first | exact fun h => h | exact fun _ => rfl | exact nofun) ?_) | exact trivial | (intro i j hi hj)))
    · ((try simp only [List.length_append, List.length_cons, List.length_nil, Nat.zero_add]); refine Wk.intro [0, 1, 2, 5] (by decide) (by decide) (by intro o ho; simp at ho ⊢ <;> omega) ?_ ?_ <;> repeat' (first | exact WkVL.nil | refine WkVL.cons ?_ ?_ | exact WkV.top | exact WkV.imm rfl | exact WkV.imm (by simp) | exact WkV.optr rfl | exact WkV.own rfl (by simp) | exact WkV.nil_own (.inl rfl) | exact WkV.map rfl | (refine WkV.free ?_; simp [Free, FreeL] <;> assumption) | (refine WkV.free (fun _ _ => FreeL_nth ?_ _); simp [Free, FreeL]; done) | refine WkV.agg ?_ | refine WkV.tup ?_ | refine WkV.fn ?_ ?_ | exact WkO.dead | exact WkO.raw | refine WkO.ghost ?_ | exact WkO.mpE rfl trivial | refine WkO.box ?_ rfl | refine WkO.arr ?_ | refine And.intro ?_ (And.intro (by first | exact fun h => h | exact fun _ => rfl | exact nofun) ?_) | exact trivial | (intro i j hi hj)))
  · obtain rfl : i = 3 := by omega
    have e3 : L3.take 3 = L3 := rfl
    have hv1 : ∀ i j, i < 6 → j < 1 → byE F3 i j = byE (F3.take 6) i j := fun i j hi _ => by simp [byE, gb8, hi]
    have hv2 : ∀ i j, i < 9 → j < 1 → byE F3 (10 + i) j = byE ((F3.drop 10).take 9) i j := fun i j hi _ => by simp [byE, gb8, hi]
    have hv3 : ∀ i j, i < 6 → j < 1 → byE F3 (23 + i) j = byE ((F3.drop 23).take 6) i j := fun i j hi _ => by simp [byE, gb8, hi]
    have hv4 : ∀ i j, i < 2 → j < 7 → rcE L3 (1 + i) j = rcE (L3.drop 1) i j := fun i j hi _ => by simp [rcE, gR, Nat.add_comm]
    have hc1 : Look Tryd.prog 21 [bys (F3.take 6), bys [5, 1, 2, 0, 1, 2]] (.imm (.bool true)) := (rbytes_tc _ _ (by decide) (by decide)).eq (by rw [decide_eq_true (by decide +kernel)])
    have hc2 : Look Tryd.prog 21 [bys ((F3.drop 10).take 9), bys [8, 2, 2, 0, 1, 44, 1, 0, 3]] (.imm (.bool true)) := (rbytes_tc _ _ (by decide) (by decide)).eq (by rw [decide_eq_true (by decide +kernel)])
    have hc3 : Look Tryd.prog 21 [bys ((F3.drop 23).take 6), bys [5, 3, 2, 1, 0, 3]] (.imm (.bool true)) := (rbytes_tc _ _ (by decide) (by decide)).eq (by rw [decide_eq_true (by decide +kernel)])
    have hf1 := fold_tc L3 (by decide)
    rw [fold_3] at hf1
    have hf2 := fold_tc [⟨2, 2, 300, tA⟩, ⟨1, 2, 300, tk0⟩] (by decide)
    rw [fold_4] at hf2
    have hcm := compact_tc ⟨framesN L3, 0⟩ (framesN_ok L3_ok) (by rw [F3_eq]; decide)
    rw [cmp_3, F3_eq] at hcm
    have hre := recover_tc ⟨framesN (L3.drop 1), ((framesN (L3.drop 1)).length : Nat)⟩ (framesN_ok D3_ok) (by decide +kernel)
    rw [rec_4] at hre
    have hrs : Look Tryd.prog 20 [rcs (L3.drop 1), rcs (L3.drop 1)] (.imm (.bool true)) := (recs_tc _ _ (by decide) (by decide)).eq (by rw [@decide_eq_true _ (_) rfl])
    have hsm : Look Tryd.prog 14 [memV M3, memV M3] (.imm (.bool true)) := (sameM_tc M3 M3 (by decide) (by decide) (by decide) (by decide)).eq (by rw [@decide_eq_true _ (_) rfl])
    rw [e3, F3_eq]
    generalize framesN (L3.drop 1) = G at *
    have hlen : F3.length = 33 := rfl
    (have dl1 := hc1; have dl2 := hc2; have dl3 := hc3; have dm1 := hf1; have dm2 := hf2; have cm1 := hcm; have cm2 := hre; have dl4 := hrs; have dl5 := hsm; repeat' (first | with_reducible refine T_seq_drawT (id := 8) Γ_ok drawsAny pl11_8 (by kernel_rfl) (fun K hK => ?_) | with_reducible refine T_last_drawT (id := 8) Γ_ok drawsAny pl11_8 (by kernel_rfl) (fun K hK => ?_) | ((refine goL0 _ _ _ _ _ _ _ _ ?_ ?_ ?_ ?_ ?_ ?_ ?_ ?_) <;> (repeat intro hb) <;> first | exact True.intro | refine Lf.mk ?_)))
end Go.Proofs.YtnomenmakhielaaDoor
