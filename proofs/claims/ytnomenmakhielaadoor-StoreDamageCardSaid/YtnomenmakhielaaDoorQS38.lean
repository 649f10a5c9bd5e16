/-
  The laws StoreBack, StoreCrashes.
-/
import Derived.Test.YtnomenmakhielaaDoorQGo
import Derived.Test.YtnomenmakhielaaDoorQGo2
import Derived.Test.YtnomenmakhielaaDoorQS37
set_option linter.unusedSimpArgs false
set_option linter.unusedVariables false
namespace Go.Proofs.YtnomenmakhielaaDoor
open Go.Ab

theorem synN_neg (l : List Rcd) (i : Nat) : synN l (-1) i = 0 := by unfold synN; rw [if_neg (by omega)]

set_option maxRecDepth 100000 in
set_option maxHeartbeats 2000000 in
theorem law_back (l : List Rcd) (hl : l.length ≤ 9223372036854775807) : Look Tryd.prog 7 [rcs l] (.imm (.bool true)) := by
  refine Look.mk trivial ?_
  have hv := lvalid_tc l hl
  by_cases h : l.length ≤ 40 ∧ allOk l = true
  · rw [decide_eq_true h] at hv
    have hw := written_tc l (-1) h.2 h.1
    rw [synN_neg] at hw
    have hlen := framesN_len h.2
    have hre := recover_tc ⟨framesN l, (0 : Nat)⟩ (framesN_ok h.2) (by simp only []; omega)
    rw [recover_frames h.2 (by omega) (by omega)] at hre
    have hrs := recs_self l (by omega)
    have hby : Look Tryd.prog 21 [bys (framesN l), bys (framesN l)] (.imm (.bool true)) := (rbytes_tc _ _ (by omega) (by omega)).eq (by rw [decide_eq_true rfl])
    generalize framesN l = F at *
    (refine TC_of_T Γ_ok Tryd.func7 rfl (by kernel_rfl) ?_; simp only [Tryd.ntmps7, Tryd.results7, List.length_cons, List.length_nil, Nat.reduceSub, Nat.reduceAdd, List.replicate, List.cons_append, List.nil_append])
    (have cl1 := head_tc; have cl2 := hv; have cm1 := hw; have cm2 := hre; have cl3 := hrs; have cl4 := hby; ((refine goR0 _ _ _ _ _ _ _ _ ?_ ?_ ?_ ?_ ?_ ?_ ?_ ?_) <;> (repeat intro hb) <;> first | exact True.intro | refine Lf.mk ?_))
  · rw [decide_eq_false h] at hv
    (refine TC_of_T Γ_ok Tryd.func7 rfl (by kernel_rfl) ?_; simp only [Tryd.ntmps7, Tryd.results7, List.length_cons, List.length_nil, Nat.reduceSub, Nat.reduceAdd, List.replicate, List.cons_append, List.nil_append])
    (have cl1 := head_tc; have cl2 := hv; ((refine goR0 _ _ _ _ _ _ _ _ ?_ ?_ ?_ ?_ ?_ ?_ ?_ ?_) <;> (repeat intro hb) <;> first | exact True.intro | refine Lf.mk ?_))

theorem frames_cut (l : List Rcd) (k : Nat) : framesN l = framesN (l.take k) ++ framesN (l.drop k) := by
  conv => lhs; rw [← List.take_append_drop k l]
  rw [framesN_app]
theorem frames_mono (l : List Rcd) {i k : Nat} (h : i ≤ k) : (framesN (l.take i)).length ≤ (framesN (l.take k)).length := by
  have e : l.take k = l.take i ++ (l.drop i).take (k - i) := by
    conv => lhs; rw [show k = i + (k - i) by omega, List.take_add]
  rw [e, framesN_app, List.length_append]; omega
theorem tmod_nat (a n : Nat) : Int.tmod (a : Int) ((n : Int) + 1) = ((a % (n + 1) : Nat) : Int) := by
  rw [show ((n : Int) + 1) = ((n + 1 : Nat) : Int) by omega]; exact (Int.ofNat_tmod a (n + 1)).symm

set_option maxRecDepth 100000 in
set_option maxHeartbeats 4000000 in
theorem law_crashes (l : List Rcd) (at' : Nat) (keep : Int) (r : Rcd) (hl : l.length ≤ 9223372036854775807) (ha : at' < 256) :
    Look Tryd.prog 10 [rcs l, .imm (.int .u8 (at' : Int)), .imm (.int .i64 keep), rcA r] (.imm (.bool true)) := by
  refine Look.mk trivial ?_
  have hv := lvalid_tc l hl
  by_cases h : l.length ≤ 40 ∧ allOk l = true
  · rw [decide_eq_true h] at hv
    have htm := tmod_nat at' l.length
    have hk : at' % (l.length + 1) ≤ l.length := by have := Nat.mod_lt at' (show 0 < l.length + 1 by omega); omega
    generalize at' % (l.length + 1) = k at *
    have hw := written_tc l k h.2 h.1
    have hsy : synN l k (l.length + 1) = (framesN (l.take k)).length := by unfold synN; rw [if_pos (by omega)]; simp
    rw [hsy] at hw
    have hlen := framesN_len h.2
    have hmk := frames_mono l hk
    rw [List.take_length] at hmk
    have hso : soundB ⟨framesN l, ((framesN (l.take k)).length : Nat)⟩ = true := by unfold soundB; simp only [Bool.and_eq_true, decide_eq_true_eq]; omega
    have hcr := crash_tc ⟨framesN l, ((framesN (l.take k)).length : Nat)⟩ keep (by simp only []; omega)
    by_cases hkp : 0 ≤ keep
    · obtain ⟨keep, rfl⟩ : ∃ q : Nat, keep = q := ⟨keep.toNat, by omega⟩
      have ecr : crashR ⟨framesN l, ((framesN (l.take k)).length : Nat)⟩ keep = (⟨(framesN l).take ((framesN (l.take k)).length + min keep ((framesN l).length - (framesN (l.take k)).length)), ((framesN (l.take k)).length + min keep ((framesN l).length - (framesN (l.take k)).length) : Nat)⟩, 0) := by
        unfold crashR; rw [if_pos ⟨hso, hkp⟩]; simp
      rw [ecr] at hcr
      have hn1 : (framesN (l.take k)).length + min keep ((framesN l).length - (framesN (l.take k)).length) ≤ (framesN l).length := by omega
      have hn2 : (framesN (l.take k)).length ≤ (framesN (l.take k)).length + min keep ((framesN l).length - (framesN (l.take k)).length) := by omega
      generalize (framesN (l.take k)).length + min keep ((framesN l).length - (framesN (l.take k)).length) = n at *
      obtain ⟨k', g1, g2, g3, g4⟩ := wholeN_cut h.2 n
      have hkk : k ≤ k' := by
        rcases Nat.lt_or_ge k' k with hlt | hge
        · have := g4 (by omega)
          have := frames_mono l (show k' + 1 ≤ k by omega)
          omega
        · exact hge
      have etk : ((framesN l).take n).take (framesN (l.take k')).length = framesN (l.take k') := by
        rw [List.take_take, Nat.min_eq_left g3]
        conv => lhs; rw [frames_cut l k']
        rw [List.take_left]
      have hre := recover_tc ⟨(framesN l).take n, (n : Nat)⟩ ((framesN_ok h.2).take n) (by simp; omega)
      have hql : (l.take k').length = k' := by simp; omega
      have hso2 : soundB ⟨(framesN l).take n, (n : Nat)⟩ = true := by unfold soundB; simp only [Bool.and_eq_true, decide_eq_true_eq, List.length_take]; omega
      have ere : recoverR ⟨(framesN l).take n, (n : Nat)⟩ = (l.take k', ⟨framesN (l.take k'), ((framesN (l.take k')).length : Nat)⟩, 0) := by
        unfold recoverR; rw [if_pos hso2]; simp only [g2]; rw [if_neg (by omega), etk]
      rw [ere] at hre
      have hqo := allOk_take h.2 k'
      have hv1 : ∀ i j, i < (l.take k').length → j < 7 → rcE l i j = rcE (l.take k') i j := fun i j hi _ => by
        rw [hql] at hi
        simp [rcE, gR, hi]
      have hrs := recs_self (l.take k') (by omega)
      have hql2 : k ≤ (l.take k').length ∧ (l.take k').length ≤ l.length := by omega
      have hflen := framesN_len hqo
      have hap := append_tc ⟨framesN (l.take k'), ((framesN (l.take k')).length : Nat)⟩ r (framesN_ok hqo) (by simp only []; omega)
      have hrv := rrec_tc r
      have hso3 : soundB ⟨framesN (l.take k'), ((framesN (l.take k')).length : Nat)⟩ = true := by unfold soundB; simp only [Bool.and_eq_true, decide_eq_true_eq]; omega
      by_cases hro : r.ok = true
      · rw [append_step hqo hro (by omega) (by omega)] at hap
        rw [hro] at hrv
        generalize framesN (l.take k') ++ frameN r = F2 at *
        generalize framesN (l.take k') = F1 at *
        generalize (framesN l).take n = C at *
        generalize framesN (l.take k) = F0 at *
        generalize framesN l = F at *
        generalize l.take k' = q at *
        obtain ⟨rk, rs, rb, ⟨s', c, m, e⟩⟩ := r
        simp only [rcA, rcL] at hap hrv
        (refine TC_of_T Γ_ok Tryd.func10 rfl (by kernel_rfl) ?_; simp only [Tryd.ntmps10, Tryd.results10, List.length_cons, List.length_nil, Nat.reduceSub, Nat.reduceAdd, List.replicate, List.cons_append, List.nil_append])
        (have cl1 := head_tc; have cl2 := hv; have cm1 := hw; have cm2 := hcr; have cm3 := hre; have cl3 := hrs; have cm4 := hap; have cl4 := hrv; have sx1 := htm; ((refine goB1 _ _ _ _ _ _ _ _ ?_ ?_ ?_ ?_ ?_ ?_ ?_ ?_) <;> (repeat intro hb) <;> first | exact True.intro | refine Lf.mk ?_))
        all_goals (first | omega | simp)
      · have eap : appendR ⟨framesN (l.take k'), ((framesN (l.take k')).length : Nat)⟩ r = (⟨[], 0⟩, 1) := by unfold appendR; rw [if_neg (fun h => hro h.2)]
        rw [eap] at hap
        rw [show r.ok = false by simpa using hro] at hrv
        generalize framesN (l.take k') = F1 at *
        generalize (framesN l).take n = C at *
        generalize framesN (l.take k) = F0 at *
        generalize framesN l = F at *
        generalize l.take k' = q at *
        obtain ⟨rk, rs, rb, ⟨s', c, m, e⟩⟩ := r
        simp only [rcA, rcL] at hap hrv
        (refine TC_of_T Γ_ok Tryd.func10 rfl (by kernel_rfl) ?_; simp only [Tryd.ntmps10, Tryd.results10, List.length_cons, List.length_nil, Nat.reduceSub, Nat.reduceAdd, List.replicate, List.cons_append, List.nil_append])
        (have cl1 := head_tc; have cl2 := hv; have cm1 := hw; have cm2 := hcr; have cm3 := hre; have cl3 := hrs; have cm4 := hap; have cl4 := hrv; have sx1 := htm; ((refine goB1 _ _ _ _ _ _ _ _ ?_ ?_ ?_ ?_ ?_ ?_ ?_ ?_) <;> (repeat intro hb) <;> first | exact True.intro | refine Lf.mk ?_))
        all_goals (first | omega | simp)
    · have ecr : crashR ⟨framesN l, ((framesN (l.take k)).length : Nat)⟩ keep = (⟨[], 0⟩, 1) := by unfold crashR; rw [if_neg (fun h => hkp h.2)]
      rw [ecr] at hcr
      generalize framesN (l.take k) = F0 at *
      generalize framesN l = F at *
      have hk0 : decide (keep < 0) = true := decide_eq_true (by omega)
      (refine TC_of_T Γ_ok Tryd.func10 rfl (by kernel_rfl) ?_; simp only [Tryd.ntmps10, Tryd.results10, List.length_cons, List.length_nil, Nat.reduceSub, Nat.reduceAdd, List.replicate, List.cons_append, List.nil_append])
      (have cl1 := head_tc; have cl2 := hv; have cm1 := hw; have cm2 := hcr; have sx1 := htm; have sx2 := hk0; ((refine goR2 _ _ _ _ _ _ _ _ ?_ ?_ ?_ ?_ ?_ ?_ ?_ ?_) <;> (repeat intro hb) <;> first | exact True.intro | refine Lf.mk ?_))
      all_goals (first | omega | simp)
  · rw [decide_eq_false h] at hv
    (refine TC_of_T Γ_ok Tryd.func10 rfl (by kernel_rfl) ?_; simp only [Tryd.ntmps10, Tryd.results10, List.length_cons, List.length_nil, Nat.reduceSub, Nat.reduceAdd, List.replicate, List.cons_append, List.nil_append])
    (have cl1 := head_tc; have cl2 := hv; ((refine goR0 _ _ _ _ _ _ _ _ ?_ ?_ ?_ ?_ ?_ ?_ ?_ ?_) <;> (repeat intro hb) <;> first | exact True.intro | refine Lf.mk ?_))
end Go.Proofs.YtnomenmakhielaaDoor
