/-
  The law StoreDamage.
-/
import Derived.Test.YtnomenmakhielaaDoorQGo
import Derived.Test.YtnomenmakhielaaDoorQS38
set_option linter.unusedSimpArgs false
set_option linter.unusedVariables false
namespace Go.Proofs.YtnomenmakhielaaDoor
open Go.Ab

@[go_sem] theorem catE_0d (f g : Nat → Nat → AV) (i j : Nat) : catE 0 f g i j = g i j := by simp [catE]
@[go_sem] theorem bxor8 (a b : Nat) : bits .xor .u8 (a : Int) (b : Int) = ((a % 256 ^^^ b % 256 : Nat) : Int) := by
  have h1 : ∀ a : Nat, (BitVec.ofInt 8 (a : Int)) = BitVec.ofInt 8 ((a % 256 : Nat) : Int) := fun a => by
    apply BitVec.eq_of_toNat_eq
    simp [BitVec.toNat_ofInt]
    omega
  have h2 : bits .xor .u8 (a : Int) (b : Int) = bits .xor .u8 ((a % 256 : Nat) : Int) ((b % 256 : Nat) : Int) := by
    simp only [bits, IntKind.bits]
    rw [h1 a, h1 b]
  rw [h2]
  exact u8_xor_nat _ _ (Nat.mod_lt _ (by decide)) (Nat.mod_lt _ (by decide))
theorem gb8_app_right (a b : List Nat) (i : Nat) : gb8 (a ++ b) (a.length + i) = gb8 b i := by
  unfold gb8; rw [List.getD_eq_getElem?_getD, List.getD_eq_getElem?_getD, List.getElem?_append_right (by omega), Nat.add_sub_cancel_left]
theorem gb8_app_left {a b : List Nat} {i : Nat} (h : i < a.length) : gb8 (a ++ b) i = gb8 a i := by
  unfold gb8; simp [List.getD_eq_getElem?_getD, List.getElem?_append_left h]
theorem xor_lt8 {a b : Nat} (ha : a < 256) (hb : b < 256) : a ^^^ b < 256 := Nat.xor_lt_two_pow (n := 8) ha hb
theorem xor_ne {a b : Nat} (hb : b ≠ 0) : a ^^^ b ≠ a := by
  intro h
  have := congrArg (a ^^^ ·) h
  simp only [← Nat.xor_assoc, Nat.xor_self, Nat.zero_xor] at this
  exact hb this

/-- What is found behind one byte that was changed. -/
theorem damage_plain {l : List Rcd} (h : allOk l = true) (hl : l.length ≤ 40) {k j b : Nat} (hk : k < l.length) (hj : j + 1 < (frameN (gR l k)).length) (hb : b < 256) (hb0 : b ≠ 0) :
    ∃ d', recoverR ⟨(framesN l).set ((framesN (l.take k)).length + 1 + j) (gb8 (framesN l) ((framesN (l.take k)).length + 1 + j) ^^^ b), 0⟩ = (l.take k, d', 0) ∧
      ByOk ((framesN l).set ((framesN (l.take k)).length + 1 + j) (gb8 (framesN l) ((framesN (l.take k)).length + 1 + j) ^^^ b)) := by
  have hro := allOk_gR h hk
  have hA := allOk_take h k
  have e1 : framesN l = framesN (l.take k) ++ (frameN (gR l k) ++ framesN (l.drop (k + 1))) := by
    rw [frames_cut l (k + 1), frames_step hk, List.append_assoc]
  have hF := framesN_ok h
  have hlen := framesN_len h
  generalize framesN (l.drop (k + 1)) = R at *
  have e2 : gb8 (framesN l) ((framesN (l.take k)).length + 1 + j) = gb8 (frameN (gR l k)) (j + 1) := by
    rw [e1, Nat.add_assoc, Nat.add_comm 1 j, gb8_app_right, gb8_app_left hj]
  have hvl : gb8 (frameN (gR l k)) (j + 1) ^^^ b < 256 := xor_lt8 (gb8_lt (frameN_ok hro) _) hb
  have e3 : (framesN l).set ((framesN (l.take k)).length + 1 + j) (gb8 (frameN (gR l k)) (j + 1) ^^^ b) = framesN (l.take k) ++ ((frameN (gR l k)).set (j + 1) (gb8 (frameN (gR l k)) (j + 1) ^^^ b) ++ R) := by
    rw [e1, Nat.add_assoc, Nat.add_comm 1 j, List.set_append_right _ _ (by omega), Nat.add_sub_cancel_left, List.set_append_left _ _ hj]
  rw [e2]
  have hby : ByOk ((framesN l).set ((framesN (l.take k)).length + 1 + j) (gb8 (frameN (gR l k)) (j + 1) ^^^ b)) := by
    intro x hx
    rcases List.mem_or_eq_of_mem_set hx with hx | rfl
    · exact hF x hx
    · exact hvl
  refine ⟨⟨((framesN l).set ((framesN (l.take k)).length + 1 + j) (gb8 (frameN (gR l k)) (j + 1) ^^^ b)).take (wholeN ((framesN l).set ((framesN (l.take k)).length + 1 + j) (gb8 (frameN (gR l k)) (j + 1) ^^^ b))).2, ((wholeN ((framesN l).set ((framesN (l.take k)).length + 1 + j) (gb8 (frameN (gR l k)) (j + 1) ^^^ b))).2 : Nat)⟩, ?_, hby⟩
  have hw := wholeN_hurt (m := []) hA hro (b := R) (j := j) (v := gb8 (frameN (gR l k)) (j + 1) ^^^ b) hj hvl (xor_ne hb0)
  rw [← e3] at hw
  unfold recoverR
  rw [if_pos (by unfold soundB; simp only [Bool.and_eq_true, decide_eq_true_eq, List.length_set]; omega)]
  simp only [hw]
  rw [if_neg (by simp; omega)]

theorem tmod_nat' (a n : Nat) : Int.tmod (a : Int) (n : Int) = ((a % n : Nat) : Int) := (Int.ofNat_tmod a n).symm

set_option maxRecDepth 100000 in
set_option maxHeartbeats 4000000 in
theorem law_damage (l : List Rcd) (a n b : Nat) (hl : l.length ≤ 9223372036854775807) (ha : a < 256) (hn : n < 256) (hb8 : b < 256) :
    Look Tryd.prog 8 [rcs l, .imm (.int .u8 (a : Int)), .imm (.int .u8 (n : Int)), .imm (.int .u8 (b : Int))] (.imm (.bool true)) := by
  refine Look.mk trivial ?_
  have hv := lvalid_tc l hl
  by_cases h : l.length ≤ 40 ∧ allOk l = true
  · rw [decide_eq_true h] at hv
    by_cases hne : 0 < l.length ∧ b ≠ 0
    · have hk := Nat.mod_lt a hne.1
      have htm := tmod_nat' a l.length
      generalize a % l.length = k at *
      have hw1 := written_tc (l.take k) (-1) (allOk_take h.2 k) (by simp; omega)
      have hw2 := written_tc (l.take (k + 1)) (-1) (allOk_take h.2 (k + 1)) (by simp; omega)
      have hw3 := written_tc l (-1) h.2 h.1
      rw [synN_neg] at hw1 hw2 hw3
      have l1 : (l.take k).length = k := by simp; omega
      have l2 : (l.take (k + 1)).length = k + 1 := by simp; omega
      simp only [rcs, l1] at hw1
      simp only [rcs, l2] at hw2
      have hv1 : ∀ i j, i < k → j < 7 → rcE l i j = rcE (l.take k) i j := fun i j hi _ => by simp [rcE, gR, hi]
      have hv2 : ∀ i j, i < k + 1 → j < 7 → rcE l i j = rcE (l.take (k + 1)) i j := fun i j hi _ => by simp [rcE, gR, hi]
      have hrs : Look Tryd.prog 20 [rcs (l.take k), .view k 7 (rcE (l.take k))] (.imm (.bool true)) := by
        have := recs_self (l.take k) (by omega)
        simp only [rcs, l1] at this ⊢
        exact this
      have hB := congrArg List.length (frames_step hk)
      rw [List.length_append] at hB
      have hfl : 5 ≤ (frameN (gR l k)).length := by rw [frameN_length]; omega
      have hmn := frames_mono l (show k + 1 ≤ l.length by omega)
      rw [List.take_length] at hmn
      have hlen := framesN_len h.2
      have hj : n % ((frameN (gR l k)).length - 1) + 1 < (frameN (gR l k)).length := by have := Nat.mod_lt n (show 0 < (frameN (gR l k)).length - 1 by omega); omega
      obtain ⟨d', hd, hbo⟩ := damage_plain h.2 h.1 hk hj hb8 hne.2
      have htm2 : Int.tmod (n : Int) (((framesN (l.take (k + 1))).length : Int) - (framesN (l.take k)).length - 1) = ((n % ((frameN (gR l k)).length - 1) : Nat) : Int) := by
        rw [show ((framesN (l.take (k + 1))).length : Int) - (framesN (l.take k)).length - 1 = (((frameN (gR l k)).length - 1 : Nat) : Int) by omega]; exact tmod_nat' _ _
      have hre := recover_tc ⟨(framesN l).set ((framesN (l.take k)).length + 1 + n % ((frameN (gR l k)).length - 1)) (gb8 (framesN l) ((framesN (l.take k)).length + 1 + n % ((frameN (gR l k)).length - 1)) ^^^ b), 0⟩ hbo (by simp; omega)
      rw [hd] at hre
      clear hd
      have gbl := gb8_lt (framesN_ok h.2) ((framesN (l.take k)).length + 1 + n % ((frameN (gR l k)).length - 1))
      generalize n % ((frameN (gR l k)).length - 1) = j at *
      generalize framesN (l.take (k + 1)) = B1 at *
      generalize framesN (l.take k) = B0 at *
      generalize framesN l = F at *
      generalize (frameN (gR l k)).length = fl at *
      have hw1' : IntKind.i64.wrap ((B1.length : Int) - B0.length - 1) = (B1.length : Int) - B0.length - 1 := wrapI (by omega) (by omega)
      have hw2' : IntKind.i64.wrap ((B0.length : Int) + 1) = (B0.length : Int) + 1 := wrapI (by omega) (by omega)
      have hw3' : (IntKind.i64.wrap ((B0.length : Int) + 1 + j)).toNat = B0.length + 1 + j := by rw [wrapI (by omega) (by omega)]; omega
      have hx := And.intro htm (And.intro htm2 (And.intro hw1' (And.intro hw2' hw3')))
      have hv5 : ∀ i j', i < F.length → j' < 1 → updE (catE 0 (fun _ _ => AV.top) (fun i _ => AV.imm (.int .u8 ((gb8 F i : Nat) : Int)))) (B0.length + 1 + j) 0 [.imm (.int .u8 ((gb8 F (B0.length + 1 + j) % 256 ^^^ b % 256 : Nat) : Int))] i j' = byE (F.set (B0.length + 1 + j) (gb8 F (B0.length + 1 + j) ^^^ b)) i j' := fun i j' hi hj' => by
        obtain rfl : j' = 0 := by omega
        rw [Nat.mod_eq_of_lt gbl, Nat.mod_eq_of_lt hb8]
        unfold updE byE
        by_cases e : i = B0.length + 1 + j
        · subst e
          rw [if_pos ⟨rfl, Nat.le_refl _, by simp⟩]
          simp [nth, gb8, List.getElem?_set, hi]
        · rw [if_neg (fun q => e q.1)]
          simp [catE, gb8, List.getElem?_set, Ne.symm e]
      simp only [dsA, bys, List.length_set] at hre
      (refine TC_of_T Γ_ok Tryd.func8 rfl (by kernel_rfl) ?_; simp only [Tryd.ntmps8, Tryd.results8, List.length_cons, List.length_nil, Nat.reduceSub, Nat.reduceAdd, List.replicate, List.cons_append, List.nil_append])
      (have cl1 := head_tc; have cl2 := hv; have dm1 := hw1; have dm2 := hw2; have dm3 := hw3; have cm1 := hre; have cl3 := hrs; have sx1 := hx; repeat' (first | with_reducible refine T_seq_drawT (id := 12) Γ_ok drawsAny pl8_12 (by kernel_rfl) (fun K hK => ?_) | with_reducible refine T_last_drawT (id := 12) Γ_ok drawsAny pl8_12 (by kernel_rfl) (fun K hK => ?_) | ((refine goR1 _ _ _ _ _ _ _ _ ?_ ?_ ?_ ?_ ?_ ?_ ?_ ?_) <;> (repeat intro hb) <;> first | exact True.intro | refine Lf.mk ?_)))
    · (refine TC_of_T Γ_ok Tryd.func8 rfl (by kernel_rfl) ?_; simp only [Tryd.ntmps8, Tryd.results8, List.length_cons, List.length_nil, Nat.reduceSub, Nat.reduceAdd, List.replicate, List.cons_append, List.nil_append])
      (have cl1 := head_tc; have cl2 := hv; repeat' (first | with_reducible refine T_seq_drawT (id := 12) Γ_ok drawsAny pl8_12 (by kernel_rfl) (fun K hK => ?_) | with_reducible refine T_last_drawT (id := 12) Γ_ok drawsAny pl8_12 (by kernel_rfl) (fun K hK => ?_) | ((refine goR0 _ _ _ _ _ _ _ _ ?_ ?_ ?_ ?_ ?_ ?_ ?_ ?_) <;> (repeat intro hb) <;> first | exact True.intro | refine Lf.mk ?_)))
  · rw [decide_eq_false h] at hv
    (refine TC_of_T Γ_ok Tryd.func8 rfl (by kernel_rfl) ?_; simp only [Tryd.ntmps8, Tryd.results8, List.length_cons, List.length_nil, Nat.reduceSub, Nat.reduceAdd, List.replicate, List.cons_append, List.nil_append])
    (have cl1 := head_tc; have cl2 := hv; repeat' (first | with_reducible refine T_seq_drawT (id := 12) Γ_ok drawsAny pl8_12 (by kernel_rfl) (fun K hK => ?_) | with_reducible refine T_last_drawT (id := 12) Γ_ok drawsAny pl8_12 (by kernel_rfl) (fun K hK => ?_) | ((refine goR0 _ _ _ _ _ _ _ _ ?_ ?_ ?_ ?_ ?_ ?_ ?_ ?_) <;> (repeat intro hb) <;> first | exact True.intro | refine Lf.mk ?_)))
end Go.Proofs.YtnomenmakhielaaDoor
