/-
  Steps and modes (plain).
-/
import Derived.Test.YtdglbjjenihdlaaDoorQP2
import Derived.Test.YtdglbjjenihdlaaDoorQN20
set_option linter.unusedSimpArgs false
set_option linter.unusedVariables false
namespace Go.Proofs.YtdglbjjenihdlaaDoor
theorem quL_at {s : List P6} {ov un : Nat → Nat} : ∀ {k : Nat} {l : List P6},quL s ov un k = some l → ∀ i,i < k → gP l i = dqP s ov un i ∧ Bd6 576 (dqP s ov un i)
  | 0, l, h, i, hi => by omega
  | k + 1, l, h, i, hi => by
    rw [quL] at h
    cases hq : quL s ov un k with
    | none => rw [hq] at h; cases h
    | some m =>
      rw [hq] at h
      simp only [Option.bind_some] at h
      have hl := quL_len hq
      split at h
      · rename_i hk
        simp only [Option.some.injEq] at h
        subst h
        by_cases e : i = k
        · subst e
          refine ⟨?_, hk⟩
          unfold gP
          rw [List.getD_eq_getElem?_getD, List.getElem?_append_right (by omega), hl, Nat.sub_self]
          rfl
        · obtain ⟨h1, h2⟩ := quL_at hq i (by omega)
          refine ⟨?_, h2⟩
          unfold gP at h1 ⊢
          rw [List.getD_eq_getElem?_getD, List.getElem?_append_left (by omega), ← List.getD_eq_getElem?_getD]
          exact h1
      · cases h
theorem quL_all {s : List P6} {ov un : Nat → Nat} : ∀ {k : Nat},(∀ i,i < k → Bd6 576 (dqP s ov un i)) → ∃ l,quL s ov un k = some l
  | 0, _ => ⟨[], rfl⟩
  | k + 1, h => by
    obtain ⟨l, hl⟩ := quL_all (k := k) fun i hi => h i (by omega)
    refine ⟨l ++ [dqP s ov un k], ?_⟩
    rw [quL, hl, Option.bind_some, if_pos (h k (by omega))]
theorem quR_ok {s : List P6} {ov un : Nat → Nat} (h : (quR s ov un).2 = 0) : (quR s ov un).1.length = s.length ∧ ∀ i,i < s.length → gP (quR s ov un).1 i = dqP s ov un i ∧ Bd6 576 (dqP s ov un i) := by
  unfold quR at *
  cases hq : quL s ov un s.length with
  | none => rw [hq] at h; simp at h
  | some l => exact ⟨quL_len hq, quL_at hq⟩
theorem quR_err {s : List P6} {ov un : Nat → Nat} (h : (quR s ov un).2 ≠ 0) : quR s ov un = ([], 3) := by
  unfold quR at *
  cases hq : quL s ov un s.length with
  | none => rfl
  | some l => rw [hq] at h; simp at h
theorem quR_all {s : List P6} {ov un : Nat → Nat} (h : ∀ i,i < s.length → Bd6 576 (dqP s ov un i)) : (quR s ov un).2 = 0 := by
  obtain ⟨l, hl⟩ := quL_all h
  unfold quR
  rw [hl]
theorem steps_ok {s : List P6} (hs : SclOk s) (h : (stepsR s).2 = 0) : (stepsR s).1.length = s.length ∧ ∀ i,i < s.length → gP (stepsR s).1 i = (atP s (i + 1)).sub (atP s i) ∧ Bd6 576 (gP (stepsR s).1 i) := by
  have e : stepsR s = quR s (fun i => i + 1) (fun i => i) := by unfold stepsR; rw [tf_t hs, if_pos rfl]
  rw [e] at h ⊢
  obtain ⟨h1, h2⟩ := quR_ok h
  refine ⟨h1, fun i hi => ?_⟩
  obtain ⟨h3, h4⟩ := h2 i hi
  exact ⟨h3, by rw [h3]; exact h4⟩
theorem steps_err {s : List P6} (hs : SclOk s) (h : (stepsR s).2 ≠ 0) : stepsR s = ([], 3) := by
  have e : stepsR s = quR s (fun i => i + 1) (fun i => i) := by unfold stepsR; rw [tf_t hs, if_pos rfl]
  rw [e] at h ⊢
  exact quR_err h
theorem mode_is {s : List P6} (hs : SclOk s) {a : Nat} (ha : a < s.length) : modeR s a = quR s (fun i => a + i) (fun _ => a) := by
  unfold modeR
  rw [if_pos ⟨tf_t hs, by omega, by omega⟩, Int.toNat_natCast]
theorem mode_ok {s : List P6} (hs : SclOk s) {a : Nat} (ha : a < s.length) (h : (modeR s a).2 = 0) : (modeR s a).1.length = s.length ∧ ∀ i,i < s.length → gP (modeR s a).1 i = (atP s (a + i)).sub (atP s a) ∧ Bd6 576 (gP (modeR s a).1 i) := by
  rw [mode_is hs ha] at h ⊢
  obtain ⟨h1, h2⟩ := quR_ok h
  refine ⟨h1, fun i hi => ?_⟩
  obtain ⟨h3, h4⟩ := h2 i hi
  exact ⟨h3, by rw [h3]; exact h4⟩
theorem mode_err {s : List P6} (hs : SclOk s) {a : Nat} (ha : a < s.length) (h : (modeR s a).2 ≠ 0) : modeR s a = ([],3) := by
  rw [mode_is hs ha] at h ⊢
  exact quR_err h
theorem gP_eq {a b : List P6} (hl : a.length = b.length) (h : ∀ j, j < a.length → gP a j = gP b j) : a = b := by
  refine List.ext_getElem hl fun i h1 h2 => ?_
  have := h i h1
  unfold gP at this
  rw [List.getD_eq_getElem?_getD,List.getD_eq_getElem?_getD,List.getElem?_eq_getElem h1,List.getElem?_eq_getElem h2] at this
  exact this
theorem mode_0 {s : List P6} (hs : SclOk s) : modeR s (0 : Nat) = (s, 0) := by
  have hn := scl_pos hs
  have hd : ∀ i, i < s.length → dqP s (fun i => 0 + i) (fun _ => 0) i = gP s i := fun i hi => by
    show (atP s (0 + i)).sub (atP s 0) = _
    rw [Nat.zero_add, atP_lt hi, atP_lt hn, hs.zero]
    apply P6.ext' <;> simp only [P6.sub, z6] <;> omega
  have h0 : (modeR s (0 : Nat)).2 = 0 := by
    rw [mode_is hs hn]
    exact quR_all fun i hi => by rw [hd i hi]; exact hs.bd i
  obtain ⟨h1, h2⟩ := mode_ok hs hn h0
  refine Prod.ext ?_ h0
  refine gP_eq h1 fun j hj => ?_
  rw [h1] at hj
  rw [(h2 j hj).1]
  exact hd j hj
theorem sub_up1 (p q : P6) (i : Int) : (up12 p i).sub q = up12 (p.sub q) i := by apply P6.ext' <;> simp only [up12,P6.sub] <;> omega
theorem lo_sub {p q : P6} (h : Lo p q) (r : P6) : Lo (p.sub r) (q.sub r) := by
  have := h.add r.neg
  rw [show p.add r.neg = p.sub r by apply P6.ext' <;> simp only [P6.sub,P6.add,P6.neg] <;> omega,show q.add r.neg = q.sub r by apply P6.ext' <;> simp only [P6.sub,P6.add,P6.neg] <;> omega] at this
  exact this
theorem mode_scl {s : List P6} (hs : SclOk s) {a : Nat} (ha : a < s.length) (h : (modeR s a).2 = 0) : SclOk (modeR s a).1 := by
  obtain ⟨h1, h2⟩ := mode_ok hs ha h
  have hn := scl_pos hs
  refine ⟨fun e => ?_, by rw [h1]; exact hs.len, ?_, fun i hi => ?_, ?_⟩
  · rw [e] at h1; simp at h1; omega
  · rw [(h2 0 hn).1, Nat.add_zero, sub_self]
  · rw [h1] at hi
    obtain ⟨h3, h4⟩ := h2 (i + 1) hi
    obtain ⟨h5, h6⟩ := h2 i (by omega)
    refine ⟨h4, ?_⟩
    rw [cmT_lo h6 h4, h3, h5]
    exact lo_sub (atP_lo hs (by omega)) _
  · rw [h1]
    obtain ⟨h3, h4⟩ := h2 (s.length - 1) (by omega)
    refine inB_iff.2 ⟨h4, ?_, ?_⟩
    · rw [h3]
      intro k
      have h5 : ¬ Lo (atP s (a + (s.length - 1))) (atP s a) := by
        by_cases e : s.length = 1
        · rw [e]; exact Lo.irrefl _
        · exact (atP_lo hs (by omega)).asymm
      refine h5 ?_
      unfold Lo at k ⊢
      rwa [show z6.sub ((atP s (a + (s.length - 1))).sub (atP s a)) = (atP s a).sub (atP s (a + (s.length - 1))) by apply P6.ext' <;> simp only [P6.sub,z6] <;> omega] at k
    · rw [h3]
      have h5 := lo_sub (atP_lo hs (show a + (s.length - 1) < a + s.length by omega)) (atP s a)
      rwa [atP_per hn, sub_up1, sub_self, show up12 z6 1 = oct from rfl] at h5
theorem mode_atP {s : List P6} (hs : SclOk s) {a : Nat} (ha : a < s.length) (h : (modeR s a).2 = 0) (d : Nat) : atP (modeR s a).1 d = (atP s (a + d)).sub (atP s a) := by
  obtain ⟨h1, h2⟩ := mode_ok hs ha h
  have hn := scl_pos hs
  have key : ∀ k d, atP s (d + s.length * k) = up12 (atP s d) k := by
    intro k
    induction k with
    | zero => intro d; rw [Nat.mul_zero, Nat.add_zero]; exact (up_0 _).symm
    | succ k ih => intro d; rw [Nat.mul_succ, ← Nat.add_assoc, atP_per hn, ih, up_up]; rfl
  have h5 := key (d / s.length) (a + d % s.length)
  rw [show a + d % s.length + s.length * (d / s.length) = a + d by have := Nat.div_add_mod d s.length; omega] at h5
  rw [h5]
  unfold atP
  rw [h1, (h2 _ (Nat.mod_lt d hn)).1, ← sub_up1]
  rfl
theorem mode_mode {s : List P6} (hs : SclOk s) {a b : Nat} (ha : a < s.length) (hb : b < s.length) (h : (modeR s a).2 = 0) (h1 : (modeR (modeR s a).1 b).2 = 0) (h2 : (modeR s ((a + b) % s.length : Nat)).2 = 0) : (modeR (modeR s a).1 b).1 = (modeR s ((a + b) % s.length : Nat)).1 := by
  have hn := scl_pos hs
  have hm := mode_scl hs ha h
  obtain ⟨g1, g2⟩ := mode_ok hs ha h
  obtain ⟨g3, g4⟩ := mode_ok hm (by rw [g1]; exact hb) h1
  obtain ⟨g5, g6⟩ := mode_ok hs (Nat.mod_lt (a + b) hn) h2
  refine gP_eq (by rw [g3, g5, g1]) fun j hj => ?_
  rw [g3, g1] at hj
  rw [(g4 j (by rw [g1]; exact hj)).1, (g6 j hj).1, mode_atP hs ha h, mode_atP hs ha h]
  by_cases e : a + b < s.length
  · rw [Nat.mod_eq_of_lt e, ← Nat.add_assoc]
    apply P6.ext' <;> simp only [P6.sub] <;> omega
  · have e2 : (a + b) % s.length = a + b - s.length := by rw [Nat.mod_eq_sub_mod (by omega),Nat.mod_eq_of_lt (by omega)]
    rw [e2]
    have e3 := atP_per (s := s) hn (a + b - s.length + j)
    have e4 := atP_per (s := s) hn (a + b - s.length)
    rw [show a + b - s.length + j + s.length = a + (b + j) by omega] at e3
    rw [show a + b - s.length + s.length = a + b by omega] at e4
    rw [e3, e4]
    apply P6.ext' <;> simp only [P6.sub, up12] <;> omega
theorem mode_steps {s : List P6} (hs : SclOk s) {a : Nat} (ha : a < s.length) (h : (modeR s a).2 = 0) (h1 : (stepsR s).2 = 0) (h2 : (stepsR (modeR s a).1).2 = 0) {j : Nat} (hj : j < s.length) : gP (stepsR (modeR s a).1).1 j = gP (stepsR s).1 ((a + j) % s.length) := by
  have hn := scl_pos hs
  have hm := mode_scl hs ha h
  obtain ⟨g1, g2⟩ := mode_ok hs ha h
  obtain ⟨g3, g4⟩ := steps_ok hs h1
  obtain ⟨g5, g6⟩ := steps_ok hm h2
  rw [(g6 j (by rw [g1]; exact hj)).1, (g4 _ (Nat.mod_lt (a + j) hn)).1, mode_atP hs ha h, mode_atP hs ha h]
  by_cases e : a + j < s.length
  · rw [Nat.mod_eq_of_lt e]
    apply P6.ext' <;> simp only [P6.sub, ← Nat.add_assoc] <;> omega
  · have e2 : (a + j) % s.length = a + j - s.length := by rw [Nat.mod_eq_sub_mod (by omega),Nat.mod_eq_of_lt (by omega)]
    rw [e2]
    have e3 := atP_per (s := s) hn (a + j - s.length + 1)
    have e4 := atP_per (s := s) hn (a + j - s.length)
    rw [show a + j - s.length + 1 + s.length = a + (j + 1) by omega] at e3
    rw [show a + j - s.length + s.length = a + j by omega] at e4
    rw [e3, e4]
    apply P6.ext' <;> simp only [P6.sub, up12] <;> omega
theorem step_up {s : List P6} (hs : SclOk s) (h : (stepsR s).2 = 0) {i : Nat} (hi : i < s.length) : cmpR (gP (stepsR s).1 i) z6 = (1,0) := by
  obtain ⟨h1, h2⟩ := steps_ok hs h
  obtain ⟨h3, h4⟩ := h2 i hi
  unfold cmpR
  rw [if_pos ⟨h4, bd_z⟩]
  have h5 := lo_sub (atP_step hs i) (atP s i)
  rw [sub_self, ← h3] at h5
  unfold cmpP
  rw [if_neg h5.asymm, if_neg (fun e => Lo.irrefl _ (by rwa [e] at h5))]
theorem step_add {s : List P6} (hs : SclOk s) (h : (stepsR s).2 = 0) {i : Nat} (hi : i < s.length) : (atP s i).add (gP (stepsR s).1 i) = atP s (i + 1) := by
  obtain ⟨h1, h2⟩ := steps_ok hs h
  rw [(h2 i hi).1]
  apply P6.ext' <;> simp only [P6.sub, P6.add] <;> omega
theorem atP_bd {s : List P6} (hs : SclOk s) {i : Nat} (hi : i ≤ s.length) : Bd6 576 (atP s i) := by
  by_cases e : i < s.length
  · rw [atP_lt e]; exact hs.bd i
  · obtain rfl : i = s.length := by omega
    have := atP_per (scl_pos hs) 0
    rw [Nat.zero_add, atP_lt (scl_pos hs), hs.zero] at this
    rw [this]; decide
theorem atP_end {s : List P6} (hs : SclOk s) : atP s s.length = oct := by
  have := atP_per (scl_pos hs) 0
  rw [Nat.zero_add, atP_lt (scl_pos hs), hs.zero] at this
  exact this
end Go.Proofs.YtdglbjjenihdlaaDoor
