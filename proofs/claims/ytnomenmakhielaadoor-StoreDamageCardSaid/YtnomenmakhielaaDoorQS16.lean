/-
  The memory that records lead to, as a plain thing: its invariant; the fewest records; compacting.
-/
import Derived.Test.YtnomenmakhielaaDoorQS15
import Derived.Test.YtnomenmakhielaaDoorQK3
set_option linter.unusedSimpArgs false
set_option linter.unusedVariables false
namespace Go.Proofs.YtnomenmakhielaaDoor
open Go.Ab

theorem gA'_grow (A : List Acc) (s i : Nat) : gA' (grow A s) i = gA' A i := by
  unfold gA' grow
  by_cases h : i < A.length
  · simp [List.getElem?_append_left h]
  · simp only [List.getD_eq_getElem?_getD, List.getElem?_append_right (Nat.le_of_not_lt h), List.getElem?_eq_none (Nat.le_of_not_lt h), List.getElem?_replicate, Option.getD_none]
    split <;> rfl
theorem gA'_set (B : List Acc) (k : Nat) (x : Acc) (i : Nat) (hk : k < B.length) : gA' (B.set k x) i = if i = k then x else gA' B i := by
  unfold gA'
  simp only [List.getD_eq_getElem?_getD, List.getElem?_set]
  by_cases e : k = i
  · subst e; simp [hk]
  · simp [e, Ne.symm e]
theorem gA'_out {A : List Acc} {i : Nat} (h : A.length ≤ i) : gA' A i = ac0 := by
  unfold gA'; simp [List.getElem?_eq_none h, ac0]

/-- An acceptor is put at a place. -/
def put (A : List Acc) (i : Nat) (a : Acc) : List Acc := (grow A (i + 1)).set i a
theorem put_len (A : List Acc) (i : Nat) (a : Acc) : (put A i a).length = max A.length (i + 1) := by simp [put, grow_len]
theorem gA'_put (A : List Acc) (i : Nat) (a : Acc) (j : Nat) : gA' (put A i a) j = if j = i then a else gA' A j := by
  unfold put
  rw [gA'_set _ _ _ _ (by rw [grow_len]; omega), gA'_grow]
theorem acs_ext {A B : List Acc} (hl : A.length = B.length) (h : ∀ i, gA' A i = gA' B i) : A = B := by
  refine List.ext_getElem hl fun i h1 h2 => ?_
  have := h i
  simpa [gA', h1, h2] using this

structure MemOk (m : Mem) : Prop where
  len : m.A.length ≤ 15
  acc : ∀ i : Nat, (gA' m.A i).ok = true ∧ ((gA' m.A i).v ≠ 0 → (gA' m.A i).x.s = i + 1)
  log : Val m.L
  last : m.A ≠ [] → 0 < (gA' m.A (m.A.length - 1)).p
theorem Acc.ok_iff (a : Acc) : a.ok = true ↔ (0 ≤ a.v ∧ a.v ≤ a.p ∧ a.p ≤ 1000000) ∧ (a.v = 0 → a.x = tk0) ∧ (a.v ≠ 0 → OkT a.x) := by
  unfold Acc.ok votedB OkT
  by_cases h : a.v = 0 <;> simp [h]
theorem mem0_ok : MemOk ⟨[], []⟩ where
  len := by simp
  acc i := by
    rw [gA'_out (by simp)]
    exact ⟨(Acc.ok_iff _).2 ⟨by decide, fun _ => rfl, fun h => absurd rfl h⟩, fun h => absurd rfl h⟩
  log := ⟨fun i hi => by simp at hi, fun i hi => by simp at hi⟩
  last h := absurd rfl h
theorem MemOk.put {m : Mem} (h : MemOk m) {i : Nat} {a : Acc} (hi : i < 15) (h1 : a.ok = true) (h2 : a.v ≠ 0 → a.x.s = i + 1) (h3 : 0 < a.p) : MemOk ⟨put m.A i a, m.L⟩ where
  len := by rw [put_len]; have := h.len; omega
  acc j := by
    simp only [gA'_put]
    split
    · subst_vars; exact ⟨h1, h2⟩
    · exact h.acc j
  log := h.log
  last _ := by
    simp only [gA'_put, put_len]
    split
    · exact h3
    · have : max m.A.length (i + 1) - 1 = m.A.length - 1 := by omega
      rw [this]
      exact h.last (fun e => by simp [e] at *)

/-- A promise, a vote, a take: what each does to a memory. -/
theorem doR_1 {m : Mem} (h : MemOk m) {r : Rcd} (hr : r.ok = true) (hk : r.k = 1) : (r.b ≤ (gA' m.A (r.s.toNat - 1)).p ∧ (doR m r).2 = 24) ∨
    ((gA' m.A (r.s.toNat - 1)).p < r.b ∧ doR m r = (⟨put m.A (r.s.toNat - 1) { gA' m.A (r.s.toNat - 1) with p := r.b }, m.L⟩, 0)) := by
  obtain ⟨⟨h1, h2⟩, h3⟩ := Rcd.ok_spec hr
  have hb : 1 ≤ r.b ∧ r.b ≤ 1000000 := by omega
  have hs : r.s.toNat = (r.s.toNat - 1) + 1 := by omega
  have ha := (h.acc (r.s.toNat - 1)).1
  unfold doR
  rw [if_pos hk, gA'_grow]
  unfold prepR
  rw [if_neg (fun hn => hn ⟨ha, by decide, by simp [balB, hb]⟩)]
  by_cases c : r.b ≤ (gA' m.A (r.s.toNat - 1)).p
  · rw [if_pos c]; exact .inl ⟨c, rfl⟩
  · rw [if_neg c]
    refine .inr ⟨by omega, ?_⟩
    unfold put
    rw [← hs]
theorem doR_2 {m : Mem} (h : MemOk m) {r : Rcd} (hr : r.ok = true) (hk : r.k = 2) : (r.b < (gA' m.A (r.s.toNat - 1)).p ∧ (doR m r).2 = 24) ∨
    ((gA' m.A (r.s.toNat - 1)).p ≤ r.b ∧ doR m r = (⟨put m.A (r.s.toNat - 1) ⟨r.b, r.b, r.x⟩, m.L⟩, 0)) := by
  obtain ⟨⟨h1, h2⟩, h3⟩ := Rcd.ok_spec hr
  have hb : (1 ≤ r.b ∧ r.b ≤ 1000000) ∧ takeB r.x.s r.x.c r.x.n r.x.d = true := by
    rcases h3 with ⟨e, _⟩ | ⟨_, h4, h5, _⟩ | ⟨e, _⟩
    · omega
    · exact ⟨h4, h5⟩
    · omega
  have hs : r.s.toNat = (r.s.toNat - 1) + 1 := by omega
  have ha := (h.acc (r.s.toNat - 1)).1
  unfold doR
  rw [if_neg (by omega), if_pos hk, gA'_grow]
  unfold accR
  rw [if_neg (fun hn => hn ⟨ha, by decide, by simp [balB, hb.1], hb.2⟩)]
  by_cases c : r.b < (gA' m.A (r.s.toNat - 1)).p
  · rw [if_pos c]; exact .inl ⟨c, rfl⟩
  · rw [if_neg c]
    refine .inr ⟨by omega, ?_⟩
    unfold put
    rw [← hs]
theorem doR_3 {m : Mem} (h : MemOk m) {r : Rcd} (hr : r.ok = true) (hk : r.k = 3) : OkT r.x ∧ r.x.s = r.s ∧ ((knows m.L r.x.s ∧ gt m.L (low m.L r.x.s) ≠ r.x ∧ (doR m r).2 = 23) ∨
    (knows m.L r.x.s ∧ gt m.L (low m.L r.x.s) = r.x ∧ doR m r = (m, 0)) ∨ (¬ knows m.L r.x.s ∧ doR m r = (⟨m.A, lrn m.L r.x⟩, 0))) := by
  obtain ⟨⟨h1, h2⟩, h3⟩ := Rcd.ok_spec hr
  have hb : OkT r.x ∧ r.x.s = r.s := by
    rcases h3 with ⟨e, _⟩ | ⟨e, _⟩ | ⟨_, _, h5, h6⟩
    · omega
    · omega
    · exact ⟨h5, h6⟩
  refine ⟨hb.1, hb.2, ?_⟩
  unfold doR
  rw [if_neg (by omega), if_neg (by omega)]
  by_cases c1 : knows m.L r.x.s
  · by_cases c2 : gt m.L (low m.L r.x.s) = r.x
    · have el : learnR m.L r.x = ([], 5) := by unfold learnR; rw [if_pos ⟨hb.1, h.log⟩, if_pos c1, if_pos c2]
      rw [el]; exact .inr (.inl ⟨c1, c2, by simp⟩)
    · have el : learnR m.L r.x = ([], 23) := by unfold learnR; rw [if_pos ⟨hb.1, h.log⟩, if_pos c1, if_neg c2]
      rw [el]; exact .inl ⟨c1, c2, by simp⟩
  · have el : learnR m.L r.x = (lrn m.L r.x, 0) := by unfold learnR; rw [if_pos ⟨hb.1, h.log⟩, if_neg c1]
    rw [el]; exact .inr (.inr ⟨c1, by simp⟩)

theorem doR_ok {m : Mem} (h : MemOk m) {r : Rcd} (hr : r.ok = true) (he : (doR m r).2 = 0) : MemOk (doR m r).1 := by
  obtain ⟨⟨h1, h2⟩, h3⟩ := Rcd.ok_spec hr
  rcases h3 with ⟨hk, hb, hx⟩ | ⟨hk, hb, h4, h5⟩ | ⟨hk, hb, h4, h5⟩
  · rcases doR_1 h hr hk with ⟨_, e⟩ | ⟨g, e⟩
    · rw [e] at he; cases he
    · rw [e]
      obtain ⟨ha, hx⟩ := h.acc (r.s.toNat - 1)
      rw [Acc.ok_iff] at ha
      refine h.put (by omega) ((Acc.ok_iff _).2 ⟨by simp only []; omega, ha.2⟩) hx (by simp only []; omega)
  · rcases doR_2 h hr hk with ⟨_, e⟩ | ⟨g, e⟩
    · rw [e] at he; cases he
    · rw [e]
      refine h.put (by omega) ((Acc.ok_iff _).2 ⟨by simp only []; omega, fun e => by simp only [] at e; omega, fun _ => h4⟩) (fun _ => by simp only [h5]; omega) (by simp only []; omega)
  · obtain ⟨g1, g2, g3⟩ := doR_3 h hr hk
    rcases g3 with ⟨_, _, e⟩ | ⟨_, _, e⟩ | ⟨hn, e⟩
    · rw [e] at he; cases he
    · rw [e]; exact h
    · rw [e]; exact ⟨h.len, h.acc, lrn_val h.log g1 hn, h.last⟩
theorem runM_ok : ∀ {l : List Rcd} {m : Mem}, MemOk m → allOk l = true → (runM l m).2 = 0 → MemOk (runM l m).1
  | [], m, h, _, _ => h
  | r :: l, m, h, ho, he => by
    have ho' : r.ok = true ∧ allOk l = true := by simpa [allOk] using ho
    rw [runM] at he ⊢
    by_cases c : (doR m r).2 = 0
    · rw [if_pos c] at he ⊢
      exact runM_ok (doR_ok h ho'.1 c) ho'.2 he
    · rw [if_neg c] at he; exact absurd he c
theorem foldR_ok {l : List Rcd} (h : (foldR l).2 = 0) : MemOk (foldR l).1 := by
  unfold foldR at h ⊢
  split at h
  · rename_i hc; rw [if_pos hc]; exact runM_ok mem0_ok hc.2 h
  · cases h

/-- The fewest records of a memory. -/
def fewA (i : Nat) (a : Acc) : List Rcd := (if 0 < a.v then [⟨2, i + 1, a.v, a.x⟩] else []) ++ (if a.v < a.p then [⟨1, i + 1, a.p, tk0⟩] else [])
def fewN : Nat → List Acc → List Rcd
  | _, [] => []
  | i, a :: l => fewA i a ++ fewN (i + 1) l
def fewT (L : List Tk) : List Rcd := L.map fun t => ⟨3, t.s, 0, t⟩
def fewest (m : Mem) : List Rcd := fewN 0 m.A ++ fewT m.L
def framesN (l : List Rcd) : List Nat := l.flatMap frameN
theorem framesN_app (a b : List Rcd) : framesN (a ++ b) = framesN a ++ framesN b := by simp [framesN]
theorem fewN_app (a b : List Acc) (i : Nat) : fewN i (a ++ b) = fewN i a ++ fewN (i + a.length) b := by
  induction a generalizing i with
  | nil => simp [fewN]
  | cons x a ih => simp [fewN, ih, Nat.add_assoc, Nat.add_comm 1]
theorem fewA_ok {i : Nat} {a : Acc} (hi : i < 15) (h1 : a.ok = true) (h2 : a.v ≠ 0 → a.x.s = i + 1) : ∀ r ∈ fewA i a, r.ok = true := by
  rw [Acc.ok_iff] at h1
  obtain ⟨g1, g2, g3⟩ := h1
  intro r hr
  unfold fewA at hr
  rw [List.mem_append] at hr
  rcases hr with hr | hr
  · split at hr
    · rename_i hv
      simp only [List.mem_singleton] at hr
      subst hr
      have hx : takeB a.x.s a.x.c a.x.n a.x.d = true := g3 (by omega)
      have hs := h2 (by omega)
      unfold Rcd.ok
      simp only []
      rw [if_neg (by omega), if_neg (by decide), if_pos trivial, hx, hs]
      simp; omega
    · simp at hr
  · split at hr
    · rename_i hv
      simp only [List.mem_singleton] at hr
      subst hr
      unfold Rcd.ok
      simp only [tk0]
      rw [if_neg (by omega), if_pos trivial]
      simp; omega
    · simp at hr

noncomputable def compactR (d : Dsk) : Dsk × Int :=
  if (recoverR d).2.2 ≠ 0 then (⟨[], 0⟩, (recoverR d).2.2)
  else if (foldR (recoverR d).1).2 ≠ 0 then (⟨[], 0⟩, (foldR (recoverR d).1).2)
  else (⟨framesN (fewest (foldR (recoverR d).1).1), ((framesN (fewest (foldR (recoverR d).1).1)).length : Nat)⟩, 0)
end Go.Proofs.YtnomenmakhielaaDoor
