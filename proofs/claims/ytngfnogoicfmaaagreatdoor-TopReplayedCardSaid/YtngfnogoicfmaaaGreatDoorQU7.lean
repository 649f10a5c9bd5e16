/-
  Parts joined: S16 S20 S23.
-/
import Derived.Test.YtngfnogoicfmaaaGreatDoorQS15
import Derived.Test.YtngfnogoicfmaaaGreatDoorQW12
set_option linter.unusedSimpArgs false
set_option linter.unusedVariables false
namespace Go.Proofs.YtngfnogoicfmaaaGreatDoor
open Go.Ab
theorem gA'_grow (A : List Acc) (s i : Nat) : gA' (grow A s) i = gA' A i := by
  unfold gA' grow
  by_cases h : i < A.length
  · simp [List.getElem?_append_left h]
  · simp only [List.getD_eq_getElem?_getD,List.getElem?_append_right (Nat.le_of_not_lt h),List.getElem?_eq_none (Nat.le_of_not_lt h),List.getElem?_replicate,Option.getD_none]
    split <;> rfl
theorem gA'_set (B : List Acc) (k : Nat) (x : Acc) (i : Nat) (hk : k < B.length) : gA' (B.set k x) i = if i = k then x else gA' B i := by
  unfold gA'
  simp only [List.getD_eq_getElem?_getD, List.getElem?_set]
  by_cases e : k = i
  · subst e; simp [hk]
  · simp [e, Ne.symm e]
theorem gA'_out {A : List Acc} {i : Nat} (h : A.length ≤ i) : gA' A i = ac0 := by
  unfold gA'; simp [List.getElem?_eq_none h, ac0]
def put (A : List Acc) (i : Nat) (a : Acc) : List Acc := (grow A (i + 1)).set i a
theorem put_len (A : List Acc) (i : Nat) (a : Acc) : (put A i a).length = max A.length (i + 1) := by simp [put,grow_len]
theorem gA'_put (A : List Acc) (i : Nat) (a : Acc) (j : Nat) : gA' (put A i a) j = if j = i then a else gA' A j := by
  unfold put
  rw [gA'_set _ _ _ _ (by rw [grow_len]; omega), gA'_grow]
structure MemOk (m : Mem) : Prop where
  len : m.A.length ≤ 15
  acc : ∀ i : Nat, (gA' m.A i).ok = true ∧ ((gA' m.A i).v ≠ 0 → (gA' m.A i).x.s = i + 1)
  log : Val m.L
  last : m.A ≠ [] → 0 < (gA' m.A (m.A.length - 1)).p
theorem Acc.ok_iff (a : Acc) : a.ok = true ↔ (0 ≤ a.v ∧ a.v ≤ a.p ∧ a.p ≤ 1000000) ∧ (a.v = 0 → a.x = tk0) ∧ (a.v ≠ 0 → OkT a.x) := by
  unfold Acc.ok votedB OkT
  by_cases h : a.v = 0 <;> simp [h]
theorem mem0_ok : MemOk ⟨[], []⟩ where
  len := by simp
  acc i := by
    rw [gA'_out (by simp)]
    exact ⟨(Acc.ok_iff _).2 ⟨by decide, fun _ => rfl, fun h => absurd rfl h⟩, fun h => absurd rfl h⟩
  log := ⟨fun i hi => by simp at hi, fun i hi => by simp at hi⟩
  last h := absurd rfl h
theorem MemOk.put {m : Mem} (h : MemOk m) {i : Nat} {a : Acc} (hi : i < 15) (h1 : a.ok = true) (h2 : a.v ≠ 0 → a.x.s = i + 1) (h3 : 0 < a.p) : MemOk ⟨put m.A i a,m.L⟩ where
  len := by rw [put_len]; have := h.len; omega
  acc j := by
    simp only [gA'_put]
    split
    · subst_vars; exact ⟨h1, h2⟩
    · exact h.acc j
  log := h.log
  last _ := by
    simp only [gA'_put, put_len]
    split
    · exact h3
    · have : max m.A.length (i + 1) - 1 = m.A.length - 1 := by omega
      rw [this]
      exact h.last (fun e => by simp [e] at *)
theorem doR_3 {m : Mem} (h : MemOk m) {r : Rcd} (hr : r.ok = true) (hk : r.k = 3) : OkT r.x ∧ r.x.s = r.s ∧ ((knows m.L r.x.s ∧ gt m.L (low m.L r.x.s) ≠ r.x ∧ (doR m r).2 = 23) ∨
    (knows m.L r.x.s ∧ gt m.L (low m.L r.x.s) = r.x ∧ doR m r = (m,0)) ∨ (¬ knows m.L r.x.s ∧ doR m r = (⟨m.A,lrn m.L r.x⟩,0))) := by
  obtain ⟨⟨h1, h2⟩, h3⟩ := Rcd.ok_spec hr
  have hb : OkT r.x ∧ r.x.s = r.s := by
    rcases h3 with ⟨e, _⟩ | ⟨e, _⟩ | ⟨_, _, h5, h6⟩
    · omega
    · omega
    · exact ⟨h5, h6⟩
  refine ⟨hb.1, hb.2, ?_⟩
  unfold doR
  rw [if_neg (by omega), if_neg (by omega)]
  by_cases c1 : knows m.L r.x.s
  · by_cases c2 : gt m.L (low m.L r.x.s) = r.x
    · have el : learnR m.L r.x = ([], 5) := by unfold learnR; rw [if_pos ⟨hb.1, h.log⟩, if_pos c1, if_pos c2]
      rw [el]; exact .inr (.inl ⟨c1, c2, by simp⟩)
    · have el : learnR m.L r.x = ([], 23) := by unfold learnR; rw [if_pos ⟨hb.1, h.log⟩, if_pos c1, if_neg c2]
      rw [el]; exact .inl ⟨c1, c2, by simp⟩
  · have el : learnR m.L r.x = (lrn m.L r.x, 0) := by unfold learnR; rw [if_pos ⟨hb.1, h.log⟩, if_neg c1]
    rw [el]; exact .inr (.inr ⟨c1, by simp⟩)
def fewA (i : Nat) (a : Acc) : List Rcd := (if 0 < a.v then [⟨2,i + 1,a.v,a.x⟩] else []) ++ (if a.v < a.p then [⟨1,i + 1,a.p,tk0⟩] else [])
def fewN : Nat → List Acc → List Rcd
  | _, [] => []
  | i, a :: l => fewA i a ++ fewN (i + 1) l
def fewT (L : List Tk) : List Rcd := L.map fun t => ⟨3, t.s, 0, t⟩
def fewest (m : Mem) : List Rcd := fewN 0 m.A ++ fewT m.L
def framesN (l : List Rcd) : List Nat := l.flatMap frameN
theorem framesN_app (a b : List Rcd) : framesN (a ++ b) = framesN a ++ framesN b := by simp [framesN]
end Go.Proofs.YtngfnogoicfmaaaGreatDoor
namespace Go.Proofs.YtngfnogoicfmaaaGreatDoor
open Go.Ab
theorem parse_body {r : Rcd} (h : r.ok = true) : parseR (bodyN r) = (r, true) := by
  rcases Rcd.ok_cases h with ⟨s, b, h1, h2, rfl⟩ | ⟨s, b, c, n, d, h1, h2, h3, rfl⟩ | ⟨s, c, n, d, h1, h3, rfl⟩
  · rw [bodyN_1]
    have e : b / 65536 % 256 * 65536 + b / 256 % 256 * 256 + b % 256 = b := by omega
    have e1 : parseR [1,s,b / 65536 % 256,b / 256 % 256,b % 256] = mk8 1 s (b / 65536 % 256) (b / 256 % 256) (b % 256) 0 0 0 := rfl
    have e2 : mk8 1 s (b / 65536 % 256) (b / 256 % 256) (b % 256) 0 0 0 = (⟨1,s,b,⟨0,0,0,0⟩⟩,Rcd.ok ⟨1,s,b,⟨0,0,0,0⟩⟩) := by
      simp only [mk8, e]; rfl
    rw [e1, e2, h]
  · rw [bodyN_2]
    have e : b / 65536 % 256 * 65536 + b / 256 % 256 * 256 + b % 256 = b := by omega
    have e1 : parseR [2,s,b / 65536 % 256,b / 256 % 256,b % 256,c,n,d] = mk8 2 s (b / 65536 % 256) (b / 256 % 256) (b % 256) c n d := rfl
    have e2 : mk8 2 s (b / 65536 % 256) (b / 256 % 256) (b % 256) c n d = (⟨2,s,b,⟨s,c,(n : Int) - 1,d⟩⟩,Rcd.ok ⟨2,s,b,⟨s,c,(n : Int) - 1,d⟩⟩) := by
      simp only [mk8, e]; rfl
    rw [e1, e2, h]
  · rw [bodyN_3]
    have e1 : parseR [3, s, c, n, d] = mk8 3 s 0 0 0 c n d := rfl
    have e2 : mk8 3 s 0 0 0 c n d = (⟨3,s,0,⟨s,c,(n : Int) - 1,d⟩⟩,Rcd.ok ⟨3,s,0,⟨s,c,(n : Int) - 1,d⟩⟩) := rfl
    rw [e1, e2, h]
end Go.Proofs.YtngfnogoicfmaaaGreatDoor
namespace Go.Proofs.YtngfnogoicfmaaaGreatDoor
open Go.Ab
theorem frameN_cons (r : Rcd) : ∃ u, frameN r = (bodyN r).length :: (bodyN r ++ u) ∧ u.length = 4 := ⟨_, rfl, rfl⟩
theorem frameN_length (r : Rcd) : (frameN r).length = (bodyN r).length + 5 := by unfold frameN; rw [sealN_length]
theorem recN_frame {r : Rcd} (h : r.ok = true) (b : List Nat) : recN (frameN r ++ b) = some (r, (frameN r).length) := by
  obtain ⟨u, hu, hul⟩ := frameN_cons r
  have hl := frameN_length r
  have e : frameN r ++ b = (bodyN r).length :: (bodyN r ++ (u ++ b)) := by rw [hu]; simp
  have ht : (bodyN r ++ (u ++ b)).take (bodyN r).length = bodyN r := by rw [List.take_append_of_le_length (Nat.le_refl _),List.take_length]
  have hc : (bodyN r).length + 5 ≤ (bodyN r ++ (u ++ b)).length + 1 ∧ sealN ((bodyN r ++ (u ++ b)).take (bodyN r).length) = ((bodyN r).length :: (bodyN r ++ (u ++ b))).take ((bodyN r).length + 5) ∧ (parseR ((bodyN r ++ (u ++ b)).take (bodyN r).length)).2 = true := by
    rw [ht, parse_body h]
    refine ⟨by simp; omega, ?_, rfl⟩
    rw [← e, ← hl, List.take_append_of_le_length (Nat.le_refl _), List.take_length]
    rfl
  rw [e, recN, if_pos hc, ht, parse_body h, hl]
theorem wholeN_frames {l : List Rcd} (h : allOk l = true) (b : List Nat) : wholeN (framesN l ++ b) = (l ++ (wholeN b).1,(framesN l).length + (wholeN b).2) := by
  induction l with
  | nil => simp [framesN]
  | cons r l ih =>
    have hok : r.ok = true ∧ allOk l = true := by simpa [allOk] using h
    have e : framesN (r :: l) ++ b = frameN r ++ (framesN l ++ b) := by simp [framesN]
    have e2 : (framesN (r :: l)).length = (frameN r).length + (framesN l).length := by simp [framesN]
    rw [e, wholeN_some (recN_frame hok.1 _), List.drop_left, ih hok.2, e2, List.cons_append, Nat.add_assoc]
theorem wholeN_nil : wholeN [] = ([], 0) := rfl
theorem wholeN_all {l : List Rcd} (h : allOk l = true) : wholeN (framesN l) = (l, (framesN l).length) := by
  have := wholeN_frames h []
  rw [wholeN_nil] at this
  simpa using this
theorem recN_cut {r : Rcd} {b : List Nat} {n : Nat} (hn : n < (frameN r).length) : recN ((frameN r ++ b).take n) = none := by
  obtain ⟨u, hu, hul⟩ := frameN_cons r
  rw [frameN_length] at hn
  rw [hu]
  cases n with
  | zero => rfl
  | succ n =>
    rw [List.cons_append, List.take_succ_cons, recN, if_neg]
    rintro ⟨h1, _⟩
    simp at h1
    omega
theorem wholeN_cut {l : List Rcd} (h : allOk l = true) (n : Nat) : ∃ k,k ≤ l.length ∧ wholeN ((framesN l).take n) = (l.take k,(framesN (l.take k)).length) ∧ (framesN (l.take k)).length ≤ n ∧ (k < l.length → n < (framesN (l.take (k + 1))).length) := by
  induction l generalizing n with
  | nil => exact ⟨0, by simp, by simp [framesN, wholeN_nil], by simp [framesN], by simp⟩
  | cons r l ih =>
    have hok : r.ok = true ∧ allOk l = true := by simpa [allOk] using h
    have e : framesN (r :: l) = frameN r ++ framesN l := by simp [framesN]
    by_cases hn : n < (frameN r).length
    · refine ⟨0, by simp, ?_, by simp [framesN], fun _ => by simpa [framesN] using hn⟩
      rw [e, wholeN_none (recN_cut hn)]
      simp [framesN]
    · obtain ⟨k, h1, h2, h3, h4⟩ := ih hok.2 (n - (frameN r).length)
      have e2 : ∀ m : List Rcd,(framesN (r :: m)).length = (frameN r).length + (framesN m).length := fun m => by simp [framesN]
      refine ⟨k + 1, by simp; omega, ?_, by rw [List.take_succ_cons, e2]; omega, fun hk => ?_⟩
      · have e3 : (framesN (r :: l)).take n = frameN r ++ (framesN l).take (n - (frameN r).length) := by
          rw [e, List.take_append, List.take_of_length_le (by omega)]
        rw [e3, wholeN_some (recN_frame hok.1 _), List.drop_left, h2, List.take_succ_cons, e2]
      · rw [List.take_succ_cons, e2]
        have := h4 (by simpa using hk)
        omega
end Go.Proofs.YtngfnogoicfmaaaGreatDoor
