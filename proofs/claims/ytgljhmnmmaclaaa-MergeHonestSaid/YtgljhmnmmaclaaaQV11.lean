/-
  The plain law of rounds of ballots: beginnings, proposals, progress, repetition.
-/
import Derived.Test.YtgljhmnmmaclaaaQV10
set_option linter.unusedSimpArgs false
set_option linter.unusedVariables false
namespace Go.Proofs.Ytgljhmnmmaclaaa.Q
/-! ### Beginnings -/
structure Ext (n : Int) (R R' : Rnd) : Prop where
  pro : R.pro <+: R'.pro
  sta : R.sta <+: R'.sta
  vot : R.vot <+: R'.vot
  acc : ∀ i : Nat, i < n.toNat → (gA R.acc i).p ≤ (gA R'.acc i).p ∧ (gA R.acc i).v ≤ (gA R'.acc i).v
  new : ∀ v ∈ R'.vot.drop R.vot.length, (gA R.acc v.d.toNat).p ≤ v.b
theorem Ext.refl (n : Int) (R : Rnd) : Ext n R R := ⟨List.prefix_refl _,List.prefix_refl _,List.prefix_refl _,fun _ _ => ⟨Int.le_refl _,Int.le_refl _⟩,by simp⟩
theorem movB_k {n : Int} {m : Mov} (hm : movB n m = true) (h1 : ¬ m.k = 1) (h2 : ¬ m.k = 2) : m.k = 3 ∧ 0 ≤ m.t ∧ m.t < n := by
  simp only [movB, Bool.and_eq_true] at hm
  obtain ⟨_, hm⟩ := hm
  split at hm
  · rename_i hk; simp at hm; omega
  · simp at hm; omega
theorem movB_to {n : Int} {m : Mov} (hm : movB n m = true) (h1 : m.k = 1) : 0 ≤ m.t ∧ m.t < n := by
  simp only [movB, h1, true_or, if_true, Bool.and_eq_true, decide_eq_true_eq] at hm
  exact hm.2
theorem prefix_snoc {α : Type} {a b : List α} (h : a <+: b) (x : α) : a <+: b ++ [x] := h.trans (List.prefix_append _ _)
theorem Ext.step {n : Int} {R R' : Rnd} (h : Ext n R R') (hi : Inv n R') {m : Mov} (hm : movB n m = true) : Ext n R (stepR n R' m) := by
  unfold stepR
  split
  · rename_i hk
    unfold prepS
    split
    · rename_i hz
      obtain ⟨e, h1, h2, h3⟩ := prepR_ok hz
      rw [e]
      have ht := movB_to hm hk
      have hlt : m.t.toNat < R'.acc.length := by rw [hi.len]; omega
      refine ⟨prefix_snoc h.pro _, h.sta, h.vot, fun i hin => ?_, h.new⟩
      simp only []
      rw [gA_set hlt]
      have := h.acc i hin
      split
      · rename_i e; rw [e] at this; subst e; simp only; omega
      · exact this
    · exact h
  · rename_i hk1
    split
    · unfold startS
      split
      · exact h
      · split
        · exact ⟨h.pro, prefix_snoc h.sta _, h.vot, h.acc, h.new⟩
        · exact h
    · rename_i hk2
      unfold accS
      split
      · exact h
      · rename_i x hx
        split
        · rename_i hz
          obtain ⟨e, h1, h2, h3, h4⟩ := accR_ok hz
          rw [e]
          obtain ⟨_, ht⟩ := movB_k hm hk1 hk2
          have hlt : m.t.toNat < R'.acc.length := by rw [hi.len]; omega
          have hok := Acc.ok_iff.1 h3
          refine ⟨h.pro, h.sta, prefix_snoc h.vot _, fun i hin => ?_, fun v hv => ?_⟩
          · simp only []
            rw [gA_set hlt]
            have := h.acc i hin
            split
            · rename_i e; subst e; simp only; omega
            · exact this
          · simp only [] at hv
            rw [List.drop_append_of_le_length h.vot.length_le, List.mem_append, List.mem_singleton] at hv
            rcases hv with hv | rfl
            · exact h.new v hv
            · have := (h.acc m.t.toNat (by omega)).1
              simp only; omega
        · exact h
theorem Ext.foldl {n : Int} {R : Rnd} : ∀ {ms : List Mov} {R' : Rnd},Ext n R R' → Inv n R' → (∀ m ∈ ms,movB n m = true) → Ext n R (ms.foldl (stepR n) R')
  | [], _, h, _, _ => h
  | m :: ms,R',h,hi,hm => Ext.foldl (ms := ms) (h.step hi (hm m (by simp))) (hi.step (hm m (by simp))) fun x hx => hm x (by simp [hx])
theorem Ext.take {n : Int} {ms : List Mov} (hm : ∀ m ∈ ms,movB n m = true) (k : Nat) : Ext n (foldR n (ms.take k)) (foldR n ms) := by
  have e : foldR n ms = (ms.drop k).foldl (stepR n) (foldR n (ms.take k)) := by
    unfold foldR; rw [← List.foldl_append, List.take_append_drop]
  rw [e]
  exact Ext.foldl (Ext.refl _ _) (Inv.run fun m h => hm m (List.mem_of_mem_take h)) fun m h => hm m (List.mem_of_mem_drop h)
/-! ### Proposals -/
theorem foldR_snoc (n : Int) (ms : List Mov) (m : Mov) : foldR n (ms ++ [m]) = stepR n (foldR n ms) m := by simp [foldR,List.foldl_append]
/-! ### Progress -/
theorem sub_len : ∀ {D E : List Int}, D.Nodup → (∀ d ∈ D, d ∈ E) → D.length ≤ E.length
  | [], _, _, _ => by simp
  | d :: D, E, hd, h => by
    rw [List.nodup_cons] at hd
    have := sub_len (D := D) (E := E.erase d) hd.2 (fun x hx => (List.mem_erase_of_ne (fun e : x = d => hd.1 (e ▸ hx))).2 (h x (by simp [hx])))
    rw [List.length_erase_of_mem (h d (by simp))] at this
    have : 0 < E.length := List.length_pos_of_mem (h d (by simp))
    simp only [List.length_cons]
    omega
structure Below (n : Int) (B : Int) (R : Rnd) : Prop where
  acc : ∀ i : Nat, i < n.toNat → (gA R.acc i).p < B
  sta : ∀ s ∈ R.sta, s.b < B
theorem Below.step {n B : Int} {R : Rnd} (h : Below n B R) (hi : Inv n R) {m : Mov} (hm : movB n m = true) (hb : m.b < B) : Below n B (stepR n R m) := by
  unfold stepR
  split
  · rename_i hk
    unfold prepS
    split
    · rename_i hz
      obtain ⟨e, h1, h2, h3⟩ := prepR_ok hz
      rw [e]
      have ht := movB_to hm hk
      have hlt : m.t.toNat < R.acc.length := by rw [hi.len]; omega
      refine ⟨fun i hin => ?_, h.sta⟩
      simp only []
      rw [gA_set hlt]
      split
      · exact hb
      · exact h.acc i hin
    · exact h
  · rename_i hk1
    split
    · unfold startS
      split
      · exact h
      · split
        · refine ⟨h.acc, fun s hs => ?_⟩
          simp only [List.mem_append, List.mem_singleton] at hs
          rcases hs with hs | rfl
          · exact h.sta s hs
          · exact hb
        · exact h
    · rename_i hk2
      unfold accS
      split
      · exact h
      · split
        · rename_i hz
          obtain ⟨e, h1, h2, h3, h4⟩ := accR_ok hz
          rw [e]
          obtain ⟨_, ht⟩ := movB_k hm hk1 hk2
          have hlt : m.t.toNat < R.acc.length := by rw [hi.len]; omega
          refine ⟨fun i hin => ?_, h.sta⟩
          simp only []
          rw [gA_set hlt]
          split
          · exact hb
          · exact h.acc i hin
        · exact h
theorem Below.run {n B : Int} (hB : 1 ≤ B) : ∀ {ms : List Mov},(∀ m ∈ ms,movB n m = true ∧ m.b < B) → Below n B (foldR n ms) := by
  intro ms
  induction ms using snocInd with
  | nil =>
    intro _
    refine ⟨fun i hi => ?_, by simp [foldR, rnd0]⟩
    have : gA (foldR n []).acc i = ⟨0, 0, tk0⟩ := by simp [foldR, rnd0, gA, hi]
    rw [this]; simp only; omega
  | append_singleton ms m ih =>
    intro hm
    rw [foldR_snoc]
    exact (ih fun x hx => hm x (by simp [hx])).step (Inv.run fun x hx => (hm x (by simp [hx])).1) (hm m (by simp)).1 (hm m (by simp)).2
def prepM (B d : Int) : Mov := ⟨1, B, d, tk0⟩
def startM (B : Int) (x : Tk) : Mov := ⟨2, B, 0, x⟩
def accM (B d : Int) : Mov := ⟨3, B, d, tk0⟩
structure Heard (n B : Int) (R0 R : Rnd) (D : List Int) : Prop where
  inv : Inv n R
  sta : R.sta = R0.sta
  acc : ∀ i : Nat, i < n.toNat → (gA R.acc i).p ≤ B ∧ ((i : Int) ∉ D → (gA R.acc i).p < B)
  pro : ∀ d ∈ D, ∃ p ∈ R.pro, p.b = B ∧ p.d = d
theorem Heard.prep {n B : Int} {R0 R : Rnd} {D : List Int} (h : Heard n B R0 R D) (hn : n ≤ 8) (hB : balB B = true) {d : Int} (h0 : 0 ≤ d) (h1 : d < n) (hd : d ∉ D) : Heard n B R0 (stepR n R (prepM B d)) (D ++ [d]) := by
  have hm : movB n (prepM B d) = true := by simp [movB, prepM, hB, h0, h1]
  have hdi : (d.toNat : Int) = d := Int.toNat_of_nonneg h0
  have hlt : d.toNat < R.acc.length := by rw [h.inv.len]; omega
  have hp := (h.acc d.toNat (by omega)).2 (by rw [hdi]; exact hd)
  have hz : prepR (gA R.acc d.toNat) d B = ({ gA R.acc d.toNat with p := B },⟨d,B,(gA R.acc d.toNat).v,(gA R.acc d.toNat).x⟩,0) := by
    unfold prepR
    rw [if_neg (fun q => q ⟨(h.inv.accs d.toNat (by omega)).1, ⟨h0, by omega⟩, hB⟩), if_neg (by omega)]
  have e : stepR n R (prepM B d) = { R with acc := R.acc.set d.toNat { gA R.acc d.toNat with p := B },pro := R.pro ++ [⟨d,B,(gA R.acc d.toNat).v,(gA R.acc d.toNat).x⟩] } := by
    unfold stepR prepS
    simp only [prepM, if_true, hz]
  refine ⟨h.inv.step hm, ?_, fun i hi => ?_, fun q hq => ?_⟩
  · rw [e]; exact h.sta
  · rw [e]
    simp only []
    rw [gA_set hlt]
    split
    · rename_i e2
      refine ⟨Int.le_refl _, fun q => absurd ?_ q⟩
      rw [e2, hdi]; simp
    · exact ⟨(h.acc i hi).1, fun q => (h.acc i hi).2 fun q2 => q (List.mem_append_left _ q2)⟩
  · rw [e]
    rcases List.mem_append.1 hq with hq | hq
    · obtain ⟨p, p1, p2⟩ := h.pro q hq
      exact ⟨p, List.mem_append_left _ p1, p2⟩
    · simp at hq; subst hq
      exact ⟨⟨q, B, _, _⟩, List.mem_append_right _ (List.mem_singleton.2 rfl), rfl, rfl⟩
theorem Heard.preps {n B : Int} {R0 : Rnd} (hn : n ≤ 8) (hB : balB B = true) : ∀ {E : List Int} {R : Rnd} {D : List Int},Heard n B R0 R D → (D ++ E).Nodup → (∀ d ∈ E,0 ≤ d ∧ d < n) → Heard n B R0 ((E.map (prepM B)).foldl (stepR n) R) (D ++ E)
  | [], R, D, h, _, _ => by simpa using h
  | d :: E, R, D, h, hd, he => by
    have hdd : d ∉ D := by
      rw [List.nodup_append] at hd
      exact fun q => hd.2.2 d q d (by simp) rfl
    have := Heard.preps hn hB (E := E) (h.prep hn hB (he d (by simp)).1 (he d (by simp)).2 hdd) (by simpa using hd) (fun x hx => he x (by simp [hx]))
    simpa using this
structure Voted (n B : Int) (x : Tk) (R : Rnd) (E : List Int) : Prop where
  inv : Inv n R
  started : started R.sta B = some x
  acc : ∀ i : Nat, i < n.toNat → (gA R.acc i).p ≤ B
  max : ∀ s ∈ R.sta, s.b ≤ B
  vot : ∀ d ∈ E, ∃ v ∈ R.vot, v.b = B ∧ v.x = x ∧ v.d = d
theorem started_app {l : List Sta} {s : Sta} (h : ∀ t ∈ l, t.b ≠ s.b) : started (l ++ [s]) s.b = some s.x := by
  induction l with
  | nil => simp [started]
  | cons t l ih =>
    rw [List.cons_append, started, if_neg (h t (by simp))]
    exact ih fun u hu => h u (by simp [hu])
theorem Heard.start {n B : Int} {R0 R : Rnd} {D : List Int} (h : Heard n B R0 R D) (hb : Below n B R0) (hn : 1 ≤ n ∧ n ≤ 8) (hB : balB B = true) {x : Tk} (hx : x.ok = true) (hD : Maj n D) : ∃ y,Voted n B y (stepR n R (startM B x)) [] := by
  have hnone : started R.sta B = none := by
    cases hq : started R.sta B with
    | none => rfl
    | some y =>
      have h1 := started_some hq
      rw [h.sta] at h1
      have := hb.sta _ h1
      simp at this
  have hnb : ¬ ∃ p ∈ R.pro, p.bad n := by
    rintro ⟨p, p1, p2⟩
    obtain ⟨q1, q2, q3, q4, q5⟩ := h.inv.pros p p1
    exact p2 ⟨q1, q2, q4.1, q4.2, q5⟩
  have hcnt : n < 2 * ((cntP B R.pro []).length : Int) := by
    have hsub : D.length ≤ (cntP B R.pro []).length := by
      refine sub_len hD.1 fun d hd => ?_
      obtain ⟨p, p1, p2, p3⟩ := h.pro d hd
      exact cntP_mem.2 ⟨p, p1, p2, p3⟩
    have := hD.2.2
    omega
  have hz : chooseR n B R.pro x = ((lastP B R.pro x).2, 0) := by
    unfold chooseR
    rw [if_neg (fun q => q ⟨hn, hB, hx⟩), if_neg hnb, if_neg (by omega)]
  have e : stepR n R (startM B x) = { R with sta := R.sta ++ [⟨B, (lastP B R.pro x).2⟩] } := by
    unfold stepR startS
    simp only [startM, hz, hnone]
    simp
  have hi : Inv n (stepR n R (startM B x)) := h.inv.step (by simp [movB, startM, hB, hx])
  refine ⟨(lastP B R.pro x).2, hi, ?_, ?_, ?_, by simp⟩
  · rw [e]
    exact started_app (s := ⟨B, (lastP B R.pro x).2⟩) (started_none hnone)
  · rw [e]; exact fun i hi => (h.acc i hi).1
  · rw [e]
    intro s hs
    simp only [List.mem_append, List.mem_singleton] at hs
    rcases hs with hs | rfl
    · rw [h.sta] at hs
      exact Int.le_of_lt (hb.sta s hs)
    · exact Int.le_refl _
theorem Voted.acc1 {n B : Int} {x : Tk} {R : Rnd} {E : List Int} (h : Voted n B x R E) (hn : n ≤ 8) (hB : balB B = true) {d : Int} (h0 : 0 ≤ d) (h1 : d < n) : Voted n B x (stepR n R (accM B d)) (E ++ [d]) := by
  have hm : movB n (accM B d) = true := by simp [movB, accM, hB, h0, h1]
  have hlt : d.toNat < R.acc.length := by rw [h.inv.len]; omega
  have hxok := (h.inv.stas _ (started_some h.started)).2.1
  have hz : accR (gA R.acc d.toNat) d B x = (⟨B, B, x⟩, ⟨d, B, x⟩, 0) := by
    unfold accR
    rw [if_neg (fun q => q ⟨(h.inv.accs d.toNat (by omega)).1,⟨h0,by omega⟩,hB,hxok⟩),if_neg (by have := h.acc d.toNat (by omega);omega)]
  have e : stepR n R (accM B d) = { R with acc := R.acc.set d.toNat ⟨B, B, x⟩, vot := R.vot ++ [⟨d, B, x⟩] } := by
    unfold stepR accS
    simp only [accM, h.started, hz]
    simp
  refine ⟨h.inv.step hm, ?_, fun i hi => ?_, ?_, fun q hq => ?_⟩
  · rw [e]; exact h.started
  · rw [e]
    simp only []
    rw [gA_set hlt]
    split
    · exact Int.le_refl _
    · exact h.acc i hi
  · rw [e]; exact h.max
  · rw [e]
    rcases List.mem_append.1 hq with hq | hq
    · obtain ⟨p, p1, p2⟩ := h.vot q hq
      exact ⟨p, List.mem_append_left _ p1, p2⟩
    · simp at hq; subst hq
      exact ⟨⟨q, B, x⟩, List.mem_append_right _ (List.mem_singleton.2 rfl), rfl, rfl, rfl⟩
theorem Voted.accs {n B : Int} {x : Tk} (hn : n ≤ 8) (hB : balB B = true) : ∀ {E : List Int} {R : Rnd} {D : List Int},Voted n B x R D → (∀ d ∈ E,0 ≤ d ∧ d < n) → Voted n B x ((E.map (accM B)).foldl (stepR n) R) (D ++ E)
  | [], R, D, h, _ => by simpa using h
  | d :: E, R, D, h, he => by
    have := Voted.accs hn hB (E := E) (h.acc1 hn hB (he d (by simp)).1 (he d (by simp)).2) (fun x hx => he x (by simp [hx]))
    simpa using this
theorem progress {n B : Int} {ms : List Mov} {x : Tk} {D : List Int} (hn : 1 ≤ n ∧ n ≤ 8) (hB : balB B = true) (hm : ∀ m ∈ ms,movB n m = true ∧ m.b < B) (hx : x.ok = true) (hD : Maj n D) (hl : ms.length ≤ 150) (hDl : D.length ≤ 8) :
    ∃ R,runR n (ms ++ D.map (prepM B) ++ [startM B x] ++ D.map (accM B)) = (R,0) ∧ Inv n R ∧ ∃ s,(outV n R.vot).getLast? = some s ∧ s.b = B := by
  have hB' := balB_iff.1 hB
  have hall : (ms ++ D.map (prepM B) ++ [startM B x] ++ D.map (accM B)).all (movB n) = true := by
    rw [List.all_eq_true]
    intro m hmm
    simp only [List.mem_append, List.mem_singleton, List.mem_map] at hmm
    rcases hmm with ((hmm | ⟨d, hd, rfl⟩) | rfl) | ⟨d, hd, rfl⟩
    · exact (hm m hmm).1
    · have := hD.2.1 d hd; simp [movB, prepM, hB, this.1, this.2]
    · simp [movB, startM, hB, hx]
    · have := hD.2.1 d hd; simp [movB, accM, hB, this.1, this.2]
  have hb := Below.run hB'.1 hm
  have hi := Inv.run (fun m h => (hm m h).1)
  have h0 : Heard n B (foldR n ms) (foldR n ms) [] := ⟨hi,rfl,fun i hin => ⟨Int.le_of_lt (hb.acc i hin),fun _ => hb.acc i hin⟩,by simp⟩
  have h1 := Heard.preps hn.2 hB (E := D) h0 (by simpa using hD.1) hD.2.1
  simp only [List.nil_append] at h1
  obtain ⟨y, h2⟩ := h1.start hb hn hB hx hD
  have h3 := Voted.accs hn.2 hB (E := D) h2 hD.2.1
  simp only [List.nil_append] at h3
  have e : foldR n (ms ++ D.map (prepM B) ++ [startM B x] ++ D.map (accM B)) = (D.map (accM B)).foldl (stepR n) (stepR n ((D.map (prepM B)).foldl (stepR n) (foldR n ms)) (startM B x)) := by
    simp [foldR, List.foldl_append]
  refine ⟨_, by unfold runR; rw [if_pos ⟨hn, by simp; omega, hall⟩], ?_, ?_⟩
  · rw [e]; exact h3.inv
  · rw [e]
    generalize (D.map (accM B)).foldl (stepR n) (stepR n ((D.map (prepM B)).foldl (stepR n) (foldR n ms)) (startM B x)) = R at h3
    have hr := h3.inv.rises hn.1
    have hmaj : majB n R.vot ⟨B, y⟩ = true := by
      simp only [majB, decide_eq_true_eq]
      have hsub : D.length ≤ (cntV ⟨B, y⟩ R.vot []).length := by
        refine sub_len hD.1 fun d hd => ?_
        obtain ⟨v, v1, v2, v3, v4⟩ := h3.vot d hd
        exact cntV_mem.2 ⟨v, v1, ⟨v2, v3⟩, v4⟩
      have := hD.2.2
      omega
    have hmem := (outV_mem (n := n) (by omega)).2 hmaj
    rcases List.eq_nil_or_concat (outV n R.vot) with h0 | ⟨L, s, h0⟩
    · rw [h0] at hmem; cases hmem
    · rw [List.concat_eq_append] at h0
      refine ⟨s, by rw [h0]; simp, ?_⟩
      have hs : s ∈ outV n R.vot := by rw [h0]; simp
      have h5 := h3.max s (h3.inv.cpos hn.1 ((outV_mem (by omega)).1 hs))
      rw [h0] at hmem hr
      rcases List.mem_append.1 hmem with q | q
      · have := (List.pairwise_append.1 hr).2.2 _ q s (by simp)
        simp only at this
        omega
      · simp at q; rw [← q]
/-! ### Repetition -/
def Dup (R R2 : Rnd) : Prop := R2.acc = R.acc ∧ R2.pro = R.pro ∧ R2.sta = R.sta ∧ (R2.vot = R.vot ∨ ∃ A w B,R.vot = A ++ w :: B ∧ R2.vot = A ++ w :: w :: B)
theorem Dup.refl (R : Rnd) : Dup R R := ⟨rfl, rfl, rfl, .inl rfl⟩
theorem Dup.step {n : Int} {R R2 : Rnd} (h : Dup R R2) (m : Mov) : Dup (stepR n R m) (stepR n R2 m) := by
  obtain ⟨h1, h2, h3, h4⟩ := h
  unfold stepR
  split
  · unfold prepS
    rw [h1, h2]
    split
    · exact ⟨rfl, rfl, h3, h4⟩
    · exact ⟨h1, h2, h3, h4⟩
  · split
    · unfold startS
      rw [h2, h3]
      split
      · exact ⟨h1, h2, h3, h4⟩
      · split
        · exact ⟨h1, rfl, rfl, h4⟩
        · exact ⟨h1, h2, h3, h4⟩
    · unfold accS
      rw [h3, h1]
      split
      · exact ⟨h1, h2, h3, h4⟩
      · split
        · refine ⟨rfl, h2, rfl, ?_⟩
          rcases h4 with h4 | ⟨A, w, B, e1, e2⟩
          · left; simp only []; rw [h4]
          · right; exact ⟨A, w, B ++ [_], by simp only []; rw [e1]; simp; rfl, by simp only []; rw [e2]; simp⟩
        · exact ⟨h1, h2, h3, h4⟩
theorem Dup.foldl {n : Int} : ∀ {ms : List Mov} {R R2 : Rnd},Dup R R2 → Dup (ms.foldl (stepR n) R) (ms.foldl (stepR n) R2)
  | [], _, _, h => h
  | m :: ms, _, _, h => Dup.foldl (ms := ms) (h.step m)
theorem set_set' {l : List Acc} {i : Nat} {a b : Acc} : (l.set i a).set i b = l.set i b := by simp
theorem Dup.twice {n : Int} {R : Rnd} (hi : Inv n R) {m : Mov} (hm : movB n m = true) : Dup (stepR n R m) (stepR n (stepR n R m) m) := by
  unfold stepR
  by_cases hk : m.k = 1
  · simp only [hk, if_true]
    have ht := movB_to hm hk
    have hlt : m.t.toNat < R.acc.length := by rw [hi.len]; omega
    by_cases hz : (prepR (gA R.acc m.t.toNat) m.t m.b).2.2 = 0
    · obtain ⟨e, h1, h2, h3⟩ := prepR_ok hz
      have e1 : prepS R m = { R with acc := R.acc.set m.t.toNat { gA R.acc m.t.toNat with p := m.b },pro := R.pro ++ [⟨m.t,m.b,(gA R.acc m.t.toNat).v,(gA R.acc m.t.toNat).x⟩] } := by
        unfold prepS; rw [if_pos hz, e]
      have e2 : prepS (prepS R m) m = prepS R m := by
        rw [e1]
        unfold prepS
        rw [if_neg]
        simp only []
        rw [gA_set hlt, if_pos rfl]
        unfold prepR
        split
        · simp
        · rw [if_pos (by simp)]; simp
      rw [e2]; exact Dup.refl _
    · have e1 : prepS R m = R := by unfold prepS; rw [if_neg hz]
      rw [e1, e1]; exact Dup.refl _
  · simp only [hk, if_false]
    by_cases hk2 : m.k = 2
    · simp only [hk2, if_true]
      have e2 : startS n (startS n R m) m = startS n R m := by
        by_cases hs : (started R.sta m.b).isSome = true
        · have e1 : startS n R m = R := by unfold startS; rw [if_pos hs]
          rw [e1, e1]
        · by_cases hz : (chooseR n m.b R.pro m.x).2 = 0
          · have e1 : startS n R m = { R with sta := R.sta ++ [⟨m.b,(chooseR n m.b R.pro m.x).1⟩] } := by unfold startS;rw [if_neg hs,if_pos hz]
            have hnone : started R.sta m.b = none := by cases hq : started R.sta m.b <;> simp_all
            rw [e1]
            unfold startS
            rw [if_pos]
            have := started_app (l := R.sta) (s := ⟨m.b, (chooseR n m.b R.pro m.x).1⟩) (started_none hnone)
            simp only at this ⊢
            rw [this]; rfl
          · have e1 : startS n R m = R := by unfold startS; rw [if_neg hs, if_neg hz]
            rw [e1, e1]
      rw [e2]; exact Dup.refl _
    · simp only [hk2, if_false]
      obtain ⟨_, ht⟩ := movB_k hm hk hk2
      have hlt : m.t.toNat < R.acc.length := by rw [hi.len]; omega
      cases hx : started R.sta m.b with
      | none =>
        have e1 : accS R m = R := by unfold accS; rw [hx]
        rw [e1, e1]; exact Dup.refl _
      | some x =>
        by_cases hz : (accR (gA R.acc m.t.toNat) m.t m.b x).2.2 = 0
        · obtain ⟨e, h1, h2, h3, h4⟩ := accR_ok hz
          have hb := balB_iff.1 h2
          have e1 : accS R m = { R with acc := R.acc.set m.t.toNat ⟨m.b,m.b,x⟩,vot := R.vot ++ [⟨m.t,m.b,x⟩] } := by
            unfold accS; rw [hx]; simp only []; rw [if_pos hz, e]
          have hdesk : 0 ≤ m.t ∧ m.t < 8 := by
            unfold accR at hz
            split at hz
            · simp at hz
            · rename_i q; rw [Classical.not_not] at q; exact q.2.1
          have hok2 : accR ⟨m.b, m.b, x⟩ m.t m.b x = (⟨m.b, m.b, x⟩, ⟨m.t, m.b, x⟩, 0) := by
            unfold accR
            rw [if_neg (fun q => q ⟨Acc.ok_iff.2 ⟨⟨by simp only;omega,Int.le_refl _,hb.2⟩,by simp only [votedB];rw [if_neg (by omega)];exact h4⟩,hdesk,h2,h4⟩),if_neg (by simp)]
          rw [e1]
          have hg : gA (R.acc.set m.t.toNat ⟨m.b, m.b, x⟩) m.t.toNat = ⟨m.b, m.b, x⟩ := by rw [gA_set hlt, if_pos rfl]
          unfold accS
          simp only [hx, hg, hok2, if_true]
          refine ⟨set_set', rfl, rfl, .inr ⟨R.vot, ⟨m.t, m.b, x⟩, [], rfl, by simp⟩⟩
        · have e1 : accS R m = R := by unfold accS; rw [hx]; simp only []; rw [if_neg hz]
          rw [e1, e1]; exact Dup.refl _
theorem addD_idem (D : List Int) (d : Int) : addD (addD D d) d = addD D d := by
  have : d ∈ addD D d := addD_mem.2 (.inr rfl)
  show (if d ∈ addD D d then addD D d else addD D d ++ [d]) = _
  rw [if_pos this]
theorem cntV_dup (s : Sta) (A : List Vot) (w : Vot) (B : List Vot) (D : List Int) : cntV s (A ++ w :: w :: B) D = cntV s (A ++ w :: B) D := by
  unfold cntV
  rw [List.foldl_append, List.foldl_append, List.foldl_cons, List.foldl_cons, List.foldl_cons]
  by_cases h : w.b = s.b ∧ w.x = s.x
  · simp only [h, and_self, if_true, addD_idem]
  · simp only [h, if_false]
theorem seenV_dup (A : List Vot) (w : Vot) (B : List Vot) : seenV (A ++ w :: w :: B) = seenV (A ++ w :: B) := by
  unfold seenV
  rw [List.foldl_append, List.foldl_append, List.foldl_cons, List.foldl_cons, List.foldl_cons]
  by_cases h : (⟨w.b, w.x⟩ : Sta) ∈ A.foldl (fun S v => if (⟨v.b, v.x⟩ : Sta) ∈ S then S else S ++ [⟨v.b, v.x⟩]) []
  · simp only [h, if_true]
  · simp only [h, if_false]
    rw [if_pos (by simp)]
theorem Dup.out {n : Int} {R R2 : Rnd} (h : Dup R R2) : outV n R2.vot = outV n R.vot := by
  obtain ⟨_, _, _, h | ⟨A, w, B, e1, e2⟩⟩ := h
  · rw [h]
  · rw [e1, e2]
    unfold outV
    rw [seenV_dup]
    congr 1
    funext s
    unfold majB
    rw [cntV_dup]
end Go.Proofs.Ytgljhmnmmaclaaa.Q
