/-
  The plain law of rounds of ballots: what a script leads to, and what always holds of it.
-/
import Derived.Test.YtgljhmnmmaclaaaQV4
set_option linter.unusedSimpArgs false
set_option linter.unusedVariables false
namespace Go.Proofs.Ytgljhmnmmaclaaa.Q
theorem snocInd {α : Type} {motive : List α → Prop} (nil : motive []) (append_singleton : ∀ l a,motive l → motive (l ++ [a])) (l : List α) : motive l := by
  have h : ∀ r : List α, motive r.reverse := by
    intro r
    induction r with
    | nil => exact nil
    | cons a r ih => rw [List.reverse_cons]; exact append_singleton _ _ ih
  have := h l.reverse
  rwa [List.reverse_reverse] at this
structure Rnd where
  acc : List Acc
  pro : List Pro
  sta : List Sta
  vot : List Vot
deriving DecidableEq
def started : List Sta → Int → Option Tk
  | [], _ => none
  | s :: l, b => if s.b = b then some s.x else started l b
def prepS (R : Rnd) (m : Mov) : Rnd :=
  if (prepR (gA R.acc m.t.toNat) m.t m.b).2.2 = 0 then { R with acc := R.acc.set m.t.toNat (prepR (gA R.acc m.t.toNat) m.t m.b).1,pro := R.pro ++ [(prepR (gA R.acc m.t.toNat) m.t m.b).2.1] } else R
def startS (n : Int) (R : Rnd) (m : Mov) : Rnd :=
  if (started R.sta m.b).isSome then R else if (chooseR n m.b R.pro m.x).2 = 0 then { R with sta := R.sta ++ [⟨m.b,(chooseR n m.b R.pro m.x).1⟩] } else R
def accS (R : Rnd) (m : Mov) : Rnd :=
  match started R.sta m.b with
  | none => R
  | some x=>if (accR (gA R.acc m.t.toNat) m.t m.b x).2.2 = 0 then { R with acc := R.acc.set m.t.toNat (accR (gA R.acc m.t.toNat) m.t m.b x).1,vot := R.vot ++ [(accR (gA R.acc m.t.toNat) m.t m.b x).2.1] } else R
def stepR (n : Int) (R : Rnd) (m : Mov) : Rnd := if m.k = 1 then prepS R m else if m.k = 2 then startS n R m else accS R m
def movB (n : Int) (m : Mov) : Bool := balB m.b && (if m.k = 1 ∨ m.k = 3 then decide (0 ≤ m.t) && decide (m.t < n) else decide (m.k = 2) && m.x.ok)
def rnd0 (n : Int) : Rnd := ⟨List.replicate n.toNat ⟨0, 0, tk0⟩, [], [], []⟩
def foldR (n : Int) (ms : List Mov) : Rnd := ms.foldl (stepR n) (rnd0 n)
def runR (n : Int) (ms : List Mov) : Rnd × Int := if (1 ≤ n ∧ n ≤ 8) ∧ ms.length ≤ 200 ∧ ms.all (movB n) = true then (foldR n ms,0) else (⟨[],[],[],[]⟩,1)
/-! ### Counting -/
theorem addD_nodup {D : List Int} {d : Int} (h : D.Nodup) : (addD D d).Nodup := by
  unfold addD
  split
  · exact h
  · rename_i hd
    rw [List.nodup_append]
    exact ⟨h, by simp, fun a ha b hb => by simp at hb; subst hb; intro e; subst e; exact hd ha⟩
theorem addD_mem {D : List Int} {d e : Int} : e ∈ addD D d ↔ e ∈ D ∨ e = d := by
  unfold addD
  split
  · rename_i h
    constructor
    · exact .inl
    · rintro (h' | rfl); exact h'; exact h
  · simp
theorem cnt_mem {α : Type} (P : α → Prop) [DecidablePred P] (f : α → Int) {d : Int} : ∀ (ps : List α) (D : List Int),d ∈ ps.foldl (fun D p=>if P p then addD D (f p) else D) D ↔ d ∈ D ∨ ∃ p ∈ ps,P p ∧ f p = d
  | [], D => by simp
  | p :: ps, D => by
    rw [List.foldl_cons, cnt_mem P f ps]
    by_cases h : P p
    · rw [if_pos h, addD_mem]
      simp only [List.mem_cons, exists_eq_or_imp, h, true_and]
      grind
    · rw [if_neg h]
      simp only [List.mem_cons, exists_eq_or_imp, h, false_and, false_or]
theorem cnt_nodup {α : Type} (P : α → Prop) [DecidablePred P] (f : α → Int) : ∀ (ps : List α) (D : List Int),D.Nodup → (ps.foldl (fun D p => if P p then addD D (f p) else D) D).Nodup
  | [], D, h => h
  | p :: ps, D, h => by
    rw [List.foldl_cons]
    refine cnt_nodup P f ps _ ?_
    split
    · exact addD_nodup h
    · exact h
theorem cntP_mem {b : Int} {ps : List Pro} {d : Int} : d ∈ cntP b ps [] ↔ ∃ p ∈ ps, p.b = b ∧ p.d = d := by
  unfold cntP; rw [cnt_mem (fun p : Pro => p.b = b) (fun p => p.d)]; simp
theorem cntP_nodup {b : Int} {ps : List Pro} : (cntP b ps []).Nodup := cnt_nodup (fun p : Pro => p.b = b) (fun p => p.d) ps [] (by simp)
theorem cntV_mem {s : Sta} {vs : List Vot} {d : Int} : d ∈ cntV s vs [] ↔ ∃ p ∈ vs,(p.b = s.b ∧ p.x = s.x) ∧ p.d = d := by
  unfold cntV; rw [cnt_mem (fun p : Vot => p.b = s.b ∧ p.x = s.x) (fun p => p.d)]; simp
theorem cntV_nodup {s : Sta} {vs : List Vot} : (cntV s vs []).Nodup := cnt_nodup (fun p : Vot => p.b = s.b ∧ p.x = s.x) (fun p => p.d) vs [] (by simp)
theorem nodup_le : ∀ (n : Nat) (D : List Int), D.Nodup → (∀ d ∈ D, 0 ≤ d ∧ d < n) → D.length ≤ n
  | 0, D, _, h => by
    cases D with
    | nil => simp
    | cons d D => have := h d (by simp); omega
  | n + 1, D, hd, h => by
    have ih := nodup_le n (D.erase n) (hd.erase _) (fun d hm => by
      have h1 := h d (List.mem_of_mem_erase hm)
      have h2 : d ≠ n := fun e => by subst e; exact hd.not_mem_erase hm
      omega)
    have := List.length_erase (a := (n : Int)) (l := D)
    split at this <;> omega
def Maj (n : Int) (D : List Int) : Prop := D.Nodup ∧ (∀ d ∈ D, 0 ≤ d ∧ d < n) ∧ n < 2 * (D.length : Int)
theorem Maj.meet {n : Int} {D E : List Int} (hn : 0 ≤ n) (h : Maj n D) (k : Maj n E) : ∃ d, d ∈ D ∧ d ∈ E := by
  by_cases hm : ∃ d, d ∈ D ∧ d ∈ E
  · exact hm
  · exfalso
    have := nodup_le n.toNat (D ++ E) (by
      rw [List.nodup_append]
      exact ⟨h.1, k.1, fun a ha b hb e => hm ⟨a, ha, e ▸ hb⟩⟩) (fun d hd => by
        rw [Int.toNat_of_nonneg hn]
        rcases List.mem_append.1 hd with hd | hd
        · exact h.2.1 d hd
        · exact k.2.1 d hd)
    rw [List.length_append] at this
    have h3 := h.2.2
    have k3 := k.2.2
    omega
/-! ### What always holds -/
def lastV (i : Int) (vs : List Vot) : Int × Tk := vs.foldl (fun q w => if w.d = i then (w.b, w.x) else q) (0, tk0)
theorem lastV_snoc (i : Int) (vs : List Vot) (w : Vot) : lastV i (vs ++ [w]) = if w.d = i then (w.b,w.x) else lastV i vs := by simp [lastV,List.foldl_append]
def Picked (n : Int) (pro : List Pro) (s : Sta) : Prop :=
  ∃ D,Maj n D ∧ (∀ d ∈ D,∃ p ∈ pro,p.b = s.b ∧ p.d = d ∧ (p.v = 0 ∨ ∃ q ∈ pro,q.b = s.b ∧ q.x = s.x ∧ 0 < q.v ∧ p.v ≤ q.v))
theorem Picked.mono {n : Int} {pro pro' : List Pro} {s : Sta} (h : Picked n pro s) (hs : ∀ p ∈ pro,p ∈ pro') : Picked n pro' s := by
  obtain ⟨D, h1, h2⟩ := h
  refine ⟨D, h1, fun d hd => ?_⟩
  obtain ⟨p, h3, h4, h5, h6⟩ := h2 d hd
  refine ⟨p, hs p h3, h4, h5, ?_⟩
  rcases h6 with h6 | ⟨q, h7, h8⟩
  · exact .inl h6
  · exact .inr ⟨q, hs q h7, h8⟩
structure Inv (n : Int) (R : Rnd) : Prop where
  len : R.acc.length = n.toNat
  accs : ∀ i : Nat, i < n.toNat → (gA R.acc i).ok = true ∧ ((gA R.acc i).v, (gA R.acc i).x) = lastV i R.vot
  vots : ∀ v ∈ R.vot, (0 ≤ v.d ∧ v.d < n) ∧ (⟨v.b, v.x⟩ : Sta) ∈ R.sta ∧ v.b ≤ (gA R.acc v.d.toNat).v
  pros : ∀ p ∈ R.pro,(0 ≤ p.d ∧ p.d < n) ∧ balB p.b = true ∧ p.b ≤ (gA R.acc p.d.toNat).p ∧ (0 ≤ p.v ∧ p.v < p.b) ∧ votedB p.v p.x = true
  prov : ∀ p ∈ R.pro,((p.v = 0 ∧ p.x = tk0) ∨ (⟨p.d,p.v,p.x⟩ : Vot) ∈ R.vot) ∧ ∀ v ∈ R.vot,v.d = p.d → v.b < p.b → v.b ≤ p.v
  stas : ∀ s ∈ R.sta, balB s.b = true ∧ s.x.ok = true ∧ Picked n R.pro s
  dist : R.sta.Pairwise (fun s t => s.b ≠ t.b)
  ahead : ∀ A w B,R.vot = A ++ w :: B → ∃ D,Maj n D ∧ ∀ d ∈ D,w.b ≤ (gA R.acc d.toNat).p ∧ ∀ v ∈ w :: B,v.d = d → w.b ≤ v.b
theorem started_some {l : List Sta} {b : Int} {x : Tk} (h : started l b = some x) : (⟨b, x⟩ : Sta) ∈ l := by
  induction l with
  | nil => simp [started] at h
  | cons s l ih =>
    unfold started at h
    split at h
    · rename_i e
      simp at h
      subst e; subst h
      simp
    · exact List.mem_cons_of_mem _ (ih h)
theorem started_none {l : List Sta} {b : Int} (h : started l b = none) : ∀ s ∈ l, s.b ≠ b := by
  induction l with
  | nil => simp
  | cons s l ih =>
    unfold started at h
    split at h
    · simp at h
    · rename_i e
      intro t ht
      rcases List.mem_cons.1 ht with rfl | ht
      · exact e
      · exact ih h t ht
theorem started_mem {l : List Sta} (hd : l.Pairwise (fun s t => s.b ≠ t.b)) {s : Sta} (h : s ∈ l) : started l s.b = some s.x := by
  induction l with
  | nil => cases h
  | cons t l ih =>
    rw [List.pairwise_cons] at hd
    unfold started
    rcases List.mem_cons.1 h with rfl | h
    · simp
    · rw [if_neg (hd.1 s h)]; exact ih hd.2 h
theorem dist_eq {l : List Sta} (hd : l.Pairwise (fun s t => s.b ≠ t.b)) {s t : Sta} (hs : s ∈ l) (ht : t ∈ l) (e : s.b = t.b) : s = t := by
  have h1 := started_mem hd hs
  have h2 := started_mem hd ht
  rw [e, h2] at h1
  cases s; cases t
  simp at h1 e ⊢
  exact ⟨e, h1.symm⟩
theorem gA_set {l : List Acc} {i j : Nat} {a : Acc} (hi : i < l.length) : gA (l.set i a) j = if j = i then a else gA l j := by
  unfold gA
  simp only [List.getD_eq_getElem?_getD, List.getElem?_set]
  by_cases h : j = i
  · subst h; simp [hi]
  · rw [if_neg (by omega), if_neg h]
theorem Inv.zero {n : Int} : Inv n (rnd0 n) where
  len := by simp [rnd0]
  accs := fun i hi => by
    have : gA (rnd0 n).acc i = ⟨0, 0, tk0⟩ := by simp [rnd0, gA, hi]
    rw [this]
    exact ⟨by decide, rfl⟩
  vots := by simp [rnd0]
  pros := by simp [rnd0]
  prov := by simp [rnd0]
  stas := by simp [rnd0]
  dist := by simp [rnd0]
  ahead := by simp [rnd0]
theorem prepR_ok {a : Acc} {d b : Int} (h : (prepR a d b).2.2 = 0) : prepR a d b = ({ a with p := b },⟨d,b,a.v,a.x⟩,0) ∧ a.p < b ∧ balB b = true ∧ a.ok = true := by
  unfold prepR at h ⊢
  split at h
  · simp at h
  · rename_i h1
    split at h
    · simp at h
    · rename_i h2
      rw [if_neg h1, if_neg h2]
      rw [Classical.not_not] at h1
      exact ⟨rfl, by omega, h1.2.2, h1.1⟩
theorem accR_ok {a : Acc} {d b : Int} {x : Tk} (h : (accR a d b x).2.2 = 0) : accR a d b x = (⟨b,b,x⟩,⟨d,b,x⟩,0) ∧ a.p ≤ b ∧ balB b = true ∧ a.ok = true ∧ x.ok = true := by
  unfold accR at h ⊢
  split at h
  · simp at h
  · rename_i h1
    split at h
    · simp at h
    · rename_i h2
      rw [if_neg h1, if_neg h2]
      rw [Classical.not_not] at h1
      exact ⟨rfl, by omega, h1.2.2.1, h1.1, h1.2.2.2⟩
theorem Acc.ok_iff {a : Acc} : a.ok = true ↔ (0 ≤ a.v ∧ a.v ≤ a.p ∧ a.p ≤ 1000000) ∧ votedB a.v a.x = true := by simp [Acc.ok]
theorem balB_iff {b : Int} : balB b = true ↔ 1 ≤ b ∧ b ≤ 1000000 := by simp [balB]
theorem lastV_mem {i : Int} : ∀ {vs : List Vot},(lastV i vs = (0,tk0)) ∨ (⟨i,(lastV i vs).1,(lastV i vs).2⟩ : Vot) ∈ vs := by
  intro vs
  induction vs using snocInd with
  | nil => exact .inl rfl
  | append_singleton vs w ih =>
    rw [lastV_snoc]
    split
    · rename_i e
      right
      subst e
      simp
    · rcases ih with ih | ih
      · exact .inl ih
      · exact .inr (List.mem_append_left _ ih)
theorem Inv.prep {n : Int} {R : Rnd} (h : Inv n R) {m : Mov} (hm : movB n m = true) (hk : m.k = 1) : Inv n (prepS R m) := by
  unfold prepS
  split
  · rename_i hz
    obtain ⟨e, h1, h2, h3⟩ := prepR_ok hz
    rw [e]
    simp only [movB, hk, true_or, if_true, Bool.and_eq_true, decide_eq_true_eq] at hm
    have hlt : m.t.toNat < R.acc.length := by rw [h.len]; omega
    have hmt : (m.t.toNat : Int) = m.t := Int.toNat_of_nonneg hm.2.1
    have hA := h.accs m.t.toNat (by omega)
    refine ⟨by simp [h.len],fun i hi => ?_,fun v hv => ?_,fun p hp => ?_,fun p hp => ?_,fun s hs => ?_,h.dist,fun A w B hw => ?_⟩
    · simp only []
      rw [gA_set hlt]
      split
      · rename_i e; subst e
        refine ⟨?_, hA.2⟩
        rw [Acc.ok_iff] at h3 ⊢
        rw [balB_iff] at h2
        simp only
        exact ⟨by omega, h3.2⟩
      · exact h.accs i hi
    · simp only [] at hv ⊢
      obtain ⟨v1, v2, v3⟩ := h.vots v hv
      refine ⟨v1, v2, ?_⟩
      rw [gA_set hlt]
      split
      · rename_i e; rw [e] at v3; exact v3
      · exact v3
    · simp only [List.mem_append, List.mem_singleton] at hp
      rcases hp with hp | rfl
      · obtain ⟨v1, v2, v3, v4⟩ := h.pros p hp
        refine ⟨v1, v2, ?_, v4⟩
        simp only []
        rw [gA_set hlt]
        split
        · rename_i e; rw [e] at v3; simp only; omega
        · exact v3
      · rw [Acc.ok_iff] at h3
        simp only []
        rw [gA_set hlt, if_pos rfl]
        exact ⟨hm.2, h2, Int.le_refl _, ⟨h3.1.1, by omega⟩, h3.2⟩
    · simp only [List.mem_append, List.mem_singleton] at hp
      simp only []
      rcases hp with hp | rfl
      · exact h.prov p hp
      · simp only []
        have hl := hA.2
        rw [hmt] at hl
        simp only [Prod.ext_iff] at hl
        refine ⟨?_, fun v hv hd _ => ?_⟩
        · rcases lastV_mem (i := m.t) (vs := R.vot) with q | q
          · rw [q] at hl; exact .inl hl
          · rw [← hl.1, ← hl.2] at q; exact .inr q
        · have := (h.vots v hv).2.2
          rw [hd] at this; exact this
    · obtain ⟨v1, v2, v3⟩ := h.stas s hs
      exact ⟨v1, v2, v3.mono (fun p hp => List.mem_append_left _ hp)⟩
    · obtain ⟨D, d1, d2⟩ := h.ahead A w B hw
      refine ⟨D, d1, fun d hd => ⟨?_, (d2 d hd).2⟩⟩
      have := (d2 d hd).1
      simp only []
      rw [gA_set hlt]
      split
      · rename_i e; rw [e] at this; simp only; omega
      · exact this
  · exact h
theorem Inv.acc {n : Int} {R : Rnd} (h : Inv n R) {m : Mov} (hm : movB n m = true) (hk : m.k = 3) : Inv n (accS R m) := by
  unfold accS
  split
  · exact h
  · rename_i x hx
    split
    · rename_i hz
      obtain ⟨e, h1, h2, h3, h4⟩ := accR_ok hz
      rw [e]
      simp only [movB, hk, or_true, if_true, Bool.and_eq_true, decide_eq_true_eq] at hm
      have hlt : m.t.toNat < R.acc.length := by rw [h.len]; omega
      have hmt : (m.t.toNat : Int) = m.t := Int.toNat_of_nonneg hm.2.1
      have hA := h.accs m.t.toNat (by omega)
      have hmem := started_some hx
      have h3' := Acc.ok_iff.1 h3
      have h2' := balB_iff.1 h2
      refine ⟨by simp [h.len],fun i hi => ?_,fun v hv => ?_,fun p hp => ?_,fun p hp => ?_,fun s hs => h.stas s hs,h.dist,fun A w B hw => ?_⟩
      · simp only []
        rw [gA_set hlt, lastV_snoc]
        split
        · rename_i e; subst e
          rw [if_pos (by simp only; omega)]
          refine ⟨?_, rfl⟩
          rw [Acc.ok_iff]
          simp only
          refine ⟨by omega, ?_⟩
          unfold votedB
          rw [if_neg (by omega)]
          exact h4
        · rw [if_neg (by simp only; omega)]
          exact h.accs i hi
      · simp only [List.mem_append, List.mem_singleton] at hv
        simp only []
        rcases hv with hv | rfl
        · obtain ⟨v1, v2, v3⟩ := h.vots v hv
          refine ⟨v1, v2, ?_⟩
          rw [gA_set hlt]
          split
          · rename_i e; rw [e] at v3; simp only; omega
          · exact v3
        · rw [gA_set hlt, if_pos rfl]
          exact ⟨hm.2, hmem, Int.le_refl _⟩
      · obtain ⟨v1, v2, v3, v4⟩ := h.pros p hp
        refine ⟨v1, v2, ?_, v4⟩
        simp only []
        rw [gA_set hlt]
        split
        · rename_i e; rw [e] at v3; simp only; omega
        · exact v3
      · obtain ⟨p1, p2⟩ := h.prov p hp
        have p3 := (h.pros p hp).2.2.1
        refine ⟨p1.imp id (fun q => List.mem_append_left _ q), fun v hv hd hb => ?_⟩
        simp only [List.mem_append, List.mem_singleton] at hv
        rcases hv with hv | rfl
        · exact p2 v hv hd hb
        · simp only at hd hb
          rw [← hd] at p3
          omega
      · simp only [] at hw ⊢
        rcases List.eq_nil_or_concat B with rfl | ⟨B', u, rfl⟩
        · have := List.append_inj' (s₁ := R.vot) (t₁ := [_]) (s₂ := A) (t₂ := [w]) hw rfl
          obtain ⟨rfl, e2⟩ := this
          simp only [List.cons.injEq, and_true] at e2
          subst e2
          obtain ⟨D, d1, d2⟩ := (h.stas _ hmem).2.2
          refine ⟨D, d1, fun d hd => ⟨?_, fun v hv _ => ?_⟩⟩
          · obtain ⟨p, p1, p2, p3, _⟩ := d2 d hd
            have := (h.pros p p1).2.2.1
            rw [p3, p2] at this
            simp only at this ⊢
            rw [gA_set hlt]
            split
            · simp
            · exact this
          · simp at hv; subst hv; exact Int.le_refl _
        · rw [List.concat_eq_append] at hw ⊢
          rw [show A ++ w :: (B' ++ [u]) = (A ++ w :: B') ++ [u] by simp] at hw
          have := List.append_inj' hw rfl
          obtain ⟨e1, e2⟩ := this
          simp only [List.cons.injEq, and_true] at e2
          obtain ⟨D, d1, d2⟩ := h.ahead A w B' e1
          refine ⟨D, d1, fun d hd => ⟨?_, fun v hv hvd => ?_⟩⟩
          · have := (d2 d hd).1
            rw [gA_set hlt]
            split
            · rename_i e; rw [e] at this; simp only; omega
            · exact this
          · rw [← List.cons_append, List.mem_append, List.mem_singleton] at hv
            rcases hv with hv | rfl
            · exact (d2 d hd).2 v hv hvd
            · subst e2
              have := (d2 d hd).1
              simp only at hvd ⊢
              rw [← hvd] at this
              omega
    · exact h
theorem lastP_spec {b : Int} {own : Tk} : ∀ (ps : List Pro),0 ≤ (lastP b ps own).1 ∧ (∀ p ∈ ps,p.b = b → p.v ≤ (lastP b ps own).1) ∧
    ((lastP b ps own = (0, own)) ∨ ∃ p ∈ ps, p.b = b ∧ 0 < p.v ∧ lastP b ps own = (p.v, p.x)) := by
  intro ps
  induction ps using snocInd with
  | nil => simp [lastP]
  | append_singleton ps q ih =>
    obtain ⟨h1, h2, h3⟩ := ih
    have e : lastP b (ps ++ [q]) own = if q.b = b ∧ q.v > (lastP b ps own).1 then (q.v,q.x) else lastP b ps own := by simp [lastP,List.foldl_append]
    rw [e]
    split
    · rename_i hq
      refine ⟨by simp only; omega, fun p hp hb => ?_, .inr ⟨q, by simp, hq.1, by omega, rfl⟩⟩
      rcases List.mem_append.1 hp with hp | hp
      · have := h2 p hp hb; simp only; omega
      · simp at hp; subst hp; exact Int.le_refl _
    · rename_i hq
      refine ⟨h1, fun p hp hb => ?_, h3.imp id (fun ⟨p, a, b⟩ => ⟨p, List.mem_append_left _ a, b⟩)⟩
      rcases List.mem_append.1 hp with hp | hp
      · exact h2 p hp hb
      · simp at hp; subst hp; omega
theorem chooseR_ok {n b : Int} {ps : List Pro} {own : Tk} (h : (chooseR n b ps own).2 = 0) : chooseR n b ps own = ((lastP b ps own).2,0) ∧ n < 2 * ((cntP b ps []).length : Int) ∧ balB b = true ∧ own.ok = true := by
  unfold chooseR at h ⊢
  split at h
  · simp at h
  · rename_i h1
    split at h
    · simp at h
    · rename_i h2
      split at h
      · simp at h
      · rename_i h3
        rw [if_neg h1, if_neg h2, if_neg h3]
        rw [Classical.not_not] at h1
        exact ⟨rfl, by omega, h1.2⟩
theorem Inv.start {n : Int} {R : Rnd} (h : Inv n R) {m : Mov} : Inv n (startS n R m) := by
  unfold startS
  split
  · exact h
  · rename_i hn
    split
    · rename_i hz
      obtain ⟨e, h1, h2, h3⟩ := chooseR_ok hz
      rw [e]
      have hnone : started R.sta m.b = none := by cases hq : started R.sta m.b <;> simp_all
      obtain ⟨l1, l2, l3⟩ := lastP_spec (b := m.b) (own := m.x) R.pro
      refine ⟨h.len, h.accs, fun v hv => ?_, h.pros, h.prov, fun s hs => ?_, ?_, h.ahead⟩
      · obtain ⟨v1, v2, v3⟩ := h.vots v hv
        exact ⟨v1, List.mem_append_left _ v2, v3⟩
      · simp only [List.mem_append, List.mem_singleton] at hs
        rcases hs with hs | rfl
        · exact h.stas s hs
        · refine ⟨h2, ?_, cntP m.b R.pro [], ⟨cntP_nodup, fun d hd => ?_, h1⟩, fun d hd => ?_⟩
          · rcases l3 with l3 | ⟨p, p1, p2, p3, p4⟩
            · rw [l3]; exact h3
            · rw [p4]
              have := (h.pros p p1).2.2.2.2
              unfold votedB at this
              rw [if_neg (by omega)] at this
              exact this
          · obtain ⟨p, p1, p2, rfl⟩ := cntP_mem.1 hd
            exact (h.pros p p1).1
          · obtain ⟨p, p1, p2, p3⟩ := cntP_mem.1 hd
            refine ⟨p, p1, p2, p3, ?_⟩
            rcases l3 with l3 | ⟨q, q1, q2, q3, q4⟩
            · left
              have := l2 p p1 p2
              have := (h.pros p p1).2.2.2.1.1
              rw [l3] at *
              simp only at *
              omega
            · right
              refine ⟨q, q1, q2, by rw [q4], q3, ?_⟩
              have := l2 p p1 p2
              rw [q4] at this
              exact this
      · rw [List.pairwise_append]
        refine ⟨h.dist, by simp, fun s hs t ht => ?_⟩
        simp at ht
        subst ht
        exact started_none hnone s hs
    · exact h
theorem Inv.step {n : Int} {R : Rnd} (h : Inv n R) {m : Mov} (hm : movB n m = true) : Inv n (stepR n R m) := by
  unfold stepR
  split
  · rename_i hk; exact h.prep hm hk
  · split
    · exact h.start
    · rename_i h1 h2
      refine h.acc hm ?_
      simp only [movB, Bool.and_eq_true] at hm
      obtain ⟨_, hm⟩ := hm
      split at hm
      · rename_i hk; omega
      · simp at hm; omega
theorem Inv.foldl {n : Int} : ∀ {ms : List Mov} {R : Rnd},Inv n R → (∀ m ∈ ms,movB n m = true) → Inv n (ms.foldl (stepR n) R)
  | [], _, h, _ => h
  | m :: ms, R, h, hm => Inv.foldl (ms := ms) (h.step (hm m (by simp))) fun x hx => hm x (by simp [hx])
theorem Inv.run {n : Int} {ms : List Mov} (h : ∀ m ∈ ms, movB n m = true) : Inv n (foldR n ms) := Inv.foldl Inv.zero h
/-! ### Chosen ballots -/
def majB (n : Int) (vs : List Vot) (s : Sta) : Bool := decide (n < 2 * ((cntV s vs []).length : Int))
theorem Inv.maj {n : Int} {R : Rnd} (h : Inv n R) {s : Sta} (hs : majB n R.vot s = true) : Maj n (cntV s R.vot []) := by
  refine ⟨cntV_nodup, fun d hd => ?_, by simpa [majB] using hs⟩
  obtain ⟨v, v1, _, rfl⟩ := cntV_mem.1 hd
  exact (h.vots v v1).1
theorem Inv.cpos {n : Int} {R : Rnd} (h : Inv n R) (hn : 1 ≤ n) {s : Sta} (hs : majB n R.vot s = true) : s ∈ R.sta := by
  have := (h.maj hs).2.2
  match hc : cntV s R.vot [] with
  | [] => rw [hc] at this; simp at this; omega
  | d :: D =>
    obtain ⟨v, v1, ⟨v2, v3⟩, _⟩ := cntV_mem.1 (by rw [hc]; simp : d ∈ cntV s R.vot [])
    have := (h.vots v v1).2.1
    rw [v2, v3] at this
    exact this
theorem Inv.later {n : Int} {R : Rnd} (h : Inv n R) (hn : 1 ≤ n) {c : Sta} (hc : majB n R.vot c = true) : ∀ (k : Nat) (s : Sta),s ∈ R.sta → s.b ≤ k → c.b < s.b → s.x = c.x
  | 0, s, hs, hk, hb => by
    have h1 := balB_iff.1 (h.stas s hs).1
    omega
  | k + 1, s, hs, hk, hb => by
    obtain ⟨D, d1, d2⟩ := (h.stas s hs).2.2
    obtain ⟨d, hd, hd'⟩ := d1.meet (by omega) (h.maj hc)
    obtain ⟨v, v1, ⟨v2, v3⟩, v4⟩ := cntV_mem.1 hd'
    obtain ⟨p, p1, p2, p3, p4⟩ := d2 d hd
    have hcs := h.cpos hn hc
    have hcb := balB_iff.1 (h.stas c hcs).1
    have q1 := (h.prov p p1).2 v v1 (by rw [v4, p3]) (by omega)
    rcases p4 with p4 | ⟨q, r1, r2, r3, r4, r5⟩
    · omega
    · rcases (h.prov q r1).1 with ⟨e, _⟩ | e
      · omega
      · have hq := (h.vots _ e).2.1
        have hlt := (h.pros q r1).2.2.2.1.2
        simp only at hq
        by_cases he : q.v = c.b
        · have := dist_eq h.dist hq hcs he
          rw [← r3, ← this]
        · rw [← r3]
          exact Inv.later h hn hc k ⟨q.v, q.x⟩ hq (by simp only; omega) (by simp only; omega)
theorem Inv.one {n : Int} {R : Rnd} (h : Inv n R) (hn : 1 ≤ n) {c d : Sta} (hc : majB n R.vot c = true) (hd : majB n R.vot d = true) : c.x = d.x := by
  have h1 := h.cpos hn hc
  have h2 := h.cpos hn hd
  rcases Int.lt_trichotomy c.b d.b with q | q | q
  · exact (h.later hn hc d.b.toNat d h2 (by omega) q).symm
  · rw [dist_eq h.dist h1 h2 q]
  · exact h.later hn hd c.b.toNat c h1 (by omega) q
def seenV (vs : List Vot) : List Sta := vs.foldl (fun S v => if (⟨v.b, v.x⟩ : Sta) ∈ S then S else S ++ [⟨v.b, v.x⟩]) []
theorem seenV_snoc (vs : List Vot) (v : Vot) : seenV (vs ++ [v]) = if (⟨v.b,v.x⟩ : Sta) ∈ seenV vs then seenV vs else seenV vs ++ [⟨v.b,v.x⟩] := by unfold seenV;rw [List.foldl_append];rfl
theorem seenV_mem {s : Sta} {vs : List Vot} : s ∈ seenV vs ↔ ∃ v ∈ vs, v.b = s.b ∧ v.x = s.x := by
  induction vs using snocInd with
  | nil => simp [seenV]
  | append_singleton vs w ih =>
    rw [seenV_snoc]
    have e : (⟨w.b, w.x⟩ : Sta) = s ↔ w.b = s.b ∧ w.x = s.x := by cases s; simp
    split
    · rename_i hm
      rw [ih]
      constructor
      · rintro ⟨v, a, b⟩; exact ⟨v, List.mem_append_left _ a, b⟩
      · rintro ⟨v, a, b⟩
        rcases List.mem_append.1 a with a | a
        · exact ⟨v, a, b⟩
        · simp at a; subst a
          rw [← ih]; rw [← e] at b; rw [← b]; exact hm
    · rw [List.mem_append, ih, List.mem_singleton]
      constructor
      · rintro (⟨v, a, b⟩ | rfl)
        · exact ⟨v, List.mem_append_left _ a, b⟩
        · exact ⟨w, by simp, rfl, rfl⟩
      · rintro ⟨v, a, b⟩
        rcases List.mem_append.1 a with a | a
        · exact .inl ⟨v, a, b⟩
        · simp at a; subst a
          exact .inr (e.2 b).symm
def outV (n : Int) (vs : List Vot) : List Sta := (seenV vs).filter (majB n vs)
theorem Inv.rises {n : Int} {R : Rnd} (h : Inv n R) (hn : 1 ≤ n) : (outV n R.vot).Pairwise (fun s t => s.b < t.b) := by
  have main : ∀ A B, R.vot = A ++ B → ((seenV A).filter (majB n R.vot)).Pairwise (fun s t => s.b < t.b) := by
    intro A
    induction A using snocInd with
    | nil => intro B _; simp [seenV]
    | append_singleton A w ih =>
      intro B hB
      have ih' := ih (w :: B) (by simpa using hB)
      rw [seenV_snoc]
      split
      · exact ih'
      · rename_i hnew
        rw [List.filter_append, List.pairwise_append]
        refine ⟨ih', ?_, fun s hs t ht => ?_⟩
        · exact List.Pairwise.filter _ (by simp)
        · rw [List.mem_filter] at hs ht
          obtain ⟨ht1, ht2⟩ := ht
          simp only [List.mem_singleton] at ht1
          subst ht1
          obtain ⟨hs1, hs2⟩ := hs
          have c1 := h.cpos hn hs2
          have c2 := h.cpos hn ht2
          rcases Int.lt_trichotomy s.b w.b with q | q | q
          · exact q
          · exfalso
            have := dist_eq h.dist c1 c2 q
            rw [this] at hs1
            exact hnew hs1
          · exfalso
            obtain ⟨v, v1, v2, v3⟩ := seenV_mem.1 hs1
            obtain ⟨A1, A2, rfl⟩ := List.append_of_mem v1
            obtain ⟨D, d1, d2⟩ := h.ahead A1 v (A2 ++ w :: B) (by rw [hB]; simp)
            obtain ⟨d, hd, hd'⟩ := d1.meet (by omega) (h.maj ht2)
            obtain ⟨u, u1, ⟨u2, u3⟩, u4⟩ := cntV_mem.1 hd'
            have : u ∈ A1 := by
              rw [hB] at u1
              simp only [List.append_assoc, List.mem_append, List.cons_append] at u1
              rcases u1 with u1 | u1
              · exact u1
              · exfalso
                have := (d2 d hd).2 u (by simpa using u1) u4
                simp only at u2
                omega
            refine hnew (seenV_mem.2 ⟨u, ?_, u2, u3⟩)
            simp [this]
  exact main R.vot [] (by simp)
def chosenR (n : Int) (vs : List Vot) : List Sta × Int := if (1 ≤ n ∧ n ≤ 8) ∧ vs.all (fun v => decide (0 ≤ v.d) && decide (v.d < n) && balB v.b && v.x.ok) = true then (outV n vs,0) else ([],1)
theorem Inv.chosen {n : Int} {R : Rnd} (h : Inv n R) (hn : 1 ≤ n ∧ n ≤ 8) : chosenR n R.vot = (outV n R.vot, 0) := by
  have hall : R.vot.all (fun v => decide (0 ≤ v.d) && decide (v.d < n) && balB v.b && v.x.ok) = true := by
    rw [List.all_eq_true]
    intro v hv
    obtain ⟨v1, v2, v3⟩ := h.vots v hv
    obtain ⟨s1, s2, _⟩ := h.stas _ v2
    simp only [Bool.and_eq_true, decide_eq_true_eq]
    exact ⟨⟨v1, s1⟩, s2⟩
  unfold chosenR
  rw [if_pos ⟨hn, hall⟩]
theorem outV_mem {n : Int} {vs : List Vot} {s : Sta} (hn : 0 ≤ n) : s ∈ outV n vs ↔ majB n vs s = true := by
  unfold outV
  rw [List.mem_filter]
  refine ⟨fun h => h.2, fun h => ⟨?_, h⟩⟩
  have h' : n < 2 * ((cntV s vs []).length : Int) := by simpa [majB] using h
  match hc : cntV s vs [] with
  | [] => rw [hc] at h'; simp at h'; omega
  | d :: D =>
    obtain ⟨v, v1, v2, _⟩ := cntV_mem.1 (by rw [hc]; simp : d ∈ cntV s vs [])
    exact seenV_mem.2 ⟨v, v1, v2⟩
end Go.Proofs.Ytgljhmnmmaclaaa.Q
