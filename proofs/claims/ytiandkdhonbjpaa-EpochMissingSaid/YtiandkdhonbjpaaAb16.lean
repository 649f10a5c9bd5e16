/-
  Regions that draw their order: the plan's check, and the rules for the walk.
-/
import Derived.Test.YtiandkdhonbjpaaAb15
namespace Go.Ab

def memN : List Nat → Nat → Bool
  | [], _ => false
  | x :: xs, y => cond (Nat.beq x y) true (memN xs y)

theorem memN_mem : ∀ {l : List Nat} {x : Nat}, memN l x = true ↔ x ∈ l
  | [], x => by simp [memN]
  | y :: ys, x => by
    unfold memN
    cases h : Nat.beq y x with
    | true => simp [Nat.eq_of_beq_eq_true h]
    | false =>
      have : y ≠ x := fun e => by subst e; rw [Nat.beq_refl] at h; cases h
      simp only [cond_false, List.mem_cons]
      rw [memN_mem]
      exact ⟨.inr, fun h => h.resolve_left fun e => this e.symm⟩

def allN : Nat → (Nat → Bool) → Bool
  | 0, _ => true
  | m + 1, f => f m && allN m f

theorem allN_spec {f : Nat → Bool} : ∀ {m : Nat}, allN m f = true → ∀ i, i < m → f i = true
  | 0, _, i, hi => by omega
  | m + 1, h, i, hi => by
    simp only [allN, Bool.and_eq_true] at h
    by_cases e : i = m
    · rw [e]; exact h.1
    · exact allN_spec h.2 i (by omega)

def allL : List Nat → (Nat → Bool) → Bool
  | [], _ => true
  | x :: xs, f => f x && allL xs f

theorem allL_spec {f : Nat → Bool} : ∀ {l : List Nat}, allL l f = true → ∀ i ∈ l, f i = true
  | [], _, i, hi => by cases hi
  | x :: xs, h, i, hi => by
    simp only [allL, Bool.and_eq_true] at h
    rcases List.mem_cons.1 hi with rfl | hm
    · exact h.1
    · exact allL_spec h.2 i hm

def nodupB : List Nat → Bool
  | [] => true
  | x :: xs => !memN xs x && nodupB xs

theorem nodupB_spec : ∀ {l : List Nat}, nodupB l = true → l.Nodup
  | [], _ => List.nodup_nil
  | x :: xs, h => by
    simp only [nodupB, Bool.and_eq_true, Bool.not_eq_true'] at h
    refine List.nodup_cons.2 ⟨fun hm => ?_, nodupB_spec h.2⟩
    rw [memN_mem.2 hm] at h
    cases h.1

/-- A plan with what is ordered before each. -/
abbrev PlanL := List (Nat × List Nat × List Nat)
def PlanL.pl (p : PlanL) : List (Nat × List Nat) := p.map fun q => (q.1, q.2.2)

def ancOf : PlanL → Nat → List Nat
  | [], _ => []
  | (k, as, _) :: r, i => cond (Nat.beq k i) as (ancOf r i)

theorem ancOf_mem : ∀ {p : PlanL} {i j : Nat}, j ∈ ancOf p i → ∃ as rs, (i, as, rs) ∈ p ∧ j ∈ as
  | [], i, j, h => by cases h
  | (k, as, rs) :: r, i, j, h => by
    unfold ancOf at h
    cases hb : Nat.beq k i with
    | true =>
      rw [hb] at h
      have := Nat.eq_of_beq_eq_true hb
      subst this
      exact ⟨as, rs, by simp, h⟩
    | false =>
      rw [hb] at h
      obtain ⟨as', rs', h1, h2⟩ := ancOf_mem (p := r) h
      exact ⟨as', rs', List.mem_cons_of_mem _ h1, h2⟩

/-- Along the plan: each one's edges lead to what was before, and what is told to be ordered before it is. -/
def linB (l : List Oper) : PlanL → PlanL → Bool
  | _, [] => true
  | before, (i, as, rs) :: rest =>
    (match nthOp l i with
      | some o => allL (edgesOf o) (fun e => memN (before.map (·.1)) e) && allL as (fun j => memN (edgesOf o) j || !allL (edgesOf o) (fun e => !memN (ancOf before e) j))
      | none => false) && linB l ((i, as, rs) :: before) rest

def dstIs (l : List Oper) (i : Nat) : Option Nat := match nthOp l i with | some o => o.dst | none => none

def planB (l : List Oper) (p : PlanL) : Bool :=
  nodupB (p.map (·.1)) && allL (p.map (·.1)) (fun i => Nat.blt i l.length) && allN l.length (fun i => memN (p.map (·.1)) i) && linB l [] p &&
  allN l.length (fun i => allN l.length fun j => match dstIs l i, dstIs l j with | some d, some e => Nat.beq i j || !Nat.beq d e | _, _ => true) &&
  allN l.length (fun i => match nthOp l i with
    | some oi => allN l.length fun j => match dstIs l j with | some d => !memN (looksL l oi) d || memN (ancOf p i) j | none => true
    | none => true) &&
  allN p.length (fun k' => allN k' fun k => match p[k]?, p[k']? with
    | some (a, _, _), some (b, _, rb) => (match nthOp l a, nthOp l b with
      | some oa, some ob => memN (ancOf p b) a || cond (isLoud ob) (!isLoud oa && memN rb a) (!isLoud oa)
      | _, _ => true)
    | _, _ => true)

theorem linB_spec {l : List Oper} : ∀ {rest before : PlanL}, (∀ i j, j ∈ ancOf before i → Anc l j i) → linB l before rest = true →
    (∀ (k i : Nat) (as rs : List Nat), rest[k]? = some (i, as, rs) → ∃ o, l[i]? = some o ∧ (∀ e ∈ edgesOf o, e ∈ before.map (·.1) ∨ ∃ (k' : Nat) (as' rs' : List Nat), k' < k ∧ rest[k']? = some (e, as', rs')) ∧ ∀ j ∈ as, Anc l j i)
  | [], _, _, _, k, i, as, rs, h => by simp at h
  | (i0, as0, rs0) :: rest, before, hb, h, k, i, as, rs, hk => by
    unfold linB at h
    simp only [Bool.and_eq_true] at h
    obtain ⟨h1, h2⟩ := h
    split at h1
    case h_2 => cases h1
    rename_i o ho
    simp only [Bool.and_eq_true] at h1
    obtain ⟨h3, h4⟩ := h1
    rw [nthOp_eq] at ho
    have hanc0 : ∀ j ∈ as0, Anc l j i0 := by
      intro j hj
      have := allL_spec h4 j hj
      simp only [Bool.or_eq_true, Bool.not_eq_true'] at this
      rcases this with h5 | h5
      · exact .one ho (memN_mem.1 h5)
      · by_cases hex : ∃ e ∈ edgesOf o, j ∈ ancOf before e
        · obtain ⟨e, he, hje⟩ := hex
          exact .step ho he (hb e j hje)
        · exfalso
          have key : ∀ es : List Nat, (∀ e ∈ es, j ∉ ancOf before e) → allL es (fun e => !memN (ancOf before e) j) = true := by
            intro es
            induction es with
            | nil => intro _; rfl
            | cons e es ih =>
              intro hq
              simp only [allL, Bool.and_eq_true, Bool.not_eq_true']
              refine ⟨?_, ih fun e' he' => hq e' (List.mem_cons_of_mem _ he')⟩
              cases hm : memN (ancOf before e) j with
              | false => rfl
              | true => exact (hq e (by simp) (memN_mem.1 hm)).elim
          rw [key _ fun e he hj' => hex ⟨e, he, hj'⟩] at h5
          cases h5
    cases k with
    | zero =>
      simp only [List.getElem?_cons_zero, Option.some.injEq, Prod.mk.injEq] at hk
      obtain ⟨rfl, rfl, rfl⟩ := hk
      exact ⟨o, ho, fun e he => .inl (memN_mem.1 (allL_spec h3 e he)), hanc0⟩
    | succ k =>
      simp only [List.getElem?_cons_succ] at hk
      have hb' : ∀ i j, j ∈ ancOf ((i0, as0, rs0) :: before) i → Anc l j i := by
        intro i j hj
        unfold ancOf at hj
        cases hq : Nat.beq i0 i with
        | true =>
          rw [hq] at hj
          have := Nat.eq_of_beq_eq_true hq
          subst this
          exact hanc0 j hj
        | false => rw [hq] at hj; exact hb i j hj
      obtain ⟨o', ho', he', ha'⟩ := linB_spec hb' h2 k i as rs hk
      refine ⟨o', ho', fun e he => ?_, ha'⟩
      rcases he' e he with h5 | ⟨k', as', rs', hlt, h6⟩
      · simp only [List.map_cons, List.mem_cons] at h5
        rcases h5 with rfl | h5
        · exact .inr ⟨0, as0, rs0, by omega, by simp⟩
        · exact .inl h5
      · exact .inr ⟨k' + 1, as', rs', by omega, by simpa using h6⟩

theorem planB_spec {l : List Oper} {p : PlanL} (h : planB l p = true) : Plan l p.pl := by
  unfold planB at h
  simp only [Bool.and_eq_true] at h
  obtain ⟨⟨⟨⟨⟨⟨h1, h2⟩, h3⟩, h4⟩, h5⟩, h6⟩, h7⟩ := h
  have hm : p.pl.map (·.1) = p.map (·.1) := by simp [PlanL.pl, Function.comp_def]
  have hlin := linB_spec (before := []) (fun i j hj => by cases hj) h4
  have hget : ∀ {k i : Nat} {rs : List Nat}, p.pl[k]? = some (i, rs) → ∃ as, p[k]? = some (i, as, rs) := by
    intro k i rs hk
    simp only [PlanL.pl, List.getElem?_map] at hk
    cases hq : p[k]? with
    | none => rw [hq] at hk; simp at hk
    | some q =>
      rw [hq] at hk
      simp only [Option.map_some, Option.some.injEq, Prod.mk.injEq] at hk
      obtain ⟨rfl, rfl⟩ := hk
      exact ⟨q.2.1, rfl⟩
  have hanc : ∀ {i j : Nat}, j ∈ ancOf p i → Anc l j i := by
    intro i j hj
    obtain ⟨as, rs, h8, h9⟩ := ancOf_mem hj
    obtain ⟨k, hk⟩ := List.mem_iff_getElem?.1 h8
    obtain ⟨_, _, _, h10⟩ := hlin k i as rs hk
    exact h10 j h9
  have hlt : ∀ {i : Nat} {o : Oper}, l[i]? = some o → i < l.length := fun h => (List.getElem?_eq_some_iff.1 h).1
  refine ⟨by rw [hm]; exact nodupB_spec h1, fun i => ⟨fun hi => by rw [hm]; exact memN_mem.1 (allN_spec h3 i hi), fun hi => by rw [hm] at hi; simpa [Nat.blt_eq] using allL_spec h2 i hi⟩, fun k i rs o e hk ho he => ?_, fun i j oi oj d hi hj hdi hdj => ?_, fun i j oi oj d hi hj hd hl => ?_,
    fun k k' a b ra rb oa ob hkk hk hk' ha hb => ?_⟩
  · obtain ⟨as, hk2⟩ := hget hk
    obtain ⟨o', ho', he', _⟩ := hlin k i as rs hk2
    rw [ho] at ho'
    simp only [Option.some.injEq] at ho'
    subst ho'
    rcases he' e he with h8 | ⟨k', as', rs', h8, h9⟩
    · cases h8
    · exact ⟨k', rs', h8, by simp [PlanL.pl, h9]⟩
  · have := allN_spec (allN_spec h5 i (hlt hi)) j (hlt hj)
    simp only [dstIs, nthOp_eq, hi, hj, hdi, hdj, Bool.or_eq_true, Bool.not_eq_true'] at this
    rcases this with h8 | h8
    · exact Nat.eq_of_beq_eq_true h8
    · rw [Nat.beq_refl] at h8; cases h8
  · have := allN_spec h6 i (hlt hi)
    simp only [nthOp_eq, hi] at this
    have := allN_spec this j (hlt hj)
    simp only [dstIs, nthOp_eq, hj, hd, Bool.or_eq_true, Bool.not_eq_true'] at this
    rcases this with h8 | h8
    · rw [memN_mem.2 hl] at h8; cases h8
    · exact hanc (memN_mem.1 h8)
  · obtain ⟨as, hk2⟩ := hget hk
    obtain ⟨bs, hk2'⟩ := hget hk'
    have := allN_spec (allN_spec h7 k' ((List.getElem?_eq_some_iff.1 hk2').1)) k hkk
    simp only [hk2, hk2', nthOp_eq, ha, hb, Bool.or_eq_true] at this
    rcases this with h8 | h8
    · exact ⟨fun _ => .inl (hanc (memN_mem.1 h8)), fun _ _ => hanc (memN_mem.1 h8)⟩
    · cases hlb : isLoud ob with
      | true =>
        rw [hlb] at h8
        simp only [cond_true, Bool.and_eq_true, Bool.not_eq_true'] at h8
        exact ⟨fun _ => .inr ⟨h8.1, memN_mem.1 h8.2⟩, fun h => by cases h⟩
      | false =>
        rw [hlb] at h8
        simp only [cond_false, Bool.not_eq_true'] at h8
        exact ⟨fun h => Bool.noConfusion h, fun _ h => by rw [h8] at h; cases h⟩

theorem getD_rep (m j : Nat) : (Array.replicate m false).getD j false = false := by
  simp only [Array.getD]
  split <;> simp

section
variable {P : Program} {Γ : Tab} {n : Nat}

theorem Rel.drew {ρ0 : Rho} {W0 : World} {st : St} {a : Act} {w : World} (h : Rel ρ0 W0 st a w) : Rel ρ0 W0 st a { w with drawn := w.drawn + 1 } := by
  obtain ⟨ρ, h1, h2, h3, h4⟩ := h
  exact ⟨ρ, h1.drewN 1, h2, RvL.mono ((Step.refl ρ w).drewN 1) _ h3, h4.drewN 1⟩

/-- A region that draws its order, by a walk along a plan. -/
theorem T_draw {id : Nat} {l : List Oper} {Q : Exit → St → Prop} {st : St} (hΓ : TabOk P Γ) (hm : P.follows .mixedOrders = true) (p : PlanL) (hB : planB l p = true) (h : DC P Γ n l (Q .normal) p.pl st) : T P n (.region id l.toArray true) Q st := by
  intro ρ0 W0 a w hn hR
  obtain ⟨S, V, h0, hK, hc⟩ := DC.chain hΓ h
  refine wp_region_any hm ?_
  have hP := planB_spec hB
  refine any_order hP hc hn (fun a' w' hr => ⟨_, hK, hr⟩) _ _ a _ 0 st.env (by simp) (by simp) (fun i o e hi => ?_) (Nat.zero_le _) (fun k i rs o _ _ _ => ?_) ⟨by rw [h0], fun k i rs o d _ _ _ hi => ?_, fun t _ => by rw [h0]⟩ ?_
  · exfalso; unfold lst at hi; rw [getD_rep] at hi; cases hi
  · constructor
    · intro hi; exfalso; unfold lst at hi; rw [getD_rep] at hi; cases hi
    · intro hi; omega
  · exfalso; unfold lst at hi; rw [getD_rep] at hi; cases hi
  · rw [h0]; exact hR.drew

/-- As far as the next call. -/
def evD (Γ : Tab) (ops : List Oper) : List (Nat × List Nat) → St → Option (List (Nat × List Nat) × St × Prop)
  | [], st => some ([], st, True)
  | (i, rs) :: rest, st =>
    match nthOp ops i with
    | none => none
    | some o =>
      match isCall o.op with
      | true => some ((i, rs) :: rest, st, True)
      | false =>
        match evV Γ ops st o with
        | none => none
        | some (v, σ', C) =>
          match isLoud o with
          | false =>
            match evD Γ ops rest ⟨setE st.env o.dst v, st.σ⟩ with
            | some (r, st', C') => some (r, st', C ∧ C')
            | none => none
          | true =>
            match evD Γ ops rest ⟨setE st.env o.dst v, σ'⟩ with
            | some (r, st', C') => some (r, st', C ∧ retroOk Γ ops ⟨setE st.env o.dst v, σ'⟩ rs ∧ C')
            | none => none

theorem evV_quiet {ops : List Oper} {st : St} {o : Oper} {v : AV} {σ' : List AObj} {C : Prop} (hl : isLoud o = false) (h : evV Γ ops st o = some (v, σ', C)) : σ' = st.σ := by
  unfold evV at h
  cases hb : bsV o.op with
  | some q =>
    obtain ⟨t, len, ps⟩ := q
    rw [hb] at h
    simp only [] at h
    split at h
    · split at h
      · simp only [Option.some.injEq, Prod.mk.injEq] at h
        exact h.2.1.symm
      · cases h
    · cases h
  | none =>
    rw [hb] at h
    simp only [] at h
    have hl' : loud o.op = false := by
      unfold isLoud at hl
      rw [hb] at hl
      simp only [Option.isNone_none, Bool.and_true, Bool.or_eq_false_iff] at hl
      exact hl.2
    have hev : ∀ {g : Bool} {v' : AV} {σ'' : List AObj} {C' : Prop}, ev1 Γ st g o.op = some (v', σ'', C') → σ'' = st.σ := by
      intro g v' σ'' C' he
      unfold ev1 at he
      split at he
      · exact (pu_some he).2
      · split at he
        · rename_i hq
          simp only [Option.some.injEq, Prod.mk.injEq] at he
          obtain ⟨rfl, rfl, rfl⟩ := he
          exact eOp_quiet hl' hq
        · cases he
    unfold evV0 at h
    split at h
    · cases h
    · exact hev h
    · rw [hl'] at h
      simp only [] at h
      split at h
      · simp only [Option.some.injEq, Prod.mk.injEq] at h
        exact h.2.1.symm
      · cases h

theorem evD_sound (hΓ : TabOk P Γ) {ops : List Oper} {K : St → Prop} : ∀ {pl r : List (Nat × List Nat)} {st st' : St} {C : Prop}, evD Γ ops pl st = some (r, st', C) → C → DC P Γ n ops K r st' → DC P Γ n ops K pl st
  | [], r, st, st', C, h, _, k => by
    simp only [evD, Option.some.injEq, Prod.mk.injEq] at h
    obtain ⟨rfl, rfl, _⟩ := h
    exact k
  | (i, rs) :: rest, r, st, st', C, h, hC, k => by
    unfold evD at h
    split at h
    · cases h
    · rename_i o ho
      split at h
      · simp only [Option.some.injEq, Prod.mk.injEq] at h
        obtain ⟨rfl, rfl, _⟩ := h
        exact k
      · split at h
        · cases h
        · rename_i v σ' C1 he
          split at h
          · rename_i hl
            split at h
            · rename_i r2 st2 C2 hr
              simp only [Option.some.injEq, Prod.mk.injEq] at h
              obtain ⟨rfl, rfl, rfl⟩ := h
              have := evV_quiet hl he
              subst this
              exact ⟨o, v, st.σ, ho, Does.of_ev hΓ he hC.1, fun _ => rfl, .inl rfl, evD_sound hΓ hr hC.2 k⟩
            · cases h
          · rename_i hl
            split at h
            · rename_i r2 st2 C2 hr
              simp only [Option.some.injEq, Prod.mk.injEq] at h
              obtain ⟨rfl, rfl, rfl⟩ := h
              exact ⟨o, v, σ', ho, Does.of_ev hΓ he hC.1, (fun hq => by rw [hl] at hq; cases hq), .inr hC.2.1, evD_sound hΓ hr hC.2.2 k⟩
            · cases h

/-- What evD gives, as a goal. -/
def dcGoal (P : Program) (Γ : Tab) (n : Nat) (ops : List Oper) (K : St → Prop) : Option (List (Nat × List Nat) × St × Prop) → Prop
  | some ([], st, C) => C ∧ K st
  | some (q :: r, st, C) => C ∧ DC P Γ n ops K (q :: r) st
  | none => False

theorem DC_ev (hΓ : TabOk P Γ) {ops : List Oper} {pl : List (Nat × List Nat)} {K : St → Prop} {st : St} (h : dcGoal P Γ n ops K (evD Γ ops pl st)) : DC P Γ n ops K pl st := by
  cases he : evD Γ ops pl st with
  | none => rw [he] at h; exact h.elim
  | some q =>
    obtain ⟨r, st', C⟩ := q
    rw [he] at h
    cases r with
    | nil => exact evD_sound hΓ he h.1 h.2
    | cons q r => exact evD_sound hΓ he h.1 h.2

theorem T_seq_draw {id : Nat} {l : List Oper} {y : Code} {Q : Exit → St → Prop} {st : St} (hΓ : TabOk P Γ) (hm : P.follows .mixedOrders = true) (p : PlanL) (hB : planB l p = true) (h : ∀ K : St → Prop, (∀ st', T P n y Q st' → K st') → dcGoal P Γ n l K (evD Γ l p.pl st)) :
    T P n (.seq (.region id l.toArray true) y) Q st :=
  T_seq (T_draw (P := P) (n := n) hΓ hm p hB (DC_ev hΓ (h (T P n y Q) fun _ h => h)))

theorem T_last_draw {id : Nat} {l : List Oper} {Q : Exit → St → Prop} {st : St} (hΓ : TabOk P Γ) (hm : P.follows .mixedOrders = true) (p : PlanL) (hB : planB l p = true) (h : ∀ K : St → Prop, (∀ st', Q .normal st' → K st') → dcGoal P Γ n l K (evD Γ l p.pl st)) :
    T P n (.region id l.toArray true) Q st :=
  T_draw (P := P) (n := n) hΓ hm p hB (DC_ev hΓ (h (Q .normal) fun _ h => h))

/-- A call in such a region: what it yields and makes of the objects must be told. -/
def dCall (P : Program) (σ : List AObj) (N : AV → List AObj → Prop) (ca : Option (FuncId × List AV × Prop)) : Option (Option Bool) → Prop
  | some none => ∃ v σ1, callGoal P σ (fun v' σ' => v' = v ∧ σ' = σ1) ca ∧ N v σ1
  | some (some g) => ∃ v, (g = true → callGoal P σ (fun v' σ' => v' = v ∧ σ' = σ) ca) ∧ N (.gd g v) σ
  | none => False

theorem DC_call {ops : List Oper} {i : Nat} {rs : List Nat} {rest : List (Nat × List Nat)} {K : St → Prop} {o : Oper} {c : Call} {st : St} (ho : nthOp ops i = some o) (hc : opCall o.op = some c) (hval : isCall o.op = true)
    (h : ∀ N : AV → List AObj → Prop, (∀ v σ', (σ' = st.σ ∨ retroOk Γ ops ⟨setE st.env o.dst v, σ'⟩ rs) → DC P Γ n ops K rest ⟨setE st.env o.dst v, σ'⟩ → N v σ') → dCall P st.σ N (callA st.env c) (guardOf ops st.env o.guard)) : DC P Γ n ops K ((i, rs) :: rest) st := by
  have h' := h (fun v σ' => (σ' = st.σ ∨ retroOk Γ ops ⟨setE st.env o.dst v, σ'⟩ rs) ∧ DC P Γ n ops K rest ⟨setE st.env o.dst v, σ'⟩) fun _ _ h1 h2 => ⟨h1, h2⟩
  have hloud : isLoud o = true := by unfold isLoud; rw [hval]; rfl
  cases hg : guardOf ops st.env o.guard with
  | none => rw [hg] at h'; exact h'.elim
  | some q =>
    rw [hg] at h'
    cases q with
    | none =>
      obtain ⟨v, σ1, h1, h2, h3⟩ := h'
      have hgn : o.guard = none := by
        cases hh : o.guard with
        | none => rfl
        | some q =>
          rw [hh] at hg
          obtain ⟨j, want⟩ := q
          simp only [guardOf] at hg
          split at hg
          · split at hg
            · split at hg <;> simp at hg
            · cases hg
          · cases hg
      exact ⟨o, v, σ1, ho, Does.of_call hc hgn h1, (fun hq => by rw [hloud] at hq; cases hq), h2, h3⟩
    | some g =>
      obtain ⟨v, h1, h2, h3⟩ := h'
      exact ⟨o, .gd g v, st.σ, ho, Does.of_callG hc hg h1, fun _ => rfl, .inl rfl, h3⟩

theorem dCall_look {σ : List AObj} {N : AV → List AObj → Prop} {k : FuncId} {args args0 : List AV} {C : Prop} {v : AV} (hC : C) (hc : CvL σ args args0) (h : Look P k args0 v) (hn : N v σ) : dCall P σ N (some (k, args, C)) (some none) :=
  ⟨v, σ, callGoal_look hC hc h ⟨rfl, rfl⟩, hn⟩

theorem dCall_lookG {σ : List AObj} {N : AV → List AObj → Prop} {g : Bool} {k : FuncId} {args args0 : List AV} {C : Prop} {v : AV} (h : g = true → C ∧ CvL σ args args0 ∧ Look P k args0 v) (hn : N (.gd g v) σ) : dCall P σ N (some (k, args, C)) (some (some g)) :=
  ⟨v, fun hg => callGoal_look (h hg).1 (h hg).2.1 (h hg).2.2 ⟨rfl, rfl⟩, hn⟩

theorem dCall_make {σ σ1 : List AObj} {N : AV → List AObj → Prop} {k : FuncId} {args args0 : List AV} {C : Prop} {v : AV} (hC : C) (hc : CvL σ args args0) (h : Makes P k args0 v σ1) (hn : N (sh σ.length v) (σ ++ σ1)) : dCall P σ N (some (k, args, C)) (some none) :=
  ⟨sh σ.length v, σ ++ σ1, callGoal_make hC hc h ⟨rfl, rfl⟩, hn⟩

theorem dCall_any {σ : List AObj} {N : AV → List AObj → Prop} {ca : Option (FuncId × List AV × Prop)} (v : AV) (σ1 : List AObj) (h : callGoal P σ (fun v' σ' => v' = v ∧ σ' = σ1) ca) (hn : N v σ1) : dCall P σ N ca (some none) := ⟨v, σ1, h, hn⟩

theorem dInl {σ' σ : List AObj} {q : Prop} (h : σ' = σ) : σ' = σ ∨ q := .inl h

/-- The walk goes on into the function that is called. -/
theorem callGoal_inline (hΓ : TabOk P Γ) {σ : List AObj} {next : AV → List AObj → Prop} {k : FuncId} {fn : Func} {c : Code} {args : List AV} {C : Prop} (hf : P.funcs[k]? = some fn) (hb : fn.body = some c) (hok : fnOk P k = true) (hC : C)
    (h : T P σ.length c (retQ Γ fn.results.toList next) ⟨args ++ List.replicate (fn.ntmps - args.length) .top, σ⟩) : callGoal P σ next (some (k, args, C)) :=
  ⟨hC, next, TC_of_T hΓ hf hb hok h, fun _ _ h => h⟩

attribute [go_sem] PlanL.pl isLoud bsV eBuildView evV0 evV retroOk evD dcGoal
end
end Go.Ab
