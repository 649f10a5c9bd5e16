/-
  Lists of operations with guards; regions; statements; loops; calls: the rules of the abstract walk.
-/
import Derived.Test.YtnomenmakhielaaAb9
namespace Go.Ab

def setN : List AV → Nat → AV → List AV
  | [], _, _ => []
  | _ :: xs, 0, v => v :: xs
  | x :: xs, n + 1, v => x :: setN xs n v

theorem setN_eq : ∀ (l : List AV) (n : Nat) (v : AV), setN l n v = l.set n v
  | [], _, _ => by simp [setN]
  | _ :: _, 0, _ => by simp [setN]
  | x :: xs, n + 1, v => by simp [setN, setN_eq xs n v]

def setE (env : List AV) (dst : Option Tmp) (v : AV) : List AV :=
  match dst with
  | some d => setN env d v
  | none => env

def nthOp : List Oper → Nat → Option Oper
  | [], _ => none
  | o :: _, 0 => some o
  | _ :: os, n + 1 => nthOp os n

theorem nthOp_eq : ∀ (l : List Oper) (i : Nat), nthOp l i = l[i]?
  | [], i => by simp [nthOp]
  | x :: xs, 0 => by simp [nthOp]
  | x :: xs, i + 1 => by simp [nthOp, nthOp_eq xs i]

def gb (want b : Bool) : Bool :=
  match want with
  | true => b
  | false => !b

/-- none: it cannot be told; some none: no guard; some (some g): it is carried out exactly if g. -/
def guardOf (ops : List Oper) (env : List AV) : Option (Nat × Bool) → Option (Option Bool)
  | none => some none
  | some (j, want) =>
    match nthOp ops j with
    | some o =>
      match o.dst with
      | some d =>
        match nth env d with
        | .imm (.bool b) => some (some (gb want b))
        | .gd g (.imm (.bool b)) => some (some (g && gb want b))
        | _ => none
      | none => none
    | none => none

def opsOf : Op → List Operand
  | .move x | .assign x | .box _ x | .load _ x | .nilCheck x | .unOp _ _ x | .convert _ _ x | .fieldAddr _ x _ | .field _ x _ | .extract x _ => [x]
  | .store _ a x => [a, x]
  | .build _ ps => ps.toList.map (·.2)
  | .buildSlice _ _ ps => ps.toList.map (·.2)
  | .binOp _ _ x y _ => [x, y]
  | .makeFunc _ f c => f.toList ++ c.toList
  | .makeSlice _ l c => [l, c]
  | .slice _ x lo hi mx => x :: (lo.toList ++ (hi.toList ++ mx.toList))
  | .indexAddr _ x i => [x, i]
  | .index _ x i => [x, i]
  | .makeMap _ x => x.toList
  | .lookup _ x i _ => [x, i]
  | .mapUpdate _ m x v => [m, x, v]
  | .insert _ m x v => [m, x, v]
  | .call c => c.args.toList
  | _ => []

def oblig (g : Bool) (env : List AV) : List Operand → Prop
  | [] => True
  | x :: xs => ug g (opd env x) ∧ oblig g env xs

def selA (c : Bool) : AV → AV → Option AV
  | .imm (.bool x), .imm (.bool y) => some (.imm (.bool (cond c x y)))
  | _, _ => none

def evPick (env : List AV) (g : Bool) (c a b : Operand) : Option (AV × Prop) :=
  match us (opd env c) with
  | .imm (.bool cb) =>
    match selA cb (us (opd env a)) (us (opd env b)) with
    | some v => some (v, ug g (opd env c) ∧ ug (g && cb) (opd env a) ∧ ug (g && !cb) (opd env b))
    | none => none
  | _ => none

def ev1 (Γ : Tab) (st : St) (g : Bool) : Op → Option (AV × List AObj × Prop)
  | .pick c a b => pu st.σ (evPick st.env g c a b)
  | op =>
    match eOp Γ st.σ (fun x => us (opd st.env x)) op with
    | some (v, σ', C) => some (v, σ', oblig g st.env (opsOf op) ∧ C)
    | none => none

def evG (Γ : Tab) (ops : List Oper) (st : St) (o : Oper) : Option (St × Prop) :=
  match guardOf ops st.env o.guard with
  | none => none
  | some none =>
    match ev1 Γ st true o.op with
    | some (v, σ', C) => some (⟨setE st.env o.dst v, σ'⟩, C)
    | none => none
  | some (some g) =>
    match loud o.op with
    | true =>
      match g with
      | true =>
        match ev1 Γ st true o.op with
        | some (v, σ', C) => some (⟨setE st.env o.dst v, σ'⟩, C)
        | none => none
      | false => some (⟨setE st.env o.dst (.imm undef), st.σ⟩, True)
    | false =>
      match ev1 Γ st g o.op with
      | some (v, _, C) => some (⟨setE st.env o.dst (.gd g v), st.σ⟩, g = true → C)
      | none => none

def isCall : Op → Bool
  | .call c => (match c.callee with | .builtin _ => false | _ => true)
  | _ => false

/-- As far as the next call. -/
def evL (Γ : Tab) (ops : List Oper) : List Oper → St → Option (List Oper × St × Prop)
  | [], st => some ([], st, True)
  | o :: rest, st =>
    match isCall o.op with
    | true => some (o :: rest, st, True)
    | false =>
      match evG Γ ops st o with
      | some (st', C) =>
        match evL Γ ops rest st' with
        | some (r, st'', C') => some (r, st'', C ∧ C')
        | none => none
      | none => none

/-- The concrete frame and world are such as the abstract state says, and nothing has turned since (ρ0, W0) but what is one's own. -/
def Rel (ρ0 : Rho) (W0 : World) (st : St) (a : Act) (w : World) : Prop :=
  ∃ ρ, Step ρ0 W0 ρ w ∧ a.defers = [] ∧ RvL ρ w st.env a.tmps.toList ∧ RH ρ w st.σ

def QC (Q : Exit → St → Prop) (ρ0 : Rho) (W0 : World) : Exit → Act → World → Prop := fun e a w => ∃ st, Q e st ∧ Rel ρ0 W0 st a w

def T (P : Program) (n : Nat) (c : Code) (Q : Exit → St → Prop) (st : St) : Prop :=
  ∀ (ρ0 : Rho) (W0 : World) (a : Act) (w : World), ρ0.length = n → Rel ρ0 W0 st a w → c.wp P (QC Q ρ0 W0) a w

def TO (P : Program) (n : Nat) (ops : List Oper) (l : List Oper) (K : St → Prop) (st : St) : Prop :=
  ∀ (ρ0 : Rho) (W0 : World) (a : Act) (w : World) (Q : Exit → Act → World → Prop), ρ0.length = n → Rel ρ0 W0 st a w → (∀ st' a' w', K st' → Rel ρ0 W0 st' a' w' → Q .normal a' w') → wpList P ops.toArray Q l a w

section
variable {P : Program} {Γ : Tab} {n : Nat}

theorem opdT_sound {ρ : Rho} {w : World} {env : List AV} {a : Act} (h : RvL ρ w env a.tmps.toList) (t : Nat) : Rv ρ w (opd env (.tmp t)) (a.eval (.tmp t)) := by
    simp only [opd, Act.eval]
    by_cases ht : t < env.length
    · obtain ⟨y, hy, hv⟩ := RvL.get h (nth_eq ht)
      have : a.tmps[t]? = some y := by simpa using hy
      simp [this, hv]
    · have key : ∀ (l : List AV) (i : Nat), l.length ≤ i → nth l i = .top := by
        intro l
        induction l with
        | nil => intro i _; rfl
        | cons x xs ih => intro i hi; cases i with | zero => simp at hi | succ i => exact ih i (by simpa using hi)
      rw [key env t (Nat.le_of_not_lt ht)]
      simp [Rv]
theorem opd_sound {ρ : Rho} {w : World} {env : List AV} {a : Act} (hG : Glob ρ w) (h : RvL ρ w env a.tmps.toList) (x : Operand) : Rv ρ w (opd env x) (a.eval x) := by
  cases x with
  | tmp t => exact opdT_sound h t
  | const v => simp [opd, Rv, Act.eval]
  | global g =>
    simp only [opd, gA]
    split
    · rename_i k vs hg
      exact hG g k vs (gLook_mem hg)
    · simp [Rv]
  | func f => simp only [opd, Rv, Act.eval]; exact ⟨[], [], rfl, by simp [RvL], by simp [RvL]⟩

theorem us_sound {ρ : Rho} {w : World} {v : AV} {x : Value} {g : Bool} (hg : g = true) (hu : ug g v) (h : Rv ρ w v x) : Rv ρ w (us v) x := by
  cases v <;> simp only [us] <;> try exact h
  rename_i g0 v
  simp only [ug] at hu
  simp only [Rv, hu hg, if_true] at h
  exact h

theorem oblig_mem {g : Bool} {env : List AV} : ∀ {xs : List Operand}, oblig g env xs → ∀ x ∈ xs, ug g (opd env x)
  | [], _, x, hx => by cases hx
  | y :: ys, h, x, hx => by
    simp only [oblig] at h
    cases hx with
    | head => exact h.1
    | tail _ hm => exact oblig_mem h.2 x hm

theorem opsOf_mem {σ σ' : List AObj} {r : Operand → AV} {op : Op} {v : AV} {C : Prop} (h : eOp Γ σ r op = some (v, σ', C)) : ∀ x ∈ op.operands, x ∈ opsOf op := by
  intro x hx
  cases op <;> simp only [eOp] at h <;> (try (cases h; done)) <;> simp only [Op.operands, opsOf] at hx ⊢ <;> (try (first | exact hx | (simp at hx; done) | simpa using hx))
  case call c =>
    split at h
    · rename_i b hb
      simpa [Call.operands, hb] using hx
    · cases h

theorem ev1_sound (hΓ : TabOk P Γ) {ρ : Rho} {w : World} {st : St} {a : Act} (henv : RvL ρ w st.env a.tmps.toList) (hH : RH ρ w st.σ) {g : Bool} (hg : g = true) {o : Oper} {v : AV} {σ' : List AObj} {C : Prop}
    (h : ev1 Γ st g o.op = some (v, σ', C)) (hC : C) : OpDoes P ρ w v σ' (execOp a.eval o) := by
  unfold ev1 at h
  split at h
  · rename_i c x y hop
    obtain ⟨hq, rfl⟩ := pu_some h
    unfold evPick at hq
    split at hq
    · rename_i cb hcb
      split at hq
      · rename_i v' hsel
        simp only [Option.some.injEq, Prod.mk.injEq] at hq
        obtain ⟨rfl, rfl⟩ := hq
        obtain ⟨h1, h2, h3⟩ := hC
        have hc := us_sound hg h1 (opd_sound hH.glob henv c)
        rw [hcb] at hc
        simp only [Rv] at hc
        subst hg
        unfold execOp
        rw [hop]
        simp only [hc]
        unfold selA at hsel
        split at hsel
        · rename_i x' y' hx hy
          simp only [Option.some.injEq] at hsel
          subst hsel
          cases cb with
          | true =>
            have := us_sound (g := true) rfl (by simpa using h2) (opd_sound hH.glob henv x)
            rw [hx] at this
            simp only [Rv] at this
            exact ⟨.value (.bool x'), w, ρ, .bool x', by simp [asBool, this], .inl rfl, by simp [Rv], hH, Step.refl _ _⟩
          | false =>
            have := us_sound (g := true) rfl (by simpa using h3) (opd_sound hH.glob henv y)
            rw [hy] at this
            simp only [Rv] at this
            exact ⟨.value (.bool y'), w, ρ, .bool y', by simp [asBool, this], .inl rfl, by simp [Rv], hH, Step.refl _ _⟩
        · cases hsel
      · cases hq
    · cases hq
  · split at h
    · rename_i v' σ'' C' he
      simp only [Option.some.injEq, Prod.mk.injEq] at h
      obtain ⟨rfl, rfl, rfl⟩ := h
      exact eOp_sound hΓ hH he hC.2 a.eval fun x hx => us_sound hg (oblig_mem hC.1 x (opsOf_mem he x hx)) (opd_sound hH.glob henv x)
    · cases h

theorem put_sound {ρ : Rho} {w : World} {env : List AV} {a : Act} (h : RvL ρ w env a.tmps.toList) {v : AV} {x : Value} (hv : Rv ρ w v x) (dst : Option Tmp) : RvL ρ w (setE env dst v) (a.put dst x).tmps.toList := by
  cases dst with
  | none => exact h
  | some d =>
    simp only [setE, Act.put, setN_eq, Array.toList_setIfInBounds]
    exact RvL.set hv d h

theorem guardOf_sound {ρ : Rho} {w : World} {ops : List Oper} {env : List AV} {a : Act} (h : RvL ρ w env a.tmps.toList) {o : Oper} {q : Option Bool} (hq : guardOf ops env o.guard = some q) :
    Region.wanted o (yielded ops.toArray a.tmps) = q.getD true := by
  unfold guardOf at hq
  unfold Region.wanted
  split at hq
  · rename_i hg
    simp only [Option.some.injEq] at hq
    subst hq
    simp [hg]
  · rename_i j want hg
    rw [hg]
    simp only []
    split at hq
    · rename_i o' ho'
      split at hq
      · rename_i d hd
        have hy : yielded ops.toArray a.tmps j = match a.tmps[d]? with | some (.bool b) => some b | _ => none := by
          unfold yielded
          rw [nthOp_eq] at ho'
          simp [ho', hd]
          rfl
        have hx := opdT_sound h d
        simp only [opd, Act.eval] at hx
        have hlt : ∀ b : Bool, a.tmps.getD d undef = .bool b → a.tmps[d]? = some (.bool b) := by
          intro b hb
          cases hh : a.tmps[d]? with
          | none => simp [hh, undef] at hb
          | some z => simp [hh] at hb; rw [hb]
        split at hq
        · rename_i b hb
          simp only [Option.some.injEq] at hq
          subst hq
          rw [hb] at hx
          simp only [Rv] at hx
          rw [hy, hlt b hx]
          cases want <;> cases b <;> rfl
        · rename_i g b hb
          simp only [Option.some.injEq] at hq
          subst hq
          rw [hb] at hx
          simp only [Rv] at hx
          cases g with
          | true =>
            simp only [if_true] at hx
            rw [hy, hlt b hx]
            cases want <;> cases b <;> rfl
          | false =>
            simp only [Bool.false_eq_true, if_false] at hx
            rw [hy]
            cases hh : a.tmps[d]? with
            | none => rfl
            | some z =>
              simp [hh] at hx
              subst hx
              simp [undef]
        · cases hq
      · cases hq
    · cases hq

/-- One operation, whatever follows. -/
theorem evG_one (hΓ : TabOk P Γ) {ops : List Oper} {st st' : St} {o : Oper} {C : Prop} (h : evG Γ ops st o = some (st', C)) (hC : C) {ρ0 : Rho} {W0 : World} {a : Act} {w : World} (hR : Rel ρ0 W0 st a w)
    {Q : Exit → Act → World → Prop} {K : Act → World → Prop} (hK : ∀ a' w', Rel ρ0 W0 st' a' w' → K a' w') : if Region.wanted o (yielded ops.toArray a.tmps) then o.wp P a w K Q else K (a.put o.dst undef) w := by
  obtain ⟨ρ, hst, hdf, henv, hH⟩ := hR
  have run : ∀ {v : AV} {σ' : List AObj}, OpDoes P ρ w v σ' (execOp a.eval o) → st' = ⟨setE st.env o.dst v, σ'⟩ → o.wp P a w K Q := by
    intro v σ' hd hs
    obtain ⟨nx, w', ρ', x, h1, h2, h3, h4, h5⟩ := hd
    have hrel : Rel ρ0 W0 st' (a.put o.dst x) w' := by
      rw [hs]
      exact ⟨ρ', hst.trans h5, by cases o.dst <;> exact hdf, put_sound (RvL.mono h5 _ henv) h3 _, h4⟩
    unfold Oper.wp
    rw [h1]
    rcases h2 with rfl | ⟨rfl, rfl⟩
    · exact hK _ _ hrel
    · exact hK _ _ hrel
  have skip : ∀ {v : AV}, (Rv ρ w v undef) → st' = ⟨setE st.env o.dst v, st.σ⟩ → K (a.put o.dst undef) w := by
    intro v hv hs
    refine hK _ _ ?_
    rw [hs]
    exact ⟨ρ, hst, by cases o.dst <;> exact hdf, put_sound henv hv _, hH⟩
  unfold evG at h
  split at h
  · cases h
  · rename_i hg
    rw [guardOf_sound henv hg]
    simp only [Option.getD_none, if_true]
    split at h
    · rename_i v σ' C' he
      simp only [Option.some.injEq, Prod.mk.injEq] at h
      obtain ⟨rfl, rfl⟩ := h
      exact run (ev1_sound hΓ henv hH rfl he hC) rfl
    · cases h
  · rename_i g hg
    rw [guardOf_sound henv hg]
    simp only [Option.getD_some]
    split at h
    · split at h
      · simp only [if_true]
        split at h
        · rename_i v σ' C' he
          simp only [Option.some.injEq, Prod.mk.injEq] at h
          obtain ⟨rfl, rfl⟩ := h
          exact run (ev1_sound hΓ henv hH rfl he hC) rfl
        · cases h
      · simp only [Bool.false_eq_true, if_false]
        simp only [Option.some.injEq, Prod.mk.injEq] at h
        obtain ⟨rfl, rfl⟩ := h
        exact skip (v := .imm undef) (by simp [Rv]) rfl
    · rename_i hl
      split at h
      · rename_i v σ' C' he
        simp only [Option.some.injEq, Prod.mk.injEq] at h
        obtain ⟨rfl, rfl⟩ := h
        cases g with
        | true =>
          simp only [if_true]
          have hd := ev1_sound hΓ henv hH rfl he (hC rfl)
          have hσ : σ' = st.σ := by
            unfold ev1 at he
            split at he
            · exact (pu_some he).2
            · split at he
              · rename_i hq
                simp only [Option.some.injEq, Prod.mk.injEq] at he
                obtain ⟨rfl, rfl, rfl⟩ := he
                exact eOp_quiet hl hq
              · cases he
          subst hσ
          obtain ⟨nx, w', ρ', x, h1, h2, h3, h4, h5⟩ := hd
          exact run (v := .gd true v) ⟨nx, w', ρ', x, h1, h2, by simpa [Rv] using h3, h4, h5⟩ rfl
        | false =>
          simp only [Bool.false_eq_true, if_false]
          exact skip (v := .gd false v) (by simp [Rv]) rfl
      · cases h

theorem evG_sound (hΓ : TabOk P Γ) {ops : List Oper} {st st' : St} {o : Oper} {C : Prop} (h : evG Γ ops st o = some (st', C)) (hC : C) {ρ0 : Rho} {W0 : World} {a : Act} {w : World} (hR : Rel ρ0 W0 st a w)
    {Q : Exit → Act → World → Prop} {rest : List Oper} (next : ∀ a' w', Rel ρ0 W0 st' a' w' → wpList P ops.toArray Q rest a' w') : wpList P ops.toArray Q (o :: rest) a w :=
  wpList_step fun _ hK => evG_one hΓ h hC hR fun a' w' hr => hK _ _ (next a' w' hr)

theorem evL_sound (hΓ : TabOk P Γ) {ops : List Oper} {K : St → Prop} : ∀ {l r : List Oper} {st st' : St} {C : Prop}, evL Γ ops l st = some (r, st', C) → C → TO P n ops r K st' → TO P n ops l K st
  | [], r, st, st', C, h, _, k => by
    simp only [evL, Option.some.injEq, Prod.mk.injEq] at h
    obtain ⟨rfl, rfl, _⟩ := h
    exact k
  | o :: rest, r, st, st', C, h, hC, k => by
    unfold evL at h
    split at h
    · simp only [Option.some.injEq, Prod.mk.injEq] at h
      obtain ⟨rfl, rfl, _⟩ := h
      exact k
    · split at h
      · rename_i st1 C1 he
        split at h
        · rename_i r2 st2 C2 hl
          simp only [Option.some.injEq, Prod.mk.injEq] at h
          obtain ⟨rfl, rfl, rfl⟩ := h
          intro ρ0 W0 a w Q hn hR hQ
          exact evG_sound hΓ he hC.1 hR fun a' w' hR' => evL_sound hΓ hl hC.2 k ρ0 W0 a' w' Q hn hR' hQ
        · cases h
      · cases h

theorem TO_nil {ops : List Oper} {K : St → Prop} {st : St} (h : K st) : TO P n ops [] K st := fun _ _ _ _ _ _ hR hQ => wpList_nil (hQ _ _ _ h hR)

/-- What evL gives, as a goal. -/
def evGoal (P : Program) (n : Nat) (ops : List Oper) (K : St → Prop) : Option (List Oper × St × Prop) → Prop
  | some ([], st, C) => C ∧ K st
  | some (o :: r, st, C) => C ∧ TO P n ops (o :: r) K st
  | none => False

theorem TO_ev (hΓ : TabOk P Γ) {ops l : List Oper} {K : St → Prop} {st : St} (h : evGoal P n ops K (evL Γ ops l st)) : TO P n ops l K st := by
  cases he : evL Γ ops l st with
  | none => rw [he] at h; exact h.elim
  | some q =>
    obtain ⟨r, st', C⟩ := q
    rw [he] at h
    cases r with
    | nil => exact evL_sound hΓ he h.1 (TO_nil h.2)
    | cons o r => exact evL_sound hΓ he h.1 h.2

/-- A region whose order is the text's. -/
theorem T_region {id : Nat} {ops : Array Oper} {Q : Exit → St → Prop} {st : St} (h : TO P n ops.toList ops.toList (Q .normal) st) : T P n (.region id ops false) Q st := by
  intro ρ0 W0 a w hn hR
  refine wp_region_list ?_
  have := h ρ0 W0 a w (QC Q ρ0 W0) hn hR fun st' a' w' hk hr => ⟨st', hk, hr⟩
  simpa using this

def thenQ (K : St → Prop) (Q : Exit → St → Prop) : Exit → St → Prop
  | .normal, st => K st
  | e, st => Q e st

theorem T_seq {x y : Code} {Q : Exit → St → Prop} {st : St} (h : T P n x (thenQ (T P n y Q) Q) st) : T P n (.seq x y) Q st := by
  intro ρ0 W0 a w hn hR
  refine wp_seq (wp_mono (h ρ0 W0 a w hn hR) fun e a' w' hq => ?_)
  obtain ⟨st', hk, hr⟩ := hq
  cases e <;> first | exact hk ρ0 W0 a' w' hn hr | exact ⟨st', hk, hr⟩

/-- The same, what follows kept out of sight. -/
theorem T_seqK {x y : Code} {Q : Exit → St → Prop} {st : St} (h : ∀ K : St → Prop, (∀ st', T P n y Q st' → K st') → T P n x (thenQ K Q) st) : T P n (.seq x y) Q st := T_seq (h _ fun _ h => h)

theorem T_seq_region {id : Nat} {l : List Oper} {y : Code} {Q : Exit → St → Prop} {st : St} (hΓ : TabOk P Γ) (h : ∀ K : St → Prop, (∀ st', T P n y Q st' → K st') → evGoal P n l K (evL Γ l l st)) : T P n (.seq (.region id l.toArray false) y) Q st :=
  T_seq (T_region (TO_ev (P := P) (n := n) hΓ (h (T P n y Q) fun _ h => h)))

theorem T_last_region {id : Nat} {l : List Oper} {Q : Exit → St → Prop} {st : St} (hΓ : TabOk P Γ) (h : ∀ K : St → Prop, (∀ st', Q .normal st' → K st') → evGoal P n l K (evL Γ l l st)) : T P n (.region id l.toArray false) Q st :=
  T_region (TO_ev (P := P) (n := n) hΓ (h (Q .normal) fun _ h => h))

theorem T_mono {c : Code} {Q Q' : Exit → St → Prop} {st : St} (h : T P n c Q st) (hq : ∀ e st, Q e st → Q' e st) : T P n c Q' st := fun ρ0 W0 a w hn hR =>
  wp_mono (h ρ0 W0 a w hn hR) fun e _ _ ⟨st', hk, hr⟩ => ⟨st', hq e st' hk, hr⟩

/-- Cut: all ways through x end in states of which M holds. -/
theorem T_cut {x y : Code} {Q : Exit → St → Prop} {st : St} (M : St → Prop) (h : T P n x (thenQ M Q) st) (k : ∀ st', M st' → T P n y Q st') : T P n (.seq x y) Q st :=
  T_seq (T_mono h fun e st' hq => by cases e <;> first | exact k st' hq | exact hq)

theorem T_skip {Q : Exit → St → Prop} {st : St} (h : Q .normal st) : T P n .skip Q st := fun _ _ _ _ _ hR => wp_skip ⟨st, h, hR⟩
theorem T_label {l : Nat} {Q : Exit → St → Prop} {st : St} (h : Q .normal st) : T P n (.label l) Q st := fun _ _ _ _ _ hR => wp_label ⟨st, h, hR⟩
theorem T_exit {id : Nat} {Q : Exit → St → Prop} {st : St} (h : Q (.exit id) st) : T P n (.exit id) Q st := fun _ _ _ _ _ hR => wp_exit ⟨st, h, hR⟩
theorem T_ret {Q : Exit → St → Prop} {st : St} (h : Q .ret st) : T P n .ret Q st := fun _ _ _ _ _ hR => wp_ret ⟨st, h, hR⟩

def condA (env : List AV) (c : Operand) : Option Bool :=
  match opd env c with
  | .imm (.bool b) => some b
  | _ => none

theorem T_cond {c : Operand} {x y : Code} {Q : Exit → St → Prop} {st : St} (b : Bool) (hb : condA st.env c = some b) (ht : b = true → T P n x Q st) (hf : b = false → T P n y Q st) : T P n (.cond c x y) Q st := by
  intro ρ0 W0 a w hn hR
  obtain ⟨ρ, h1, h2, h3, h4⟩ := hR
  have hc := opd_sound h4.glob h3 c
  unfold condA at hb
  split at hb
  · rename_i b' hb'
    simp only [Option.some.injEq] at hb
    subst hb
    rw [hb'] at hc
    simp only [Rv] at hc
    exact wp_cond_split hc (fun e => ht e ρ0 W0 a w hn ⟨ρ, h1, h2, h3, h4⟩) (fun e => hf e ρ0 W0 a w hn ⟨ρ, h1, h2, h3, h4⟩)
  · cases hb

def blockQ (id : Nat) (Q : Exit → St → Prop) : Exit → St → Prop
  | .exit id', st => if id' = id then Q .normal st else Q (.exit id') st
  | e, st => Q e st

theorem T_block {id : Nat} {c : Code} {Q : Exit → St → Prop} {st : St} (h : T P n c (blockQ id Q) st) : T P n (.block id c) Q st := by
  intro ρ0 W0 a w hn hR
  refine wp_block (wp_mono (h ρ0 W0 a w hn hR) fun e a' w' hq => ?_)
  obtain ⟨st', hk, hr⟩ := hq
  cases e <;> try exact ⟨st', hk, hr⟩
  rename_i id'
  simp only [blockQ] at hk
  simp only [Exit.inBlock]
  split at hk
  · rename_i he; rw [if_pos he]; exact ⟨st', hk, hr⟩
  · rename_i he; rw [if_neg he]; exact ⟨st', hk, hr⟩

theorem exists_min {p : Nat → Prop} : ∀ {m : Nat}, p m → ∃ k, p k ∧ ∀ j, p j → k ≤ j := by
  intro m
  induction m using Nat.strongRecOn with
  | _ m ih =>
    intro hm
    by_cases h : ∃ k, k < m ∧ p k
    · obtain ⟨k, hk, hp⟩ := h
      exact ih k hk hp
    · exact ⟨m, hm, fun j hj => Nat.le_of_not_lt fun hlt => h ⟨j, hlt, hj⟩⟩

/-- A loop: I m holds at every round's head, m goes down. -/
theorem T_loop {c : Code} {Q : Exit → St → Prop} {st : St} (I : Nat → St → Prop) (m0 : Nat) (h0 : I m0 st) (round : ∀ m st, I m st → T P n c (thenQ (fun st' => ∃ m', m' < m ∧ I m' st') Q) st) : T P n (.loop c) Q st := by
  intro ρ0 W0 a w hn hR
  classical
  let J : Nat → Act → World → Prop := fun m a w => ∃ st, I m st ∧ Rel ρ0 W0 st a w
  have emin : ∀ a w, (∃ m, J m a w) → ∃ k, J k a w ∧ ∀ j, J j a w → k ≤ j := fun a w ⟨m, hm⟩ => exists_min (p := fun m => J m a w) hm
  let μ : Act → World → Nat := fun a w => if h : ∃ m, J m a w then Classical.choose (emin a w h) else 0
  refine wp_loop (fun a w => ∃ m, J m a w) μ ⟨m0, st, h0, hR⟩ fun a w hI => ?_
  have hμ : μ a w = Classical.choose (emin a w hI) := by simp only [μ]; rw [dif_pos hI]
  obtain ⟨⟨st1, hi1, hr1⟩, _⟩ := Classical.choose_spec (emin a w hI)
  refine wp_mono (round _ st1 hi1 ρ0 W0 a w hn hr1) fun e a' w' hq => ?_
  obtain ⟨st', hk, hr⟩ := hq
  cases e <;> try exact ⟨st', hk, hr⟩
  obtain ⟨m', hlt, hi'⟩ := hk
  have hJ : ∃ m, J m a' w' := ⟨m', st', hi', hr⟩
  refine ⟨hJ, ?_⟩
  have hμ' : μ a' w' = Classical.choose (emin a' w' hJ) := by simp only [μ]; rw [dif_pos hJ]
  rw [hμ, hμ']
  exact Nat.lt_of_le_of_lt ((Classical.choose_spec (emin a' w' hJ)).2 m' ⟨st', hi', hr⟩) hlt

theorem T_weak {c : Code} {Q : Exit → St → Prop} {st st2 : St} (h : ∀ ρ0 W0 a w, ρ0.length = n → Rel ρ0 W0 st a w → Rel ρ0 W0 st2 a w) (k : T P n c Q st2) : T P n c Q st :=
  fun ρ0 W0 a w hn hR => k ρ0 W0 a w hn (h ρ0 W0 a w hn hR)

def fnOk (P : Program) (f : FuncId) : Bool :=
  match P.funcs[f]? with
  | some fn => fn.name != "runtime.NumGoroutine" && fn.body.isSome
  | none => false

theorem run_call {k : FuncId} (hok : fnOk P k = true) (w : World) (args : Array Value) : (callFunc k args).run P w = .ok (.enter k args) w := by
  unfold fnOk at hok
  split at hok
  · rename_i fn hfn
    simp only [Bool.and_eq_true, bne_iff_ne, ne_eq] at hok
    have hb : fn.body.isNone = false := by
      cases hh : fn.body with
      | none => simp [hh] at hok
      | some _ => rfl
    have hb' : fn.body ≠ none := fun e => by rw [e] at hb; cases hb
    simp [callFunc, hfn, hok.1, hb']
  · cases hok

/-- A call of a function: with a body, or one that the model answers by itself. -/
def Inv (P : Program) (f : FuncId) (vs : Array Value) (w : World) (R : Ending → World → Prop) : Prop :=
  ((callFunc f vs).run P w = .ok (.enter f vs) w ∧ Calls P f vs w R) ∨ ∃ v w', (callFunc f vs).run P w = .ok (.value v) w' ∧ R (.returned v) w'

theorem Inv.mono {f : FuncId} {vs : Array Value} {w : World} {R R' : Ending → World → Prop} (h : Inv P f vs w R) (hr : ∀ e w', R e w' → R' e w') : Inv P f vs w R' := by
  rcases h with ⟨h1, h2⟩ | ⟨v, w', h1, h2⟩
  · exact .inl ⟨h1, h2.mono hr⟩
  · exact .inr ⟨v, w', h1, hr _ _ h2⟩

/-- The contract of a function at given arguments and objects. -/
def TC (P : Program) (f : FuncId) (args : List AV) (σ : List AObj) (Q : AV → List AObj → Prop) : Prop :=
  True ∧ ∀ (ρ : Rho) (w : World) (vs : List Value), RvL ρ w args vs → RH ρ w σ →
    Inv P f vs.toArray w fun e w' => ∃ (ρ' : Rho) (v : AV) (σ' : List AObj) (x : Value), e = .returned x ∧ Q v σ' ∧ Rv ρ' w' v x ∧ RH ρ' w' σ' ∧ Step ρ w ρ' w'

theorem TC.mono {f : FuncId} {args : List AV} {σ : List AObj} {Q Q' : AV → List AObj → Prop} (h : TC P f args σ Q) (hq : ∀ v σ', Q v σ' → Q' v σ') : TC P f args σ Q' :=
  ⟨h.1, fun ρ w vs ha hH => (h.2 ρ w vs ha hH).mono fun _ _ ⟨ρ', v, σ', x, a, b, c⟩ => ⟨ρ', v, σ', x, a, hq v σ' b, c⟩⟩

/-- The results of a function, read off its frame. -/
def eRes (Γ : Tab) (st : St) : List ResultVar → Option (List AV × Prop)
  | [] => some ([], True)
  | .tmp t :: rs =>
    match eRes Γ st rs with
    | some (vs, c) => some (us (nth st.env t) :: vs, ug true (nth st.env t) ∧ c)
    | none => none
  | .cell a t :: rs =>
    match eLoad Γ st.σ t (us (nth st.env a)) with
    | some (v, c1) => match eRes Γ st rs with | some (vs, c) => some (v :: vs, ug true (nth st.env a) ∧ c1 ∧ c) | none => none
    | none => none

def mkRes : List AV → AV
  | [v] => v
  | vs => .tup vs

def retGoal (σ : List AObj) (Q : AV → List AObj → Prop) : Option (List AV × Prop) → Prop
  | some (vs, c) => c ∧ Q (mkRes vs) σ
  | none => False

def retQ (Γ : Tab) (rs : List ResultVar) (Q : AV → List AObj → Prop) : Exit → St → Prop
  | .ret, st | .normal, st => retGoal st.σ Q (eRes Γ st rs)
  | _, _ => False

theorem eRes_sound (hΓ : TabOk P Γ) {ρ : Rho} {w : World} {st : St} {a : Act} (henv : RvL ρ w st.env a.tmps.toList) (hH : RH ρ w st.σ) : ∀ {rs : List ResultVar} {vs : List AV} {C : Prop}, eRes Γ st rs = some (vs, C) → C →
    ∃ xs : List Value, (∀ g : ResultVar → Sem Value, (∀ t, g (.tmp t) = pure (a.tmps.getD t undef)) → (∀ p t, g (.cell p t) = do loadVar t (← asAddr (a.tmps.getD p undef))) → (rs.mapM g).run P w = .ok xs w) ∧ RvL ρ w vs xs
  | [], vs, C, h, _ => by
    simp only [eRes, Option.some.injEq, Prod.mk.injEq] at h
    obtain ⟨rfl, _⟩ := h
    exact ⟨[], fun _ _ _ => by simp, by simp [RvL]⟩
  | .tmp t :: rs, vs, C, h, hC => by
    unfold eRes at h
    split at h
    · rename_i vs' c hr
      simp only [Option.some.injEq, Prod.mk.injEq] at h
      obtain ⟨rfl, rfl⟩ := h
      obtain ⟨xs, h1, h2⟩ := eRes_sound hΓ henv hH hr hC.2
      have hx := us_sound rfl hC.1 (opdT_sound henv t)
      refine ⟨a.tmps.getD t undef :: xs, ?_, ?_⟩
      · intro g g1 g2
        simp only [List.mapM_cons, Sem.run_bind, g1, Sem.run_pure, Result.andThen_ok, h1 g g1 g2]
      · simp only [RvL]
        exact ⟨hx, h2⟩
    · cases h
  | .cell p t :: rs, vs, C, h, hC => by
    unfold eRes at h
    split at h
    · rename_i v c1 hl
      split at h
      · rename_i vs' c hr
        simp only [Option.some.injEq, Prod.mk.injEq] at h
        obtain ⟨rfl, rfl⟩ := h
        obtain ⟨xs, h1, h2⟩ := eRes_sound hΓ henv hH hr hC.2.2
        have hx := us_sound rfl hC.1 (opdT_sound henv p)
        obtain ⟨r, hr1, hr2⟩ := eLoad_sound hΓ hH hl hC.2.1 hx
        simp only [Act.eval] at hr1
        refine ⟨r :: xs, ?_, ?_⟩
        · have hq : (do loadVar t (← asAddr (a.tmps.getD p undef)) : Sem Value).run P w = .ok r w := by
            revert hr1
            generalize a.tmps.getD p undef = z
            intro hr1
            cases z <;> simp [Instr.loadAt, Instr.sureAddr] at hr1
            rename_i ad
            cases ad with
            | none => simp at hr1
            | some ad => simpa [asAddr, Instr.sureAddr] using hr1
          intro g g1 g2
          rw [List.mapM_cons, Sem.run_bind, g2, hq]
          simp only [Sem.run_bind, Sem.run_pure, Result.andThen_ok, h1 g g1 g2]
        · simp only [RvL]
          exact ⟨hr2, h2⟩
      · cases h
    · cases h

theorem TC_of_T (hΓ : TabOk P Γ) {f : FuncId} {fn : Func} {c : Code} {args : List AV} {σ : List AObj} {Q : AV → List AObj → Prop} (hf : P.funcs[f]? = some fn) (hb : fn.body = some c) (hok : fnOk P f = true)
    (h : T P σ.length c (retQ Γ fn.results.toList Q) ⟨args ++ List.replicate (fn.ntmps - args.length) .top, σ⟩) : TC P f args σ Q := by
  refine ⟨trivial, fun ρ w vs ha hH => .inl ⟨run_call hok w _, ?_⟩⟩
  refine calls_of_wp hf hb ?_
  have hR : Rel ρ w ⟨args ++ List.replicate (fn.ntmps - args.length) .top, σ⟩ { tmps := vs.toArray ++ Array.replicate (fn.ntmps - vs.toArray.size) undef, defers := [] } w := by
    refine ⟨ρ, Step.refl _ _, rfl, ?_, hH⟩
    simp only [Array.toList_append, List.size_toArray, Array.toList_replicate]
    refine RvL.append ha ?_
    rw [ha.length]
    have := RvL.tops (ρ := ρ) (w := w) (List.replicate (fn.ntmps - vs.length) undef)
    simpa using this
  refine wp_mono (h ρ w _ w hH.len hR) fun e a w' hq => ?_
  obtain ⟨st, hk, ρ', hst, hdf, henv, hH'⟩ := hq
  have fin : retGoal st.σ Q (eRes Γ st fn.results.toList) → a.defers = [] ∧ ∃ v, (results fn a.tmps).run P w' = .ok v w' ∧
      ∃ (ρ' : Rho) (u : AV) (σ' : List AObj) (x : Value), Ending.returned v = .returned x ∧ Q u σ' ∧ Rv ρ' w' u x ∧ RH ρ' w' σ' ∧ Step ρ w ρ' w' := by
    intro hk
    cases he : eRes Γ st fn.results.toList with
    | none => rw [he] at hk; exact hk.elim
    | some q =>
      obtain ⟨us', C⟩ := q
      rw [he] at hk
      obtain ⟨hc, hq⟩ := hk
      obtain ⟨xs, h1, h2⟩ := eRes_sound hΓ henv hH' he hc
      have hm : ∀ g : ResultVar → Sem Value, (∀ t, g (.tmp t) = pure (a.tmps.getD t undef)) → (∀ p t, g (.cell p t) = do loadVar t (← asAddr (a.tmps.getD p undef))) → (fn.results.mapM g).run P w' = .ok xs.toArray w' := by
        intro g g1 g2
        rw [Array.mapM_eq_mapM_toList, Sem.run_map, h1 g g1 g2]
        rfl
      refine ⟨hdf, (if h : xs.toArray.size = 1 then xs.toArray[0] else .tuple xs.toArray), ?_, ρ', mkRes us', st.σ, _, rfl, hq, ?_, hH', hst⟩
      · unfold results
        rw [Sem.run_bind, hm _ (fun _ => rfl) (fun _ _ => rfl)]
        rfl
      · match us', xs, h2 with
        | [], [], _ => simp only [mkRes, Rv]; exact ⟨[], by simp, by simp [RvL]⟩
        | [u], [x], h2 => simp only [RvL] at h2; simpa [mkRes] using h2.1
        | u1 :: u2 :: us', x1 :: x2 :: xs, h2 =>
          simp only [mkRes, Rv]
          exact ⟨x1 :: x2 :: xs, by simp, h2⟩
        | [], _ :: _, h2 => simp [RvL] at h2
        | _ :: _, [], h2 => simp [RvL] at h2
        | [_], _ :: _ :: _, h2 => simp [RvL] at h2
        | _ :: _ :: _, [_], h2 => simp [RvL] at h2
  cases e <;> first | exact fin hk | exact hk.elim
end
end Go.Ab
