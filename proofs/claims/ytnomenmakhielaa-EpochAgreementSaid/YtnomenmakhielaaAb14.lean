/-
  Regions that draw their order: one walk, in an order of one's choice, serves every order.
-/
import Derived.Test.YtnomenmakhielaaAb13
namespace Go.Ab

def tmpL : List Operand → List Nat
  | [] => []
  | .tmp t :: xs => t :: tmpL xs
  | _ :: xs => tmpL xs

def lookOps : Op → List Operand
  | .pick c a b => [c, a, b]
  | .call c => (match c.callee with | .value f => f :: c.args.toList | _ => c.args.toList)
  | op => opsOf op

def guardDst (ops : List Oper) : Option (Nat × Bool) → List Nat
  | none => []
  | some (j, _) => match nthOp ops j with | some o => (match o.dst with | some d => [d] | none => []) | none => []

/-- The slots that an operation looks at. -/
def looksL (ops : List Oper) (o : Oper) : List Nat := tmpL (lookOps o.op) ++ guardDst ops o.guard

def Agree (env env' : List AV) (ts : List Nat) : Prop := env'.length = env.length ∧ ∀ t ∈ ts, nth env' t = nth env t

/-- A slice written out, taken as one that is only read from then on. -/
def eBuildView (Γ : Tab) (t : TypeId) (len : Nat) (parts : List (Nat × AV)) : Option (AV × Prop) :=
  match Γ.get t with
  | some ti =>
    match ti.d with
    | .slice e =>
      match Γ.get e with
      | some te =>
        match fillA (fun i => some (i * te.size, te.size)) (repL (zeroL te.zero) len) parts with
        | some (r, c) => some (.pv len te.size (some len) (fun i j => nth r (i * te.size + j)), c ∧ len * te.size ≤ 16777216 ∧ te.zero.length = te.size ∧ r.length = len * te.size)
        | none => none
      | none => none
    | _ => none
  | none => none

def bsV : Op → Option (TypeId × Nat × List (Nat × Operand))
  | .buildSlice t len ps => some (t, len, ps.toList)
  | _ => none

def evV0 (Γ : Tab) (ops : List Oper) (st : St) (o : Oper) : Option (AV × List AObj × Prop) :=
  match guardOf ops st.env o.guard with
  | none => none
  | some none => ev1 Γ st true o.op
  | some (some g) =>
    match loud o.op with
    | true =>
      match g with
      | true => ev1 Γ st true o.op
      | false => some (.imm undef, st.σ, True)
    | false =>
      match ev1 Γ st g o.op with
      | some (v, _, C) => some (.gd g v, st.σ, g = true → C)
      | none => none

/-- What an operation yields and makes of the objects. A slice written out is taken as one that is only read. -/
def evV (Γ : Tab) (ops : List Oper) (st : St) (o : Oper) : Option (AV × List AObj × Prop) :=
  match bsV o.op with
  | none => evV0 Γ ops st o
  | some (t, len, ps) =>
    match o.guard with
    | none =>
      match eBuildView Γ t len (mapP (fun x => us (opd st.env x)) ps) with
      | some (v, C) => some (v, st.σ, oblig true st.env (ps.map (·.2)) ∧ C)
      | none => none
    | some _ => none

theorem evG_eq (Γ : Tab) (ops : List Oper) (st : St) (o : Oper) : evG Γ ops st o = (evV0 Γ ops st o).map fun q => (⟨setE st.env o.dst q.1, q.2.1⟩, q.2.2) := by
  unfold evG evV0
  cases guardOf ops st.env o.guard with
  | none => rfl
  | some q =>
    cases q with
    | none => simp only []; cases ev1 Γ st true o.op <;> rfl
    | some g =>
      simp only []
      cases loud o.op with
      | true =>
        cases g with
        | true => simp only []; cases ev1 Γ st true o.op <;> rfl
        | false => rfl
      | false => simp only []; cases ev1 Γ st g o.op <;> rfl

def wpOne (P : Program) (ops : List Oper) (o : Oper) (Q : Exit → Act → World → Prop) (K : Act → World → Prop) (a : Act) (w : World) : Prop :=
  if Region.wanted o (yielded ops.toArray a.tmps) then o.wp P a w K Q else K (a.put o.dst undef) w

/-- From st, and from any state that is like it where o looks: o yields v, the objects are then σ'. -/
def Does (P : Program) (n : Nat) (ops : List Oper) (o : Oper) (st : St) (v : AV) (σ' : List AObj) : Prop :=
  ∀ env', Agree st.env env' (looksL ops o) → ∀ (ρ0 : Rho) (W0 : World) (a : Act) (w : World) (Q : Exit → Act → World → Prop) (K : Act → World → Prop), ρ0.length = n → Rel ρ0 W0 ⟨env', st.σ⟩ a w →
    (∀ a' w', Rel ρ0 W0 ⟨setE env' o.dst v, σ'⟩ a' w' → K a' w') → wpOne P ops o Q K a w

section
variable {P : Program} {Γ : Tab} {n : Nat}

theorem opd_agree {env env' : List AV} : ∀ {xs : List Operand}, (∀ t ∈ tmpL xs, nth env' t = nth env t) → ∀ x ∈ xs, opd env' x = opd env x
  | [], _, x, hx => by cases hx
  | y :: ys, h, x, hx => by
    rcases List.mem_cons.1 hx with rfl | hm
    · cases x <;> simp only [opd]
      exact h _ (by simp [tmpL])
    · exact opd_agree (fun t ht => h t (by cases y <;> simp [tmpL, ht])) x hm

theorem guardOf_agree {ops : List Oper} {env env' : List AV} {g : Option (Nat × Bool)} (h : ∀ t ∈ guardDst ops g, nth env' t = nth env t) : guardOf ops env' g = guardOf ops env g := by
  cases g with
  | none => rfl
  | some q =>
    obtain ⟨j, want⟩ := q
    simp only [guardOf, guardDst] at h ⊢
    cases ho : nthOp ops j with
    | none => rfl
    | some o =>
      cases hd : o.dst with
      | none => simp only [hd]
      | some d =>
        simp only [ho, hd, List.mem_cons, List.not_mem_nil, or_false, forall_eq] at h
        simp only [hd]
        rw [h]

theorem oblig_agree {g : Bool} {env env' : List AV} : ∀ {xs : List Operand}, (∀ x ∈ xs, opd env' x = opd env x) → oblig g env' xs = oblig g env xs
  | [], _ => rfl
  | y :: ys, h => by simp only [oblig]; rw [h y (by simp), oblig_agree fun x hx => h x (by simp [hx])]

theorem mapP_agree {r r' : Operand → AV} : ∀ {ps : List (Nat × Operand)}, (∀ x ∈ ps.map (·.2), r' x = r x) → mapP r' ps = mapP r ps
  | [], _ => rfl
  | (i, x) :: ps, h => by simp only [mapP]; rw [h x (by simp), mapP_agree fun y hy => h y (by simp only [List.map_cons, List.mem_cons]; exact .inr hy)]

theorem mapL_agree {r r' : Operand → AV} : ∀ {xs : List Operand}, (∀ x ∈ xs, r' x = r x) → mapL r' xs = mapL r xs
  | [], _ => rfl
  | x :: xs, h => by simp only [mapL]; rw [h x (by simp), mapL_agree fun y hy => h y (by simp [hy])]

theorem optmap_agree {r r' : Operand → AV} {o : Option Operand} (h : ∀ x ∈ o.toList, r' x = r x) : o.map r' = o.map r := by
  cases o with
  | none => rfl
  | some x => simp only [Option.map_some]; rw [h x (by simp)]

theorem eOp_agree {σ : List AObj} {r r' : Operand → AV} {op : Op} (h : ∀ x ∈ opsOf op, r' x = r x) : eOp Γ σ r' op = eOp Γ σ r op := by
  cases op <;> simp only [eOp] <;> simp only [opsOf, List.mem_cons, List.not_mem_nil, or_false, forall_eq_or_imp, forall_eq, List.mem_append] at h
  all_goals first
    | rfl
    | (rw [h]; done)
    | (rw [h.1, h.2]; done)
    | (rw [h.1, h.2.1, h.2.2]; done)
    | (rw [optmap_agree h]; done)
    | (rw [mapP_agree h]; done)
    | (rw [mapL_agree fun x hx => h x (.inl hx), mapL_agree fun x hx => h x (.inr hx)]; done)
    | (rw [h.1, optmap_agree fun x hx => h.2 x (.inl hx), optmap_agree fun x hx => h.2 x (.inr (.inl hx)), optmap_agree fun x hx => h.2 x (.inr (.inr hx))]; done)
    | skip
  rename_i c
  cases hc : c.callee with
  | value f => rfl
  | builtin b =>
    revert h
    generalize c.args.toList = l
    generalize c.argTypes.toList = ts
    intro h
    simp only []
    split <;> first | rfl | skip
    all_goals simp only [List.mem_cons, List.not_mem_nil, or_false, forall_eq_or_imp, forall_eq] at h
    all_goals first
      | rfl
      | (rw [h]; done)
      | (rw [h.1, h.2]; done)
  | invoke _ _ => rfl

theorem lookOps_opsOf {op : Op} (hp : ∀ c a b, op ≠ .pick c a b) : ∀ x ∈ opsOf op, x ∈ lookOps op := by
  intro x hx
  cases op <;> simp only [lookOps, opsOf] at hx ⊢ <;> (try exact hx)
  · cases hx
  · rename_i c
    split
    · exact List.mem_cons_of_mem _ hx
    · exact hx

theorem ev1_agree {env env' : List AV} {σ : List AObj} {g : Bool} {op : Op} (h : ∀ x ∈ lookOps op, opd env' x = opd env x) : ev1 Γ ⟨env', σ⟩ g op = ev1 Γ ⟨env, σ⟩ g op := by
  by_cases hp : ∃ c a b, op = .pick c a b
  · obtain ⟨c, a, b, rfl⟩ := hp
    simp only [lookOps, List.mem_cons, List.not_mem_nil, or_false, forall_eq_or_imp, forall_eq] at h
    simp only [ev1, evPick, h.1, h.2.1, h.2.2]
  · have hp' : ∀ c a b, op ≠ .pick c a b := fun c a b e => hp ⟨c, a, b, e⟩
    have h1 := lookOps_opsOf hp'
    have e1 : oblig g env' (opsOf op) = oblig g env (opsOf op) := oblig_agree fun x hx => h x (h1 x hx)
    have e2 : eOp Γ σ (fun x => us (opd env' x)) op = eOp Γ σ (fun x => us (opd env x)) op := eOp_agree fun x hx => by rw [h x (h1 x hx)]
    have e3 : ∀ env, ev1 Γ ⟨env, σ⟩ g op = match eOp Γ σ (fun x => us (opd env x)) op with | some (v, σ', C) => some (v, σ', oblig g env (opsOf op) ∧ C) | none => none := by
      intro env
      unfold ev1
      split
      · exact (hp' _ _ _ rfl).elim
      · rfl
    rw [e3, e3, e1, e2]

theorem evV_agree {ops : List Oper} {env env' : List AV} {σ : List AObj} {o : Oper} (h : Agree env env' (looksL ops o)) : evV Γ ops ⟨env', σ⟩ o = evV Γ ops ⟨env, σ⟩ o := by
  have h1 : ∀ x ∈ lookOps o.op, opd env' x = opd env x := opd_agree fun t ht => h.2 t (by simp [looksL, ht])
  have h2 : guardOf ops env' o.guard = guardOf ops env o.guard := guardOf_agree fun t ht => h.2 t (by simp [looksL, ht])
  unfold evV
  cases hb : bsV o.op with
  | none =>
    simp only []
    unfold evV0
    rw [h2]
    simp only [ev1_agree h1]
  | some q =>
    obtain ⟨t, len, ps⟩ := q
    have hop : ∃ parts, o.op = .buildSlice t len parts ∧ parts.toList = ps := by
      cases hh : o.op <;> rw [hh] at hb <;> simp [bsV] at hb
      obtain ⟨rfl, rfl, rfl⟩ := hb
      exact ⟨_, rfl, rfl⟩
    obtain ⟨parts, hop, rfl⟩ := hop
    rw [hop] at h1
    simp only [lookOps, opsOf] at h1
    simp only []
    rw [oblig_agree h1, mapP_agree (r := fun x => us (opd env x)) (r' := fun x => us (opd env' x)) fun x hx => by rw [h1 x hx]]

theorem callA_agree {ops : List Oper} {env env' : List AV} {o : Oper} {c : Call} (hc : opCall o.op = some c) (h : Agree env env' (looksL ops o)) : callA env' c = callA env c := by
  have hop : o.op = .call c := by
    cases hh : o.op <;> rw [hh] at hc <;> simp [opCall] at hc
    subst hc; rfl
  have h1 : ∀ x ∈ lookOps o.op, opd env' x = opd env x := opd_agree fun t ht => h.2 t (by simp [looksL, ht])
  rw [hop] at h1
  unfold callA
  cases hf : c.callee with
  | value f =>
    simp only [lookOps, hf, List.mem_cons, forall_eq_or_imp] at h1
    simp only []
    rw [h1.1, oblig_agree h1.2, mapL_agree (r := fun x => us (opd env x)) (r' := fun x => us (opd env' x)) fun x hx => by rw [h1.2 x hx]]
  | builtin b => rfl
  | invoke _ _ => rfl

theorem setE_up {ρ : Rho} {w : World} {env : List AV} {xs : List Value} {dst : Option Nat} {v0 v : AV} (hv : ∀ ρ w x, Rv ρ w v0 x → Rv ρ w v x) (h3 : RvL ρ w (setE env dst v0) xs) : RvL ρ w (setE env dst v) xs := by
  cases dst with
  | none => exact h3
  | some d =>
    simp only [setE, setN_eq] at h3 ⊢
    refine RvL.of_get (by have := h3.length; simpa using this) fun i u x hu hx => ?_
    have hl := h3.length
    rw [List.getElem?_set] at hu
    split at hu
    · rename_i hi
      split at hu
      · rename_i hlt
        simp only [Option.some.injEq] at hu
        subst hu
        obtain ⟨y, hy, hv'⟩ := RvL.get h3 (i := i) (v := v0) (by rw [List.getElem?_set, if_pos hi, if_pos hlt])
        rw [hx] at hy
        simp only [Option.some.injEq] at hy
        subst hy
        exact hv _ _ _ hv'
      · cases hu
    · rename_i hi
      obtain ⟨y, hy, hv'⟩ := RvL.get h3 (i := i) (v := u) (by rw [List.getElem?_set, if_neg hi]; exact hu)
      rw [hx] at hy
      simp only [Option.some.injEq] at hy
      subst hy
      exact hv'

theorem alloc_keep {ρ : Rho} {w : World} {σ : List AObj} (hH : RH ρ w σ) (b : Obj) : RH ρ (w.alloc b) σ ∧ Step ρ w ρ (w.alloc b) := by
  have hs : Step ρ w ρ (w.alloc b) := ⟨rfl, rfl, rfl, by simp, fun q hq _ => RowKit.Below.heap_alloc w _ q hq, List.prefix_refl _, fun _ h => .inl h⟩
  exact ⟨⟨hH.len, fun o l hl => Nat.lt_of_lt_of_le (hH.lt o l hl) hs.size, fun o a ha => RO.keep hs (hH.obj o a ha) fun l hl => RowKit.Below.heap_alloc w _ _ (hH.lt o l hl), hH.apart, hH.glob.step hs⟩, hs⟩

theorem eBuildView_sound (hΓ : TabOk P Γ) {ρ : Rho} {w : World} {σ : List AObj} (hH : RH ρ w σ) {t : TypeId} {len : Nat} {parts : List (Nat × AV)} {v : AV} {C : Prop} (h : eBuildView Γ t len parts = some (v, C)) (hC : C)
    {xs : Array (Nat × Value)} (hx : RvP ρ w parts xs.toList) :
    ∃ r ρ' w', (Instr.buildSlice t len xs).run P w = .ok r w' ∧ Rv ρ' w' v r ∧ RH ρ' w' σ ∧ Step ρ w ρ' w' := by
  unfold eBuildView at h
  split at h
  · rename_i ti hti
    have hd := (hΓ t ti hti).desc
    split at h
    · rename_i e hfs
      rw [hfs] at hd
      simp only [TD.holds] at hd
      split at h
      · rename_i te hte
        have hte := hΓ e te hte
        split at h
        · rename_i r c hfill
          simp only [Option.some.injEq, Prod.mk.injEq] at h
          obtain ⟨rfl, rfl⟩ := h
          obtain ⟨hc, hsz, hzl, hrl⟩ := hC
          obtain ⟨z, hz, hzc⟩ := hte.zeroValue w
          have hz1 := zeroL_sound ρ w te.zero
          obtain ⟨cs', g1, g2, g3⟩ := fillA_sound (cs := (List.replicate len (te.zero.map ZC.val)).flatten.toArray) (place' := fun i => some (i * te.size, te.size)) (by intro i; rfl) hfill hc hx (by simpa using repL_sound hz1 len)
            (by intro y hy; simp only [List.mem_flatten, List.mem_replicate] at hy; obtain ⟨l, ⟨_, rfl⟩, hy⟩ := hy; exact zeroL_one _ y hy)
          have hmk : (Array.range (len * te.size)).map (fun i => (if len * te.size = 0 then (#[] : Array Value) else z.cells)[i % (if len * te.size = 0 then (#[] : Array Value) else z.cells).size]!) = (List.replicate len (te.zero.map ZC.val)).flatten.toArray := by
            by_cases h0 : len * te.size = 0
            · have : (List.replicate len (te.zero.map ZC.val)).flatten = [] := by
                apply List.eq_nil_of_length_eq_zero
                simp [List.length_flatten, hzl, h0]
              rw [h0, this]
              simp
            · simp only [h0, if_false]
              have := made_eq (te.zero.map ZC.val) len
              simp only [List.length_map, hzl] at this
              rw [hzc]
              simpa [hzl] using this
          have hk := alloc_keep hH (.cells cs' e)
          refine ⟨.slice (some ⟨w.heap.size, 0, none⟩) len len, ρ, w.alloc (.cells cs' e), ?_, ?_, hk.1, hk.2⟩
          · have hg : ¬ len * te.size > 2 ^ 24 := by simp; omega
            by_cases h0 : len * te.size = 0
            · simp only [h0, if_true] at hmk
              simp only [Instr.buildSlice, Sem.run_bind, run_underlying hd, Result.andThen_ok, hte.sizeOf, h0, if_true, Sem.run_pure, Sem.run_ite]
              simp only [hmk, g1, newRow, Sem.run_bind, run_newObj, Result.andThen_ok, Sem.run_pure]
              simp
            · simp only [h0, if_false] at hmk
              simp only [Instr.buildSlice, Sem.run_bind, run_underlying hd, Result.andThen_ok, hte.sizeOf, hg, if_false, h0, Sem.run_pure, Sem.run_ite, hz, hmk, g1, newRow, run_newObj]
              simp
          · simp only [Rv]
            refine ⟨_, _, _, _, _, rfl, ⟨Nat.le_refl _, fun c' hc' => by simpa using hc'⟩, fun ⟨o, l, hl, hb⟩ => ?_, heap_alloc_new w (.cells cs' e), fun i hi j hj => ?_⟩
            · have h5 := hH.lt o l hl
              rw [hb] at h5
              exact Nat.lt_irrefl _ h5
            · have hlt : i * te.size + j < len * te.size := by
                have := Nat.mul_le_mul_right te.size (Nat.succ_le_of_lt hi)
                rw [Nat.succ_mul] at this
                omega
              obtain ⟨y, hy, hv⟩ := RvL.get g2 (nth_eq (l := r) (i := i * te.size + j) (by omega))
              exact ⟨y, by simpa using hy, g3 y (List.mem_of_getElem? hy), Rv.mono hk.2 _ hv⟩
        · cases h
      · cases h
    · cases h
  · cases h

theorem Does.of_ev (hΓ : TabOk P Γ) {ops : List Oper} {o : Oper} {st : St} {v : AV} {σ' : List AObj} {C : Prop} (h : evV Γ ops st o = some (v, σ', C)) (hC : C) : Does P n ops o st v σ' := by
  intro env' hag ρ0 W0 a w Q K hn hR hK
  rw [← show (⟨st.env, st.σ⟩ : St) = st from rfl, ← evV_agree hag] at h
  unfold evV at h
  cases hb : bsV o.op with
  | none =>
    rw [hb] at h
    simp only [] at h
    have h' : evG Γ ops ⟨env', st.σ⟩ o = some (⟨setE env' o.dst v, σ'⟩, C) := by
      rw [evG_eq, h]
      rfl
    exact evG_one hΓ h' hC hR hK
  | some q =>
    obtain ⟨t, len, ps⟩ := q
    have hop : ∃ parts, o.op = .buildSlice t len parts ∧ parts.toList = ps := by
      cases hh : o.op <;> rw [hh] at hb <;> simp [bsV] at hb
      obtain ⟨rfl, rfl, rfl⟩ := hb
      exact ⟨_, rfl, rfl⟩
    obtain ⟨parts, hop, rfl⟩ := hop
    rw [hb] at h
    simp only [] at h
    split at h
    · rename_i hg
      split at h
      · rename_i v' C' he
        simp only [Option.some.injEq, Prod.mk.injEq] at h
        obtain ⟨rfl, rfl, rfl⟩ := h
        obtain ⟨ρ, hst, hdf, henv, hH⟩ := hR
        unfold wpOne
        rw [if_pos (by simp [Region.wanted, hg])]
        obtain ⟨r, ρ', w', h1, h2, h3, h4⟩ := eBuildView_sound hΓ hH he hC.2 (xs := parts.map fun p => (p.1, a.eval p.2)) (by
          rw [Array.toList_map]
          exact mapP_sound fun x hx => us_sound rfl (oblig_mem hC.1 x hx) (opd_sound hH.glob henv x))
        unfold Oper.wp execOp
        rw [hop]
        simp only [Sem.run_bind, h1, Result.andThen_ok, Sem.run_pure]
        exact hK _ _ ⟨ρ', hst.trans h4, by cases o.dst <;> exact hdf, put_sound (RvL.mono h4 _ henv) h2 _, h3⟩
      · cases h
    · cases h

/-- A call of which it is known what it yields and what it makes of the objects. -/
theorem Does.of_call {ops : List Oper} {o : Oper} {c : Call} {st : St} {v : AV} {σ1 : List AObj} (hc : opCall o.op = some c) (hg : o.guard = none) (h : callGoal P st.σ (fun v' σ' => v' = v ∧ σ' = σ1) (callA st.env c)) : Does P n ops o st v σ1 := by
  intro env' hag ρ0 W0 a w Q K hn hR hK
  unfold wpOne
  have hw : Region.wanted o (yielded ops.toArray a.tmps) = true := by simp [Region.wanted, hg]
  rw [if_pos hw]
  refine call_do hc (N := fun v' σ' => v' = v ∧ σ' = σ1) ?_ hR fun v' σ' ⟨e1, e2⟩ a' w' hr => hK _ _ (by subst e1; subst e2; exact hr)
  rw [callA_agree hc hag]
  exact h

/-- The same under a guard: such a call leaves all as it was. -/
theorem Does.of_callG {ops : List Oper} {o : Oper} {c : Call} {st : St} {v : AV} {g : Bool} (hc : opCall o.op = some c) (hg : guardOf ops st.env o.guard = some (some g)) (h : g = true → callGoal P st.σ (fun v' σ' => v' = v ∧ σ' = st.σ) (callA st.env c)) :
    Does P n ops o st (.gd g v) st.σ := by
  intro env' hag ρ0 W0 a w Q K hn hR hK
  unfold wpOne
  obtain ⟨ρ, hst, hdf, henv, hH⟩ := id hR
  have hg' : guardOf ops env' o.guard = some (some g) := by rw [← hg]; exact guardOf_agree fun t ht => hag.2 t (by simp [looksL, ht])
  rw [guardOf_sound henv hg']
  simp only [Option.getD_some]
  have up : ∀ {a' : Act} {w' : World} {v0 : AV}, (∀ ρ w x, Rv ρ w v0 x → Rv ρ w (.gd g v) x) → Rel ρ0 W0 ⟨setE env' o.dst v0, st.σ⟩ a' w' → Rel ρ0 W0 ⟨setE env' o.dst (.gd g v), st.σ⟩ a' w' := by
    intro a' w' v0 hv hr
    obtain ⟨ρ, h1, h2, h3, h4⟩ := hr
    exact ⟨ρ, h1, h2, setE_up hv h3, h4⟩
  cases g with
  | true =>
    simp only [if_true]
    refine call_do hc (N := fun v' σ' => v' = v ∧ σ' = st.σ) ?_ hR fun v' σ' ⟨e1, e2⟩ a' w' hr => hK _ _ (by subst e1; subst e2; exact up (fun ρ w x hx => by simpa [Rv] using hx) hr)
    rw [callA_agree hc hag]
    exact h rfl
  | false =>
    simp only [Bool.false_eq_true, if_false]
    exact hK _ _ ⟨ρ, hst, by cases o.dst <;> exact hdf, put_sound henv (by simp [Rv]) _, hH⟩
end
end Go.Ab
