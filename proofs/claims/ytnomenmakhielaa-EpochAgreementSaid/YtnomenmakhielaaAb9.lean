/-
  All operations together ('eOp'), and lists of operations with guards ('evL').
-/
import Derived.Test.YtnomenmakhielaaAb8b
namespace Go.Ab

/-- Results of operations that leave the objects alone. -/
def pu (σ : List AObj) : Option (AV × Prop) → Option (AV × List AObj × Prop)
  | some (v, c) => some (v, σ, c)
  | none => none

def us : AV → AV
  | .gd _ v => v
  | v => v

def ug (g : Bool) : AV → Prop
  | .gd g0 _ => g = true → g0 = true
  | _ => True

def mapP (r : Operand → AV) : List (Nat × Operand) → List (Nat × AV)
  | [] => []
  | (i, x) :: ps => (i, r x) :: mapP r ps

def mapL (r : Operand → AV) : List Operand → List AV
  | [] => []
  | x :: xs => r x :: mapL r xs

def eOp (Γ : Tab) (σ : List AObj) (r : Operand → AV) : Op → Option (AV × List AObj × Prop)
  | .move x => some (r x, σ, True)
  | .assign x => some (r x, σ, True)
  | .alloc t => eAlloc Γ σ t
  | .box t x => eBox σ t (r x)
  | .build t parts => pu σ (eBuild Γ t (mapP r parts.toList))
  | .buildSlice t len parts => eBuildSlice Γ σ t len (mapP r parts.toList)
  | .load t a => pu σ (eLoad Γ σ t (r a))
  | .store t a x => match eStore Γ σ t (r a) (r x) with | some (σ', c) => some (.imm undef, σ', c) | none => none
  | .nilCheck x => pu σ (eNilCheck (r x))
  | .binOp op t x y _ => pu σ (eBin Γ op t (r x) (r y))
  | .unOp op _ x => pu σ (eUn op (r x))
  | .convert s d x => match Γ.get s with | some _ => pu σ (eConv Γ d (r x)) | none => none
  | .makeFunc fn first captured => some (.fn fn (mapL r first.toList) (mapL r captured.toList), σ, True)
  | .makeSlice t l c => eMake Γ σ t (r l) (r c)
  | .makeMap t x => eMakeMapO Γ σ t (x.map r)
  | .lookup t m x ok => pu σ (eLookup Γ σ t (r m) (r x) ok)
  | .mapUpdate t m x v => match eMapUpdate Γ σ t (r m) (r x) (r v) with | some (σ', c) => some (.imm undef, σ', c) | none => none
  | .insert t m x v => match eMapUpdate Γ σ t (r m) (r x) (r v) with | some (σ', c) => some (.imm undef, σ', c) | none => none
  | .slice t x lo hi mx => pu σ (eSlice Γ σ t (r x) (lo.map r) (hi.map r) (mx.map r))
  | .fieldAddr t x f => pu σ (eFieldAddr Γ t (r x) f)
  | .field t x f => pu σ (eField Γ t (r x) f)
  | .indexAddr t x i => pu σ (eIndexAddr Γ σ t (r x) (r i))
  | .index t x i => pu σ (eIndex Γ t (r x) (r i))
  | .extract x i => pu σ (eExtract (r x) i)
  | .call c =>
    match c.callee with
    | .builtin b =>
      match b, c.args.toList, c.argTypes.toList with
      | .len, [x], [t] => pu σ (eLen Γ σ t (r x))
      | .cap, [x], [t] => pu σ (eCap Γ t (r x))
      | .min, [x, y], _ => pu σ (eMin (r x) (r y))
      | .max, [x, y], _ => pu σ (eMax (r x) (r y))
      | .append, [x, y], [t, t'] => if t' = t then eApp Γ σ t (r x) (r y) else eAppZ Γ σ t t' (r x) (r y)
      | .copy, [x, y], [t, _] => eCopy Γ σ t (r x) (r y)
      | _, _, _ => none
    | _ => none
  | _ => none

/-- Operations that may make or turn objects. -/
def loud : Op → Bool
  | .alloc _ | .box _ _ | .buildSlice _ _ _ | .store _ _ _ | .makeSlice _ _ _ | .makeMap _ _ | .mapUpdate _ _ _ _ | .insert _ _ _ _ => true
  | .call c => (match c.callee with | .builtin b => (match b with | .append | .copy => true | _ => false) | _ => false)
  | _ => false

section
variable {P : Program} {Γ : Tab}

theorem mapP_sound {ρ : Rho} {w : World} {r : Operand → AV} {e : Operand → Value} : ∀ {ps : List (Nat × Operand)}, (∀ x ∈ ps.map (·.2), Rv ρ w (r x) (e x)) → RvP ρ w (mapP r ps) (ps.map fun p => (p.1, e p.2))
  | [], _ => by simp [mapP, RvP]
  | (i, x) :: ps, h => by
    simp only [mapP, List.map_cons, RvP, true_and]
    exact ⟨h x (by simp), mapP_sound fun y hy => h y (by simp only [List.map_cons, List.mem_cons]; exact .inr hy)⟩

theorem mapL_sound {ρ : Rho} {w : World} {r : Operand → AV} {e : Operand → Value} : ∀ {xs : List Operand}, (∀ x ∈ xs, Rv ρ w (r x) (e x)) → RvL ρ w (mapL r xs) (xs.map e)
  | [], _ => by simp [mapL, RvL]
  | x :: xs, h => by
    simp only [mapL, List.map_cons, RvL]
    exact ⟨h x (by simp), mapL_sound fun y hy => h y (by simp [hy])⟩

theorem pu_some {σ σ' : List AObj} {q : Option (AV × Prop)} {v : AV} {C : Prop} (h : pu σ q = some (v, σ', C)) : q = some (v, C) ∧ σ' = σ := by
  unfold pu at h
  split at h
  · simp only [Option.some.injEq, Prod.mk.injEq] at h
    obtain ⟨rfl, rfl, rfl⟩ := h
    exact ⟨rfl, rfl⟩
  · cases h

/-- What an operation is shown to do. -/
def OpDoes (P : Program) (ρ : Rho) (w : World) (v : AV) (σ' : List AObj) (s : Sem Next) : Prop :=
  ∃ (nx : Next) (w' : World) (ρ' : Rho) (x : Value), s.run P w = .ok nx w' ∧ (nx = .value x ∨ (nx = .skip ∧ x = undef)) ∧ Rv ρ' w' v x ∧ RH ρ' w' σ' ∧ Step ρ w ρ' w'

theorem OpDoes.value {ρ : Rho} {w : World} {σ : List AObj} (hH : RH ρ w σ) {v : AV} {s : Sem Value} (h : ∃ r, s.run P w = .ok r w ∧ Rv ρ w v r) : OpDoes P ρ w v σ (do pure (.value (← s))) := by
  obtain ⟨r, hr, hv⟩ := h
  exact ⟨.value r, w, ρ, r, by simp [hr], .inl rfl, hv, hH, Step.refl _ _⟩

theorem OpDoes.made {ρ : Rho} {w : World} {σ' : List AObj} {v : AV} {s : Sem Value} (h : ∃ r ρ' w', s.run P w = .ok r w' ∧ Rv ρ' w' v r ∧ RH ρ' w' σ' ∧ Step ρ w ρ' w') : OpDoes P ρ w v σ' (do pure (.value (← s))) := by
  obtain ⟨r, ρ', w', hr, hv, h1, h2⟩ := h
  exact ⟨.value r, w', ρ', r, by simp [hr], .inl rfl, hv, h1, h2⟩

theorem imm_of {ρ : Rho} {w : World} {v : AV} {s : Sem Value} (h : ∃ r, s.run P w = .ok r w ∧ v = .imm r) : ∃ r, s.run P w = .ok r w ∧ Rv ρ w v r := by
  obtain ⟨r, hr, rfl⟩ := h
  exact ⟨r, hr, by simp [Rv]⟩

theorem RvO_map {ρ : Rho} {w : World} {r : Operand → AV} {e : Operand → Value} {o : Option Operand} (h : ∀ x ∈ o, Rv ρ w (r x) (e x)) : RvO ρ w (o.map r) (o.map e) := by
  cases o with
  | none => simp [RvO]
  | some x => simp only [Option.map_some, RvO]; exact h x rfl

set_option maxHeartbeats 1000000 in
theorem eOp_sound (hΓ : TabOk P Γ) {ρ : Rho} {w : World} {σ σ' : List AObj} (hH : RH ρ w σ) {r : Operand → AV} {o : Oper} {v : AV} {C : Prop} (h : eOp Γ σ r o.op = some (v, σ', C)) (hC : C)
    (e : Operand → Value) (he : ∀ x ∈ o.op.operands, Rv ρ w (r x) (e x)) : OpDoes P ρ w v σ' (execOp e o) := by
  unfold execOp
  cases hop : o.op <;> rw [hop] at h he <;> simp only [eOp, Op.operands] at h he <;> (try (cases h; done)) <;> simp only []
  case move x =>
    simp only [Option.some.injEq, Prod.mk.injEq] at h
    obtain ⟨rfl, rfl, rfl⟩ := h
    exact ⟨_, w, ρ, _, rfl, .inl rfl, he x (by simp), hH, Step.refl _ _⟩
  case assign x =>
    simp only [Option.some.injEq, Prod.mk.injEq] at h
    obtain ⟨rfl, rfl, rfl⟩ := h
    exact ⟨_, w, ρ, _, rfl, .inl rfl, he x (by simp), hH, Step.refl _ _⟩
  case alloc t => exact .made (eAlloc_sound hΓ hH h)
  case box t x => exact .made (eBox_sound hH h hC (he x (by simp)))
  case build t parts =>
    obtain ⟨hq, rfl⟩ := pu_some h
    refine .value hH (eBuild_sound hΓ hq hC ?_)
    rw [Array.toList_map]
    exact mapP_sound fun x hx => he x (by simpa using hx)
  case buildSlice t len parts =>
    refine .made (eBuildSlice_sound hΓ hH h hC ?_)
    rw [Array.toList_map]
    exact mapP_sound fun x hx => he x (by simpa using hx)
  case load t a =>
    obtain ⟨hq, rfl⟩ := pu_some h
    exact .value hH (eLoad_sound hΓ hH hq hC (he a (by simp)))
  case store t a x =>
    split at h
    · rename_i σ1 c hs
      simp only [Option.some.injEq, Prod.mk.injEq] at h
      obtain ⟨rfl, rfl, rfl⟩ := h
      obtain ⟨w', h1, h2, h3⟩ := eStore_sound hΓ hH hs hC (he a (by simp)) (he x (by simp))
      exact ⟨.skip, w', ρ, undef, by simp [h1], .inr ⟨rfl, rfl⟩, by simp [Rv], h2, h3⟩
    · cases h
  case nilCheck x =>
    obtain ⟨hq, rfl⟩ := pu_some h
    have hx := he x (by simp)
    unfold eNilCheck at hq
    split at hq <;> simp only [Option.some.injEq, Prod.mk.injEq, reduceCtorEq] at hq <;> (try exact hq.elim) <;> obtain ⟨rfl, rfl⟩ := hq <;> rename_i heq <;> rw [heq] at hx
    · have hx' := hx
      simp only [Rv] at hx'
      obtain ⟨l, _, hl⟩ := hx'
      rw [hl]
      exact ⟨_, w, ρ, _, rfl, .inl rfl, hl ▸ hx, hH, Step.refl _ _⟩
    · have hx' := hx
      simp only [Rv] at hx'
      obtain ⟨ad, hl, _⟩ := hx'
      rw [hl]
      exact ⟨_, w, ρ, _, rfl, .inl rfl, hl ▸ hx, hH, Step.refl _ _⟩
    · have hx' := hx
      simp only [Rv] at hx'
      obtain ⟨fs, cs, hl, _⟩ := hx'
      rw [hl]
      exact ⟨_, w, ρ, _, rfl, .inl rfl, hl ▸ hx, hH, Step.refl _ _⟩
  case binOp op t x y yt =>
    obtain ⟨hq, rfl⟩ := pu_some h
    exact .value hH (imm_of (eBin_sound hΓ hq hC (he x (by simp)) (he y (by simp)) x y))
  case unOp op t x =>
    obtain ⟨hq, rfl⟩ := pu_some h
    exact .value hH (imm_of (eUn_sound hq (he x (by simp))))
  case convert s d x =>
    split at h
    · rename_i ts hts
      obtain ⟨hq, rfl⟩ := pu_some h
      refine .value hH (imm_of (eConv_sound hΓ hq (he x (by simp)) ?_))
      have hd := (hΓ s ts hts).desc
      cases hdd : ts.d <;> rw [hdd] at hd <;> simp only [TD.holds] at hd
      case strct => obtain ⟨fs, hu, _⟩ := hd; exact ⟨_, hu⟩
      case func => obtain ⟨a, b, c, hu⟩ := hd; exact ⟨_, hu⟩
      case iface => obtain ⟨ms, hu⟩ := hd; exact ⟨_, hu⟩
      all_goals exact ⟨_, hd⟩
    · cases h
  case makeFunc fn first captured =>
    simp only [Option.some.injEq, Prod.mk.injEq] at h
    obtain ⟨rfl, rfl, rfl⟩ := h
    refine .value hH ⟨_, rfl, ?_⟩
    simp only [Rv]
    refine ⟨first.toList.map e, captured.toList.map e, ?_, mapL_sound fun x hx => he x (by simp only [Array.mem_append]; exact .inl (by simpa using hx)), mapL_sound fun x hx => he x (by simp only [Array.mem_append]; exact .inr (by simpa using hx))⟩
    congr 1 <;> (apply Array.ext'; simp)
  case makeMap t x =>
    refine .made (eMakeMap_sound (v := v) (C := C) hΓ hH ?_ ?_)
    · cases x with
      | none => simpa [eMakeMapO] using h
      | some x =>
        simp only [Option.map_some, eMakeMapO] at h
        split at h <;> first | (cases h; done) | exact h | (simp_all; done)
    · cases x with
      | none => exact .inl rfl
      | some x =>
        have hx := he x (by simp)
        simp only [Option.map_some, eMakeMapO] at h
        split at h
        · rename_i heq; cases heq
        · rename_i heq
          simp only [Option.some.injEq] at heq
          rw [heq] at hx
          simp only [Rv] at hx
          exact .inr ⟨_, _, by rw [Option.map_some, hx]⟩
        · cases h
  case lookup t m x ok =>
    obtain ⟨hq, rfl⟩ := pu_some h
    exact .value hH (eLookup_sound hΓ hH hq hC (he m (by simp)) (he x (by simp)))
  case mapUpdate t m x y =>
    split at h
    · rename_i σ1 c hs
      simp only [Option.some.injEq, Prod.mk.injEq] at h
      obtain ⟨rfl, rfl, rfl⟩ := h
      obtain ⟨w', h1, h2, h3⟩ := eMapUpdate_sound hΓ hH hs hC (he m (by simp)) (he x (by simp)) (he y (by simp))
      exact ⟨.skip, w', ρ, undef, by simp [h1], .inr ⟨rfl, rfl⟩, by simp [Rv], h2, h3⟩
    · cases h
  case insert t m x y =>
    split at h
    · rename_i σ1 c hs
      simp only [Option.some.injEq, Prod.mk.injEq] at h
      obtain ⟨rfl, rfl, rfl⟩ := h
      obtain ⟨w', h1, h2, h3⟩ := eMapUpdate_sound hΓ hH hs hC (he m (by simp)) (he x (by simp)) (he y (by simp))
      exact ⟨.skip, w', ρ, undef, by simp [h1], .inr ⟨rfl, rfl⟩, by simp [Rv], h2, h3⟩
    · cases h
  case makeSlice t l c => exact .made (eMake_sound hΓ hH h hC (he l (by simp)) (he c (by simp)))
  case slice t x lo hi mx =>
    obtain ⟨hq, rfl⟩ := pu_some h
    refine .value hH (eSlice_sound hΓ hH hq hC (he x (by simp)) (RvO_map fun y hy => he y ?_) (RvO_map fun y hy => he y ?_) (RvO_map fun y hy => he y ?_))
    · simp only [Option.mem_def] at hy; subst hy; simp
    · simp only [Option.mem_def] at hy; subst hy; simp
    · simp only [Option.mem_def] at hy; subst hy; simp
  case fieldAddr t x f =>
    obtain ⟨hq, rfl⟩ := pu_some h
    exact .value hH (eFieldAddr_sound hΓ hq hC (he x (by simp)))
  case field t x f =>
    obtain ⟨hq, rfl⟩ := pu_some h
    exact .value hH (eField_sound hΓ hq hC (he x (by simp)))
  case indexAddr t x i =>
    obtain ⟨hq, rfl⟩ := pu_some h
    exact .value hH (eIndexAddr_sound hΓ hH hq hC (he x (by simp)) (he i (by simp)))
  case index t x i =>
    obtain ⟨hq, rfl⟩ := pu_some h
    exact .value hH (eIndex_sound hΓ hq hC (he x (by simp)) (he i (by simp)))
  case extract x i =>
    obtain ⟨hq, rfl⟩ := pu_some h
    exact .value hH (eExtract_sound hq hC (he x (by simp)))
  case call c =>
    obtain ⟨callee, args, argTypes⟩ := c
    simp only [Call.operands] at h he
    split at h
    · rename_i b
      simp only [] at he
      have hargs : ∀ x ∈ args.toList, Rv ρ w (r x) (e x) := fun x hx => he x (by simpa using hx)
      have hinv : ∀ vs : List Value, args.toList.map e = vs → (do let d ← resolve e { callee := .builtin b, args, argTypes } o.type; invoke d.target d.args : Sem Next) = builtin b argTypes o.type (args.map fun | .const _ => true | _ => false) vs.toArray := by
        intro vs hvs
        simp only [resolve, pure_bind, invoke]
        congr 1
        apply Array.ext'
        rw [Array.toList_map, hvs]
      split at h
      case h_7 => cases h
      · rename_i x t ha ht
        obtain ⟨hq, rfl⟩ := pu_some h
        rw [ha] at hargs
        rw [hinv [e x] (by rw [ha]; rfl)]
        have : argTypes = #[t] := by apply Array.ext'; simpa using ht
        subst this
        exact .value hH (eLen_sound hΓ hH hq (hargs x (by simp)))
      · rename_i x t ha ht
        obtain ⟨hq, rfl⟩ := pu_some h
        rw [ha] at hargs
        rw [hinv [e x] (by rw [ha]; rfl)]
        have : argTypes = #[t] := by apply Array.ext'; simpa using ht
        subst this
        exact .value hH (eCap_sound hΓ hq (hargs x (by simp)))
      · rename_i x y ha
        obtain ⟨hq, rfl⟩ := pu_some h
        rw [ha] at hargs
        rw [hinv [e x, e y] (by rw [ha]; rfl)]
        exact .value hH (eMin_sound hq (hargs x (by simp)) (hargs y (by simp)))
      · rename_i x y ha
        obtain ⟨hq, rfl⟩ := pu_some h
        rw [ha] at hargs
        rw [hinv [e x, e y] (by rw [ha]; rfl)]
        exact .value hH (eMax_sound hq (hargs x (by simp)) (hargs y (by simp)))
      · rename_i x y t t' ha ht
        rw [ha] at hargs
        rw [hinv [e x, e y] (by rw [ha]; rfl)]
        split at h
        · rename_i heq
          subst heq
          have : argTypes = #[t', t'] := by apply Array.ext'; simpa using ht
          subst this
          exact .made (eApp_sound hΓ hH h hC (hargs x (by simp)) (hargs y (by simp)))
        · have : argTypes = #[t, t'] := by apply Array.ext'; simpa using ht
          subst this
          exact .made (eAppZ_sound hΓ hH h hC (hargs x (by simp)) (hargs y (by simp)))
      · rename_i x y t t' ha ht
        rw [ha] at hargs
        rw [hinv [e x, e y] (by rw [ha]; rfl)]
        have : argTypes = #[t, t'] := by apply Array.ext'; simpa using ht
        subst this
        obtain ⟨q, w', h1, h2, h3, h4⟩ := eCopy_sound (P := P) (t2 := t') (ty := o.type) hΓ hH h hC (hargs x (by simp)) (hargs y (by simp))
        exact .made ⟨q, ρ, w', h1, h2, h3, h4⟩
    · cases h

theorem eOp_quiet {σ σ' : List AObj} {r : Operand → AV} {op : Op} {v : AV} {C : Prop} (hl : loud op = false) (h : eOp Γ σ r op = some (v, σ', C)) : σ' = σ := by
  cases op <;> simp [loud] at hl <;> simp only [eOp] at h <;> (try (cases h; done)) <;> (try (exact (pu_some h).2))
  case move => simp only [Option.some.injEq, Prod.mk.injEq] at h; exact h.2.1.symm
  case assign => simp only [Option.some.injEq, Prod.mk.injEq] at h; exact h.2.1.symm
  case makeFunc => simp only [Option.some.injEq, Prod.mk.injEq] at h; exact h.2.1.symm
  case convert => split at h <;> first | exact (pu_some h).2 | cases h
  case call c =>
    split at h
    · rename_i b hb
      rw [hb] at hl
      simp only [] at hl
      split at h <;> (try (cases h; done)) <;> (try (exact (pu_some h).2)) <;> simp at hl
    · cases h
end
end Go.Ab
