/-
 Parts joined: Ab9 Ab10 Ab11 Ab12 Ab13 Ab14.
-/
import Derived.Test.YtonmienclploaaaGreatDoorQA2
import Derived.RangeFuncRecord
import Derived.OrdersIn
import Derived.TacticsIn
set_option linter.unusedSimpArgs false
set_option linter.unusedVariables false
namespace Go.Ab
def pu (σ : List AObj) : Option (AV × Prop) → Option (AV × List AObj × Prop)
 | some (v, c) => some (v, σ, c)
 | none => none
def us : AV → AV
 | .gd _ v => v
 | v => v
def ug (g : Bool) : AV → Prop
 | .gd g0 _ => g = true → g0 = true
 | _ => True
def mapP (r : Operand → AV) : List (Nat × Operand) → List (Nat × AV)
 | [] => []
 | (i, x) :: ps => (i, r x) :: mapP r ps
def mapL (r : Operand → AV) : List Operand → List AV
 | [] => []
 | x :: xs => r x :: mapL r xs
def TD.isIface : TD → Bool
 | .iface => true
 | _ => false
def eMkI (Γ : Tab) (t : TypeId) (x : AV) : Option (AV × Prop) :=
 match Γ.get t with
 | some ti => match ti.d.isIface with | false => some (.ifc t x, True) | true => none
 | none => none
def eOp (Γ : Tab) (σ : List AObj) (r : Operand → AV) : Op → Option (AV × List AObj × Prop)
 | .move x => some (r x, σ, True)
 | .assign x => some (r x, σ, True)
 | .alloc t => eAlloc Γ σ t
 | .box t x => eBox σ t (r x)
 | .build t parts => pu σ (eBuild Γ t (mapP r parts.toList))
 | .buildSlice t len parts => eBuildSlice Γ σ t len (mapP r parts.toList)
 | .load t a => pu σ (eLoad Γ σ t (r a))
 | .store t a x => match eStore Γ σ t (r a) (r x) with | some (σ', c) => some (.imm undef, σ', c) | none => none
 | .nilCheck x => pu σ (eNilCheck (r x))
 | .binOp op t x y _ => pu σ (eBin Γ op t (r x) (r y))
 | .unOp op _ x => pu σ (eUn op (r x))
 | .convert s d x => match Γ.get s with | some _ => pu σ (eConv Γ d (r x)) | none => none
 | .makeFunc fn first captured => some (.fn fn (mapL r first.toList) (mapL r captured.toList), σ, True)
 | .makeInterface t x => pu σ (eMkI Γ t (r x))
 | .makeSlice t l c => eMake Γ σ t (r l) (r c)
 | .makeMap t x => eMakeMapO Γ σ t (x.map r)
 | .lookup t m x ok => pu σ (eLookup Γ σ t (r m) (r x) ok)
 | .mapUpdate t m x v => match eMapUpdate Γ σ t (r m) (r x) (r v) with | some (σ',c) => some (.imm undef,σ',c) | none => none
 | .insert t m x v => match eMapUpdate Γ σ t (r m) (r x) (r v) with | some (σ',c) => some (.imm undef,σ',c) | none => none
 | .slice t x lo hi mx => pu σ (eSlice Γ σ t (r x) (lo.map r) (hi.map r) (mx.map r))
 | .fieldAddr t x f => pu σ (eFieldAddr Γ t (r x) f)
 | .field t x f => pu σ (eField Γ t (r x) f)
 | .indexAddr t x i => pu σ (eIndexAddr Γ σ t (r x) (r i))
 | .index t x i => pu σ (eIndex Γ t (r x) (r i))
 | .extract x i => pu σ (eExtract (r x) i)
 | .call c =>
  match c.callee with
  | .builtin b =>
   match b, c.args.toList, c.argTypes.toList with
   | .len, [x], [t] => pu σ (eLen Γ σ t (r x))
   | .cap, [x], [t] => pu σ (eCap Γ t (r x))
   | .min, [x, y], _ => pu σ (eMin (r x) (r y))
   | .max, [x, y], _ => pu σ (eMax (r x) (r y))
   | .append, [x, y], [t, t'] => if t' = t then eApp Γ σ t (r x) (r y) else eAppZ Γ σ t t' (r x) (r y)
   | .copy, [x, y], [t, _] => eCopy Γ σ t (r x) (r y)
   | .delete, [x, y], [t, _] => eMapDelete Γ σ t (r x) (r y)
   | _, _, _ => none
  | _ => none
 | _ => none
def loud : Op → Bool
 | .alloc _ | .box _ _ | .buildSlice _ _ _ | .store _ _ _ | .makeSlice _ _ _ | .makeMap _ _ | .mapUpdate _ _ _ _ | .insert _ _ _ _ => true
 | .call c => (match c.callee with | .builtin b => (match b with | .append | .copy | .delete => true | _ => false) | _ => false)
 | _ => false
section
variable {P : Program} {Γ : Tab}
theorem mapP_sound {ρ : Rho} {w : World} {r : Operand → AV} {e : Operand → Value} : ∀ {ps : List (Nat × Operand)},(∀ x ∈ ps.map (·.2),Rv ρ w (r x) (e x)) → RvP ρ w (mapP r ps) (ps.map fun p=>(p.1,e p.2))
 | [], _ => by simp [mapP, RvP]
 | (i, x) :: ps, h => by
  simp only [mapP, List.map_cons, RvP, true_and]
  exact ⟨h x (by simp), mapP_sound fun y hy => h y (by simp only [List.map_cons, List.mem_cons]; exact .inr hy)⟩
theorem mapL_sound {ρ : Rho} {w : World} {r : Operand → AV} {e : Operand → Value} : ∀ {xs : List Operand},(∀ x ∈ xs,Rv ρ w (r x) (e x)) → RvL ρ w (mapL r xs) (xs.map e)
 | [], _ => by simp [mapL, RvL]
 | x :: xs, h => by
  simp only [mapL, List.map_cons, RvL]
  exact ⟨h x (by simp), mapL_sound fun y hy => h y (by simp [hy])⟩
theorem pu_some {σ σ' : List AObj} {q : Option (AV × Prop)} {v : AV} {C : Prop} (h : pu σ q = some (v,σ',C)) : q = some (v,C) ∧ σ' = σ := by
 unfold pu at h
 split at h
 ·simp only [Option.some.injEq, Prod.mk.injEq] at h
  obtain ⟨rfl, rfl, rfl⟩ := h
  exact ⟨rfl, rfl⟩
 ·cases h
def OpDoes (P : Program) (ρ : Rho) (w : World) (v : AV) (σ' : List AObj) (s : Sem Next) : Prop :=
 ∃ (nx : Next) (w' : World) (ρ' : Rho) (x : Value),s.run P w = .ok nx w' ∧ (nx = .value x ∨ (nx = .skip ∧ x = undef)) ∧ Rv ρ' w' v x ∧ RH ρ' w' σ' ∧ Step ρ w ρ' w'
theorem OpDoes.value {ρ : Rho} {w : World} {σ : List AObj} (hH : RH ρ w σ) {v : AV} {s : Sem Value} (h : ∃ r,s.run P w = .ok r w ∧ Rv ρ w v r) : OpDoes P ρ w v σ (do pure (.value (← s))) := by
 obtain ⟨r, hr, hv⟩ := h
 exact ⟨.value r, w, ρ, r, by simp [hr], .inl rfl, hv, hH, Step.refl _ _⟩
theorem OpDoes.made {ρ : Rho} {w : World} {σ' : List AObj} {v : AV} {s : Sem Value} (h : ∃ r ρ' w',s.run P w = .ok r w' ∧ Rv ρ' w' v r ∧ RH ρ' w' σ' ∧ Step ρ w ρ' w') : OpDoes P ρ w v σ' (do pure (.value (← s))) := by
 obtain ⟨r, ρ', w', hr, hv, h1, h2⟩ := h
 exact ⟨.value r, w', ρ', r, by simp [hr], .inl rfl, hv, h1, h2⟩
theorem imm_of {ρ : Rho} {w : World} {v : AV} {s : Sem Value} (h : ∃ r,s.run P w = .ok r w ∧ v = .imm r) : ∃ r,s.run P w = .ok r w ∧ Rv ρ w v r := by
 obtain ⟨r, hr, rfl⟩ := h
 exact ⟨r, hr, by simp [Rv]⟩
theorem RvO_map {ρ : Rho} {w : World} {r : Operand → AV} {e : Operand → Value} {o : Option Operand} (h : ∀ x ∈ o,Rv ρ w (r x) (e x)) : RvO ρ w (o.map r) (o.map e) := by
 cases o with
 | none => simp [RvO]
 | some x => simp only [Option.map_some, RvO]; exact h x rfl
theorem eMkI_sound (hΓ : TabOk P Γ) {ρ : Rho} {w : World} {t : TypeId} {x v : AV} {C : Prop} {y : Value} (h : eMkI Γ t x = some (v,C)) (hx : Rv ρ w x y) : ∃ r,(Instr.makeInterface t y).run P w = .ok r w ∧ Rv ρ w v r := by
 unfold eMkI at h
 split at h
 case h_2 => cases h
 rename_i ti hti
 split at h
 case h_2 => cases h
 rename_i hi
 simp only [Option.some.injEq, Prod.mk.injEq] at h
 obtain ⟨rfl, _⟩ := h
 refine ⟨.iface t y, run_makeInterface w t y ?_, ⟨y, rfl, hx⟩⟩
 have hd := (hΓ t ti hti).desc
 unfold Program.concrete
 cases hdd : ti.d <;> rw [hdd] at hd hi <;> simp only [TD.holds] at hd
 case strct => obtain ⟨fs, hu, _⟩ := hd; rw [hu]
 case func => obtain ⟨a, b, c, hu⟩ := hd; rw [hu]
 case iface => simp [TD.isIface] at hi
 all_goals rw [hd]
set_option maxHeartbeats 1000000 in
theorem eOp_sound (hΓ : TabOk P Γ) {ρ : Rho} {w : World} {σ σ' : List AObj} (hH : RH ρ w σ) {r : Operand → AV} {o : Oper} {v : AV} {C : Prop} (h : eOp Γ σ r o.op = some (v,σ',C)) (hC : C)
  (e : Operand → Value) (he : ∀ x ∈ o.op.operands, Rv ρ w (r x) (e x)) : OpDoes P ρ w v σ' (execOp e o) := by
 unfold execOp
 cases hop : o.op <;> rw [hop] at h he <;> simp only [eOp,Op.operands] at h he <;> (try (cases h;done)) <;> simp only []
 case move x =>
  simp only [Option.some.injEq, Prod.mk.injEq] at h
  obtain ⟨rfl, rfl, rfl⟩ := h
  exact ⟨_, w, ρ, _, rfl, .inl rfl, he x (by simp), hH, Step.refl _ _⟩
 case assign x =>
  simp only [Option.some.injEq, Prod.mk.injEq] at h
  obtain ⟨rfl, rfl, rfl⟩ := h
  exact ⟨_, w, ρ, _, rfl, .inl rfl, he x (by simp), hH, Step.refl _ _⟩
 case alloc t => exact .made (eAlloc_sound hΓ hH h)
 case box t x => exact .made (eBox_sound hH h hC (he x (by simp)))
 case build t parts =>
  obtain ⟨hq, rfl⟩ := pu_some h
  refine .value hH (eBuild_sound hΓ hq hC ?_)
  rw [Array.toList_map]
  exact mapP_sound fun x hx => he x (by simpa using hx)
 case buildSlice t len parts =>
  refine .made (eBuildSlice_sound hΓ hH h hC ?_)
  rw [Array.toList_map]
  exact mapP_sound fun x hx => he x (by simpa using hx)
 case load t a =>
  obtain ⟨hq, rfl⟩ := pu_some h
  exact .value hH (eLoad_sound hΓ hH hq hC (he a (by simp)))
 case store t a x =>
  split at h
  ·rename_i σ1 c hs
   simp only [Option.some.injEq, Prod.mk.injEq] at h
   obtain ⟨rfl, rfl, rfl⟩ := h
   obtain ⟨w', h1, h2, h3⟩ := eStore_sound hΓ hH hs hC (he a (by simp)) (he x (by simp))
   exact ⟨.skip, w', ρ, undef, by simp [h1], .inr ⟨rfl, rfl⟩, by simp [Rv], h2, h3⟩
  ·cases h
 case nilCheck x =>
  obtain ⟨hq, rfl⟩ := pu_some h
  have hx := he x (by simp)
  unfold eNilCheck at hq
  split at hq <;> simp only [Option.some.injEq,Prod.mk.injEq,reduceCtorEq] at hq <;> (try exact hq.elim) <;> obtain ⟨rfl,rfl⟩ := hq <;> rename_i heq <;> rw [heq] at hx
  ·have hx' := hx
   simp only [Rv] at hx'
   obtain ⟨l, _, hl⟩ := hx'
   rw [hl]
   exact ⟨_, w, ρ, _, rfl, .inl rfl, hl ▸ hx, hH, Step.refl _ _⟩
  ·have hx' := hx
   simp only [Rv] at hx'
   obtain ⟨ad, hl, _⟩ := hx'
   rw [hl]
   exact ⟨_, w, ρ, _, rfl, .inl rfl, hl ▸ hx, hH, Step.refl _ _⟩
  ·have hx' := hx
   simp only [Rv] at hx'
   obtain ⟨fs, cs, hl, _⟩ := hx'
   rw [hl]
   exact ⟨_, w, ρ, _, rfl, .inl rfl, hl ▸ hx, hH, Step.refl _ _⟩
 case binOp op t x y yt =>
  obtain ⟨hq, rfl⟩ := pu_some h
  exact .value hH (imm_of (eBin_sound hΓ hq hC (he x (by simp)) (he y (by simp)) x y))
 case unOp op t x =>
  obtain ⟨hq, rfl⟩ := pu_some h
  exact .value hH (imm_of (eUn_sound hq (he x (by simp))))
 case convert s d x =>
  split at h
  ·rename_i ts hts
   obtain ⟨hq, rfl⟩ := pu_some h
   refine .value hH (imm_of (eConv_sound hΓ hq (he x (by simp)) ?_))
   have hd := (hΓ s ts hts).desc
   cases hdd : ts.d <;> rw [hdd] at hd <;> simp only [TD.holds] at hd
   case strct => obtain ⟨fs, hu, _⟩ := hd; exact ⟨_, hu⟩
   case func => obtain ⟨a, b, c, hu⟩ := hd; exact ⟨_, hu⟩
   case iface => obtain ⟨ms, hu⟩ := hd; exact ⟨_, hu⟩
   all_goals exact ⟨_, hd⟩
  ·cases h
 case makeInterface t x =>
  obtain ⟨hq, rfl⟩ := pu_some h
  exact .value hH (eMkI_sound hΓ hq (he x (by simp)))
 case makeFunc fn first captured =>
  simp only [Option.some.injEq, Prod.mk.injEq] at h
  obtain ⟨rfl, rfl, rfl⟩ := h
  refine .value hH ⟨_, rfl, ?_⟩
  simp only [Rv]
  refine ⟨first.toList.map e,captured.toList.map e,?_,mapL_sound fun x hx=>he x (by simp only [Array.mem_append];exact .inl (by simpa using hx)),mapL_sound fun x hx=>he x (by simp only [Array.mem_append];exact .inr (by simpa using hx))⟩
  congr 1 <;> (apply Array.ext'; simp)
 case makeMap t x =>
  refine .made (eMakeMap_sound (v := v) (C := C) hΓ hH ?_ ?_)
  ·cases x with
   | none => simpa [eMakeMapO] using h
   | some x =>
    simp only [Option.map_some, eMakeMapO] at h
    split at h <;> first | (cases h; done) | exact h | (simp_all; done)
  ·cases x with
   | none => exact .inl rfl
   | some x =>
    have hx := he x (by simp)
    simp only [Option.map_some, eMakeMapO] at h
    split at h
    ·rename_i heq; cases heq
    ·rename_i heq
     simp only [Option.some.injEq] at heq
     rw [heq] at hx
     simp only [Rv] at hx
     exact .inr ⟨_, _, by rw [Option.map_some, hx]⟩
    ·cases h
 case lookup t m x ok =>
  obtain ⟨hq, rfl⟩ := pu_some h
  exact .value hH (eLookup_sound hΓ hH hq hC (he m (by simp)) (he x (by simp)))
 case mapUpdate t m x y =>
  split at h
  ·rename_i σ1 c hs
   simp only [Option.some.injEq, Prod.mk.injEq] at h
   obtain ⟨rfl, rfl, rfl⟩ := h
   obtain ⟨w', h1, h2, h3⟩ := eMapUpdate_sound hΓ hH hs hC (he m (by simp)) (he x (by simp)) (he y (by simp))
   exact ⟨.skip, w', ρ, undef, by simp [h1], .inr ⟨rfl, rfl⟩, by simp [Rv], h2, h3⟩
  ·cases h
 case insert t m x y =>
  split at h
  ·rename_i σ1 c hs
   simp only [Option.some.injEq, Prod.mk.injEq] at h
   obtain ⟨rfl, rfl, rfl⟩ := h
   obtain ⟨w', h1, h2, h3⟩ := eMapUpdate_sound hΓ hH hs hC (he m (by simp)) (he x (by simp)) (he y (by simp))
   exact ⟨.skip, w', ρ, undef, by simp [h1], .inr ⟨rfl, rfl⟩, by simp [Rv], h2, h3⟩
  ·cases h
 case makeSlice t l c => exact .made (eMake_sound hΓ hH h hC (he l (by simp)) (he c (by simp)))
 case slice t x lo hi mx =>
  obtain ⟨hq, rfl⟩ := pu_some h
  refine .value hH (eSlice_sound hΓ hH hq hC (he x (by simp)) (RvO_map fun y hy => he y ?_) (RvO_map fun y hy => he y ?_) (RvO_map fun y hy => he y ?_))
  ·simp only [Option.mem_def] at hy; subst hy; simp
  ·simp only [Option.mem_def] at hy; subst hy; simp
  ·simp only [Option.mem_def] at hy; subst hy; simp
 case fieldAddr t x f =>
  obtain ⟨hq, rfl⟩ := pu_some h
  exact .value hH (eFieldAddr_sound hΓ hq hC (he x (by simp)))
 case field t x f =>
  obtain ⟨hq, rfl⟩ := pu_some h
  exact .value hH (eField_sound hΓ hq hC (he x (by simp)))
 case indexAddr t x i =>
  obtain ⟨hq, rfl⟩ := pu_some h
  exact .value hH (eIndexAddr_sound hΓ hH hq hC (he x (by simp)) (he i (by simp)))
 case index t x i =>
  obtain ⟨hq, rfl⟩ := pu_some h
  exact .value hH (eIndex_sound hΓ hq hC (he x (by simp)) (he i (by simp)))
 case extract x i =>
  obtain ⟨hq, rfl⟩ := pu_some h
  exact .value hH (eExtract_sound hq hC (he x (by simp)))
 case call c =>
  obtain ⟨callee, args, argTypes⟩ := c
  simp only [Call.operands] at h he
  split at h
  ·rename_i b
   simp only [] at he
   have hargs : ∀ x ∈ args.toList, Rv ρ w (r x) (e x) := fun x hx => he x (by simpa using hx)
   have hinv : ∀ vs : List Value,args.toList.map e = vs → (do let d ← resolve e { callee := .builtin b,args,argTypes } o.type;invoke d.target d.args : Sem Next) = builtin b argTypes o.type (args.map fun | .const _=>true | _=>false) vs.toArray := by
    intro vs hvs
    simp only [resolve, pure_bind, invoke]
    congr 1
    apply Array.ext'
    rw [Array.toList_map, hvs]
   split at h
   case h_8 => cases h
   ·rename_i x t ha ht
    obtain ⟨hq, rfl⟩ := pu_some h
    rw [ha] at hargs
    rw [hinv [e x] (by rw [ha]; rfl)]
    have : argTypes = #[t] := by apply Array.ext'; simpa using ht
    subst this
    exact .value hH (eLen_sound hΓ hH hq (hargs x (by simp)))
   ·rename_i x t ha ht
    obtain ⟨hq, rfl⟩ := pu_some h
    rw [ha] at hargs
    rw [hinv [e x] (by rw [ha]; rfl)]
    have : argTypes = #[t] := by apply Array.ext'; simpa using ht
    subst this
    exact .value hH (eCap_sound hΓ hq (hargs x (by simp)))
   ·rename_i x y ha
    obtain ⟨hq, rfl⟩ := pu_some h
    rw [ha] at hargs
    rw [hinv [e x, e y] (by rw [ha]; rfl)]
    exact .value hH (eMin_sound hq (hargs x (by simp)) (hargs y (by simp)))
   ·rename_i x y ha
    obtain ⟨hq, rfl⟩ := pu_some h
    rw [ha] at hargs
    rw [hinv [e x, e y] (by rw [ha]; rfl)]
    exact .value hH (eMax_sound hq (hargs x (by simp)) (hargs y (by simp)))
   ·rename_i x y t t' ha ht
    rw [ha] at hargs
    rw [hinv [e x, e y] (by rw [ha]; rfl)]
    split at h
    ·rename_i heq
     subst heq
     have : argTypes = #[t', t'] := by apply Array.ext'; simpa using ht
     subst this
     exact .made (eApp_sound hΓ hH h hC (hargs x (by simp)) (hargs y (by simp)))
    ·have : argTypes = #[t, t'] := by apply Array.ext'; simpa using ht
     subst this
     exact .made (eAppZ_sound hΓ hH h hC (hargs x (by simp)) (hargs y (by simp)))
   ·rename_i x y t t' ha ht
    rw [ha] at hargs
    rw [hinv [e x, e y] (by rw [ha]; rfl)]
    have : argTypes = #[t, t'] := by apply Array.ext'; simpa using ht
    subst this
    obtain ⟨q,w',h1,h2,h3,h4⟩ := eCopy_sound (P := P) (t2 := t') (ty := o.type) hΓ hH h hC (hargs x (by simp)) (hargs y (by simp))
    exact .made ⟨q, ρ, w', h1, h2, h3, h4⟩
   ·rename_i x y t t' ha ht
    rw [ha] at hargs
    rw [hinv [e x, e y] (by rw [ha]; rfl)]
    have : argTypes = #[t, t'] := by apply Array.ext'; simpa using ht
    subst this
    exact .made (eMapDelete_sound hΓ hH h hC (hargs x (by simp)) (hargs y (by simp)))
  ·cases h
theorem eOp_quiet {σ σ' : List AObj} {r : Operand → AV} {op : Op} {v : AV} {C : Prop} (hl : loud op = false) (h : eOp Γ σ r op = some (v,σ',C)) : σ' = σ := by
 cases op <;> simp [loud] at hl <;> simp only [eOp] at h <;> (try (cases h; done)) <;> (try (exact (pu_some h).2))
 case move => simp only [Option.some.injEq, Prod.mk.injEq] at h; exact h.2.1.symm
 case assign => simp only [Option.some.injEq, Prod.mk.injEq] at h; exact h.2.1.symm
 case makeFunc => simp only [Option.some.injEq, Prod.mk.injEq] at h; exact h.2.1.symm
 case convert => split at h <;> first | exact (pu_some h).2 | cases h
 case call c =>
  split at h
  ·rename_i b hb
   rw [hb] at hl
   simp only [] at hl
   split at h <;> (try (cases h; done)) <;> (try (exact (pu_some h).2)) <;> simp at hl
  ·cases h
end
end Go.Ab
namespace Go.Ab
def setN : List AV → Nat → AV → List AV
 | [], _, _ => []
 | _ :: xs, 0, v => v :: xs
 | x :: xs, n + 1, v => x :: setN xs n v
theorem setN_eq : ∀ (l : List AV) (n : Nat) (v : AV), setN l n v = l.set n v
 | [], _, _ => by simp [setN]
 | _ :: _, 0, _ => by simp [setN]
 | x :: xs, n + 1, v => by simp [setN, setN_eq xs n v]
def setE (env : List AV) (dst : Option Tmp) (v : AV) : List AV :=
 match dst with
 | some d => setN env d v
 | none => env
def nthOp : List Oper → Nat → Option Oper
 | [], _ => none
 | o :: _, 0 => some o
 | _ :: os, n + 1 => nthOp os n
theorem nthOp_eq : ∀ (l : List Oper) (i : Nat), nthOp l i = l[i]?
 | [], i => by simp [nthOp]
 | x :: xs, 0 => by simp [nthOp]
 | x :: xs, i + 1 => by simp [nthOp, nthOp_eq xs i]
def gb (want b : Bool) : Bool :=
 match want with
 | true => b
 | false => !b
def guardOf (ops : List Oper) (env : List AV) : Option (Nat × Bool) → Option (Option Bool)
 | none => some none
 | some (j, want) =>
  match nthOp ops j with
  | some o =>
   match o.dst with
   | some d =>
    match nth env d with
    | .imm (.bool b) => some (some (gb want b))
    | .gd g (.imm (.bool b)) => some (some (g && gb want b))
    | _ => none
   | none => none
  | none => none
def opsOf : Op → List Operand
 | .move x | .assign x | .box _ x | .load _ x | .nilCheck x | .unOp _ _ x | .convert _ _ x | .fieldAddr _ x _ | .field _ x _ | .extract x _ | .makeInterface _ x => [x]
 | .store _ a x => [a, x]
 | .build _ ps => ps.toList.map (·.2)
 | .buildSlice _ _ ps => ps.toList.map (·.2)
 | .binOp _ _ x y _ => [x, y]
 | .makeFunc _ f c => f.toList ++ c.toList
 | .makeSlice _ l c => [l, c]
 | .slice _ x lo hi mx => x :: (lo.toList ++ (hi.toList ++ mx.toList))
 | .indexAddr _ x i => [x, i]
 | .index _ x i => [x, i]
 | .makeMap _ x => x.toList
 | .lookup _ x i _ => [x, i]
 | .mapUpdate _ m x v => [m, x, v]
 | .insert _ m x v => [m, x, v]
 | .call c => c.args.toList
 | _ => []
def oblig (g : Bool) (env : List AV) : List Operand → Prop
 | [] => True
 | x :: xs => ug g (opd env x) ∧ oblig g env xs
def selA (c : Bool) : AV → AV → Option AV
 | .imm (.bool x), .imm (.bool y) => some (.imm (.bool (cond c x y)))
 | _, _ => none
def evPick (env : List AV) (g : Bool) (c a b : Operand) : Option (AV × Prop) :=
 match us (opd env c) with
 | .imm (.bool cb) =>
  match selA cb (us (opd env a)) (us (opd env b)) with
  | some v => some (v, ug g (opd env c) ∧ ug (g && cb) (opd env a) ∧ ug (g && !cb) (opd env b))
  | none => none
 | _ => none
def ev1 (Γ : Tab) (st : St) (g : Bool) : Op → Option (AV × List AObj × Prop)
 | .pick c a b => pu st.σ (evPick st.env g c a b)
 | op =>
  match eOp Γ st.σ (fun x => us (opd st.env x)) op with
  | some (v, σ', C) => some (v, σ', oblig g st.env (opsOf op) ∧ C)
  | none => none
def evG (Γ : Tab) (ops : List Oper) (st : St) (o : Oper) : Option (St × Prop) :=
 match guardOf ops st.env o.guard with
 | none => none
 | some none =>
  match ev1 Γ st true o.op with
  | some (v, σ', C) => some (⟨setE st.env o.dst v, σ'⟩, C)
  | none => none
 | some (some g) =>
  match loud o.op with
  | true =>
   match g with
   | true =>
    match ev1 Γ st true o.op with
    | some (v, σ', C) => some (⟨setE st.env o.dst v, σ'⟩, C)
    | none => none
   | false => some (⟨setE st.env o.dst (.imm undef), st.σ⟩, True)
  | false =>
   match ev1 Γ st g o.op with
   | some (v, _, C) => some (⟨setE st.env o.dst (.gd g v), st.σ⟩, g = true → C)
   | none => none
def isCall : Op → Bool
 | .call c => (match c.callee with | .builtin _ => false | _ => true)
 | .defer _ => true
 | _ => false
def evL (Γ : Tab) (ops : List Oper) : List Oper → St → Option (List Oper × St × Prop)
 | [], st => some ([], st, True)
 | o :: rest, st =>
  match isCall o.op with
  | true => some (o :: rest, st, True)
  | false =>
   match evG Γ ops st o with
   | some (st', C) =>
    match evL Γ ops rest st' with
    | some (r, st'', C') => some (r, st'', C ∧ C')
    | none => none
   | none => none
inductive Rd where
 | fn
 | it
 | rnd (l : Nat)
 | df (f : FuncId) (k : Nat)
def Rd.isDf : Rd → Bool
 | .df _ _ => true
 | _ => false
def Rd.fence : Rd → Fence
 | .fn => Fence.wide
 | .it => Fence.wide
 | .rnd l => Fence.wide.inRound l
 | .df _ _ => Fence.wide
theorem Rd.fn_all (rd : Rd) (f : FuncId) : rd.fence.fn f := by cases rd <;> trivial
theorem Rd.depth_none (rd : Rd) (k : Nat) : rd.fence.depth.isSome = true → 1 ≤ k := by cases rd <;> simp [Rd.fence,Fence.wide]
def Mk (rd : Rd) (ρ : Rho) (W0 w : World) (ds : List Deferred) : Prop :=
 match rd with
 | .fn => Marks ρ w W0.heap.size w.heap.size ds
 | .df f k => ∀ d ∈ ds, ∃ caps : Array Value, caps.size = k ∧ d = { target := .fn (.func f) caps, args := #[] }
 | _ => ds = []
theorem Mk.step {rd : Rd} {ρ ρ' : Rho} {W0 w w' : World} {ds : List Deferred} (h : Mk rd ρ W0 w ds) (hs : Step ρ w ρ' w') : Mk rd ρ' W0 w' ds := by
 cases rd
 ·exact (Marks.step h hs).wider (Nat.le_refl _) hs.size
 ·exact h
 ·exact h
 ·exact h
theorem Mk.sub {rd : Rd} {ρ ρ' : Rho} {W0 w : World} {ds : List Deferred} (h : Mk rd ρ W0 w ds) (hs : ∀ b,ρ'.has b → ρ.has b) : Mk rd ρ' W0 w ds := by
 cases rd
 ·exact Marks.sub h hs
 ·exact h
 ·exact h
 ·exact h
def Rel (rd : Rd) (ρ0 : Rho) (W0 : World) (st : St) (a : Act) (w : World) : Prop :=
 ∃ ρ, Step ρ0 W0 ρ w ∧ Mk rd ρ W0 w a.defers ∧ RvL ρ w st.env a.tmps.toList ∧ RH ρ w st.σ
def QC (rd : Rd) (Q : Exit → St → Prop) (ρ0 : Rho) (W0 : World) : Exit → Act → World → Prop := fun e a w => ∃ st,Q e st ∧ Rel rd ρ0 W0 st a w
def T (P : Program) (n : Nat) {rd : Rd} (c : Code) (Q : Exit → St → Prop) (st : St) : Prop :=
 ∀ (ρ0 : Rho) (W0 : World) (a : Act) (w : World),ρ0.length = n → Rel rd ρ0 W0 st a w → c.wpIn rd.fence 0 P (QC rd Q ρ0 W0) a w
def TO (P : Program) (n : Nat) {rd : Rd} (ops : List Oper) (l : List Oper) (K : St → Prop) (st : St) : Prop :=
 ∀ (ρ0 : Rho) (W0 : World) (a : Act) (w : World) (Q : Exit → Act → World → Prop),ρ0.length = n → Rel rd ρ0 W0 st a w → (∀ st' a' w',K st' → Rel rd ρ0 W0 st' a' w' → Q .normal a' w') → wpListIn rd.fence 0 P ops.toArray Q l a w
theorem wpListIn_stepR {P : Program} {rd : Rd} {ops : Array Oper} {Q : Exit → Act → World → Prop} {a : Act} {w : World} {rest : List Oper} {o : Oper}
  (h : ∀ K : Act → World → Prop, (∀ a w, wpListIn rd.fence 0 P ops Q rest a w → K a w) →
   if Region.wanted o (yielded ops a.tmps) then o.wpIn rd.fence 0 P a w K Q else K (a.put o.dst undef) w) : wpListIn rd.fence 0 P ops Q (o :: rest) a w :=
 wpListIn_step fun K hK => by
  have := h K hK
  split
  ·rename_i hw; rwa [if_pos hw] at this
  ·rename_i hw; rw [if_neg hw] at this; exact ⟨fun f _ => rd.fn_all f, this⟩
theorem Oper.wpInR {P : Program} {rd : Rd} {o : Oper} {a : Act} {w : World} {K : Act → World → Prop} {Q : Exit → Act → World → Prop} (hd : ∀ c,o.op ≠ .defer c)
  (h : o.uponIn rd.fence 0 P a K Q ((execOp a.eval o).run P w)) : o.wpIn rd.fence 0 P a w K Q :=
 ⟨fun f _ => rd.fn_all f, by rw [Oper.semAt_eq _ _ _ hd]; exact h⟩
section
variable {P : Program} {Γ : Tab} {n : Nat} {rd : Rd}
theorem opdT_sound {ρ : Rho} {w : World} {env : List AV} {a : Act} (h : RvL ρ w env a.tmps.toList) (t : Nat) : Rv ρ w (opd env (.tmp t)) (a.eval (.tmp t)) := by
  simp only [opd, Act.eval]
  by_cases ht : t < env.length
  ·obtain ⟨y, hy, hv⟩ := RvL.get h (nth_eq ht)
   have : a.tmps[t]? = some y := by simpa using hy
   simp [this, hv]
  ·have key : ∀ (l : List AV) (i : Nat), l.length ≤ i → nth l i = .top := by
    intro l
    induction l with
    | nil => intro i _; rfl
    | cons x xs ih => intro i hi; cases i with | zero => simp at hi | succ i => exact ih i (by simpa using hi)
   rw [key env t (Nat.le_of_not_lt ht)]
   simp [Rv]
theorem opd_sound {ρ : Rho} {w : World} {env : List AV} {a : Act} (hG : Glob ρ w) (h : RvL ρ w env a.tmps.toList) (x : Operand) : Rv ρ w (opd env x) (a.eval x) := by
 cases x with
 | tmp t => exact opdT_sound h t
 | const v => simp [opd, Rv, Act.eval]
 | global g =>
  simp only [opd, gA]
  split
  ·rename_i k vs hg
   exact hG g k vs (gLook_mem hg)
  ·simp [Rv]
 | func f => simp only [opd, Rv, Act.eval]; exact ⟨[], [], rfl, by simp [RvL], by simp [RvL]⟩
theorem us_sound {ρ : Rho} {w : World} {v : AV} {x : Value} {g : Bool} (hg : g = true) (hu : ug g v) (h : Rv ρ w v x) : Rv ρ w (us v) x := by
 cases v <;> simp only [us] <;> try exact h
 rename_i g0 v
 simp only [ug] at hu
 simp only [Rv, hu hg, if_true] at h
 exact h
theorem oblig_mem {g : Bool} {env : List AV} : ∀ {xs : List Operand}, oblig g env xs → ∀ x ∈ xs, ug g (opd env x)
 | [], _, x, hx => by cases hx
 | y :: ys, h, x, hx => by
  simp only [oblig] at h
  cases hx with
  | head => exact h.1
  | tail _ hm => exact oblig_mem h.2 x hm
theorem opsOf_mem {σ σ' : List AObj} {r : Operand → AV} {op : Op} {v : AV} {C : Prop} (h : eOp Γ σ r op = some (v,σ',C)) : ∀ x ∈ op.operands,x ∈ opsOf op := by
 intro x hx
 cases op <;> simp only [eOp] at h <;> (try (cases h;done)) <;> simp only [Op.operands,opsOf] at hx ⊢ <;> (try (first | exact hx | (simp at hx;done) | simpa using hx))
 case call c =>
  split at h
  ·rename_i b hb
   simpa [Call.operands, hb] using hx
  ·cases h
theorem ev1_sound (hΓ : TabOk P Γ) {ρ : Rho} {w : World} {st : St} {a : Act} (henv : RvL ρ w st.env a.tmps.toList) (hH : RH ρ w st.σ) {g : Bool} (hg : g = true) {o : Oper} {v : AV} {σ' : List AObj} {C : Prop}
  (h : ev1 Γ st g o.op = some (v, σ', C)) (hC : C) : OpDoes P ρ w v σ' (execOp a.eval o) := by
 unfold ev1 at h
 split at h
 ·rename_i c x y hop
  obtain ⟨hq, rfl⟩ := pu_some h
  unfold evPick at hq
  split at hq
  ·rename_i cb hcb
   split at hq
   ·rename_i v' hsel
    simp only [Option.some.injEq, Prod.mk.injEq] at hq
    obtain ⟨rfl, rfl⟩ := hq
    obtain ⟨h1, h2, h3⟩ := hC
    have hc := us_sound hg h1 (opd_sound hH.glob henv c)
    rw [hcb] at hc
    simp only [Rv] at hc
    subst hg
    unfold execOp
    rw [hop]
    simp only [hc]
    unfold selA at hsel
    split at hsel
    ·rename_i x' y' hx hy
     simp only [Option.some.injEq] at hsel
     subst hsel
     cases cb with
     | true =>
      have := us_sound (g := true) rfl (by simpa using h2) (opd_sound hH.glob henv x)
      rw [hx] at this
      simp only [Rv] at this
      exact ⟨.value (.bool x'), w, ρ, .bool x', by simp [asBool, this], .inl rfl, by simp [Rv], hH, Step.refl _ _⟩
     | false =>
      have := us_sound (g := true) rfl (by simpa using h3) (opd_sound hH.glob henv y)
      rw [hy] at this
      simp only [Rv] at this
      exact ⟨.value (.bool y'), w, ρ, .bool y', by simp [asBool, this], .inl rfl, by simp [Rv], hH, Step.refl _ _⟩
    ·cases hsel
   ·cases hq
  ·cases hq
 ·split at h
  ·rename_i v' σ'' C' he
   simp only [Option.some.injEq, Prod.mk.injEq] at h
   obtain ⟨rfl, rfl, rfl⟩ := h
   exact eOp_sound hΓ hH he hC.2 a.eval fun x hx => us_sound hg (oblig_mem hC.1 x (opsOf_mem he x hx)) (opd_sound hH.glob henv x)
  ·cases h
theorem put_sound {ρ : Rho} {w : World} {env : List AV} {a : Act} (h : RvL ρ w env a.tmps.toList) {v : AV} {x : Value} (hv : Rv ρ w v x) (dst : Option Tmp) : RvL ρ w (setE env dst v) (a.put dst x).tmps.toList := by
 cases dst with
 | none => exact h
 | some d =>
  simp only [setE, Act.put, setN_eq, Array.toList_setIfInBounds]
  exact RvL.set hv d h
theorem guardOf_sound {ρ : Rho} {w : World} {ops : List Oper} {env : List AV} {a : Act} (h : RvL ρ w env a.tmps.toList) {o : Oper} {q : Option Bool} (hq : guardOf ops env o.guard = some q) :
  Region.wanted o (yielded ops.toArray a.tmps) = q.getD true := by
 unfold guardOf at hq
 unfold Region.wanted
 split at hq
 ·rename_i hg
  simp only [Option.some.injEq] at hq
  subst hq
  simp [hg]
 ·rename_i j want hg
  rw [hg]
  simp only []
  split at hq
  ·rename_i o' ho'
   split at hq
   ·rename_i d hd
    have hy : yielded ops.toArray a.tmps j = match a.tmps[d]? with | some (.bool b) => some b | _ => none := by
     unfold yielded
     rw [nthOp_eq] at ho'
     simp [ho', hd]
     rfl
    have hx := opdT_sound h d
    simp only [opd, Act.eval] at hx
    have hlt : ∀ b : Bool, a.tmps.getD d undef = .bool b → a.tmps[d]? = some (.bool b) := by
     intro b hb
     cases hh : a.tmps[d]? with
     | none => simp [hh, undef] at hb
     | some z => simp [hh] at hb; rw [hb]
    split at hq
    ·rename_i b hb
     simp only [Option.some.injEq] at hq
     subst hq
     rw [hb] at hx
     simp only [Rv] at hx
     rw [hy, hlt b hx]
     cases want <;> cases b <;> rfl
    ·rename_i g b hb
     simp only [Option.some.injEq] at hq
     subst hq
     rw [hb] at hx
     simp only [Rv] at hx
     cases g with
     | true =>
      simp only [if_true] at hx
      rw [hy, hlt b hx]
      cases want <;> cases b <;> rfl
     | false =>
      simp only [Bool.false_eq_true, if_false] at hx
      rw [hy]
      cases hh : a.tmps[d]? with
      | none => rfl
      | some z =>
       simp [hh] at hx
       subst hx
       simp [undef]
    ·cases hq
   ·cases hq
  ·cases hq
theorem ev1_nd {st : St} {g : Bool} {op : Op} {q : AV × List AObj × Prop} (h : ev1 Γ st g op = some q) : ∀ c,op ≠ .defer c := by
 intro c e
 subst e
 simp [ev1, eOp] at h
theorem evG_one (hΓ : TabOk P Γ) {ops : List Oper} {st st' : St} {o : Oper} {C : Prop} (h : evG Γ ops st o = some (st',C)) (hC : C) {ρ0 : Rho} {W0 : World} {a : Act} {w : World} (hR : Rel rd ρ0 W0 st a w)
  {Q : Exit → Act → World → Prop} {K : Act → World → Prop} (hK : ∀ a' w',Rel rd ρ0 W0 st' a' w' → K a' w') : if Region.wanted o (yielded ops.toArray a.tmps) then o.wpIn rd.fence 0 P a w K Q else K (a.put o.dst undef) w := by
 obtain ⟨ρ, hst, hdf, henv, hH⟩ := hR
 have run : ∀ {v : AV} {σ' : List AObj},(∀ c,o.op ≠ .defer c) → OpDoes P ρ w v σ' (execOp a.eval o) → st' = ⟨setE st.env o.dst v,σ'⟩ → o.wpIn rd.fence 0 P a w K Q := by
  intro v σ' hnd hd hs
  obtain ⟨nx, w', ρ', x, h1, h2, h3, h4, h5⟩ := hd
  have hrel : Rel rd ρ0 W0 st' (a.put o.dst x) w' := by
   rw [hs]
   exact ⟨ρ', hst.trans h5, by cases o.dst <;> exact hdf.step h5, put_sound (RvL.mono h5 _ henv) h3 _, h4⟩
  refine Oper.wpInR hnd ?_
  rw [h1]
  rcases h2 with rfl | ⟨rfl, rfl⟩
  ·exact hK _ _ hrel
  ·exact hK _ _ hrel
 have skip : ∀ {v : AV}, (Rv ρ w v undef) → st' = ⟨setE st.env o.dst v, st.σ⟩ → K (a.put o.dst undef) w := by
  intro v hv hs
  refine hK _ _ ?_
  rw [hs]
  exact ⟨ρ, hst, by cases o.dst <;> exact hdf, put_sound henv hv _, hH⟩
 unfold evG at h
 split at h
 ·cases h
 ·rename_i hg
  rw [guardOf_sound henv hg]
  simp only [Option.getD_none, if_true]
  split at h
  ·rename_i v σ' C' he
   simp only [Option.some.injEq, Prod.mk.injEq] at h
   obtain ⟨rfl, rfl⟩ := h
   exact run (ev1_nd he) (ev1_sound hΓ henv hH rfl he hC) rfl
  ·cases h
 ·rename_i g hg
  rw [guardOf_sound henv hg]
  simp only [Option.getD_some]
  split at h
  ·split at h
   ·simp only [if_true]
    split at h
    ·rename_i v σ' C' he
     simp only [Option.some.injEq, Prod.mk.injEq] at h
     obtain ⟨rfl, rfl⟩ := h
     exact run (ev1_nd he) (ev1_sound hΓ henv hH rfl he hC) rfl
    ·cases h
   ·simp only [Bool.false_eq_true, if_false]
    simp only [Option.some.injEq, Prod.mk.injEq] at h
    obtain ⟨rfl, rfl⟩ := h
    exact skip (v := .imm undef) (by simp [Rv]) rfl
  ·rename_i hl
   split at h
   ·rename_i v σ' C' he
    simp only [Option.some.injEq, Prod.mk.injEq] at h
    obtain ⟨rfl, rfl⟩ := h
    cases g with
    | true =>
     simp only [if_true]
     have hd := ev1_sound hΓ henv hH rfl he (hC rfl)
     have hσ : σ' = st.σ := by
      have he := he
      unfold ev1 at he
      split at he
      ·exact (pu_some he).2
      ·split at he
       ·rename_i hq
        simp only [Option.some.injEq, Prod.mk.injEq] at he
        obtain ⟨rfl, rfl, rfl⟩ := he
        exact eOp_quiet hl hq
       ·cases he
     subst hσ
     obtain ⟨nx, w', ρ', x, h1, h2, h3, h4, h5⟩ := hd
     exact run (v := .gd true v) (ev1_nd he) ⟨nx, w', ρ', x, h1, h2, by simpa [Rv] using h3, h4, h5⟩ rfl
    | false =>
     simp only [Bool.false_eq_true, if_false]
     exact skip (v := .gd false v) (by simp [Rv]) rfl
   ·cases h
theorem evG_sound (hΓ : TabOk P Γ) {ops : List Oper} {st st' : St} {o : Oper} {C : Prop} (h : evG Γ ops st o = some (st',C)) (hC : C) {ρ0 : Rho} {W0 : World} {a : Act} {w : World} (hR : Rel rd ρ0 W0 st a w)
  {Q : Exit → Act → World → Prop} {rest : List Oper} (next : ∀ a' w',Rel rd ρ0 W0 st' a' w' → wpListIn rd.fence 0 P ops.toArray Q rest a' w') : wpListIn rd.fence 0 P ops.toArray Q (o :: rest) a w :=
 wpListIn_stepR fun _ hK => evG_one hΓ h hC hR fun a' w' hr => hK _ _ (next a' w' hr)
theorem evL_sound (hΓ : TabOk P Γ) {ops : List Oper} {K : St → Prop} : ∀ {l r : List Oper} {st st' : St} {C : Prop},evL Γ ops l st = some (r,st',C) → C → TO P n (rd := rd) ops r K st' → TO P n (rd := rd) ops l K st
 | [], r, st, st', C, h, _, k => by
  simp only [evL, Option.some.injEq, Prod.mk.injEq] at h
  obtain ⟨rfl, rfl, _⟩ := h
  exact k
 | o :: rest, r, st, st', C, h, hC, k => by
  unfold evL at h
  split at h
  ·simp only [Option.some.injEq, Prod.mk.injEq] at h
   obtain ⟨rfl, rfl, _⟩ := h
   exact k
  ·split at h
   ·rename_i st1 C1 he
    split at h
    ·rename_i r2 st2 C2 hl
     simp only [Option.some.injEq, Prod.mk.injEq] at h
     obtain ⟨rfl, rfl, rfl⟩ := h
     intro ρ0 W0 a w Q hn hR hQ
     exact evG_sound hΓ he hC.1 hR fun a' w' hR' => evL_sound hΓ hl hC.2 k ρ0 W0 a' w' Q hn hR' hQ
    ·cases h
   ·cases h
theorem TO_nil {ops : List Oper} {K : St → Prop} {st : St} (h : K st) : TO P n (rd := rd) ops [] K st := fun _ _ _ _ _ _ hR hQ => wpListIn_nil (hQ _ _ _ h hR)
def evGoal (P : Program) (n : Nat) (ops : List Oper) (K : St → Prop) : Option (List Oper × St × Prop) → Prop
 | some ([], st, C) => C ∧ K st
 | some (o :: r, st, C) => C ∧ TO P n (rd := rd) ops (o :: r) K st
 | none => False
theorem TO_ev (hΓ : TabOk P Γ) {ops l : List Oper} {K : St → Prop} {st : St} (h : evGoal P n (rd := rd) ops K (evL Γ ops l st)) : TO P n (rd := rd) ops l K st := by
 cases he : evL Γ ops l st with
 | none => rw [he] at h; exact h.elim
 | some q =>
  obtain ⟨r, st', C⟩ := q
  rw [he] at h
  cases r with
  | nil => exact evL_sound hΓ he h.1 (TO_nil h.2)
  | cons o r => exact evL_sound hΓ he h.1 h.2
theorem T_region {id : Nat} {ops : Array Oper} {Q : Exit → St → Prop} {st : St} (h : TO P n (rd := rd) ops.toList ops.toList (Q .normal) st) : T P n (rd := rd) (.region id ops false) Q st := by
 intro ρ0 W0 a w hn hR
 refine wpIn_region_list ?_
 have := h ρ0 W0 a w (QC rd Q ρ0 W0) hn hR fun st' a' w' hk hr => ⟨st', hk, hr⟩
 simpa using this
def thenQ (K : St → Prop) (Q : Exit → St → Prop) : Exit → St → Prop
 | .normal, st => K st
 | e, st => Q e st
theorem T_seq {x y : Code} {Q : Exit → St → Prop} {st : St} (h : T P n (rd := rd) x (thenQ (T P n (rd := rd) y Q) Q) st) : T P n (rd := rd) (.seq x y) Q st := by
 intro ρ0 W0 a w hn hR
 refine wpIn_seq (wpIn_mono (h ρ0 W0 a w hn hR) fun e a' w' hq => ?_)
 obtain ⟨st', hk, hr⟩ := hq
 cases e <;> first | exact hk ρ0 W0 a' w' hn hr | exact ⟨st', hk, hr⟩
theorem T_seq_region {id : Nat} {l : List Oper} {y : Code} {Q : Exit → St → Prop} {st : St} (hΓ : TabOk P Γ) (h : ∀ K : St → Prop,(∀ st',T P n (rd := rd) y Q st' → K st') → evGoal P n (rd := rd) l K (evL Γ l l st)) : T P n (rd := rd) (.seq (.region id l.toArray false) y) Q st :=
 T_seq (T_region (TO_ev (P := P) (n := n) hΓ (h (T P n (rd := rd) y Q) fun _ h => h)))
theorem T_last_region {id : Nat} {l : List Oper} {Q : Exit → St → Prop} {st : St} (hΓ : TabOk P Γ) (h : ∀ K : St → Prop,(∀ st',Q .normal st' → K st') → evGoal P n (rd := rd) l K (evL Γ l l st)) : T P n (rd := rd) (.region id l.toArray false) Q st :=
 T_region (TO_ev (P := P) (n := n) hΓ (h (Q .normal) fun _ h => h))
theorem T_mono {c : Code} {Q Q' : Exit → St → Prop} {st : St} (h : T P n (rd := rd) c Q st) (hq : ∀ e st,Q e st → Q' e st) : T P n (rd := rd) c Q' st := fun ρ0 W0 a w hn hR =>
 wpIn_mono (h ρ0 W0 a w hn hR) fun e _ _ ⟨st', hk, hr⟩ => ⟨st', hq e st' hk, hr⟩
theorem T_skip {Q : Exit → St → Prop} {st : St} (h : Q .normal st) : T P n (rd := rd) .skip Q st := fun _ _ _ _ _ hR => wpIn_skip ⟨st,h,hR⟩
theorem T_label {l : Nat} {Q : Exit → St → Prop} {st : St} (h : Q .normal st) : T P n (rd := rd) (.label l) Q st := fun _ _ _ _ _ hR => wpIn_label ⟨st,h,hR⟩
theorem T_exit {id : Nat} {Q : Exit → St → Prop} {st : St} (h : Q (.exit id) st) : T P n (rd := rd) (.exit id) Q st := fun _ _ _ _ _ hR => wpIn_exit ⟨st,h,hR⟩
theorem T_ret {Q : Exit → St → Prop} {st : St} (h : Q .ret st) : T P n (rd := rd) .ret Q st := fun _ _ _ _ _ hR => wpIn_ret ⟨st,h,hR⟩
def condA (env : List AV) (c : Operand) : Option Bool :=
 match opd env c with
 | .imm (.bool b) => some b
 | _ => none
theorem T_cond {c : Operand} {x y : Code} {Q : Exit → St → Prop} {st : St} (b : Bool) (hb : condA st.env c = some b) (ht : b = true → T P n (rd := rd) x Q st) (hf : b = false → T P n (rd := rd) y Q st) : T P n (rd := rd) (.cond c x y) Q st := by
 intro ρ0 W0 a w hn hR
 obtain ⟨ρ, h1, h2, h3, h4⟩ := hR
 have hc := opd_sound h4.glob h3 c
 unfold condA at hb
 split at hb
 ·rename_i b' hb'
  simp only [Option.some.injEq] at hb
  subst hb
  rw [hb'] at hc
  simp only [Rv] at hc
  exact wpIn_cond_split hc (fun e => ht e ρ0 W0 a w hn ⟨ρ,h1,h2,h3,h4⟩) (fun e => hf e ρ0 W0 a w hn ⟨ρ,h1,h2,h3,h4⟩)
 ·cases hb
def blockQ (id : Nat) (Q : Exit → St → Prop) : Exit → St → Prop
 | .exit id', st => if id' = id then Q .normal st else Q (.exit id') st
 | e, st => Q e st
theorem T_block {id : Nat} {c : Code} {Q : Exit → St → Prop} {st : St} (h : T P n (rd := rd) c (blockQ id Q) st) : T P n (rd := rd) (.block id c) Q st := by
 intro ρ0 W0 a w hn hR
 refine wpIn_block (wpIn_mono (h ρ0 W0 a w hn hR) fun e a' w' hq => ?_)
 obtain ⟨st', hk, hr⟩ := hq
 cases e <;> try exact ⟨st', hk, hr⟩
 rename_i id'
 simp only [blockQ] at hk
 simp only [Exit.inBlock]
 split at hk
 ·rename_i he; rw [if_pos he]; exact ⟨st', hk, hr⟩
 ·rename_i he; rw [if_neg he]; exact ⟨st', hk, hr⟩
theorem exists_min {p : Nat → Prop} : ∀ {m : Nat}, p m → ∃ k, p k ∧ ∀ j, p j → k ≤ j := by
 intro m
 induction m using Nat.strongRecOn with
 | _ m ih =>
  intro hm
  by_cases h : ∃ k, k < m ∧ p k
  ·obtain ⟨k, hk, hp⟩ := h
   exact ih k hk hp
  ·exact ⟨m, hm, fun j hj => Nat.le_of_not_lt fun hlt => h ⟨j, hlt, hj⟩⟩
theorem T_loop {c : Code} {Q : Exit → St → Prop} {st : St} (I : Nat → St → Prop) (m0 : Nat) (h0 : I m0 st) (round : ∀ m st,I m st → T P n (rd := rd) c (thenQ (fun st'=>∃ m',m' < m ∧ I m' st') Q) st) : T P n (rd := rd) (.loop c) Q st := by
 intro ρ0 W0 a w hn hR
 classical
 let J : Nat → Act → World → Prop := fun m a w => ∃ st, I m st ∧ Rel rd ρ0 W0 st a w
 have emin : ∀ a w,(∃ m,J m a w) → ∃ k,J k a w ∧ ∀ j,J j a w → k ≤ j := fun a w ⟨m,hm⟩ => exists_min (p := fun m => J m a w) hm
 let μ : Act → World → Nat := fun a w => if h : ∃ m, J m a w then Classical.choose (emin a w h) else 0
 refine wpIn_loop (fun a w => ∃ m, J m a w) μ ⟨m0, st, h0, hR⟩ fun a w hI => ?_
 have hμ : μ a w = Classical.choose (emin a w hI) := by simp only [μ]; rw [dif_pos hI]
 obtain ⟨⟨st1, hi1, hr1⟩, _⟩ := Classical.choose_spec (emin a w hI)
 refine wpIn_mono (round _ st1 hi1 ρ0 W0 a w hn hr1) fun e a' w' hq => ?_
 obtain ⟨st', hk, hr⟩ := hq
 cases e <;> try exact ⟨st', hk, hr⟩
 obtain ⟨m', hlt, hi'⟩ := hk
 have hJ : ∃ m, J m a' w' := ⟨m', st', hi', hr⟩
 refine ⟨hJ, ?_⟩
 have hμ' : μ a' w' = Classical.choose (emin a' w' hJ) := by simp only [μ]; rw [dif_pos hJ]
 rw [hμ, hμ']
 exact Nat.lt_of_le_of_lt ((Classical.choose_spec (emin a' w' hJ)).2 m' ⟨st', hi', hr⟩) hlt
theorem T_weak {c : Code} {Q : Exit → St → Prop} {st st2 : St} (h : ∀ ρ0 W0 a w,ρ0.length = n → Rel rd ρ0 W0 st a w → Rel rd ρ0 W0 st2 a w) (k : T P n (rd := rd) c Q st2) : T P n (rd := rd) c Q st :=
 fun ρ0 W0 a w hn hR => k ρ0 W0 a w hn (h ρ0 W0 a w hn hR)
def fnOk (P : Program) (f : FuncId) : Bool :=
 match P.funcs[f]? with
 | some fn => fn.name != "runtime.NumGoroutine" && fn.body.isSome
 | none => false
theorem run_call {k : FuncId} (hok : fnOk P k = true) (w : World) (args : Array Value) : (callFunc k args).run P w = .ok (.enter k args) w := by
 unfold fnOk at hok
 split at hok
 ·rename_i fn hfn
  simp only [Bool.and_eq_true, bne_iff_ne, ne_eq] at hok
  have hb : fn.body.isNone = false := by
   cases hh : fn.body with
   | none => simp [hh] at hok
   | some _ => rfl
  have hb' : fn.body ≠ none := fun e => by rw [e] at hb; cases hb
  simp [callFunc, hfn, hok.1, hb']
 ·cases hok
def Inv (P : Program) (f : FuncId) (vs : Array Value) (w : World) (R : Ending → World → Prop) : Prop :=
 ((callFunc f vs).run P w = .ok (.enter f vs) w ∧ Calls P f vs w R) ∨ ∃ v w',(callFunc f vs).run P w = .ok (.value v) w' ∧ R (.returned v) w'
theorem Inv.mono {f : FuncId} {vs : Array Value} {w : World} {R R' : Ending → World → Prop} (h : Inv P f vs w R) (hr : ∀ e w',R e w' → R' e w') : Inv P f vs w R' := by
 rcases h with ⟨h1, h2⟩ | ⟨v, w', h1, h2⟩
 ·exact .inl ⟨h1, h2.mono hr⟩
 ·exact .inr ⟨v, w', h1, hr _ _ h2⟩
def TC (P : Program) (f : FuncId) (args : List AV) (σ : List AObj) (Q : AV → List AObj → Prop) : Prop :=
 True ∧ ∀ (ρ : Rho) (w : World) (vs : List Value), RvL ρ w args vs → RH ρ w σ →
  Inv P f vs.toArray w fun e w' => ∃ (ρ' : Rho) (v : AV) (σ' : List AObj) (x : Value),e = .returned x ∧ Q v σ' ∧ Rv ρ' w' v x ∧ RH ρ' w' σ' ∧ Step ρ w ρ' w'
theorem TC.mono {f : FuncId} {args : List AV} {σ : List AObj} {Q Q' : AV → List AObj → Prop} (h : TC P f args σ Q) (hq : ∀ v σ',Q v σ' → Q' v σ') : TC P f args σ Q' :=
 ⟨h.1, fun ρ w vs ha hH => (h.2 ρ w vs ha hH).mono fun _ _ ⟨ρ', v, σ', x, a, b, c⟩ => ⟨ρ', v, σ', x, a, hq v σ' b, c⟩⟩
def eRes (Γ : Tab) (st : St) : List ResultVar → Option (List AV × Prop)
 | [] => some ([], True)
 | .tmp t :: rs =>
  match eRes Γ st rs with
  | some (vs, c) => some (us (nth st.env t) :: vs, ug true (nth st.env t) ∧ c)
  | none => none
 | .cell a t :: rs =>
  match eLoad Γ st.σ t (us (nth st.env a)) with
  | some (v,c1) => match eRes Γ st rs with | some (vs,c) => some (v :: vs,ug true (nth st.env a) ∧ c1 ∧ c) | none => none
  | none => none
def mkRes : List AV → AV
 | [v] => v
 | vs => .tup vs
def retGoal (σ : List AObj) (Q : AV → List AObj → Prop) : Option (List AV × Prop) → Prop
 | some (vs, c) => c ∧ Q (mkRes vs) σ
 | none => False
def retQ (Γ : Tab) (rs : List ResultVar) (Q : AV → List AObj → Prop) : Exit → St → Prop
 | .ret, st | .normal, st => retGoal st.σ Q (eRes Γ st rs)
 | _, _ => False
theorem eRes_sound (hΓ : TabOk P Γ) {ρ : Rho} {w : World} {st : St} {a : Act} (henv : RvL ρ w st.env a.tmps.toList) (hH : RH ρ w st.σ) : ∀ {rs : List ResultVar} {vs : List AV} {C : Prop},eRes Γ st rs = some (vs,C) → C →
  ∃ xs : List Value,(∀ g : ResultVar → Sem Value,(∀ t,g (.tmp t) = pure (a.tmps.getD t undef)) → (∀ p t,g (.cell p t) = do loadVar t (← asAddr (a.tmps.getD p undef))) → (rs.mapM g).run P w = .ok xs w) ∧ RvL ρ w vs xs
 | [], vs, C, h, _ => by
  simp only [eRes, Option.some.injEq, Prod.mk.injEq] at h
  obtain ⟨rfl, _⟩ := h
  exact ⟨[], fun _ _ _ => by simp, by simp [RvL]⟩
 | .tmp t :: rs, vs, C, h, hC => by
  unfold eRes at h
  split at h
  ·rename_i vs' c hr
   simp only [Option.some.injEq, Prod.mk.injEq] at h
   obtain ⟨rfl, rfl⟩ := h
   obtain ⟨xs, h1, h2⟩ := eRes_sound hΓ henv hH hr hC.2
   have hx := us_sound rfl hC.1 (opdT_sound henv t)
   refine ⟨a.tmps.getD t undef :: xs, ?_, ?_⟩
   ·intro g g1 g2
    simp only [List.mapM_cons, Sem.run_bind, g1, Sem.run_pure, Result.andThen_ok, h1 g g1 g2]
   ·simp only [RvL]
    exact ⟨hx, h2⟩
  ·cases h
 | .cell p t :: rs, vs, C, h, hC => by
  unfold eRes at h
  split at h
  ·rename_i v c1 hl
   split at h
   ·rename_i vs' c hr
    simp only [Option.some.injEq, Prod.mk.injEq] at h
    obtain ⟨rfl, rfl⟩ := h
    obtain ⟨xs, h1, h2⟩ := eRes_sound hΓ henv hH hr hC.2.2
    have hx := us_sound rfl hC.1 (opdT_sound henv p)
    obtain ⟨r, hr1, hr2⟩ := eLoad_sound hΓ hH hl hC.2.1 hx
    simp only [Act.eval] at hr1
    refine ⟨r :: xs, ?_, ?_⟩
    ·have hq : (do loadVar t (← asAddr (a.tmps.getD p undef)) : Sem Value).run P w = .ok r w := by
      revert hr1
      generalize a.tmps.getD p undef = z
      intro hr1
      cases z <;> simp [Instr.loadAt, Instr.sureAddr] at hr1
      rename_i ad
      cases ad with
      | none => simp at hr1
      | some ad => simpa [asAddr, Instr.sureAddr] using hr1
     intro g g1 g2
     rw [List.mapM_cons, Sem.run_bind, g2, hq]
     simp only [Sem.run_bind, Sem.run_pure, Result.andThen_ok, h1 g g1 g2]
    ·simp only [RvL]
     exact ⟨hr2, h2⟩
   ·cases h
  ·cases h
theorem TC_of_T (hΓ : TabOk P Γ) {f : FuncId} {fn : Func} {c : Code} {args : List AV} {σ : List AObj} {Q : AV → List AObj → Prop} (hf : P.funcs[f]? = some fn) (hb : fn.body = some c) (hok : fnOk P f = true)
  (h : T P σ.length (rd := .it) c (retQ Γ fn.results.toList Q) ⟨args ++ List.replicate (fn.ntmps - args.length) .top,σ⟩) : TC P f args σ Q := by
 refine ⟨trivial, fun ρ w vs ha hH => .inl ⟨run_call hok w _, ?_⟩⟩
 refine calls_of_wp hf hb ?_
 have hR : Rel .it ρ w ⟨args ++ List.replicate (fn.ntmps - args.length) .top,σ⟩ { tmps := vs.toArray ++ Array.replicate (fn.ntmps - vs.toArray.size) undef,defers := [] } w := by
  refine ⟨ρ, Step.refl _ _, rfl, ?_, hH⟩
  simp only [Array.toList_append, List.size_toArray, Array.toList_replicate]
  refine RvL.append ha ?_
  rw [ha.length]
  have := RvL.tops (ρ := ρ) (w := w) (List.replicate (fn.ntmps - vs.length) undef)
  simpa using this
 refine wp_mono (wpIn_wide.1 (h ρ w _ w hH.len hR)) fun e a w' hq => ?_
 obtain ⟨st, hk, ρ', hst, hdf, henv, hH'⟩ := hq
 have fin : retGoal st.σ Q (eRes Γ st fn.results.toList) → a.defers = [] ∧ ∃ v,(results fn a.tmps).run P w' = .ok v w' ∧
   ∃ (ρ' : Rho) (u : AV) (σ' : List AObj) (x : Value),Ending.returned v = .returned x ∧ Q u σ' ∧ Rv ρ' w' u x ∧ RH ρ' w' σ' ∧ Step ρ w ρ' w' := by
  intro hk
  cases he : eRes Γ st fn.results.toList with
  | none => rw [he] at hk; exact hk.elim
  | some q =>
   obtain ⟨us', C⟩ := q
   rw [he] at hk
   obtain ⟨hc, hq⟩ := hk
   obtain ⟨xs, h1, h2⟩ := eRes_sound hΓ henv hH' he hc
   have hm : ∀ g : ResultVar → Sem Value,(∀ t,g (.tmp t) = pure (a.tmps.getD t undef)) → (∀ p t,g (.cell p t) = do loadVar t (← asAddr (a.tmps.getD p undef))) → (fn.results.mapM g).run P w' = .ok xs.toArray w' := by
    intro g g1 g2
    rw [Array.mapM_eq_mapM_toList, Sem.run_map, h1 g g1 g2]
    rfl
   refine ⟨hdf,(if h : xs.toArray.size = 1 then xs.toArray[0] else .tuple xs.toArray),?_,ρ',mkRes us',st.σ,_,rfl,hq,?_,hH',hst⟩
   ·unfold results
    rw [Sem.run_bind, hm _ (fun _ => rfl) (fun _ _ => rfl)]
    rfl
   ·match us', xs, h2 with
    | [], [], _ => simp only [mkRes, Rv]; exact ⟨[], by simp, by simp [RvL]⟩
    | [u], [x], h2 => simp only [RvL] at h2; simpa [mkRes] using h2.1
    | u1 :: u2 :: us', x1 :: x2 :: xs, h2 =>
     simp only [mkRes, Rv]
     exact ⟨x1 :: x2 :: xs, by simp, h2⟩
    | [], _ :: _, h2 => simp [RvL] at h2
    | _ :: _, [], h2 => simp [RvL] at h2
    | [_], _ :: _ :: _, h2 => simp [RvL] at h2
    | _ :: _ :: _, [_], h2 => simp [RvL] at h2
 cases e <;> first | exact fin hk | exact hk.elim
end
end Go.Ab
namespace Go.Ab
section
variable {P : Program} {Γ : Tab} {n : Nat} {rd : Rd}
def callA (env : List AV) (c : Call) : Option (FuncId × List AV × Prop) :=
 match c.callee with
 | .value f =>
  match us (opd env f) with
  | .fn (.func k) first captured => some (k,first ++ (mapL (fun x => us (opd env x)) c.args.toList ++ captured),ug true (opd env f) ∧ oblig true env c.args.toList)
  | _ => none
 | _ => none
def opCall : Op → Option Call
 | .call c => some c
 | _ => none
def callGoal (P : Program) (σ : List AObj) (next : AV → List AObj → Prop) : Option (FuncId × List AV × Prop) → Prop
 | some (k, args, C) => C ∧ ∃ Q0, TC P k args σ Q0 ∧ ∀ v σ', Q0 v σ' → next v σ'
 | none => False
def gCall (g : Bool) (A B : Prop) : Prop := (g = true → A) ∧ (g = false → B)
def callGoalG (P : Program) (n : Nat) {rd : Rd} (ops rest : List Oper) (K : St → Prop) (dst : Option Tmp) (env : List AV) (σ : List AObj) (ca : Option (FuncId × List AV × Prop)) : Option (Option Bool) → Prop
 | some none => callGoal P σ (fun v σ' => TO P n (rd := rd) ops rest K ⟨setE env dst v, σ'⟩) ca
 | some (some g) => gCall g (callGoal P σ (fun v σ' => TO P n (rd := rd) ops rest K ⟨setE env dst v,σ'⟩) ca) (TO P n (rd := rd) ops rest K ⟨setE env dst (.imm undef),σ⟩)
 | none => False
theorem _root_.Go.Calls.inR {P : Program} {f : FuncId} {args : Array Value} {w : World} {R : Ending → World → Prop} (h : Calls P f args w R) (rd : Rd) (k : Nat := 0) : CallsIn rd.fence k P f args w R := by
 have := (callsIn_wide (n := k)).2 h
 cases rd
 ·exact this
 ·exact this
 ·exact this
 ·exact this
theorem call_do {o : Oper} {c : Call} {st : St} {N : AV → List AObj → Prop} (hc : opCall o.op = some c) (h : callGoal P st.σ N (callA st.env c)) {ρ0 : Rho} {W0 : World} {a : Act} {w : World} (hR : Rel rd ρ0 W0 st a w)
  {Q : Exit → Act → World → Prop} {K : Act → World → Prop} (hK : ∀ v σ',N v σ' → ∀ a' w',Rel rd ρ0 W0 ⟨setE st.env o.dst v,σ'⟩ a' w' → K a' w') : o.wpIn rd.fence 0 P a w K Q := by
 have hop : o.op = .call c := by
  cases hh : o.op <;> rw [hh] at hc <;> simp [opCall] at hc
  subst hc; rfl
 obtain ⟨ρ, hst, hdf, henv, hH⟩ := hR
 cases hca : callA st.env c with
 | none => rw [hca] at h; exact h.elim
 | some q =>
  obtain ⟨k, args, C⟩ := q
  rw [hca] at h
  obtain ⟨hC, Q0, hTC, hnext⟩ := h
  unfold callA at hca
  split at hca
  case h_2 => cases hca
  rename_i f hf
  split at hca
  case h_2 => cases hca
  rename_i k' first captured hfn
  simp only [Option.some.injEq, Prod.mk.injEq] at hca
  obtain ⟨rfl, rfl, rfl⟩ := hca
  have hfv := us_sound rfl hC.1 (opd_sound hH.glob henv f)
  rw [hfn] at hfv
  simp only [Rv] at hfv
  obtain ⟨fs, cs, hfe, h1, h2⟩ := hfv
  have hargs := mapL_sound (ρ := ρ) (w := w) (r := fun x => us (opd st.env x)) (e := a.eval) (xs := c.args.toList) fun x hx => us_sound rfl (oblig_mem hC.2 x hx) (opd_sound hH.glob henv x)
  have hall := RvL.append h1 (RvL.append hargs h2)
  have hcall := hTC.2 ρ w _ hall hH
  have hrun : (execOp a.eval o).run P w = (callFunc k' (fs ++ (c.args.toList.map a.eval ++ cs)).toArray).run P w := by
   unfold execOp
   rw [hop]
   simp only [resolve, hf, Sem.run_bind, hfe, Deferred.ofValue, Sem.run_pure, Result.andThen_ok, invoke]
   congr 2
   apply Array.ext'
   simp
  have fin : ∀ e w',(∃ (ρ' : Rho) (v : AV) (σ' : List AObj) (x : Value),e = Ending.returned x ∧ Q0 v σ' ∧ Rv ρ' w' v x ∧ RH ρ' w' σ' ∧ Step ρ w ρ' w') → ∃ x,e = .returned x ∧ K (a.put o.dst x) w' := by
   rintro e w' ⟨ρ', v, σ', x, rfl, hq0, hv, hH', hs'⟩
   exact ⟨x,rfl,hK _ _ (hnext v σ' hq0) _ _ ⟨ρ',hst.trans hs',by cases o.dst <;> exact hdf.step hs',put_sound (RvL.mono hs' _ henv) hv _,hH'⟩⟩
  refine Oper.wpInR (fun c' e => by rw [hop] at e; cases e) ?_
  rw [hrun]
  rcases hcall with ⟨h1, h2⟩ | ⟨v, w', h1, h2⟩
  ·rw [h1, Oper.uponIn_enter]
   refine ⟨rd.depth_none 0, ⟨rd.fn_all _, fun cs hr => ?_⟩⟩
   have h2' := (h2.mono (R' := fun e w'' => ∃ x, e = .returned x ∧ K (a.put o.dst x) w'') fin).inR rd
   obtain ⟨e, w', fr, ⟨x, rfl, h3⟩, h4⟩ := h2'.2 cs hr
   exact ⟨_, w', fr, h3, h4⟩
  ·rw [h1, Oper.uponIn_value]
   obtain ⟨x, hx, h3⟩ := fin _ w' h2
   simp only [Ending.returned.injEq] at hx
   subst hx
   exact h3
theorem TO_call {ops rest : List Oper} {K : St → Prop} {o : Oper} {c : Call} {st : St} (hc : opCall o.op = some c) (h : callGoalG P n (rd := rd) ops rest K o.dst st.env st.σ (callA st.env c) (guardOf ops st.env o.guard)) : TO P n (rd := rd) ops (o :: rest) K st := by
 intro ρ0 W0 a w Q hn hR hQ
 obtain ⟨ρ, hst, hdf, henv, hH⟩ := id hR
 refine wpListIn_stepR fun K' hK => ?_
 have doit : callGoal P st.σ (fun v σ' => TO P n (rd := rd) ops rest K ⟨setE st.env o.dst v,σ'⟩) (callA st.env c) → o.wpIn rd.fence 0 P a w K' Q := fun h =>
  call_do hc h hR fun v σ' hto a' w' hr => hK _ _ (hto ρ0 W0 _ w' Q hn hr hQ)
 cases hg : guardOf ops st.env o.guard with
 | none => rw [hg] at h; exact h.elim
 | some q =>
  rw [hg] at h
  rw [guardOf_sound henv hg]
  cases q with
  | none =>
   simp only [Option.getD_none, if_true]
   exact doit h
  | some g =>
   simp only [Option.getD_some]
   cases g with
   | true => simp only [if_true]; exact doit (h.1 rfl)
   | false =>
    simp only [Bool.false_eq_true, if_false]
    exact hK _ _ (h.2 rfl ρ0 W0 _ w Q hn ⟨ρ,hst,by cases o.dst <;> exact hdf,put_sound henv (by simp [Rv]) _,hH⟩ hQ)
theorem gCall_pure {ops rest : List Oper} {K : St → Prop} {dst : Option Tmp} {env : List AV} {σ : List AObj} {g : Bool} {ca : Option (FuncId × List AV × Prop)} (v : AV)
  (h : g = true → callGoal P σ (fun v' σ' => v' = v ∧ σ' = σ) ca) (next : TO P n (rd := rd) ops rest K ⟨setE env dst (.gd g v),σ⟩) :
  gCall g (callGoal P σ (fun v σ' => TO P n (rd := rd) ops rest K ⟨setE env dst v,σ'⟩) ca) (TO P n (rd := rd) ops rest K ⟨setE env dst (.imm undef),σ⟩) := by
 have up : ∀ v0, (∀ ρ w x, Rv ρ w v0 x → Rv ρ w (.gd g v) x) → TO P n (rd := rd) ops rest K ⟨setE env dst v0, σ⟩ := by
  intro v0 hv ρ0 W0 a w Q hn hR hQ
  obtain ⟨ρ, h1, h2, h3, h4⟩ := hR
  refine next ρ0 W0 a w Q hn ⟨ρ, h1, h2, ?_, h4⟩ hQ
  cases dst with
  | none => exact h3
  | some d =>
   simp only [setE, setN_eq] at h3 ⊢
   refine RvL.of_get (by have := h3.length; simpa using this) fun i u x hu hx => ?_
   have hl := h3.length
   rw [List.getElem?_set] at hu
   split at hu
   ·rename_i hi
    split at hu
    ·rename_i hlt
     simp only [Option.some.injEq] at hu
     subst hu
     obtain ⟨y, hy, hv'⟩ := RvL.get h3 (i := i) (v := v0) (by rw [List.getElem?_set, if_pos hi, if_pos hlt])
     have hy' : a.tmps.toList[i]? = some y := hy
     rw [hx] at hy'
     simp only [Option.some.injEq] at hy'
     subst hy'
     exact hv _ _ _ hv'
    ·cases hu
   ·rename_i hi
    obtain ⟨y, hy, hv'⟩ := RvL.get h3 (i := i) (v := u) (by rw [List.getElem?_set, if_neg hi]; exact hu)
    have hy' : a.tmps.toList[i]? = some y := hy
    rw [hx] at hy'
    simp only [Option.some.injEq] at hy'
    subst hy'
    exact hv'
 refine And.intro (fun hg => ?_) (fun hg => ?_)
 ·cases ca with
  | none => exact (h hg).elim
  | some q =>
   obtain ⟨k, args, C⟩ := q
   obtain ⟨hC, Q0, h1, h2⟩ := h hg
   refine ⟨hC, Q0, h1, fun v' σ' hq => ?_⟩
   obtain ⟨rfl, rfl⟩ := h2 v' σ' hq
   exact up _ fun ρ w x hx => by simp only [Rv, hg, if_true]; exact hx
 ·exact up _ fun ρ w x hx => by simp only [Rv] at hx ⊢; rw [hg]; simpa using hx
/-! ### States that say less -/
def Wk (n : Nat) (st st2 : St) : Prop := ∀ rd ρ0 W0 a w, ρ0.length = n → Rel rd ρ0 W0 st a w → Rel rd ρ0 W0 st2 a w
theorem Wk.trans {a b c : St} (h : Wk n a b) (k : Wk n b c) : Wk n a c := fun rd ρ0 W0 x w hn hR => k rd ρ0 W0 x w hn (h rd ρ0 W0 x w hn hR)
theorem T_wk {c : Code} {Q : Exit → St → Prop} {st st2 : St} (h : Wk n st st2) (k : T P n (rd := rd) c Q st2) : T P n (rd := rd) c Q st := T_weak (h rd) k
def up (n : Nat) (K : St → Prop) (st : St) : Prop := ∃ st2, Wk n st st2 ∧ K st2
theorem T_loopW {c : Code} {Q : Exit → St → Prop} {st : St} (I : Nat → St → Prop) (m0 : Nat) (h0 : up n (I m0) st) (round : ∀ m st,I m st → T P n (rd := rd) c (thenQ (fun st'=>∃ m',m' < m ∧ up n (I m') st') Q) st) : T P n (rd := rd) (.loop c) Q st :=
 T_loop (fun m st => up n (I m) st) m0 h0 fun m _ ⟨st2, h1, h2⟩ => T_wk h1 (round m st2 h2)
def pull (π : List Nat) (ρ : Rho) : Rho := π.map fun o => (ρ[o]?).getD none
theorem pull_get {π : List Nat} {ρ : Rho} {o' o : Nat} {l : Loc} (h : π[o']? = some o) (hl : ρ[o]? = some (some l)) : (pull π ρ)[o']? = some (some l) := by
 simp [pull, h, hl]
theorem pull_inv {π : List Nat} {ρ : Rho} {o' : Nat} {l : Loc} (h : (pull π ρ)[o']? = some (some l)) : ∃ o,π[o']? = some o ∧ ρ[o]? = some (some l) := by
 simp only [pull, List.getElem?_map] at h
 cases hp : π[o']? with
 | none => simp [hp] at h
 | some o =>
  simp only [hp, Option.map_some, Option.some.injEq] at h
  refine ⟨o, rfl, ?_⟩
  cases hr : ρ[o]? with
  | none => simp [hr] at h
  | some q => simp [hr] at h; rw [h]
theorem pull_has {π : List Nat} {ρ : Rho} {b : Nat} (h : (pull π ρ).has b) : ρ.has b := by
 obtain ⟨o', l, hl, rfl⟩ := h
 obtain ⟨o, _, h2⟩ := pull_inv hl
 exact ⟨o, l, h2, rfl⟩
def WkV (π : List Nat) (σ : List AObj) (v v2 : AV) : Prop := ∀ ρ w x, RH ρ w σ → Rv ρ w v x → Rv (pull π ρ) w v2 x
def WkVL (π : List Nat) (σ : List AObj) (vs vs2 : List AV) : Prop := ∀ ρ w xs,RH ρ w σ → RvL ρ w vs xs → RvL (pull π ρ) w vs2 xs
mutual
def Free : AV → Prop
 | .top => True
 | .imm _ => True
 | .gd _ v => Free v
 | .rptr _ cell => ∀ j, Free (cell j)
 | .view _ _ elem => ∀ i j, Free (elem i j)
 | .pv _ _ _ elem => ∀ i j, Free (elem i j)
 | .optr _ _ _ => False
 | .own _ _ _ _ => False
 | .emp => True
 | .bsl _ _ _ _ _ => False
 | .map _ => False
 | .vmap _ _ vs => FreeL vs
 | .fn _ a b => FreeL a ∧ FreeL b
 | .agg vs => FreeL vs
 | .tup vs => FreeL vs
 | .ifc _ v => Free v
def FreeL : List AV → Prop
 | [] => True
 | v :: vs => Free v ∧ FreeL vs
end
mutual
theorem Free.sound {ρ ρ' : Rho} {w : World} (hh : ∀ b,ρ'.has b → ρ.has b) : (v : AV) → Free v → ∀ {x},Rv ρ w v x → Rv ρ' w v x
 | .top, _, _, _ => trivial
 | .imm _, _, _, h => h
 | .gd g v, hf, x, h => by
  simp only [Free] at hf
  simp only [Rv] at h ⊢
  split
  ·rename_i hg; rw [if_pos hg] at h; exact Free.sound hh v hf h
  ·rename_i hg; rw [if_neg hg] at h; exact h
 | .rptr n cell, hf, x, h => by
  simp only [Free] at hf
  simp only [Rv] at h ⊢
  obtain ⟨ad, rfl, h1, h2, h3⟩ := h
  refine ⟨ad, rfl, h1, fun hb => h2 (hh _ hb), fun j hj => ?_⟩
  obtain ⟨y, a, b, c⟩ := h3 j hj
  exact ⟨y, a, b, Free.sound hh (cell j) (hf j) c⟩
 | .view len esz elem, hf, x, h => by
  simp only [Free] at hf
  simp only [Rv] at h ⊢
  obtain ⟨a, cap, rfl, h1, h2⟩ := h
  refine ⟨a, cap, rfl, h1, fun hp => ?_⟩
  obtain ⟨ad, rfl, q1, q2, q3⟩ := h2 hp
  refine ⟨ad, rfl, q1, fun hb => q2 (hh _ hb), fun i hi j hj => ?_⟩
  obtain ⟨y, a, b, c⟩ := q3 i hi j hj
  exact ⟨y, a, b, Free.sound hh (elem i j) (hf i j) c⟩
 | .pv len esz _ elem, hf, x, h => by
  simp only [Free] at hf
  simp only [Rv] at h ⊢
  obtain ⟨b, d, cap, c, ety, rfl, h1, h2, h3, h4⟩ := h
  refine ⟨b, d, cap, c, ety, rfl, h1, fun hb => h2 (hh _ hb), h3, fun i hi j hj => ?_⟩
  obtain ⟨y, a, b, c⟩ := h4 i hi j hj
  exact ⟨y, a, b, Free.sound hh (elem i j) (hf i j) c⟩
 | .optr _ _ _, hf, _, _ => by simp [Free] at hf
 | .own _ _ _ _, hf, _, _ => by simp [Free] at hf
 | .emp, _, _, h => by simpa only [Rv] using h
 | .bsl _ _ _ _ _, hf, _, _ => by simp [Free] at hf
 | .map _, hf, _, _ => by simp [Free] at hf
 | .vmap kd ks vs, hf, x, h => by
  simp only [Free] at hf
  simp only [Rv] at h ⊢
  obtain ⟨b, a, clock, rfl, h1, h2, h3, h4, h5, h6⟩ := h
  exact ⟨b, a, clock, rfl, fun hb => h1 (hh _ hb), h2, h3, h4, h5, FreeL.sound hh vs hf h6⟩
 | .fn f a b, hf, x, h => by
  simp only [Free] at hf
  simp only [Rv] at h ⊢
  obtain ⟨fs, cs, rfl, h1, h2⟩ := h
  exact ⟨fs, cs, rfl, FreeL.sound hh a hf.1 h1, FreeL.sound hh b hf.2 h2⟩
 | .agg vs, hf, x, h => by
  simp only [Free] at hf
  simp only [Rv] at h ⊢
  obtain ⟨cs, rfl, h1⟩ := h
  exact ⟨cs, rfl, FreeL.sound hh vs hf h1⟩
 | .tup vs, hf, x, h => by
  simp only [Free] at hf
  simp only [Rv] at h ⊢
  obtain ⟨cs, rfl, h1⟩ := h
  exact ⟨cs, rfl, FreeL.sound hh vs hf h1⟩
 | .ifc t v, hf, x, h => by
  simp only [Free] at hf
  simp only [Rv] at h ⊢
  obtain ⟨y, rfl, h1⟩ := h
  exact ⟨y, rfl, Free.sound hh v hf h1⟩
theorem FreeL.sound {ρ ρ' : Rho} {w : World} (hh : ∀ b,ρ'.has b → ρ.has b) : (vs : List AV) → FreeL vs → ∀ {xs},RvL ρ w vs xs → RvL ρ' w vs xs
 | [], _, [], _ => by simp [RvL]
 | v :: vs, hf, x :: xs, h => by
  simp only [FreeL] at hf
  simp only [RvL] at h ⊢
  exact ⟨Free.sound hh v hf.1 h.1, FreeL.sound hh vs hf.2 h.2⟩
 | [], _, _ :: _, h => by simp [RvL] at h
 | _ :: _, _, [], h => by simp [RvL] at h
end
theorem WkV.top {π : List Nat} {σ : List AObj} {v : AV} : WkV π σ v .top := fun _ _ _ _ _ => trivial
theorem WkV.imm {π : List Nat} {σ : List AObj} {v v2 : Value} (h : v = v2) : WkV π σ (.imm v) (.imm v2) := fun _ _ x _ hx => by simp only [Rv] at hx ⊢;rw [hx,h]
theorem WkV.free {π : List Nat} {σ : List AObj} {v : AV} (h : Free v) : WkV π σ v v := fun _ _ _ _ hx => Free.sound (fun _ hb => pull_has hb) v h hx
theorem WkV.own {π : List Nat} {σ : List AObj} {o o' s k : Nat} {c c2 : Option Nat} (h : π[o']? = some o) (hc : ∀ q,c2 = some q → c = some q) : WkV π σ (.own o s k c) (.own o' s k c2) := fun ρ w x hH hx=>by
 simp only [Rv] at hx ⊢
 rcases hx with ⟨l, cap, hl, rfl, h1, h2, h3⟩ | ⟨h1, h2, h3⟩
 ·exact .inl ⟨l, cap, pull_get h hl, rfl, h1, h2, fun q hq => h3 q (hc q hq)⟩
 ·exact .inr ⟨h1, h2, fun q hq => h3 q (hc q hq)⟩
theorem WkV.nil_own {π : List Nat} {σ : List AObj} {o' s : Nat} {c : Option Nat} (hc : c = none ∨ c = some 0) : WkV π σ (.imm (.slice none 0 0)) (.own o' s 0 c) := fun ρ w x hH hx => by
 simp only [Rv] at hx ⊢
 exact .inr ⟨trivial, ⟨_, hx⟩, fun q hq => by rcases hc with rfl | rfl <;> simp at hq; exact hq.symm⟩
theorem WkV.optr {π : List Nat} {σ : List AObj} {o o' i off : Nat} (h : π[o']? = some o) : WkV π σ (.optr o i off) (.optr o' i off) := fun ρ w x hH hx => by
 simp only [Rv] at hx ⊢
 obtain ⟨l, hl, rfl⟩ := hx
 exact ⟨l, pull_get h hl, rfl⟩
theorem WkV.map {π : List Nat} {σ : List AObj} {o o' : Nat} (h : π[o']? = some o) : WkV π σ (.map o) (.map o') := fun ρ w x hH hx => by
 simp only [Rv] at hx ⊢
 obtain ⟨l, hl, rfl⟩ := hx
 exact ⟨l, pull_get h hl, rfl⟩
theorem WkVL.nil {π : List Nat} {σ : List AObj} : WkVL π σ [] [] := fun _ _ xs _ h => by cases xs <;> simp [RvL] at h ⊢
theorem WkVL.cons {π : List Nat} {σ : List AObj} {v v2 : AV} {vs vs2 : List AV} (h : WkV π σ v v2) (hs : WkVL π σ vs vs2) : WkVL π σ (v :: vs) (v2 :: vs2) := fun ρ w xs hH hx => by
 cases xs with
 | nil => simp [RvL] at hx
 | cons x xs => simp only [RvL] at hx ⊢; exact ⟨h _ _ _ hH hx.1, hs _ _ _ hH hx.2⟩
theorem WkV.agg {π : List Nat} {σ : List AObj} {vs vs2 : List AV} (h : WkVL π σ vs vs2) : WkV π σ (.agg vs) (.agg vs2) := fun ρ w x hH hx => by
 simp only [Rv] at hx ⊢
 obtain ⟨cs, rfl, hc⟩ := hx
 exact ⟨cs, rfl, h _ _ _ hH hc⟩
theorem WkV.tup {π : List Nat} {σ : List AObj} {vs vs2 : List AV} (h : WkVL π σ vs vs2) : WkV π σ (.tup vs) (.tup vs2) := fun ρ w x hH hx => by
 simp only [Rv] at hx ⊢
 obtain ⟨cs, rfl, hc⟩ := hx
 exact ⟨cs, rfl, h _ _ _ hH hc⟩
theorem WkV.fn {π : List Nat} {σ : List AObj} {f : Fn} {a a2 b b2 : List AV} (h : WkVL π σ a a2) (k : WkVL π σ b b2) : WkV π σ (.fn f a b) (.fn f a2 b2) := fun ρ w x hH hx => by
 simp only [Rv] at hx ⊢
 obtain ⟨fs, cs, rfl, h1, h2⟩ := hx
 exact ⟨fs, cs, rfl, h _ _ _ hH h1, k _ _ _ hH h2⟩
theorem WkV.freezeM {π : List Nat} {σ : List AObj} {o : Nat} {kd : KS} {es : List (Value × AV)} {ks : List Value} {vs2 : List AV} (hob : nthO σ o = .mp kd es) (ho : ∀ q ∈ π,q ≠ o ∧ (nthO σ q).alive = true)
  (hks : es.map (·.1) = ks) (hv : WkVL π σ (es.map (·.2)) vs2) : WkV π σ (.map o) (.vmap kd ks vs2) := fun ρ w x hH hx => by
 simp only [Rv] at hx ⊢
 obtain ⟨l, hl, rfl⟩ := hx
 obtain ⟨l2, a, clock, hl2, h2, h3, h4, h5, h6⟩ := hH.obj o _ (nthO_eq hob rfl)
 rw [hl] at hl2
 simp only [Option.some.injEq] at hl2
 subst hl2
 refine ⟨_, a, clock, rfl, fun hb => ?_, h2, h3, fun k hk => ?_, h5.trans hks, hv _ _ _ hH h6⟩
 ·obtain ⟨o', l', hl', hb'⟩ := hb
  obtain ⟨q, hq, hlq⟩ := pull_inv hl'
  obtain ⟨g1, g2⟩ := ho q (List.mem_of_getElem? hq)
  exact hH.apart q o l' l _ _ g1 (nthO_eq rfl g2) g2 (nthO_eq hob rfl) rfl hlq hl hb'
 ·rw [← hks] at hk
  obtain ⟨e, he, rfl⟩ := List.mem_map.1 hk
  exact h4 e he
theorem WkV.freeze {π : List Nat} {σ : List AObj} {o s k n esz : Nat} {ety : TypeId} {c : Option Nat} {e e2 : Nat → Nat → AV} (hob : nthO σ o = .arr ety esz n e) (hn : s + k ≤ n) (ho : ∀ q ∈ π,q ≠ o ∧ (nthO σ q).alive = true)
  (he : ∀ i j,i < k → j < esz → WkV π σ (e (s + i) j) (e2 i j)) : WkV π σ (.own o s k c) (.view k esz e2) := fun ρ w x hH hx => by
 simp only [Rv] at hx ⊢
 rcases hx with ⟨l, cap, hl, rfl, h1, h2, h3⟩ | ⟨rfl, ⟨a, rfl⟩, h3⟩
 ·refine ⟨_, cap, rfl, h1, fun hp => ⟨_, rfl, hH.lt o l hl, fun hb => ?_, fun i hi j hj => ?_⟩⟩
  ·obtain ⟨o', l', hl', hb'⟩ := hb
   obtain ⟨q, hq, hlq⟩ := pull_inv hl'
   obtain ⟨g1, g2⟩ := ho q (List.mem_of_getElem? hq)
   exact hH.apart q o l' l _ _ g1 (nthO_eq rfl g2) g2 (nthO_eq hob rfl) rfl hlq hl hb'
  ·rcases hH.obj o _ (nthO_eq hob rfl) with ⟨l2, cs, hl2, q1, q2, _, q4, q5⟩ | ⟨hn', _⟩
   ·rw [hl] at hl2
    simp only [Option.some.injEq] at hl2
    subst hl2
    obtain ⟨y, hy, hy1, hv⟩ := q5 (s + i) (by omega) j hj
    refine ⟨y, ?_, hy1, he i j hi hj _ _ _ hH hv⟩
    rw [cell_plain q2, ← hy, Nat.add_mul, q1]
    congr 1
    omega
   ·rw [hl] at hn'; simp at hn'
 ·exact ⟨_, _, rfl, Nat.le_refl _, fun hp => by omega⟩
inductive WkO (π : List Nat) (σ : List AObj) : AObj → AObj → Prop
 | raw {b ob} : WkO π σ (.raw b ob) (.raw b ob)
 | ghost {vs vs2 xs lo hi ds} (h : WkVL π σ vs vs2) : WkO π σ (.ghost vs xs lo hi ds) (.ghost vs2 xs lo hi ds)
 | dead {a} : WkO π σ a .dead
 | box {ety cells cells2} (h : WkVL π σ cells cells2) (hl : cells.length = cells2.length) : WkO π σ (.box ety cells) (.box ety cells2)
 | arr {ety esz len e e2} (h : ∀ i j,i < len → j < esz → WkV π σ (e i j) (e2 i j)) : WkO π σ (.arr ety esz len e) (.arr ety esz len e2)
 | arrLe {ety esz len len2 e e2} (hle : len2 ≤ len) (h : ∀ i j,i < len2 → j < esz → WkV π σ (e i j) (e2 i j)) : WkO π σ (.arr ety esz len e) (.arr ety esz len2 e2)
 | mp {sh es es2} (hk : es.map (·.1) = es2.map (·.1)) (h : WkVL π σ (es.map (·.2)) (es2.map (·.2))) : WkO π σ (.mp sh es) (.mp sh es2)
theorem WkO.sound {π : List Nat} {σ : List AObj} {a a2 : AObj} (h : WkO π σ a a2) {ρ : Rho} {w : World} (hH : RH ρ w σ) {o o' : Nat} (hp : π[o']? = some o) (ho : RO ρ w o a) : RO (pull π ρ) w o' a2 := by
 cases h with
 | dead => trivial
 | raw =>
  obtain ⟨l, hl, h1, h2⟩ := ho
  exact ⟨l, pull_get hp hl, h1, h2⟩
 | ghost h => exact ⟨h _ _ _ hH ho.1, ho.2.1.sub fun _ hb => pull_has hb, by simp [pull, hp, ho.2.2]⟩
 | box h hl =>
  obtain ⟨l, c, hlo, h0, h1, h2, h3, h4, h5⟩ := ho
  exact ⟨l, c, pull_get hp hlo, h0, h1.trans hl, h2.trans hl, h3, h4, h _ _ _ hH h5⟩
 | arr h =>
  rcases ho with ⟨l, c, hl, he, hh, hc, hd, hr⟩ | ⟨hn, h0⟩
  ·refine .inl ⟨l, c, pull_get hp hl, he, hh, hc, hd, fun i hi j hj => ?_⟩
   obtain ⟨y, a, b, c⟩ := hr i hi j hj
   exact ⟨y, a, b, h i j hi hj _ _ _ hH c⟩
  ·exact .inr ⟨by simp [pull, hp, hn], h0⟩
 | @arrLe ety esz len len2 e e2 hle h =>
  rcases ho with ⟨l, c, hl, he, hh, hc, hd, hr⟩ | ⟨hn, h0⟩
  ·have := Nat.mul_le_mul_right esz hle
   refine .inl ⟨l, c, pull_get hp hl, he, hh, hc, by omega, fun i hi j hj => ?_⟩
   obtain ⟨y, a, b, c⟩ := hr i (by omega) j hj
   exact ⟨y, a, b, h i j hi hj _ _ _ hH c⟩
  ·exact .inr ⟨by simp [pull, hp, hn], by omega⟩
 | @mp sh es es2 hk h =>
  obtain ⟨l, a, clock, hl, hh, hb, hks, he, hv⟩ := ho
  refine ⟨l, a, clock, pull_get hp hl, hh, hb, fun e2 h2 => ?_, he.trans hk, h _ _ _ hH hv⟩
  have h3 : e2.1 ∈ es.map (·.1) := by rw [hk]; exact List.mem_map_of_mem h2
  obtain ⟨e1, h4, h5⟩ := List.mem_map.1 h3
  rw [← h5]; exact hks e1 h4
theorem WkO.mpE {π : List Nat} {σ : List AObj} {sh : KS} {es es2 : List (Value × AV)} (h : es = es2) (hf : FreeL (es.map (·.2))) : WkO π σ (.mp sh es) (.mp sh es2) := by
 subst h
 exact WkO.mp rfl fun ρ w xs _ hx => FreeL.sound (fun _ hb => pull_has hb) _ hf hx
def WkOL (π : List Nat) (σ : List AObj) : List Nat → List AObj → Prop
 | [], [] => True
 | o :: os, a :: as => WkO π σ (nthO σ o) a ∧ (a.alive = true → (nthO σ o).alive = true) ∧ WkOL π σ os as
 | _, _ => False
theorem WkOL.get {π : List Nat} {σ : List AObj} : ∀ {os : List Nat} {as : List AObj},WkOL π σ os as → ∀ {i : Nat} {a : AObj},as[i]? = some a → ∃ o,os[i]? = some o ∧ WkO π σ (nthO σ o) a ∧ (a.alive = true → (nthO σ o).alive = true)
 | [], [], _, i, a, h => by simp at h
 | o :: os, b :: as, h, 0, a, ha => by
  simp only [WkOL] at h
  simp at ha
  subst ha
  exact ⟨o, by simp, h.1, h.2.1⟩
 | o :: os, b :: as, h, i + 1, a, ha => by
  simp only [WkOL] at h
  simp only [List.getElem?_cons_succ] at ha ⊢
  exact WkOL.get h.2.2 ha
 | [], _ :: _, h, _, _, _ => by simp [WkOL] at h
 | _ :: _, [], h, _, _, _ => by simp [WkOL] at h
theorem WkOL.length {π : List Nat} {σ : List AObj} : ∀ {os : List Nat} {as : List AObj},WkOL π σ os as → os.length = as.length
 | [], [], _ => rfl
 | _ :: _, _ :: _, h => by simp only [WkOL] at h; simp [WkOL.length h.2.2]
 | [], _ :: _, h => by simp [WkOL] at h
 | _ :: _, [], h => by simp [WkOL] at h
theorem RH.pullH (π : List Nat) {σ σ2 : List AObj} (hd : π.Nodup) (hb : ∀ o ∈ π,o < σ.length) (hσ : WkOL π σ π σ2) {ρ : Rho} {w : World} (h4 : RH ρ w σ) : RH (pull π ρ) w σ2 := by
 refine ⟨by simp [pull,hσ.length],fun o l hl => ?_,fun o' a' ha' => ?_,fun o o' l l' b b' hne hb1 hk1 hb2 hk2 r1 r2 => ?_,h4.glob.sub fun _ hb => pull_has hb⟩
 ·obtain ⟨q, _, h⟩ := pull_inv hl
  exact h4.lt q l h
 ·obtain ⟨o, ho, hw, _⟩ := WkOL.get hσ ha'
  have hlt : o < σ.length := hb o (List.mem_of_getElem? ho)
  have hso : σ[o]? = some (nthO σ o) := by
   have key : ∀ (l : List AObj) (i : Nat), i < l.length → l[i]? = some (nthO l i) := by
    intro l
    induction l with
    | nil => intro i hi; simp at hi
    | cons x xs ih => intro i hi;cases i with | zero => simp [nthO] | succ i => simpa [nthO] using ih i (by simpa using hi)
   exact key _ _ hlt
  exact hw.sound h4 ho (h4.obj o _ hso)
 ·obtain ⟨q1, p1, s1⟩ := pull_inv r1
  obtain ⟨q2, p2, s2⟩ := pull_inv r2
  obtain ⟨o1, e1, _, a1⟩ := WkOL.get hσ hb1
  obtain ⟨o2, e2, _, a2⟩ := WkOL.get hσ hb2
  rw [p1] at e1
  rw [p2] at e2
  simp only [Option.some.injEq] at e1 e2
  subst e1; subst e2
  have hne' : q1 ≠ q2 := by
   intro e
   subst e
   have hi1 := (List.getElem?_eq_some_iff.1 p1)
   have hi2 := (List.getElem?_eq_some_iff.1 p2)
   obtain ⟨i1, g1⟩ := hi1
   obtain ⟨i2, g2⟩ := hi2
   exact hne (List.getElem_inj hd |>.1 (g1.trans g2.symm))
  exact h4.apart q1 q2 l l' _ _ hne' (nthO_eq rfl (a1 hk1)) (a1 hk1) (nthO_eq rfl (a2 hk2)) (a2 hk2) s1 s2
theorem Wk.intro (π : List Nat) {st st2 : St} (hn : π.take n = List.range n) (hd : π.Nodup) (hb : ∀ o ∈ π,o < st.σ.length) (henv : WkVL π st.σ st.env st2.env) (hσ : WkOL π st.σ π st2.σ) : Wk n st st2 := by
 intro rd ρ0 W0 a w hlen hR
 obtain ⟨ρ, h1, h2, h3, h4⟩ := hR
 refine ⟨pull π ρ, ?_, h2.sub fun _ hb => pull_has hb, henv _ _ _ h4 h3, ?_⟩
 ·refine ⟨h1.os, h1.tape, h1.output, h1.size, h1.same, ?_, fun b hb' => h1.own b (pull_has hb')⟩
  obtain ⟨t, ht⟩ := h1.pre
  have hle : n ≤ π.length := by
   have := congrArg List.length hn
   simp at this
   omega
  have e : (pull π ρ).take n = ρ0 := by
   rw [pull, ← List.map_take, hn]
   apply List.ext_getElem?
   intro i
   by_cases hi : i < n
   ·have : ρ[i]? = ρ0[i]? := by rw [← ht, List.getElem?_append_left (by omega)]
    simp only [List.getElem?_map, List.getElem?_range hi, Option.map_some, this]
    rw [List.getElem?_eq_getElem (by omega)]
    rfl
   ·rw [List.getElem?_eq_none (by simp; omega), List.getElem?_eq_none (by omega)]
  rw [← e]
  exact List.take_prefix _ _
 ·exact RH.pullH π hd hb hσ h4
end
end Go.Ab
namespace Go.Ab
attribute [go_sem] shapeOf shapeT shapeA shapeZ KS.leaves boolsEq keyV immL eMakeMap eMakeMapO mapAt eLookup eMapUpdate eMapDelete zeroA KS.ok leafK
attribute [go_sem] nth nthO opd kEq eqA eInt TD.isBool TD.isSlice TD.isFunc TD.isAgg TD.isMap isNilM isNilA eBin eUn eConv oneC oneL cellsOf rd ptrCells eLoad setC eStore zeroL eAlloc eBox placesOf nthP fillA eBuild repL eBuildSlice
 eMake src eApp eAppZ nthF eFieldAddr eIndexAddr takeL ePart eField eIndex eExtract eNilCheck bnd loOf hiOf capLe eSlice eLen eCap eMin eMax rdE eCopy pu us ug mapP mapL eOp eMkI TD.isIface loud setN setE nthOp gb guardOf opsOf oblig selA evPick ev1 evG isCall evL
 evGoal callA callGoalG condA eRes mkRes retGoal retQ thenQ blockQ ZC.val Value.oneCell'
attribute [go_sem] List.cons_append List.nil_append List.length_cons List.length_nil List.append_nil List.take_succ_cons List.take_zero List.take_nil List.drop_succ_cons List.drop_zero List.drop_nil List.set_cons_zero List.set_cons_succ
 List.map_cons List.map_nil Option.map_some Option.map_none Option.toList_some Option.toList_none Int.toNat_natCast Nat.zero_add Nat.add_zero Nat.sub_zero Nat.zero_mul List.replicate_succ List.replicate_zero
 and_true true_and Bool.true_and Bool.and_true Bool.false_and Bool.and_false Bool.not_true Bool.not_false Bool.not_not cond_true cond_false Bool.cond_true_left Bool.cond_false_right Bool.cond_true_right Bool.cond_false_left
 Bool.or_true Bool.or_false Bool.true_or Bool.false_or forall_const ne_eq Bool.not_eq_true not_false_eq_true if_true if_false ite_true ite_false Bool.false_eq_true implies_true imp_self and_self Nat.lt_irrefl false_and and_false
section
variable {P : Program} {Γ : Tab}
def Cv (σ : List AObj) (a b : AV) : Prop := ∀ ρ w x, RH ρ w σ → Rv ρ w a x → Rv [] w b x
def CvL (σ : List AObj) (as bs : List AV) : Prop := ∀ ρ w xs, RH ρ w σ → RvL ρ w as xs → RvL [] w bs xs
theorem not_has_nil {b : Nat} : ¬ Rho.has [] b := fun ⟨_, _, h, _⟩ => by simp at h
theorem Cv.free {σ : List AObj} {v : AV} (h : Free v) : Cv σ v v := fun _ _ _ _ hx => Free.sound (fun _ hb => (not_has_nil hb).elim) v h hx
theorem Cv.imm {σ : List AObj} {v v2 : Value} (h : v = v2) : Cv σ (.imm v) (.imm v2) := fun _ _ x _ hx => by simp only [Rv] at hx ⊢;rw [hx,h]
theorem CvL.nil {σ : List AObj} : CvL σ [] [] := fun _ _ xs _ h => by cases xs <;> simp [RvL] at h ⊢
theorem CvL.cons {σ : List AObj} {a b : AV} {as bs : List AV} (h : Cv σ a b) (hs : CvL σ as bs) : CvL σ (a :: as) (b :: bs) := fun ρ w xs hH hx => by
 cases xs with
 | nil => simp [RvL] at hx
 | cons x xs => simp only [RvL] at hx ⊢; exact ⟨h _ _ _ hH hx.1, hs _ _ _ hH hx.2⟩
theorem Cv.agg {σ : List AObj} {vs vs2 : List AV} (h : CvL σ vs vs2) : Cv σ (.agg vs) (.agg vs2) := fun ρ w x hH hx => by
 simp only [Rv] at hx ⊢
 obtain ⟨cs, rfl, hc⟩ := hx
 exact ⟨cs, rfl, h _ _ _ hH hc⟩
theorem Cv.fn {σ : List AObj} {f : Fn} {a a2 b b2 : List AV} (h : CvL σ a a2) (k : CvL σ b b2) : Cv σ (.fn f a b) (.fn f a2 b2) := fun ρ w x hH hx => by
 simp only [Rv] at hx ⊢
 obtain ⟨fs, cs, rfl, h1, h2⟩ := hx
 exact ⟨fs, cs, rfl, h _ _ _ hH h1, k _ _ _ hH h2⟩
theorem Cv.nil_view {σ : List AObj} {esz : Nat} {e : Nat → Nat → AV} : Cv σ (.imm (.slice none 0 0)) (.view 0 esz e) := fun ρ w x _ hx => by
 simp only [Rv] at hx ⊢
 exact ⟨_, _, hx, Nat.le_refl _, fun h => by omega⟩
theorem Cv.view {σ : List AObj} {v : AV} {n esz : Nat} {f e2 : Nat → Nat → AV} {c : Prop} (h : src σ v = some (n,esz,f,c)) (hc : c) (hz : 0 < esz) (he : ∀ i j,i < n → j < esz → Cv σ (f i j) (e2 i j)) : Cv σ v (.view n esz e2) := fun ρ w x hH hx=>by
 obtain ⟨a, cap, rfl, h1, h2⟩ := src_sound hH h hc hx
 simp only [Rv]
 refine ⟨a, cap, rfl, h1, fun hp => ?_⟩
 obtain ⟨ad, rfl, h3⟩ := h2 hp
 refine ⟨ad, rfl, ?_, not_has_nil, fun i hi j hj => ?_⟩
 ·obtain ⟨y, hy, _⟩ := h3 0 hp 0 hz
  have := World.block_lt_of_cell? w _ hy
  rwa [add_block] at this
 ·obtain ⟨y, a, b, c⟩ := h3 i hi j hj
  exact ⟨y, a, b, he i j hi hj _ _ _ hH c⟩
mutual
def Pl : AV → Prop
 | .top => True
 | .imm _ => True
 | .emp => True
 | .gd _ v => Pl v
 | .fn _ a b => PlL a ∧ PlL b
 | .agg vs => PlL vs
 | .tup vs => PlL vs
 | .ifc _ v => Pl v
 | _ => False
def PlL : List AV → Prop
 | [] => True
 | v :: vs => Pl v ∧ PlL vs
end
mutual
theorem Pl.any {ρ ρ' : Rho} {w w' : World} : (v : AV) → Pl v → ∀ {x}, Rv ρ w v x → Rv ρ' w' v x
 | .top, _, _, _ => trivial
 | .imm _, _, _, h => h
 | .gd g v, hf, x, h => by
  simp only [Pl] at hf
  simp only [Rv] at h ⊢
  split
  ·rename_i hg; rw [if_pos hg] at h; exact Pl.any v hf h
  ·rename_i hg; rw [if_neg hg] at h; exact h
 | .rptr _ _, hf, _, _ => by simp [Pl] at hf
 | .view _ _ _, hf, _, _ => by simp [Pl] at hf
 | .pv _ _ _ _, hf, _, _ => by simp [Pl] at hf
 | .optr _ _ _, hf, _, _ => by simp [Pl] at hf
 | .own _ _ _ _, hf, _, _ => by simp [Pl] at hf
 | .bsl _ _ _ _ _, hf, _, _ => by simp [Pl] at hf
 | .emp, _, _, h => by simpa only [Rv] using h
 | .map _, hf, _, _ => by simp [Pl] at hf
 | .vmap _ _ _, hf, _, _ => by simp [Pl] at hf
 | .fn f a b, hf, x, h => by
  simp only [Pl] at hf
  simp only [Rv] at h ⊢
  obtain ⟨fs, cs, rfl, h1, h2⟩ := h
  exact ⟨fs, cs, rfl, PlL.any a hf.1 h1, PlL.any b hf.2 h2⟩
 | .agg vs, hf, x, h => by
  simp only [Pl] at hf
  simp only [Rv] at h ⊢
  obtain ⟨cs, rfl, h1⟩ := h
  exact ⟨cs, rfl, PlL.any vs hf h1⟩
 | .tup vs, hf, x, h => by
  simp only [Pl] at hf
  simp only [Rv] at h ⊢
  obtain ⟨cs, rfl, h1⟩ := h
  exact ⟨cs, rfl, PlL.any vs hf h1⟩
 | .ifc t v, hf, x, h => by
  simp only [Pl] at hf
  simp only [Rv] at h ⊢
  obtain ⟨y, rfl, h1⟩ := h
  exact ⟨y, rfl, Pl.any v hf h1⟩
theorem PlL.any {ρ ρ' : Rho} {w w' : World} : (vs : List AV) → PlL vs → ∀ {xs}, RvL ρ w vs xs → RvL ρ' w' vs xs
 | [], _, [], _ => by simp [RvL]
 | v :: vs, hf, x :: xs, h => by
  simp only [PlL] at hf
  simp only [RvL] at h ⊢
  exact ⟨Pl.any v hf.1 h.1, PlL.any vs hf.2 h.2⟩
 | [], _, _ :: _, h => by simp [RvL] at h
 | _ :: _, _, [], h => by simp [RvL] at h
end
mutual
theorem Pl.free : (v : AV) → Pl v → Free v
 | .top, _ => trivial
 | .imm _, _ => trivial
 | .gd g v, h => by simp only [Pl] at h; simp only [Free]; exact Pl.free v h
 | .fn f a b, h => by simp only [Pl] at h; simp only [Free]; exact ⟨PlL.free a h.1, PlL.free b h.2⟩
 | .agg vs, h => by simp only [Pl] at h; simp only [Free]; exact PlL.free vs h
 | .tup vs, h => by simp only [Pl] at h; simp only [Free]; exact PlL.free vs h
 | .ifc t v, h => by simp only [Pl] at h; simp only [Free]; exact Pl.free v h
 | .rptr _ _, hf => by simp [Pl] at hf
 | .view _ _ _, hf => by simp [Pl] at hf
 | .pv _ _ _ _, hf => by simp [Pl] at hf
 | .optr _ _ _, hf => by simp [Pl] at hf
 | .own _ _ _ _, hf => by simp [Pl] at hf
 | .bsl _ _ _ _ _, hf => by simp [Pl] at hf
 | .emp, _ => by simp [Free]
 | .map _, hf => by simp [Pl] at hf
 | .vmap _ _ _, hf => by simp [Pl] at hf
theorem PlL.free : (vs : List AV) → PlL vs → FreeL vs
 | [], _ => trivial
 | v :: vs, h => by simp only [PlL] at h; simp only [FreeL]; exact ⟨Pl.free v h.1, PlL.free vs h.2⟩
end
theorem TC_look {f : FuncId} {args args0 : List AV} {σ : List AObj} {Q : AV → Prop} (h : TC P f args0 [] (fun v _=>Q v)) (hp : ∀ v,Q v → Pl v) (hc : CvL σ args args0) : TC P f args σ (fun v σ'=>Q v ∧ σ' = σ) :=
 ⟨h.1,fun ρ w vs ha hH => (h.2 [] w vs (hc _ _ _ hH ha) (RH.nil w hH.glob_nil)).mono fun e w' ⟨ρ',v,σ',x,he,hq,hv,hH',hs⟩ => by
  have hst : Step ρ w ρ w' := ⟨hs.os,hs.tape,hs.output,hs.size,fun b hb _ => hs.same b hb not_has_nil,List.prefix_refl _,fun b hb => .inl hb⟩
  exact ⟨ρ, v, σ, x, he, ⟨hq, rfl⟩, Pl.any v (hp v hq) hv,
   ⟨hH.len,fun o l hl => Nat.lt_of_lt_of_le (hH.lt o l hl) hs.size,fun o a ha => RO.keep hst (hH.obj o a ha) fun l hl => hs.same _ (hH.lt o l hl) not_has_nil,hH.apart,hH.glob.step hst⟩,hst⟩⟩
mutual
def sh (k : Nat) : AV → AV
 | .gd g v => .gd g (sh k v)
 | .optr o i off => .optr (k + o) i off
 | .own o s n c => .own (k + o) s n c
 | .bsl o a b c d => .bsl (k + o) a b c d
 | .map o => .map (k + o)
 | .fn f a b => .fn f (shL k a) (shL k b)
 | .agg vs => .agg (shL k vs)
 | .tup vs => .tup (shL k vs)
 | .ifc t v => .ifc t (sh k v)
 | v => v
def shL (k : Nat) : List AV → List AV
 | [] => []
 | v :: vs => sh k v :: shL k vs
end
mutual
def VF : AV → Prop
 | .gd _ v => VF v
 | .fn _ a b => VFL a ∧ VFL b
 | .agg vs => VFL vs
 | .tup vs => VFL vs
 | .ifc _ v => VF v
 | .rptr _ _ => False
 | .vmap _ _ _ => False
 | .view _ _ _ => False
 | .pv _ _ _ _ => False
 | _ => True
def VFL : List AV → Prop
 | [] => True
 | v :: vs => VF v ∧ VFL vs
end
theorem app_get {ρ ρ1 : Rho} {o : Nat} {l : Loc} (h : ρ1[o]? = some (some l)) : (ρ ++ ρ1)[ρ.length + o]? = some (some l) := by
 rw [List.getElem?_append_right (by omega)]
 simpa using h
mutual
theorem VF.sound {ρ ρ1 : Rho} {w : World} : (v : AV) → VF v → ∀ {x}, Rv ρ1 w v x → Rv (ρ ++ ρ1) w (sh ρ.length v) x
 | .top, _, _, _ => trivial
 | .imm _, _, _, h => h
 | .gd g v, hf, x, h => by
  simp only [VF] at hf
  simp only [sh, Rv] at h ⊢
  split
  ·rename_i hg; rw [if_pos hg] at h; exact VF.sound v hf h
  ·rename_i hg; rw [if_neg hg] at h; exact h
 | .rptr _ _, hf, _, _ => by simp [VF] at hf
 | .vmap _ _ _, hf, _, _ => by simp [VF] at hf
 | .view _ _ _, hf, _, _ => by simp [VF] at hf
 | .pv _ _ _ _, hf, _, _ => by simp [VF] at hf
 | .optr o i off, _, x, h => by
  simp only [sh, Rv] at h ⊢
  obtain ⟨l, hl, rfl⟩ := h
  exact ⟨l, app_get hl, rfl⟩
 | .own o s n c, _, x, h => by
  simp only [sh, Rv] at h ⊢
  rcases h with ⟨l, cap, hl, h⟩ | h
  ·exact .inl ⟨l, cap, app_get hl, h⟩
  ·exact .inr h
 | .emp, _, _, h => by simpa only [Rv, sh] using h
 | .bsl o _ _ _ _, _, x, h => by
  simp only [sh, Rv] at h ⊢
  obtain ⟨hc, l, hl, rfl⟩ := h
  exact ⟨hc, l, app_get hl, rfl⟩
 | .map o, _, x, h => by
  simp only [sh, Rv] at h ⊢
  obtain ⟨l, hl, rfl⟩ := h
  exact ⟨l, app_get hl, rfl⟩
 | .fn f a b, hf, x, h => by
  simp only [VF] at hf
  simp only [sh, Rv] at h ⊢
  obtain ⟨fs, cs, rfl, h1, h2⟩ := h
  exact ⟨fs, cs, rfl, VFL.sound a hf.1 h1, VFL.sound b hf.2 h2⟩
 | .agg vs, hf, x, h => by
  simp only [VF] at hf
  simp only [sh, Rv] at h ⊢
  obtain ⟨cs, rfl, h1⟩ := h
  exact ⟨cs, rfl, VFL.sound vs hf h1⟩
 | .tup vs, hf, x, h => by
  simp only [VF] at hf
  simp only [sh, Rv] at h ⊢
  obtain ⟨cs, rfl, h1⟩ := h
  exact ⟨cs, rfl, VFL.sound vs hf h1⟩
 | .ifc t v, hf, x, h => by
  simp only [VF] at hf
  simp only [sh, Rv] at h ⊢
  obtain ⟨y, rfl, h1⟩ := h
  exact ⟨y, rfl, VF.sound v hf h1⟩
theorem VFL.sound {ρ ρ1 : Rho} {w : World} : (vs : List AV) → VFL vs → ∀ {xs},RvL ρ1 w vs xs → RvL (ρ ++ ρ1) w (shL ρ.length vs) xs
 | [], _, [], _ => by simp [shL, RvL]
 | v :: vs, hf, x :: xs, h => by
  simp only [VFL] at hf
  simp only [shL, RvL] at h ⊢
  exact ⟨VF.sound v hf.1 h.1, VFL.sound vs hf.2 h.2⟩
 | [], _, _ :: _, h => by simp [RvL] at h
 | _ :: _, _, [], h => by simp [RvL] at h
end
def PlO : AObj → Prop
 | .dead => True
 | .box _ cells => PlL cells
 | .arr _ _ _ e => ∀ i j, Pl (e i j)
 | .mp _ es => PlL (es.map (·.2))
 | .raw _ _ => False
 | .ghost _ _ _ _ _ => False
theorem PlO.sound {ρ ρ1 : Rho} {w : World} {o : Nat} {a : AObj} (hp : PlO a) (h : RO ρ1 w o a) : RO (ρ ++ ρ1) w (ρ.length + o) a := by
 cases a with
 | dead => trivial
 | box ety cells =>
  obtain ⟨l, c, hl, h0, h1, h2, h3, h4, h5⟩ := h
  exact ⟨l, c, app_get hl, h0, h1, h2, h3, h4, PlL.any _ hp h5⟩
 | arr ety esz len e =>
  rcases h with ⟨l, c, hl, he, hh, hc, hd, hr⟩ | ⟨hn, h0⟩
  ·refine .inl ⟨l, c, app_get hl, he, hh, hc, hd, fun i hi j hj => ?_⟩
   obtain ⟨y, a, b, c⟩ := hr i hi j hj
   exact ⟨y, a, b, Pl.any _ (hp i j) c⟩
  ·exact .inr ⟨by rw [List.getElem?_append_right (by omega)]; simpa using hn, h0⟩
 | mp sh es =>
  obtain ⟨l, a, clock, hl, hh, hb, hks, he, hv⟩ := h
  exact ⟨l, a, clock, app_get hl, hh, hb, hks, he, PlL.any _ hp hv⟩
 | raw _ _ => exact hp.elim
 | ghost _ _ _ _ _ => exact hp.elim
theorem TC_make {f : FuncId} {args args0 : List AV} {σ : List AObj} {Q : AV → List AObj → Prop} (h : TC P f args0 [] Q) (hp : ∀ v σ1,Q v σ1 → VF v ∧ ∀ a ∈ σ1,PlO a) (hc : CvL σ args args0) :
  TC P f args σ (fun v σ' => ∃ v1 σ1, Q v1 σ1 ∧ v = sh σ.length v1 ∧ σ' = σ ++ σ1) :=
 ⟨h.1,fun ρ w vs ha hH => (h.2 [] w vs (hc _ _ _ hH ha) (RH.nil w hH.glob_nil)).mono fun e w' ⟨ρ1,v,σ1,x,he,hq,hv,hH1,hs⟩ => by
  obtain ⟨hvf, hpo⟩ := hp v σ1 hq
  have hown : ∀ b, Rho.has ρ1 b → w.heap.size ≤ b := fun b hb => by
   rcases hs.own b hb with h0 | h0
   ·exact (not_has_nil h0).elim
   ·exact h0
  have hhas : ∀ b, Rho.has (ρ ++ ρ1) b → ρ.has b ∨ Rho.has ρ1 b := fun b hb => by
   obtain ⟨o, l, hl, rfl⟩ := hb
   rw [List.getElem?_append] at hl
   split at hl
   ·exact .inl ⟨o, l, hl, rfl⟩
   ·exact .inr ⟨_, l, hl, rfl⟩
  have hst : Step ρ w (ρ ++ ρ1) w' := ⟨hs.os,hs.tape,hs.output,hs.size,fun b hb _ => hs.same b hb not_has_nil,List.prefix_append _ _,fun b hb => by
   rcases hhas b hb with h0 | h0
   ·exact .inl h0
   ·exact .inr (hown b h0)⟩
  have hkeep : ∀ (o : Nat) (a : AObj),σ[o]? = some a → RO (ρ ++ ρ1) w' o a := fun o a ha => RO.keep hst (hH.obj o a ha) fun l hl => hs.same _ (hH.lt o l hl) not_has_nil
  have cases_ : ∀ {α : Type} {l1 l2 : List α} {o : Nat} {y : α},(l1 ++ l2)[o]? = some y → (o < l1.length ∧ l1[o]? = some y) ∨ ∃ q,o = l1.length + q ∧ l2[q]? = some y := by
   intro α l1 l2 o y hy
   rw [List.getElem?_append] at hy
   split at hy
   ·rename_i hlt; exact .inl ⟨hlt, hy⟩
   ·exact .inr ⟨o - l1.length, by omega, hy⟩
  refine ⟨ρ ++ ρ1,sh σ.length v,σ ++ σ1,x,he,⟨v,σ1,hq,rfl,rfl⟩,by rw [← hH.len];exact VF.sound v hvf hv,⟨by simp [hH.len,hH1.len],fun o l hl=>?_,fun o a ha=>?_,fun o o' l l' a a' hne h1 k1 h2 k2 r1 r2=>?_,hH.glob.step hst⟩,hst⟩
  ·rcases cases_ hl with ⟨_, h0⟩ | ⟨q, _, h0⟩
   ·exact Nat.lt_of_lt_of_le (hH.lt o l h0) hs.size
   ·exact hH1.lt q l h0
  ·rcases cases_ ha with ⟨_, h0⟩ | ⟨q, rfl, h0⟩
   ·exact hkeep o a h0
   ·rw [← hH.len]; exact PlO.sound (hpo a (List.mem_of_getElem? h0)) (hH1.obj q a h0)
  ·rcases cases_ h1 with ⟨_,p1⟩ | ⟨q1,e1,p1⟩ <;> rcases cases_ h2 with ⟨_,p2⟩ | ⟨q2,e2,p2⟩ <;> rcases cases_ r1 with ⟨_,s1⟩ | ⟨t1,f1,s1⟩ <;> rcases cases_ r2 with ⟨_,s2⟩ | ⟨t2,f2,s2⟩ <;> (try (have := hH.len;omega))
   ·exact hH.apart o o' l l' a a' hne p1 k1 p2 k2 s1 s2
   ·have := hH.lt o l s1
    have := hown l'.b ⟨t2, l', s2, rfl⟩
    omega
   ·have := hH.lt o' l' s2
    have := hown l.b ⟨t1, l, s1, rfl⟩
    omega
   ·have hl := hH.len
    have : t1 = q1 := by omega
    subst this
    have : t2 = q2 := by omega
    subst this
    exact hH1.apart t1 t2 l l' a a' (by omega) p1 k1 p2 k2 s1 s2⟩
attribute [go_sem] sh shL
end
end Go.Ab
namespace Go.Ab
section
variable {P : Program} {n : Nat} {K : St → Prop} {Q : Exit → St → Prop} {st : St} {id id' : Nat}
theorem thenQ_n (h : K st) : thenQ K Q .normal st := h
theorem thenQ_e (h : Q (.exit id) st) : thenQ K Q (.exit id) st := h
theorem thenQ_r (h : Q .ret st) : thenQ K Q .ret st := h
theorem blockQ_n (h : Q .normal st) : blockQ id Q .normal st := h
theorem blockQ_r (h : Q .ret st) : blockQ id Q .ret st := h
theorem blockQ_e (h : Q .normal st) : blockQ id Q (.exit id) st := by simp only [blockQ, if_true]; exact h
theorem blockQ_o (hne : id' ≠ id) (h : Q (.exit id') st) : blockQ id Q (.exit id') st := by simp only [blockQ,if_neg hne];exact h
theorem retQ_r {Γ : Tab} {rs : List ResultVar} {Q : AV → List AObj → Prop} (h : retGoal st.σ Q (eRes Γ st rs)) : retQ Γ rs Q .ret st := h
theorem retQ_n {Γ : Tab} {rs : List ResultVar} {Q : AV → List AObj → Prop} (h : retGoal st.σ Q (eRes Γ st rs)) : retQ Γ rs Q .normal st := h
end
end Go.Ab
namespace Go.Ab
section
variable {P : Program} {Γ : Tab} {n : Nat} {rd : Rd}
def Look (P : Program) (k : FuncId) (args : List AV) (v : AV) : Prop := TC P k args [] (fun u _ => u = v) ∧ Pl v
theorem Look.mk {k : FuncId} {args : List AV} {v : AV} (hp : Pl v) (h : TC P k args [] (fun u _ => u = v)) : Look P k args v := ⟨h,hp⟩
theorem callGoal_mk {σ : List AObj} {next : AV → List AObj → Prop} {k : FuncId} {args : List AV} {C : Prop} {Q0 : AV → List AObj → Prop} (hC : C) (h : TC P k args σ Q0) (hn : ∀ v σ',Q0 v σ' → next v σ') : callGoal P σ next (some (k,args,C)) := ⟨hC,Q0,h,hn⟩
theorem callGoal_look {σ : List AObj} {next : AV → List AObj → Prop} {k : FuncId} {args args0 : List AV} {C : Prop} {v : AV} (hC : C) (hc : CvL σ args args0) (h : Look P k args0 v) (hn : next v σ) : callGoal P σ next (some (k,args,C)) :=
 ⟨hC, _, TC_look h.1 (fun u hu => hu ▸ h.2) hc, fun u σ' ⟨hu, hs⟩ => by subst hu; subst hs; exact hn⟩
def Makes (P : Program) (k : FuncId) (args : List AV) (v : AV) (σ1 : List AObj) : Prop := TC P k args [] (fun u σ' => u = v ∧ σ' = σ1) ∧ VF v ∧ ∀ a ∈ σ1,PlO a
theorem callGoal_make {σ σ1 : List AObj} {next : AV → List AObj → Prop} {k : FuncId} {args args0 : List AV} {C : Prop} {v : AV} (hC : C) (hc : CvL σ args args0) (h : Makes P k args0 v σ1) (hn : next (sh σ.length v) (σ ++ σ1)) : callGoal P σ next (some (k,args,C)) :=
 ⟨hC,_,TC_make h.1 (fun u s ⟨hu,hs⟩ => by subst hu;subst hs;exact h.2) hc,fun u σ' ⟨v1,s1,⟨h1,h2⟩,h3,h4⟩ => by subst h1;subst h2;subst h3;subst h4;exact hn⟩
end
end Go.Ab
namespace Go.Ab
section
variable {P : Program} {Γ : Tab} {n : Nat} {rd : Rd}
def gC (P : Program) (σ : List AObj) (N : AV → List AObj → Prop) (g : Bool) (ca : Option (FuncId × List AV × Prop)) : Prop :=
 (∃ v,(g = true → callGoal P σ (fun v' σ' => v' = v ∧ σ' = σ) ca) ∧ N (.gd g v) σ) ∨ ((g = true → callGoal P σ N ca) ∧ (g = false → N (.imm undef) σ))
def gCallN (P : Program) (σ : List AObj) (N : AV → List AObj → Prop) (ca : Option (FuncId × List AV × Prop)) : Option (Option Bool) → Prop
 | some none => callGoal P σ N ca
 | some (some g) => gC P σ N g ca
 | none => False
theorem TO_callN {ops rest : List Oper} {K : St → Prop} {o : Oper} {c : Call} {st : St} (hc : opCall o.op = some c)
  (h : ∀ N : AV → List AObj → Prop,(∀ v σ',TO P n (rd := rd) ops rest K ⟨setE st.env o.dst v,σ'⟩ → N v σ') → gCallN P st.σ N (callA st.env c) (guardOf ops st.env o.guard)) : TO P n (rd := rd) ops (o :: rest) K st := by
 have h' := h _ fun _ _ h => h
 refine TO_call hc ?_
 revert h'
 generalize guardOf ops st.env o.guard = q
 intro h'
 cases q with
 | none => exact h'
 | some q =>
  cases q with
  | none => exact h'
  | some g =>
   rcases h' with ⟨v, h1, h2⟩ | ⟨h1, h2⟩
   ·exact gCall_pure v h1 h2
   ·exact ⟨h1, h2⟩
theorem gC_look {σ : List AObj} {N : AV → List AObj → Prop} {g : Bool} {k : FuncId} {args args0 : List AV} {C : Prop} {v : AV}
  (h : g = true → C ∧ CvL σ args args0 ∧ Look P k args0 v) (next : N (.gd g v) σ) : gC P σ N g (some (k, args, C)) :=
 .inl ⟨v, fun hg => callGoal_look (h hg).1 (h hg).2.1 (h hg).2.2 ⟨rfl, rfl⟩, next⟩
theorem gC_true {σ : List AObj} {N : AV → List AObj → Prop} {ca : Option (FuncId × List AV × Prop)} (h : callGoal P σ N ca) : gC P σ N true ca := .inr ⟨fun _ => h,fun h => nomatch h⟩
theorem gC_false {σ : List AObj} {N : AV → List AObj → Prop} {ca : Option (FuncId × List AV × Prop)} (h : N (.imm undef) σ) : gC P σ N false ca := .inr ⟨(fun h => nomatch h),fun _ => h⟩
attribute [go_sem] gCallN
end
end Go.Ab
namespace Go.Ab
def tmpL : List Operand → List Nat
 | [] => []
 | .tmp t :: xs => t :: tmpL xs
 | _ :: xs => tmpL xs
def lookOps : Op → List Operand
 | .pick c a b => [c, a, b]
 | .call c => (match c.callee with | .value f => f :: c.args.toList | _ => c.args.toList)
 | op => opsOf op
def guardDst (ops : List Oper) : Option (Nat × Bool) → List Nat
 | none => []
 | some (j, _) => match nthOp ops j with | some o => (match o.dst with | some d => [d] | none => []) | none => []
def looksL (ops : List Oper) (o : Oper) : List Nat := tmpL (lookOps o.op) ++ guardDst ops o.guard
def Agree (env env' : List AV) (ts : List Nat) : Prop := env'.length = env.length ∧ ∀ t ∈ ts, nth env' t = nth env t
def eBuildView (Γ : Tab) (t : TypeId) (len : Nat) (parts : List (Nat × AV)) : Option (AV × Prop) :=
 match Γ.get t with
 | some ti =>
  match ti.d with
  | .slice e =>
   match Γ.get e with
   | some te =>
    match fillA (fun i => some (i * te.size, te.size)) (repL (zeroL te.zero) len) parts with
    | some (r,c) => some (.pv len te.size (some len) (fun i j => nth r (i * te.size + j)),c ∧ len * te.size ≤ 16777216 ∧ te.zero.length = te.size ∧ r.length = len * te.size)
    | none => none
   | none => none
  | _ => none
 | none => none
def bsV : Op → Option (TypeId × Nat × List (Nat × Operand))
 | .buildSlice t len ps => some (t, len, ps.toList)
 | _ => none
def evV0 (Γ : Tab) (ops : List Oper) (st : St) (o : Oper) : Option (AV × List AObj × Prop) :=
 match guardOf ops st.env o.guard with
 | none => none
 | some none => ev1 Γ st true o.op
 | some (some g) =>
  match loud o.op with
  | true =>
   match g with
   | true => ev1 Γ st true o.op
   | false => some (.imm undef, st.σ, True)
  | false =>
   match ev1 Γ st g o.op with
   | some (v, _, C) => some (.gd g v, st.σ, g = true → C)
   | none => none
def evV (Γ : Tab) (ops : List Oper) (st : St) (o : Oper) : Option (AV × List AObj × Prop) :=
 match bsV o.op with
 | none => evV0 Γ ops st o
 | some (t, len, ps) =>
  match o.guard with
  | none =>
   match eBuildView Γ t len (mapP (fun x => us (opd st.env x)) ps) with
   | some (v, C) => some (v, st.σ, oblig true st.env (ps.map (·.2)) ∧ C)
   | none => none
  | some _ =>
   match guardOf ops st.env o.guard with
   | some (some g) =>
    match eBuildView Γ t len (mapP (fun x => us (opd st.env x)) ps) with
    | some (v, C) => some (.gd g v, st.σ, g = true → oblig true st.env (ps.map (·.2)) ∧ C)
    | none => none
   | _ => none
theorem evG_eq (Γ : Tab) (ops : List Oper) (st : St) (o : Oper) : evG Γ ops st o = (evV0 Γ ops st o).map fun q => (⟨setE st.env o.dst q.1,q.2.1⟩,q.2.2) := by
 unfold evG evV0
 cases guardOf ops st.env o.guard with
 | none => rfl
 | some q =>
  cases q with
  | none => simp only []; cases ev1 Γ st true o.op <;> rfl
  | some g =>
   simp only []
   cases loud o.op with
   | true =>
    cases g with
    | true => simp only []; cases ev1 Γ st true o.op <;> rfl
    | false => rfl
   | false => simp only []; cases ev1 Γ st g o.op <;> rfl
def wpOne (P : Program) (rd : Rd) (ops : List Oper) (o : Oper) (Q : Exit → Act → World → Prop) (K : Act → World → Prop) (a : Act) (w : World) : Prop :=
 if Region.wanted o (yielded ops.toArray a.tmps) then o.wpIn rd.fence 0 P a w K Q else K (a.put o.dst undef) w
def Does (P : Program) (n : Nat) (ops : List Oper) (o : Oper) (st : St) (v : AV) (σ' : List AObj) : Prop :=
 ∀ env',Agree st.env env' (looksL ops o) → ∀ (rd : Rd) (ρ0 : Rho) (W0 : World) (a : Act) (w : World) (Q : Exit → Act → World → Prop) (K : Act → World → Prop),ρ0.length = n → Rel rd ρ0 W0 ⟨env',st.σ⟩ a w →
  (∀ a' w', Rel rd ρ0 W0 ⟨setE env' o.dst v, σ'⟩ a' w' → K a' w') → wpOne P rd ops o Q K a w
section
variable {P : Program} {Γ : Tab} {n : Nat}
theorem opd_agree {env env' : List AV} : ∀ {xs : List Operand},(∀ t ∈ tmpL xs,nth env' t = nth env t) → ∀ x ∈ xs,opd env' x = opd env x
 | [], _, x, hx => by cases hx
 | y :: ys, h, x, hx => by
  rcases List.mem_cons.1 hx with rfl | hm
  ·cases x <;> simp only [opd]
   exact h _ (by simp [tmpL])
  ·exact opd_agree (fun t ht => h t (by cases y <;> simp [tmpL, ht])) x hm
theorem guardOf_agree {ops : List Oper} {env env' : List AV} {g : Option (Nat × Bool)} (h : ∀ t ∈ guardDst ops g,nth env' t = nth env t) : guardOf ops env' g = guardOf ops env g := by
 cases g with
 | none => rfl
 | some q =>
  obtain ⟨j, want⟩ := q
  simp only [guardOf, guardDst] at h ⊢
  cases ho : nthOp ops j with
  | none => rfl
  | some o =>
   cases hd : o.dst with
   | none => simp only [hd]
   | some d =>
    simp only [ho, hd, List.mem_cons, List.not_mem_nil, or_false, forall_eq] at h
    simp only [hd]
    rw [h]
theorem oblig_agree {g : Bool} {env env' : List AV} : ∀ {xs : List Operand},(∀ x ∈ xs,opd env' x = opd env x) → oblig g env' xs = oblig g env xs
 | [], _ => rfl
 | y :: ys, h => by simp only [oblig]; rw [h y (by simp), oblig_agree fun x hx => h x (by simp [hx])]
theorem mapP_agree {r r' : Operand → AV} : ∀ {ps : List (Nat × Operand)},(∀ x ∈ ps.map (·.2),r' x = r x) → mapP r' ps = mapP r ps
 | [], _ => rfl
 | (i,x) :: ps,h => by simp only [mapP];rw [h x (by simp),mapP_agree fun y hy => h y (by simp only [List.map_cons,List.mem_cons];exact .inr hy)]
theorem mapL_agree {r r' : Operand → AV} : ∀ {xs : List Operand}, (∀ x ∈ xs, r' x = r x) → mapL r' xs = mapL r xs
 | [], _ => rfl
 | x :: xs, h => by simp only [mapL]; rw [h x (by simp), mapL_agree fun y hy => h y (by simp [hy])]
theorem optmap_agree {r r' : Operand → AV} {o : Option Operand} (h : ∀ x ∈ o.toList,r' x = r x) : o.map r' = o.map r := by
 cases o with
 | none => rfl
 | some x => simp only [Option.map_some]; rw [h x (by simp)]
theorem eOp_agree {σ : List AObj} {r r' : Operand → AV} {op : Op} (h : ∀ x ∈ opsOf op,r' x = r x) : eOp Γ σ r' op = eOp Γ σ r op := by
 cases op <;> simp only [eOp] <;> simp only [opsOf,List.mem_cons,List.not_mem_nil,or_false,forall_eq_or_imp,forall_eq,List.mem_append] at h
 all_goals first
  | rfl
  | (rw [h]; done)
  | (rw [h.1, h.2]; done)
  | (rw [h.1, h.2.1, h.2.2]; done)
  | (rw [optmap_agree h]; done)
  | (rw [mapP_agree h]; done)
  | (rw [mapL_agree fun x hx => h x (.inl hx), mapL_agree fun x hx => h x (.inr hx)]; done)
  | (rw [h.1,optmap_agree fun x hx => h.2 x (.inl hx),optmap_agree fun x hx => h.2 x (.inr (.inl hx)),optmap_agree fun x hx => h.2 x (.inr (.inr hx))];done)
  | skip
 rename_i c
 cases hc : c.callee with
 | value f => rfl
 | builtin b =>
  revert h
  generalize c.args.toList = l
  generalize c.argTypes.toList = ts
  intro h
  simp only []
  split <;> first | rfl | skip
  all_goals simp only [List.mem_cons, List.not_mem_nil, or_false, forall_eq_or_imp, forall_eq] at h
  all_goals first
   | rfl
   | (rw [h]; done)
   | (rw [h.1, h.2]; done)
 | invoke _ _ => rfl
theorem lookOps_opsOf {op : Op} (hp : ∀ c a b, op ≠ .pick c a b) : ∀ x ∈ opsOf op, x ∈ lookOps op := by
 intro x hx
 cases op <;> simp only [lookOps, opsOf] at hx ⊢ <;> (try exact hx)
 ·cases hx
 ·rename_i c
  split
  ·exact List.mem_cons_of_mem _ hx
  ·exact hx
theorem ev1_agree {env env' : List AV} {σ : List AObj} {g : Bool} {op : Op} (h : ∀ x ∈ lookOps op,opd env' x = opd env x) : ev1 Γ ⟨env',σ⟩ g op = ev1 Γ ⟨env,σ⟩ g op := by
 by_cases hp : ∃ c a b, op = .pick c a b
 ·obtain ⟨c, a, b, rfl⟩ := hp
  simp only [lookOps, List.mem_cons, List.not_mem_nil, or_false, forall_eq_or_imp, forall_eq] at h
  simp only [ev1, evPick, h.1, h.2.1, h.2.2]
 ·have hp' : ∀ c a b, op ≠ .pick c a b := fun c a b e => hp ⟨c, a, b, e⟩
  have h1 := lookOps_opsOf hp'
  have e1 : oblig g env' (opsOf op) = oblig g env (opsOf op) := oblig_agree fun x hx => h x (h1 x hx)
  have e2 : eOp Γ σ (fun x => us (opd env' x)) op = eOp Γ σ (fun x => us (opd env x)) op := eOp_agree fun x hx => by rw [h x (h1 x hx)]
  have e3 : ∀ env,ev1 Γ ⟨env,σ⟩ g op = match eOp Γ σ (fun x => us (opd env x)) op with | some (v,σ',C) => some (v,σ',oblig g env (opsOf op) ∧ C) | none => none := by
   intro env
   unfold ev1
   split
   ·exact (hp' _ _ _ rfl).elim
   ·rfl
  rw [e3, e3, e1, e2]
theorem evV_agree {ops : List Oper} {env env' : List AV} {σ : List AObj} {o : Oper} (h : Agree env env' (looksL ops o)) : evV Γ ops ⟨env',σ⟩ o = evV Γ ops ⟨env,σ⟩ o := by
 have h1 : ∀ x ∈ lookOps o.op, opd env' x = opd env x := opd_agree fun t ht => h.2 t (by simp [looksL, ht])
 have h2 : guardOf ops env' o.guard = guardOf ops env o.guard := guardOf_agree fun t ht => h.2 t (by simp [looksL, ht])
 unfold evV
 cases hb : bsV o.op with
 | none =>
  simp only []
  unfold evV0
  rw [h2]
  simp only [ev1_agree h1]
 | some q =>
  obtain ⟨t, len, ps⟩ := q
  have hop : ∃ parts, o.op = .buildSlice t len parts ∧ parts.toList = ps := by
   cases hh : o.op <;> rw [hh] at hb <;> simp [bsV] at hb
   obtain ⟨rfl, rfl, rfl⟩ := hb
   exact ⟨_, rfl, rfl⟩
  obtain ⟨parts, hop, rfl⟩ := hop
  rw [hop] at h1
  simp only [lookOps, opsOf] at h1
  simp only []
  rw [oblig_agree h1,mapP_agree (r := fun x => us (opd env x)) (r' := fun x => us (opd env' x)) (fun x hx => by rw [h1 x hx]),h2]
theorem callA_agree {ops : List Oper} {env env' : List AV} {o : Oper} {c : Call} (hc : opCall o.op = some c) (h : Agree env env' (looksL ops o)) : callA env' c = callA env c := by
 have hop : o.op = .call c := by
  cases hh : o.op <;> rw [hh] at hc <;> simp [opCall] at hc
  subst hc; rfl
 have h1 : ∀ x ∈ lookOps o.op, opd env' x = opd env x := opd_agree fun t ht => h.2 t (by simp [looksL, ht])
 rw [hop] at h1
 unfold callA
 cases hf : c.callee with
 | value f =>
  simp only [lookOps, hf, List.mem_cons, forall_eq_or_imp] at h1
  simp only []
  rw [h1.1,oblig_agree h1.2,mapL_agree (r := fun x => us (opd env x)) (r' := fun x => us (opd env' x)) fun x hx => by rw [h1.2 x hx]]
 | builtin b => rfl
 | invoke _ _ => rfl
theorem setE_up {ρ : Rho} {w : World} {env : List AV} {xs : List Value} {dst : Option Nat} {v0 v : AV} (hv : ∀ ρ w x,Rv ρ w v0 x → Rv ρ w v x) (h3 : RvL ρ w (setE env dst v0) xs) : RvL ρ w (setE env dst v) xs := by
 cases dst with
 | none => exact h3
 | some d =>
  simp only [setE, setN_eq] at h3 ⊢
  refine RvL.of_get (by have := h3.length; simpa using this) fun i u x hu hx => ?_
  have hl := h3.length
  rw [List.getElem?_set] at hu
  split at hu
  ·rename_i hi
   split at hu
   ·rename_i hlt
    simp only [Option.some.injEq] at hu
    subst hu
    obtain ⟨y, hy, hv'⟩ := RvL.get h3 (i := i) (v := v0) (by rw [List.getElem?_set, if_pos hi, if_pos hlt])
    rw [hx] at hy
    simp only [Option.some.injEq] at hy
    subst hy
    exact hv _ _ _ hv'
   ·cases hu
  ·rename_i hi
   obtain ⟨y, hy, hv'⟩ := RvL.get h3 (i := i) (v := u) (by rw [List.getElem?_set, if_neg hi]; exact hu)
   rw [hx] at hy
   simp only [Option.some.injEq] at hy
   subst hy
   exact hv'
theorem alloc_keep {ρ : Rho} {w : World} {σ : List AObj} (hH : RH ρ w σ) (b : Obj) : RH ρ (w.alloc b) σ ∧ Step ρ w ρ (w.alloc b) := by
 have hs : Step ρ w ρ (w.alloc b) := ⟨rfl,rfl,rfl,by simp,fun q hq _ => RowKit.Below.heap_alloc w _ q hq,List.prefix_refl _,fun _ h => .inl h⟩
 exact ⟨⟨hH.len,fun o l hl=>Nat.lt_of_lt_of_le (hH.lt o l hl) hs.size,fun o a ha=>RO.keep hs (hH.obj o a ha) fun l hl=>RowKit.Below.heap_alloc w _ _ (hH.lt o l hl),hH.apart,hH.glob.step hs⟩,hs⟩
theorem eBuildView_sound (hΓ : TabOk P Γ) {ρ : Rho} {w : World} {σ : List AObj} (hH : RH ρ w σ) {t : TypeId} {len : Nat} {parts : List (Nat × AV)} {v : AV} {C : Prop} (h : eBuildView Γ t len parts = some (v,C)) (hC : C)
  {xs : Array (Nat × Value)} (hx : RvP ρ w parts xs.toList) :
  ∃ r ρ' w', (Instr.buildSlice t len xs).run P w = .ok r w' ∧ Rv ρ' w' v r ∧ RH ρ' w' σ ∧ Step ρ w ρ' w' := by
 unfold eBuildView at h
 split at h
 ·rename_i ti hti
  have hd := (hΓ t ti hti).desc
  split at h
  ·rename_i e hfs
   rw [hfs] at hd
   simp only [TD.holds] at hd
   split at h
   ·rename_i te hte
    have hte := hΓ e te hte
    split at h
    ·rename_i r c hfill
     simp only [Option.some.injEq, Prod.mk.injEq] at h
     obtain ⟨rfl, rfl⟩ := h
     obtain ⟨hc, hsz, hzl, hrl⟩ := hC
     obtain ⟨z, hz, hzc⟩ := hte.zeroValue w
     have hz1 := zeroL_sound ρ w te.zero
     obtain ⟨cs',g1,g2,g3⟩ := fillA_sound (cs := (List.replicate len (te.zero.map ZC.val)).flatten.toArray) (place' := fun i=>some (i * te.size,te.size)) (by intro i;rfl) hfill hc hx (by simpa using repL_sound hz1 len)
      (by intro y hy;simp only [List.mem_flatten,List.mem_replicate] at hy;obtain ⟨l,⟨_,rfl⟩,hy⟩ := hy;exact zeroL_one _ y hy)
     have hmk : (Array.range (len * te.size)).map (fun i=>(if len * te.size = 0 then (#[] : Array Value) else z.cells)[i % (if len * te.size = 0 then (#[] : Array Value) else z.cells).size]!) = (List.replicate len (te.zero.map ZC.val)).flatten.toArray := by
      by_cases h0 : len * te.size = 0
      ·have : (List.replicate len (te.zero.map ZC.val)).flatten = [] := by
        apply List.eq_nil_of_length_eq_zero
        simp [List.length_flatten, hzl, h0]
       rw [h0, this]
       simp
      ·simp only [h0, if_false]
       have := made_eq (te.zero.map ZC.val) len
       simp only [List.length_map, hzl] at this
       rw [hzc]
       simpa [hzl] using this
     have hk := alloc_keep hH (.cells cs' e)
     refine ⟨.slice (some ⟨w.heap.size, 0, none⟩) len len, ρ, w.alloc (.cells cs' e), ?_, ?_, hk.1, hk.2⟩
     ·have hg : ¬ len * te.size > 2 ^ 24 := by simp; omega
      by_cases h0 : len * te.size = 0
      ·simp only [h0, if_true] at hmk
       simp only [Instr.buildSlice,Sem.run_bind,run_underlying hd,Result.andThen_ok,hte.sizeOf,h0,if_true,Sem.run_pure,Sem.run_ite]
       simp only [hmk, g1, newRow, Sem.run_bind, run_newObj, Result.andThen_ok, Sem.run_pure]
       simp
      ·simp only [h0, if_false] at hmk
       simp only [Instr.buildSlice,Sem.run_bind,run_underlying hd,Result.andThen_ok,hte.sizeOf,hg,if_false,h0,Sem.run_pure,Sem.run_ite,hz,hmk,g1,newRow,run_newObj]
       simp
     ·simp only [Rv]
      refine ⟨_,_,_,_,_,rfl,⟨Nat.le_refl _,fun c' hc' => by simpa using hc'⟩,fun ⟨o,l,hl,hb⟩ => ?_,heap_alloc_new w (.cells cs' e),fun i hi j hj => ?_⟩
      ·have h5 := hH.lt o l hl
       rw [hb] at h5
       exact Nat.lt_irrefl _ h5
      ·have hlt : i * te.size + j < len * te.size := by
        have := Nat.mul_le_mul_right te.size (Nat.succ_le_of_lt hi)
        rw [Nat.succ_mul] at this
        omega
       obtain ⟨y, hy, hv⟩ := RvL.get g2 (nth_eq (l := r) (i := i * te.size + j) (by omega))
       exact ⟨y, by simpa using hy, g3 y (List.mem_of_getElem? hy), Rv.mono hk.2 _ hv⟩
    ·cases h
   ·cases h
  ·cases h
 ·cases h
theorem Does.of_ev (hΓ : TabOk P Γ) {ops : List Oper} {o : Oper} {st : St} {v : AV} {σ' : List AObj} {C : Prop} (h : evV Γ ops st o = some (v,σ',C)) (hC : C) : Does P n ops o st v σ' := by
 intro env' hag rd ρ0 W0 a w Q K hn hR hK
 rw [← show (⟨st.env, st.σ⟩ : St) = st from rfl, ← evV_agree hag] at h
 unfold evV at h
 cases hb : bsV o.op with
 | none =>
  rw [hb] at h
  simp only [] at h
  have h' : evG Γ ops ⟨env', st.σ⟩ o = some (⟨setE env' o.dst v, σ'⟩, C) := by
   rw [evG_eq, h]
   rfl
  exact evG_one hΓ h' hC hR hK
 | some q =>
  obtain ⟨t, len, ps⟩ := q
  have hop : ∃ parts, o.op = .buildSlice t len parts ∧ parts.toList = ps := by
   cases hh : o.op <;> rw [hh] at hb <;> simp [bsV] at hb
   obtain ⟨rfl, rfl, rfl⟩ := hb
   exact ⟨_, rfl, rfl⟩
  obtain ⟨parts, hop, rfl⟩ := hop
  rw [hb] at h
  simp only [] at h
  split at h
  ·rename_i hg
   split at h
   ·rename_i v' C' he
    simp only [Option.some.injEq, Prod.mk.injEq] at h
    obtain ⟨rfl, rfl, rfl⟩ := h
    obtain ⟨ρ, hst, hdf, henv, hH⟩ := hR
    unfold wpOne
    rw [if_pos (by simp [Region.wanted, hg])]
    obtain ⟨r,ρ',w',h1,h2,h3,h4⟩ := eBuildView_sound hΓ hH he hC.2 (xs := parts.map fun p => (p.1,a.eval p.2)) (by
     rw [Array.toList_map]
     exact mapP_sound fun x hx => us_sound rfl (oblig_mem hC.1 x hx) (opd_sound hH.glob henv x))
    refine Oper.wpInR (fun c e => by rw [hop] at e; cases e) ?_
    unfold execOp
    rw [hop]
    simp only [Sem.run_bind, h1, Result.andThen_ok, Sem.run_pure]
    exact hK _ _ ⟨ρ', hst.trans h4, by cases o.dst <;> exact hdf.step h4, put_sound (RvL.mono h4 _ henv) h2 _, h3⟩
   ·cases h
  ·rename_i gd hgd
   split at h
   ·rename_i g hg
    split at h
    ·rename_i v' C' he
     simp only [Option.some.injEq, Prod.mk.injEq] at h
     obtain ⟨rfl, rfl, rfl⟩ := h
     obtain ⟨ρ, hst, hdf, henv, hH⟩ := hR
     unfold wpOne
     rw [guardOf_sound henv hg]
     simp only [Option.getD_some]
     cases g with
     | false =>
      simp only [Bool.false_eq_true, if_false]
      exact hK _ _ ⟨ρ, hst, by cases o.dst <;> exact hdf, put_sound henv (by simp [Rv]) _, hH⟩
     | true =>
      simp only [if_true]
      have hC := hC rfl
      obtain ⟨r,ρ',w',h1,h2,h3,h4⟩ := eBuildView_sound hΓ hH he hC.2 (xs := parts.map fun p => (p.1,a.eval p.2)) (by
       rw [Array.toList_map]
       exact mapP_sound fun x hx => us_sound rfl (oblig_mem hC.1 x hx) (opd_sound hH.glob henv x))
      refine Oper.wpInR (fun c e => by rw [hop] at e; cases e) ?_
      unfold execOp
      rw [hop]
      simp only [Sem.run_bind, h1, Result.andThen_ok, Sem.run_pure]
      exact hK _ _ ⟨ρ',hst.trans h4,by cases o.dst <;> exact hdf.step h4,put_sound (RvL.mono h4 _ henv) (by simpa [Rv] using h2) _,h3⟩
    ·cases h
   ·cases h
theorem Does.of_call {ops : List Oper} {o : Oper} {c : Call} {st : St} {v : AV} {σ1 : List AObj} (hc : opCall o.op = some c) (hg : o.guard = none) (h : callGoal P st.σ (fun v' σ'=>v' = v ∧ σ' = σ1) (callA st.env c)) : Does P n ops o st v σ1 := by
 intro env' hag rd ρ0 W0 a w Q K hn hR hK
 unfold wpOne
 have hw : Region.wanted o (yielded ops.toArray a.tmps) = true := by simp [Region.wanted, hg]
 rw [if_pos hw]
 refine call_do hc (N := fun v' σ' => v' = v ∧ σ' = σ1) ?_ hR fun v' σ' ⟨e1,e2⟩ a' w' hr => hK _ _ (by subst e1;subst e2;exact hr)
 rw [callA_agree hc hag]
 exact h
theorem Does.of_callT {ops : List Oper} {o : Oper} {c : Call} {st : St} {v : AV} {σ1 : List AObj} (hc : opCall o.op = some c) (hg : guardOf ops st.env o.guard = some (some true)) (h : callGoal P st.σ (fun v' σ'=>v' = v ∧ σ' = σ1) (callA st.env c)) : Does P n ops o st v σ1 := by
 intro env' hag rd ρ0 W0 a w Q K hn hR hK
 unfold wpOne
 obtain ⟨ρ, hst, hdf, henv, hH⟩ := id hR
 have hg' : guardOf ops env' o.guard = some (some true) := by rw [← hg];exact guardOf_agree fun t ht => hag.2 t (by simp [looksL,ht])
 rw [guardOf_sound henv hg']
 simp only [Option.getD_some, if_true]
 refine call_do hc (N := fun v' σ' => v' = v ∧ σ' = σ1) ?_ hR fun v' σ' ⟨e1,e2⟩ a' w' hr => hK _ _ (by subst e1;subst e2;exact hr)
 rw [callA_agree hc hag]
 exact h
theorem Does.of_callG {ops : List Oper} {o : Oper} {c : Call} {st : St} {v : AV} {g : Bool} (hc : opCall o.op = some c) (hg : guardOf ops st.env o.guard = some (some g)) (h : g = true → callGoal P st.σ (fun v' σ'=>v' = v ∧ σ' = st.σ) (callA st.env c)) :
  Does P n ops o st (.gd g v) st.σ := by
 intro env' hag rd ρ0 W0 a w Q K hn hR hK
 unfold wpOne
 obtain ⟨ρ, hst, hdf, henv, hH⟩ := id hR
 have hg' : guardOf ops env' o.guard = some (some g) := by rw [← hg];exact guardOf_agree fun t ht => hag.2 t (by simp [looksL,ht])
 rw [guardOf_sound henv hg']
 simp only [Option.getD_some]
 have up : ∀ {a' : Act} {w' : World} {v0 : AV},(∀ ρ w x,Rv ρ w v0 x → Rv ρ w (.gd g v) x) → Rel rd ρ0 W0 ⟨setE env' o.dst v0,st.σ⟩ a' w' → Rel rd ρ0 W0 ⟨setE env' o.dst (.gd g v),st.σ⟩ a' w' := by
  intro a' w' v0 hv hr
  obtain ⟨ρ, h1, h2, h3, h4⟩ := hr
  exact ⟨ρ, h1, h2, setE_up hv h3, h4⟩
 cases g with
 | true =>
  simp only [if_true]
  refine call_do hc (N := fun v' σ' => v' = v ∧ σ' = st.σ) ?_ hR fun v' σ' ⟨e1,e2⟩ a' w' hr => hK _ _ (by subst e1;subst e2;exact up (fun ρ w x hx => by simpa [Rv] using hx) hr)
  rw [callA_agree hc hag]
  exact h rfl
 | false =>
  simp only [Bool.false_eq_true, if_false]
  exact hK _ _ ⟨ρ, hst, by cases o.dst <;> exact hdf, put_sound henv (by simp [Rv]) _, hH⟩
end
end Go.Ab
