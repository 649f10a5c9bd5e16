/-
  Contracts of functions that only look and give back maps of their own: called beside objects of which no more is known than that they live. Long states of which a part is a list of unknown length.
-/
import Derived.Test.YtgljhmnmmaclaaaQA5
set_option linter.unusedSimpArgs false
set_option linter.unusedVariables false
namespace Go.Ab
section
variable {P : Program} {Γ : Tab} {n : Nat} {rd : Rd}
def noneO : AObj := .arr 0 1 0 fun _ _ => .top
def AObj.isLive : AObj → Prop := fun a => (∃ b ob, a = .raw b ob) ∨ a = noneO
theorem AObj.isLive.alive {a : AObj} (h : a.isLive) : a.alive = true := by
  rcases h with ⟨b, ob, rfl⟩ | rfl <;> rfl
theorem WkO.live {π : List Nat} {σ : List AObj} {a : AObj} (h : a.isLive) : WkO π σ a a := by
  rcases h with ⟨b, ob, rfl⟩ | rfl
  · exact WkO.raw
  · exact WkO.arr fun i j hi => by omega
def PeekL (P : Program) (m : Nat) (k : FuncId) (args : List AV) (v : AV) : Prop :=
  (∀ σ0 : List AObj,σ0.length = m → (∀ a ∈ σ0,a.isLive) → TC P k args σ0 (fun u σ' => u = v ∧ ∃ s,σ' = σ0 ++ s)) ∧ Free v
def liveOf (ρ : Rho) (w : World) (o : Nat) : AObj :=
  match ρ[o]? with
  | some (some l) => (match w.heap[l.b]? with | some ob => .raw l.b ob | none => noneO)
  | _ => noneO
theorem TC_peekL {m : Nat} {k : FuncId} {args : List AV} {v : AV} (h : PeekL P m k args v) {σ : List AObj} (hm : σ.length = m) (hal : ∀ a ∈ σ,a.alive = true) : TC P k args σ (fun u σ'=>u = v ∧ σ' = σ) := by
  refine ⟨trivial, fun ρ w vs ha hH => ?_⟩
  have hraw : ∀ {o : Nat} {l : Loc},ρ[o]? = some (some l) → ∃ ob,w.heap[l.b]? = some ob ∧ liveOf ρ w o = .raw l.b ob := fun {o l} hl => by
    have hlt := hH.lt o l hl
    exact ⟨_, Array.getElem?_eq_getElem hlt, by unfold liveOf; rw [hl]; simp only [Array.getElem?_eq_getElem hlt]⟩
  have hlive : ∀ o, (liveOf ρ w o).isLive := fun o => by
    unfold liveOf; split
    · split
      · exact .inl ⟨_, _, rfl⟩
      · exact .inr rfl
    · exact .inr rfl
  have hget : ∀ o,o < σ.length → ((List.range σ.length).map (liveOf ρ w))[o]? = some (liveOf ρ w o) := fun o ho => by simp [ho]
  have hget' : ∀ {o a},((List.range σ.length).map (liveOf ρ w))[o]? = some a → o < σ.length ∧ a = liveOf ρ w o := fun {o a} he => by
    have hlt := (List.getElem?_eq_some_iff.1 he).1
    simp only [List.length_map, List.length_range] at hlt
    refine ⟨hlt, ?_⟩
    rw [hget o hlt] at he
    simpa using he.symm
  have hal' : ∀ {o : Nat} {a : AObj}, σ[o]? = some a → a.alive = true := fun ho => hal _ (List.mem_of_getElem? ho)
  have hR : RH ρ w ((List.range σ.length).map (liveOf ρ w)) := by
    refine ⟨by simp [hH.len], hH.lt, fun o a hoa => ?_, fun o o' l l' a a' hne h1 k1 h2 k2 r1 r2 => ?_, hH.glob⟩
    · obtain ⟨hlt, rfl⟩ := hget' hoa
      have hρ : o < ρ.length := by rw [hH.len]; exact hlt
      cases hq : ρ[o] with
      | none =>
        have e : ρ[o]? = some none := by rw [List.getElem?_eq_getElem hρ, hq]
        unfold liveOf; rw [e]
        exact .inr ⟨e, rfl⟩
      | some l =>
        have e : ρ[o]? = some (some l) := by rw [List.getElem?_eq_getElem hρ, hq]
        obtain ⟨ob, h1, h2⟩ := hraw e
        rw [h2]
        exact ⟨l, e, rfl, h1⟩
    · exact hH.apart o o' l l' _ _ hne (List.getElem?_eq_getElem (hget' h1).1) (hal _ (List.getElem_mem _)) (List.getElem?_eq_getElem (hget' h2).1) (hal _ (List.getElem_mem _)) r1 r2
  refine ((h.1 _ (by simp [hm]) (fun a ha => by obtain ⟨o,_,rfl⟩ := List.mem_map.1 ha;exact hlive _)).2 ρ w vs ha hR).mono fun e w' ⟨ρ',u,σ',x,he,⟨hu,s,hs'⟩,hv,hH',hs⟩ => ?_
  subst hu; subst hs'
  have hst : Step ρ w ρ w' := ⟨hs.os, hs.tape, hs.output, hs.size, hs.same, List.prefix_refl _, fun b hb => .inl hb⟩
  refine ⟨ρ,u,σ,x,he,⟨rfl,rfl⟩,Free.sound (fun b hb=>Rho.pre_has hs.pre hb) u h.2 hv,⟨hH.len,fun o l hl=>Nat.lt_of_lt_of_le (hH.lt o l hl) hs.size,fun o a hoa=>?_,hH.apart,hH.glob.step hst⟩,hst⟩
  refine RO.keep hst (hH.obj o a hoa) fun l hl => ?_
  obtain ⟨ob, h1, h2⟩ := hraw hl
  have ho := (List.getElem?_eq_some_iff.1 hoa).1
  have hr : ((List.range σ.length).map (liveOf ρ w) ++ s)[o]? = some (.raw l.b ob) := by
    rw [List.getElem?_append_left (by simpa using ho), hget o ho, h2]
  obtain ⟨l2, _, _, q⟩ := hH'.obj o _ hr
  rw [q, h1]
theorem callGoal_peekL {m : Nat} {σ : List AObj} {next : AV → List AObj → Prop} {k : FuncId} {args : List AV} {C : Prop} {v : AV} (h : PeekL P m k args v) (hC : C) (hm : σ.length = m) (hal : ∀ a ∈ σ,a.alive = true) (hn : next v σ) : callGoal P σ next (some (k,args,C)) :=
  callGoal_mk hC (TC_peekL h hm hal) fun _ _ ⟨a, b⟩ => by subst a; subst b; exact hn
/-! Lists of maps. -/
theorem nthO_app (a b : List AObj) {i : Nat} (h : i < a.length) : nthO (a ++ b) i = nthO a i := by
  induction a generalizing i with
  | nil => simp at h
  | cons x a ih => cases i with
    | zero => rfl
    | succ i => simpa [nthO] using ih (by simpa using h)
theorem nthO_get' {a : List AObj} {i : Nat} {x : AObj} (h : a[i]? = some x) : nthO a i = x := by
  induction a generalizing i with
  | nil => simp at h
  | cons y a ih => cases i with
    | zero => simpa [nthO] using h
    | succ i => simpa [nthO] using ih (by simpa using h)
theorem WkOL.append {π : List Nat} {σ : List AObj} : ∀ {p q : List Nat} {s t : List AObj},WkOL π σ p s → WkOL π σ q t → WkOL π σ (p ++ q) (s ++ t)
  | [], q, [], t, _, h => by simpa using h
  | _ :: p, q, _ :: s, t, h1, h2 => by
    simp only [WkOL, List.cons_append] at h1 ⊢
    exact ⟨h1.1, h1.2.1, WkOL.append h1.2.2 h2⟩
  | [], _, _ :: _, _, h, _ => by simp [WkOL] at h
  | _ :: _, _, [], _, h, _ => by simp [WkOL] at h
theorem WkOL.of_get {π : List Nat} {σ : List AObj} : ∀ {p : List Nat} {s : List AObj},p.length = s.length → (∀ (i o : Nat) (a : AObj),p[i]? = some o → s[i]? = some a → WkO π σ (nthO σ o) a ∧ (a.alive = true → (nthO σ o).alive = true)) → WkOL π σ p s
  | [], [], _, _ => trivial
  | o :: p, a :: s, hl, h => by
    simp only [WkOL]
    obtain ⟨h1, h2⟩ := h 0 o a rfl rfl
    exact ⟨h1, h2, WkOL.of_get (by simpa using hl) fun i o a e1 e2 => h (i + 1) o a e1 e2⟩
  | [], _ :: _, hl, _ => by simp at hl
  | _ :: _, [], hl, _ => by simp at hl
theorem WkVL.of_get {π : List Nat} {σ : List AObj} : ∀ {vs us : List AV},vs.length = us.length → (∀ (i : Nat) (v u : AV),vs[i]? = some v → us[i]? = some u → WkV π σ v u) → WkVL π σ vs us
  | [], [], _, _ => WkVL.nil
  | v :: vs,u :: us,hl,h => WkVL.cons (h 0 v u rfl rfl) (WkVL.of_get (by simpa using hl) fun i v u e1 e2 => h (i + 1) v u e1 e2)
  | [], _ :: _, hl, _ => by simp at hl
  | _ :: _, [], hl, _ => by simp at hl
end
end Go.Ab
