/-
  Parts joined: Ab29 Ab32 Ab34.
-/
import Derived.Test.YtdglbjjenihdlaaDoorWA5
import Derived.Test.YtdglbjjenihdlaaDoorWAb33
import Derived.RecoverIn
set_option linter.unusedSimpArgs false
set_option linter.unusedVariables false
namespace Go.Ab
section
variable {P : Program} {Γ : Tab} {n : Nat} {rd : Rd}
def noneO : AObj := .arr 0 1 0 fun _ _ => .top
def AObj.isLive : AObj → Prop := fun a => (∃ b ob, a = .raw b ob) ∨ a = noneO
theorem AObj.isLive.alive {a : AObj} (h : a.isLive) : a.alive = true := by
  rcases h with ⟨b, ob, rfl⟩ | rfl <;> rfl
theorem WkO.live {π : List Nat} {σ : List AObj} {a : AObj} (h : a.isLive) : WkO π σ a a := by
  rcases h with ⟨b, ob, rfl⟩ | rfl
  · exact WkO.raw
  · exact WkO.arr fun i j hi => by omega
def PeekL (P : Program) (m : Nat) (k : FuncId) (args : List AV) (v : AV) : Prop :=
  (∀ σ0 : List AObj,σ0.length = m → (∀ a ∈ σ0,a.isLive) → TC P k args σ0 (fun u σ' => u = v ∧ ∃ s,σ' = σ0 ++ s)) ∧ Free v
def liveOf (ρ : Rho) (w : World) (o : Nat) : AObj :=
  match ρ[o]? with
  | some (some l) => (match w.heap[l.b]? with | some ob => .raw l.b ob | none => noneO)
  | _ => noneO
theorem TC_peekL {m : Nat} {k : FuncId} {args : List AV} {v : AV} (h : PeekL P m k args v) {σ : List AObj} (hm : σ.length = m) (hal : ∀ a ∈ σ,a.alive = true) : TC P k args σ (fun u σ'=>u = v ∧ σ' = σ) := by
  refine ⟨trivial, fun ρ w vs ha hH => ?_⟩
  have hraw : ∀ {o : Nat} {l : Loc},ρ[o]? = some (some l) → ∃ ob,w.heap[l.b]? = some ob ∧ liveOf ρ w o = .raw l.b ob := fun {o l} hl => by
    have hlt := hH.lt o l hl
    exact ⟨_, Array.getElem?_eq_getElem hlt, by unfold liveOf; rw [hl]; simp only [Array.getElem?_eq_getElem hlt]⟩
  have hlive : ∀ o, (liveOf ρ w o).isLive := fun o => by
    unfold liveOf; split
    · split
      · exact .inl ⟨_, _, rfl⟩
      · exact .inr rfl
    · exact .inr rfl
  have hget : ∀ o,o < σ.length → ((List.range σ.length).map (liveOf ρ w))[o]? = some (liveOf ρ w o) := fun o ho => by simp [ho]
  have hget' : ∀ {o a},((List.range σ.length).map (liveOf ρ w))[o]? = some a → o < σ.length ∧ a = liveOf ρ w o := fun {o a} he => by
    have hlt := (List.getElem?_eq_some_iff.1 he).1
    simp only [List.length_map, List.length_range] at hlt
    refine ⟨hlt, ?_⟩
    rw [hget o hlt] at he
    simpa using he.symm
  have hal' : ∀ {o : Nat} {a : AObj}, σ[o]? = some a → a.alive = true := fun ho => hal _ (List.mem_of_getElem? ho)
  have hR : RH ρ w ((List.range σ.length).map (liveOf ρ w)) := by
    refine ⟨by simp [hH.len], hH.lt, fun o a hoa => ?_, fun o o' l l' a a' hne h1 k1 h2 k2 r1 r2 => ?_, hH.glob⟩
    · obtain ⟨hlt, rfl⟩ := hget' hoa
      have hρ : o < ρ.length := by rw [hH.len]; exact hlt
      cases hq : ρ[o] with
      | none =>
        have e : ρ[o]? = some none := by rw [List.getElem?_eq_getElem hρ, hq]
        unfold liveOf; rw [e]
        exact .inr ⟨e, rfl⟩
      | some l =>
        have e : ρ[o]? = some (some l) := by rw [List.getElem?_eq_getElem hρ, hq]
        obtain ⟨ob, h1, h2⟩ := hraw e
        rw [h2]
        exact ⟨l, e, rfl, h1⟩
    · exact hH.apart o o' l l' _ _ hne (List.getElem?_eq_getElem (hget' h1).1) (hal _ (List.getElem_mem _)) (List.getElem?_eq_getElem (hget' h2).1) (hal _ (List.getElem_mem _)) r1 r2
  refine ((h.1 _ (by simp [hm]) (fun a ha => by obtain ⟨o,_,rfl⟩ := List.mem_map.1 ha;exact hlive _)).2 ρ w vs ha hR).mono fun e w' ⟨ρ',u,σ',x,he,⟨hu,s,hs'⟩,hv,hH',hs⟩ => ?_
  subst hu; subst hs'
  have hst : Step ρ w ρ w' := ⟨hs.os, hs.tape, hs.output, hs.size, hs.same, List.prefix_refl _, fun b hb => .inl hb⟩
  refine ⟨ρ,u,σ,x,he,⟨rfl,rfl⟩,Free.sound (fun b hb=>Rho.pre_has hs.pre hb) u h.2 hv,⟨hH.len,fun o l hl=>Nat.lt_of_lt_of_le (hH.lt o l hl) hs.size,fun o a hoa=>?_,hH.apart,hH.glob.step hst⟩,hst⟩
  refine RO.keep hst (hH.obj o a hoa) fun l hl => ?_
  obtain ⟨ob, h1, h2⟩ := hraw hl
  have ho := (List.getElem?_eq_some_iff.1 hoa).1
  have hr : ((List.range σ.length).map (liveOf ρ w) ++ s)[o]? = some (.raw l.b ob) := by
    rw [List.getElem?_append_left (by simpa using ho), hget o ho, h2]
  obtain ⟨l2, _, _, q⟩ := hH'.obj o _ hr
  rw [q, h1]
theorem callGoal_peekL {m : Nat} {σ : List AObj} {next : AV → List AObj → Prop} {k : FuncId} {args : List AV} {C : Prop} {v : AV} (h : PeekL P m k args v) (hC : C) (hm : σ.length = m) (hal : ∀ a ∈ σ,a.alive = true) (hn : next v σ) : callGoal P σ next (some (k,args,C)) :=
  callGoal_mk hC (TC_peekL h hm hal) fun _ _ ⟨a, b⟩ => by subst a; subst b; exact hn
/-! Lists of maps. -/
theorem WkOL.append {π : List Nat} {σ : List AObj} : ∀ {p q : List Nat} {s t : List AObj},WkOL π σ p s → WkOL π σ q t → WkOL π σ (p ++ q) (s ++ t)
  | [], q, [], t, _, h => by simpa using h
  | _ :: p, q, _ :: s, t, h1, h2 => by
    simp only [WkOL, List.cons_append] at h1 ⊢
    exact ⟨h1.1, h1.2.1, WkOL.append h1.2.2 h2⟩
  | [], _, _ :: _, _, h, _ => by simp [WkOL] at h
  | _ :: _, _, [], _, h, _ => by simp [WkOL] at h
theorem WkOL.of_get {π : List Nat} {σ : List AObj} : ∀ {p : List Nat} {s : List AObj},p.length = s.length → (∀ (i o : Nat) (a : AObj),p[i]? = some o → s[i]? = some a → WkO π σ (nthO σ o) a ∧ (a.alive = true → (nthO σ o).alive = true)) → WkOL π σ p s
  | [], [], _, _ => trivial
  | o :: p, a :: s, hl, h => by
    simp only [WkOL]
    obtain ⟨h1, h2⟩ := h 0 o a rfl rfl
    exact ⟨h1, h2, WkOL.of_get (by simpa using hl) fun i o a e1 e2 => h (i + 1) o a e1 e2⟩
  | [], _ :: _, hl, _ => by simp at hl
  | _ :: _, [], hl, _ => by simp at hl
theorem WkVL.of_get {π : List Nat} {σ : List AObj} : ∀ {vs us : List AV},vs.length = us.length → (∀ (i : Nat) (v u : AV),vs[i]? = some v → us[i]? = some u → WkV π σ v u) → WkVL π σ vs us
  | [], [], _, _ => WkVL.nil
  | v :: vs,u :: us,hl,h => WkVL.cons (h 0 v u rfl rfl) (WkVL.of_get (by simpa using hl) fun i v u e1 e2 => h (i + 1) v u e1 e2)
  | [], _ :: _, hl, _ => by simp at hl
  | _ :: _, [], hl, _ => by simp at hl
end
end Go.Ab
namespace Go.Ab
section
variable {P : Program} {Γ : Tab} {n : Nat} {rd : Rd}
def Fz (σ1 : List AObj) (v v2 : AV) : Prop := ∀ ρ ρ1 w x,RH ρ1 w σ1 → (∀ b,ρ1.has b → ¬ Rho.has ρ b) → Rv ρ1 w v x → Rv ρ w v2 x
def FzL (σ1 : List AObj) (vs vs2 : List AV) : Prop := ∀ ρ ρ1 w xs,RH ρ1 w σ1 → (∀ b,ρ1.has b → ¬ Rho.has ρ b) → RvL ρ1 w vs xs → RvL ρ w vs2 xs
theorem Fz.pl {σ1 : List AObj} {v : AV} (h : Pl v) : Fz σ1 v v := fun _ _ _ _ _ _ hx => Pl.any v h hx
theorem Fz.imm {σ1 : List AObj} {v v2 : Value} (h : v = v2) : Fz σ1 (.imm v) (.imm v2) := h ▸ Fz.pl trivial
theorem FzL.nil {σ1 : List AObj} : FzL σ1 [] [] := fun _ _ _ xs _ _ h => by cases xs <;> simp [RvL] at h ⊢
theorem FzL.cons {σ1 : List AObj} {v v2 : AV} {vs vs2 : List AV} (h : Fz σ1 v v2) (hs : FzL σ1 vs vs2) : FzL σ1 (v :: vs) (v2 :: vs2) := fun ρ ρ1 w xs hH hb hx => by
  cases xs with
  | nil => simp [RvL] at hx
  | cons x xs => simp only [RvL] at hx ⊢; exact ⟨h _ _ _ _ hH hb hx.1, hs _ _ _ _ hH hb hx.2⟩
theorem Fz.tup {σ1 : List AObj} {vs vs2 : List AV} (h : FzL σ1 vs vs2) : Fz σ1 (.tup vs) (.tup vs2) := fun ρ ρ1 w x hH hb hx => by
  simp only [Rv] at hx ⊢
  obtain ⟨cs, rfl, h1⟩ := hx
  exact ⟨cs, rfl, h _ _ _ _ hH hb h1⟩
theorem Fz.agg {σ1 : List AObj} {vs vs2 : List AV} (h : FzL σ1 vs vs2) : Fz σ1 (.agg vs) (.agg vs2) := fun ρ ρ1 w x hH hb hx => by
  simp only [Rv] at hx ⊢
  obtain ⟨cs, rfl, h1⟩ := hx
  exact ⟨cs, rfl, h _ _ _ _ hH hb h1⟩
theorem Fz.nil {σ1 : List AObj} {esz : Nat} {e : Nat → Nat → AV} : Fz σ1 (.imm (.slice none 0 0)) (.view 0 esz e) := fun ρ ρ1 w x hH hb hx => by
  simp only [Rv] at hx ⊢
  exact ⟨_, _, hx, Nat.le_refl _, fun h => by omega⟩
theorem Fz.own {σ1 : List AObj} {o s k n esz : Nat} {ety : TypeId} {c : Option Nat} {e e2 : Nat → Nat → AV} (hob : nthO σ1 o = .arr ety esz n e) (hn : s + k ≤ n)
    (he : ∀ i j,i < k → j < esz → Fz σ1 (e (s + i) j) (e2 i j)) : Fz σ1 (.own o s k c) (.view k esz e2) := fun ρ ρ1 w x hH hb hx => by
  simp only [Rv] at hx ⊢
  rcases hx with ⟨l, cap, hl, rfl, h1, h2, h3⟩ | ⟨rfl, ⟨a, rfl⟩, h3⟩
  · refine ⟨_, cap, rfl, h1, fun hp => ⟨_, rfl, hH.lt o l hl, hb _ ⟨o, l, hl, rfl⟩, fun i hi j hj => ?_⟩⟩
    rcases hH.obj o _ (nthO_eq hob rfl) with ⟨l2, cs, hl2, q1, q2, _, q4, q5⟩ | ⟨hn', _⟩
    · rw [hl] at hl2
      simp only [Option.some.injEq] at hl2
      subst hl2
      obtain ⟨y, hy, hy1, hv⟩ := q5 (s + i) (by omega) j hj
      refine ⟨y, ?_, hy1, he i j hi hj _ _ _ _ hH hb hv⟩
      rw [cell_plain q2, ← hy, Nat.add_mul, q1]
      congr 1
      omega
    · rw [hl] at hn'; simp at hn'
  · exact ⟨_, _, rfl, Nat.le_refl _, fun hp => by omega⟩
def Fresh (P : Program) (k : FuncId) (args : List AV) (v : AV) : Prop := TC P k args [] (fun u σ1 => Fz σ1 u v)
theorem TC_fresh {f : FuncId} {args args0 : List AV} {σ : List AObj} {v2 : AV} (h : Fresh P f args0 v2) (hc : CvL σ args args0) : TC P f args σ (fun u σ' => u = v2 ∧ σ' = σ) :=
  ⟨h.1,fun ρ w vs ha hH => (h.2 [] w vs (hc _ _ _ hH ha) (RH.nil w hH.glob_nil)).mono fun e w' ⟨ρ',v,σ',x,he,hq,hv,hH',hs⟩ => by
    have hst : Step ρ w ρ w' := ⟨hs.os,hs.tape,hs.output,hs.size,fun b hb _ => hs.same b hb not_has_nil,List.prefix_refl _,fun b hb => .inl hb⟩
    refine ⟨ρ, v2, σ, x, he, ⟨rfl, rfl⟩, hq ρ ρ' w' x hH' (fun b hb hb2 => ?_) hv,
      ⟨hH.len,fun o l hl => Nat.lt_of_lt_of_le (hH.lt o l hl) hs.size,fun o a ha => RO.keep hst (hH.obj o a ha) fun l hl => hs.same _ (hH.lt o l hl) not_has_nil,hH.apart,hH.glob.step hst⟩,hst⟩
    rcases hs.own b hb with h0 | h0
    · exact not_has_nil h0
    · obtain ⟨o, l, hl, rfl⟩ := hb2
      have := hH.lt o l hl
      omega⟩
section
variable {σ : List AObj} {next N : AV → List AObj → Prop} {k : FuncId} {args args0 : List AV} {C : Prop} {v : AV} {g : Bool}
theorem callGoal_freshA (h : Fresh P k args0 v) (hC : C) (hc : CvL σ args args0) (hn : next v σ) : callGoal P σ next (some (k,args,C)) :=
  callGoal_mk hC (TC_fresh h hc) fun _ _ ⟨a, b⟩ => by subst a; subst b; exact hn
theorem dCall_freshA (h : Fresh P k args0 v) (hC : C) (hc : CvL σ args args0) (hn : N v σ) : dCall P σ N (some (k,args,C)) (some none) := ⟨v,σ,callGoal_freshA h hC hc ⟨rfl,rfl⟩,hn⟩
theorem gC_freshA (h : g = true → Fresh P k args0 v) (hC : g = true → C) (hc : g = true → CvL σ args args0) (hn : N (.gd g v) σ) : gC P σ N g (some (k,args,C)) :=
  .inl ⟨v, fun hg => callGoal_freshA (h hg) (hC hg) (hc hg) ⟨rfl, rfl⟩, hn⟩
theorem dCall_peekL {m : Nat} (h : PeekL P m k args v) (hC : C) (hm : σ.length = m) (hal : ∀ a ∈ σ,a.alive = true) (hn : N v σ) : dCall P σ N (some (k,args,C)) (some none) := ⟨v,σ,callGoal_peekL h hC hm hal ⟨rfl,rfl⟩,hn⟩
end
theorem Look.fresh {k : FuncId} {args : List AV} {v : AV} (h : Look P k args v) : Fresh P k args v :=
  h.1.mono fun _ _ hu => by subst hu; exact Fz.pl h.2
theorem Makes.fresh {k : FuncId} {args : List AV} {v v2 : AV} {σ1 : List AObj} (h : Makes P k args v σ1) (hz : Fz σ1 v v2) : Fresh P k args v2 :=
  h.1.mono fun _ _ ⟨hu, hs⟩ => by subst hu; subst hs; exact hz
end
end Go.Ab
namespace Go.Ab
theorem WkV.freezeG {π : List Nat} {σ : List AObj} {o s k n esz : Nat} {ety : TypeId} {c : Option Nat} {e e2 : Nat → Nat → AV} (hob : nthO σ o = .arr ety esz n e) (hn : s + k ≤ n) (ho : ∀ q ∈ π,q ≠ o ∧ ((nthO σ q).alive = true ∨ ∃ vs xs lo hi ds,nthO σ q = .ghost vs xs lo hi ds))
    (he : ∀ i j,i < k → j < esz → WkV π σ (e (s + i) j) (e2 i j)) : WkV π σ (.own o s k c) (.view k esz e2) := fun ρ w x hH hx => by
  simp only [Rv] at hx ⊢
  rcases hx with ⟨l, cap, hl, rfl, h1, h2, h3⟩ | ⟨rfl, ⟨a, rfl⟩, h3⟩
  · refine ⟨_, cap, rfl, h1, fun hp => ⟨_, rfl, hH.lt o l hl, fun hb => ?_, fun i hi j hj => ?_⟩⟩
    · obtain ⟨o', l', hl', hb'⟩ := hb
      obtain ⟨q, hq, hlq⟩ := pull_inv hl'
      obtain ⟨g1, g2⟩ := ho q (List.mem_of_getElem? hq)
      rcases g2 with g2 | ⟨vs, xs, lo, hi, ds, g2⟩
      · exact hH.apart q o l' l _ _ g1 (nthO_eq rfl g2) g2 (nthO_eq hob rfl) rfl hlq hl hb'
      · have := (hH.obj q _ (nthO_get g2 (by simp))).2.2
        rw [hlq] at this; cases this
    · rcases hH.obj o _ (nthO_eq hob rfl) with ⟨l2, cs, hl2, q1, q2, _, q4, q5⟩ | ⟨hn', _⟩
      · rw [hl] at hl2
        simp only [Option.some.injEq] at hl2
        subst hl2
        obtain ⟨y, hy, hy1, hv⟩ := q5 (s + i) (by omega) j hj
        refine ⟨y, ?_, hy1, he i j hi hj _ _ _ hH hv⟩
        rw [cell_plain q2, ← hy, Nat.add_mul, q1]
        congr 1
        omega
      · rw [hl] at hn'; simp at hn'
  · exact ⟨_, _, rfl, Nat.le_refl _, fun hp => by omega⟩
section
variable {P : Program} {Γ : Tab} {n : Nat}
def Harmless (P : Program) (f : FuncId) (k : Nat) : Prop := ∀ (caps : Array Value) (w : World),caps.size = k → ∃ args,(invoke (.fn (.func f) caps) #[]).run P w = .ok (.enter f args) w ∧
  CallsDIn Fence.wide 0 P f args .returning w fun e u' w' => (∃ v, e = .returned v) ∧ u' = .returning ∧ w' = w
theorem callsDIn_mono {F : Fence} {k : Nat} {f : FuncId} {args : Array Value} {u : FrameMode} {w : World} {R R' : Ending → FrameMode → World → Prop} (h : CallsDIn F k P f args u w R) (hR : ∀ e u' w',R e u' w' → R' e u' w') : CallsDIn F k P f args u w R' :=
  ⟨h.1, fun c cs hm hr => let ⟨e, u', w', fr, q, r⟩ := h.2 c cs hm hr; ⟨e, u', w', fr, hR _ _ _ q, r⟩⟩
theorem leaves_harmless {f : FuncId} {k : Nat} (hf : Harmless P f k) {fn : Func} {tmps : Array Value} {R : Ending → World → Prop} : ∀ {ds : List Deferred} {w : World},(∀ d ∈ ds,∃ caps : Array Value,caps.size = k ∧ d = { target := .fn (.func f) caps,args := #[] }) →
    (∃ v, (results fn tmps).run P w = .ok v w ∧ R (.returned v) w) → LeavesIn Fence.wide 0 P fn tmps R ds .returning w
  | [], _, _, h => h
  | d :: ds, w, hd, h => by
    obtain ⟨caps, hk, rfl⟩ := hd d (by simp)
    obtain ⟨args, h1, h2⟩ := hf caps w hk
    refine ⟨by simp,by simp [Fence.wide],_,_,f,args,rfl,h1,fun _ _ => trivial,callsDIn_mono h2 fun e u' w' ⟨⟨v,he⟩,hu,hw⟩ => ?_⟩
    subst he; subst hu; subst hw
    exact leaves_harmless hf (fun d' hd' => hd d' (by simp [hd'])) h
theorem TC_of_TD (hΓ : TabOk P Γ) {f d : FuncId} {k : Nat} {fn : Func} {c : Code} {args : List AV} {σ : List AObj} {Q : AV → List AObj → Prop} (hf : P.funcs[f]? = some fn) (hb : fn.body = some c) (hok : fnOk P f = true) (hd : Harmless P d k)
    (h : T P σ.length (rd := .df d k) c (retQM Γ fn.results.toList Q) ⟨args ++ List.replicate (fn.ntmps - args.length) .top,σ⟩) : TC P f args σ Q := by
  refine ⟨trivial, fun ρ w vs ha hH => .inl ⟨run_call hok w _, ?_⟩⟩
  refine (callsIn_wide (n := 0)).1 (callsIn_of_wp_defers hf hb trivial ?_)
  have hR : Rel (.df d k) ρ w ⟨args ++ List.replicate (fn.ntmps - args.length) .top,σ⟩ { tmps := vs.toArray ++ Array.replicate (fn.ntmps - vs.toArray.size) undef,defers := [] } w := by
    refine ⟨ρ, Step.refl _ _, fun _ hd => by simp at hd, ?_, hH⟩
    simp only [Array.toList_append, List.size_toArray, Array.toList_replicate]
    refine RvL.append ha ?_
    rw [ha.length]
    have := RvL.tops (ρ := ρ) (w := w) (List.replicate (fn.ntmps - vs.length) undef)
    simpa using this
  refine wpIn_mono (h ρ w _ w hH.len hR) fun e a w1 hq => ?_
  obtain ⟨st, hk, ρ', hst, hdf, henv, hH'⟩ := hq
  have fin : retGoalM st.σ Q (eRes Γ st fn.results.toList) → LeavesIn Fence.wide 0 P fn a.tmps (fun e w'=>∃ (ρ' : Rho) (v : AV) (σ' : List AObj) (x : Value),e = .returned x ∧ Q v σ' ∧ Rv ρ' w' v x ∧ RH ρ' w' σ' ∧ Step ρ w ρ' w') a.defers .returning w1 := by
    intro hk
    cases he : eRes Γ st fn.results.toList with
    | none => rw [he] at hk; exact hk.elim
    | some q =>
      obtain ⟨us', C⟩ := q
      rw [he] at hk
      obtain ⟨hc, hng, hq⟩ := hk
      refine leaves_harmless hd hdf ?_
      obtain ⟨xs, h1, h2⟩ := eRes_sound hΓ henv hH' he hc
      have hm : ∀ g : ResultVar → Sem Value,(∀ t,g (.tmp t) = pure (a.tmps.getD t undef)) → (∀ p t,g (.cell p t) = do loadVar t (← asAddr (a.tmps.getD p undef))) → (fn.results.mapM g).run P w1 = .ok xs.toArray w1 := by
        intro g g1 g2
        rw [Array.mapM_eq_mapM_toList, Sem.run_map, h1 g g1 g2]
        rfl
      refine ⟨(if h : xs.toArray.size = 1 then xs.toArray[0] else .tuple xs.toArray),?_,ρ',mkRes us',st.σ,_,rfl,hq,?_,hH',hst⟩
      · unfold results
        rw [Sem.run_bind, hm _ (fun _ => rfl) (fun _ _ => rfl)]
        rfl
      · match us', xs, h2 with
        | [], [], _ => simp only [mkRes, Rv]; exact ⟨[], by simp, by simp [RvL]⟩
        | [u], [x], h2 => simp only [RvL] at h2; simpa [mkRes] using h2.1
        | u1 :: u2 :: us', x1 :: x2 :: xs, h2 =>
          simp only [mkRes, Rv]
          exact ⟨x1 :: x2 :: xs, by simp, h2⟩
        | [], _ :: _, h2 => simp [RvL] at h2
        | _ :: _, [], h2 => simp [RvL] at h2
        | [_], _ :: _ :: _, h2 => simp [RvL] at h2
        | _ :: _ :: _, [_], h2 => simp [RvL] at h2
  cases e <;> first | exact fin hk | exact hk.elim
theorem TO_defer {ops rest : List Oper} {K : St → Prop} {o : Oper} {c : Call} {x : Operand} {env : List AV} {σ : List AObj} {g : FuncId} {caps : List AV} (hc : o.op = .defer c) (hx : c.callee = .value x) (ha : c.args = #[])
    (hv : us (opd env x) = .fn (.func g) [] caps) (hu : ug true (opd env x)) (hg : guardOf ops env o.guard = some none) {k : Nat} (hk : caps.length = k)
    (h : TO P n (rd := .df g k) ops rest K ⟨setE env o.dst (.imm undef),σ⟩) : TO P n (rd := .df g k) ops (o :: rest) K ⟨env,σ⟩ := by
  subst hk
  intro ρ0 W0 a w Q hn hR hQ
  obtain ⟨ρ, hst, hdf, henv, hH⟩ := hR
  refine wpListIn_stepR fun K' hK => ?_
  rw [if_pos (by rw [guardOf_sound henv hg]; rfl)]
  have hfv := us_sound rfl hu (opd_sound hH.glob henv x)
  rw [hv] at hfv
  simp only [Rv] at hfv
  obtain ⟨fs, cs, hfe, h1, h2⟩ := hfv
  have hfs : fs = [] := by cases fs <;> simp [RvL] at h1 ⊢
  subst hfs
  refine ⟨fun f _ => trivial, ?_⟩
  have hrun : (o.semAt (Rd.df g caps.length).fence.round a.eval).run P w = .ok (.defer { target := .fn (.func g) cs.toArray,args := #[] }) w := by
    show (o.semAt none a.eval).run P w = _
    have : o.semAt none a.eval = execOp a.eval o := by
      unfold Oper.semAt
      rfl
    rw [this]
    unfold execOp
    rw [hc]
    simp only [resolve, hx, ha, Sem.run_bind, hfe, Deferred.ofValue, Sem.run_pure, Result.andThen_ok]
    simp
  rw [hrun, Oper.uponIn_defer]
  refine hK _ _ (h ρ0 W0 _ w Q hn ⟨ρ,hst,?_,put_sound (a := { a with defers := { target := .fn (.func g) cs.toArray,args := #[] } :: a.defers }) henv (by simp [Rv]) _,hH⟩ hQ)
  have hd : ∀ d ∈ ({ target := .fn (.func g) cs.toArray,args := #[] } : Deferred) :: a.defers,∃ k : Array Value,k.size = caps.length ∧ d = { target := .fn (.func g) k,args := #[] } := by
    intro d hd
    rcases List.mem_cons.1 hd with rfl | hd
    · exact ⟨_, by rw [h2.length]; simp, rfl⟩
    · exact hdf d hd
  cases o.dst <;> exact hd
end
end Go.Ab
