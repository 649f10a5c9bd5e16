/-
  Contracts of functions that answer slices (of slices ..) of their own making, which the caller only reads.
-/
import Derived.Test.YtmglcamgpgkblaaQAb29
import Derived.Test.YtmglcamgpgkblaaQA5
set_option linter.unusedSimpArgs false
set_option linter.unusedVariables false
namespace Go.Ab
section
variable {P : Program} {Γ : Tab} {n : Nat} {rd : Rd}
def Fz (σ1 : List AObj) (v v2 : AV) : Prop := ∀ ρ ρ1 w x,RH ρ1 w σ1 → (∀ b,ρ1.has b → ¬ Rho.has ρ b) → Rv ρ1 w v x → Rv ρ w v2 x
def FzL (σ1 : List AObj) (vs vs2 : List AV) : Prop := ∀ ρ ρ1 w xs,RH ρ1 w σ1 → (∀ b,ρ1.has b → ¬ Rho.has ρ b) → RvL ρ1 w vs xs → RvL ρ w vs2 xs
theorem Fz.pl {σ1 : List AObj} {v : AV} (h : Pl v) : Fz σ1 v v := fun _ _ _ _ _ _ hx => Pl.any v h hx
theorem Fz.imm {σ1 : List AObj} {v v2 : Value} (h : v = v2) : Fz σ1 (.imm v) (.imm v2) := h ▸ Fz.pl trivial
theorem FzL.nil {σ1 : List AObj} : FzL σ1 [] [] := fun _ _ _ xs _ _ h => by cases xs <;> simp [RvL] at h ⊢
theorem FzL.cons {σ1 : List AObj} {v v2 : AV} {vs vs2 : List AV} (h : Fz σ1 v v2) (hs : FzL σ1 vs vs2) : FzL σ1 (v :: vs) (v2 :: vs2) := fun ρ ρ1 w xs hH hb hx => by
  cases xs with
  | nil => simp [RvL] at hx
  | cons x xs => simp only [RvL] at hx ⊢; exact ⟨h _ _ _ _ hH hb hx.1, hs _ _ _ _ hH hb hx.2⟩
theorem Fz.tup {σ1 : List AObj} {vs vs2 : List AV} (h : FzL σ1 vs vs2) : Fz σ1 (.tup vs) (.tup vs2) := fun ρ ρ1 w x hH hb hx => by
  simp only [Rv] at hx ⊢
  obtain ⟨cs, rfl, h1⟩ := hx
  exact ⟨cs, rfl, h _ _ _ _ hH hb h1⟩
theorem Fz.agg {σ1 : List AObj} {vs vs2 : List AV} (h : FzL σ1 vs vs2) : Fz σ1 (.agg vs) (.agg vs2) := fun ρ ρ1 w x hH hb hx => by
  simp only [Rv] at hx ⊢
  obtain ⟨cs, rfl, h1⟩ := hx
  exact ⟨cs, rfl, h _ _ _ _ hH hb h1⟩
theorem Fz.nil {σ1 : List AObj} {esz : Nat} {e : Nat → Nat → AV} : Fz σ1 (.imm (.slice none 0 0)) (.view 0 esz e) := fun ρ ρ1 w x hH hb hx => by
  simp only [Rv] at hx ⊢
  exact ⟨_, _, hx, Nat.le_refl _, fun h => by omega⟩
theorem Fz.own {σ1 : List AObj} {o s k n esz : Nat} {ety : TypeId} {c : Option Nat} {e e2 : Nat → Nat → AV} (hob : nthO σ1 o = .arr ety esz n e) (hn : s + k ≤ n)
    (he : ∀ i j,i < k → j < esz → Fz σ1 (e (s + i) j) (e2 i j)) : Fz σ1 (.own o s k c) (.view k esz e2) := fun ρ ρ1 w x hH hb hx => by
  simp only [Rv] at hx ⊢
  rcases hx with ⟨l, cap, hl, rfl, h1, h2, h3⟩ | ⟨rfl, ⟨a, rfl⟩, h3⟩
  · refine ⟨_, cap, rfl, h1, fun hp => ⟨_, rfl, hH.lt o l hl, hb _ ⟨o, l, hl, rfl⟩, fun i hi j hj => ?_⟩⟩
    rcases hH.obj o _ (nthO_eq hob rfl) with ⟨l2, cs, hl2, q1, q2, _, q4, q5⟩ | ⟨hn', _⟩
    · rw [hl] at hl2
      simp only [Option.some.injEq] at hl2
      subst hl2
      obtain ⟨y, hy, hy1, hv⟩ := q5 (s + i) (by omega) j hj
      refine ⟨y, ?_, hy1, he i j hi hj _ _ _ _ hH hb hv⟩
      rw [cell_plain q2, ← hy, Nat.add_mul, q1]
      congr 1
      omega
    · rw [hl] at hn'; simp at hn'
  · exact ⟨_, _, rfl, Nat.le_refl _, fun hp => by omega⟩
def Fresh (P : Program) (k : FuncId) (args : List AV) (v : AV) : Prop := TC P k args [] (fun u σ1 => Fz σ1 u v)
theorem TC_fresh {f : FuncId} {args args0 : List AV} {σ : List AObj} {v2 : AV} (h : Fresh P f args0 v2) (hc : CvL σ args args0) : TC P f args σ (fun u σ' => u = v2 ∧ σ' = σ) :=
  ⟨h.1,fun ρ w vs ha hH => (h.2 [] w vs (hc _ _ _ hH ha) (RH.nil w hH.glob_nil)).mono fun e w' ⟨ρ',v,σ',x,he,hq,hv,hH',hs⟩ => by
    have hst : Step ρ w ρ w' := ⟨hs.os,hs.tape,hs.output,hs.size,fun b hb _ => hs.same b hb not_has_nil,List.prefix_refl _,fun b hb => .inl hb⟩
    refine ⟨ρ, v2, σ, x, he, ⟨rfl, rfl⟩, hq ρ ρ' w' x hH' (fun b hb hb2 => ?_) hv,
      ⟨hH.len,fun o l hl => Nat.lt_of_lt_of_le (hH.lt o l hl) hs.size,fun o a ha => RO.keep hst (hH.obj o a ha) fun l hl => hs.same _ (hH.lt o l hl) not_has_nil,hH.apart,hH.glob.step hst⟩,hst⟩
    rcases hs.own b hb with h0 | h0
    · exact not_has_nil h0
    · obtain ⟨o, l, hl, rfl⟩ := hb2
      have := hH.lt o l hl
      omega⟩
section
variable {σ : List AObj} {next N : AV → List AObj → Prop} {k : FuncId} {args args0 : List AV} {C : Prop} {v : AV} {g : Bool}
theorem callGoal_freshA (h : Fresh P k args0 v) (hC : C) (hc : CvL σ args args0) (hn : next v σ) : callGoal P σ next (some (k,args,C)) :=
  callGoal_mk hC (TC_fresh h hc) fun _ _ ⟨a, b⟩ => by subst a; subst b; exact hn
theorem dCall_freshA (h : Fresh P k args0 v) (hC : C) (hc : CvL σ args args0) (hn : N v σ) : dCall P σ N (some (k,args,C)) (some none) := ⟨v,σ,callGoal_freshA h hC hc ⟨rfl,rfl⟩,hn⟩
theorem gC_freshA (h : g = true → Fresh P k args0 v) (hC : g = true → C) (hc : g = true → CvL σ args args0) (hn : N (.gd g v) σ) : gC P σ N g (some (k,args,C)) :=
  .inl ⟨v, fun hg => callGoal_freshA (h hg) (hC hg) (hc hg) ⟨rfl, rfl⟩, hn⟩
theorem dCall_peekL {m : Nat} (h : PeekL P m k args v) (hC : C) (hm : σ.length = m) (hal : ∀ a ∈ σ,a.alive = true) (hn : N v σ) : dCall P σ N (some (k,args,C)) (some none) := ⟨v,σ,callGoal_peekL h hC hm hal ⟨rfl,rfl⟩,hn⟩
end
theorem Look.fresh {k : FuncId} {args : List AV} {v : AV} (h : Look P k args v) : Fresh P k args v :=
  h.1.mono fun _ _ hu => by subst hu; exact Fz.pl h.2
theorem Makes.fresh {k : FuncId} {args : List AV} {v v2 : AV} {σ1 : List AObj} (h : Makes P k args v σ1) (hz : Fz σ1 v v2) : Fresh P k args v2 :=
  h.1.mono fun _ _ ⟨hu, hs⟩ => by subst hu; subst hs; exact hz
end
end Go.Ab
