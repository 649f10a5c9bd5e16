/-
  Parts joined: Ab17 Ab18 Ab19 Ab20 Ab21 Ab22 Ab23 Ab24 Ab25 Ab26 Ab27 Ab28.
-/
import Derived.Test.YtonmienclploaaaGreatDoorQA4
import Derived.Lib.Overlaps
import Derived.Handed
import Derived.ChangeSame
import Derived.Carry
import Derived.WideKeyArgs
import Derived.WideShapes
import Derived.Deep.Slices
import Derived.OpenShut
import Derived.RowKit
import Derived.RangeFuncNested
import Derived.SizedLaws
import Derived.Deep.DeepHandedRow
import Derived.Lib.LaidTab
set_option linter.unusedSimpArgs false
set_option linter.unusedVariables false
namespace Go.Ab
theorem wrapI {x : Int} (h1 : -9223372036854775808 ≤ x) (h2 : x ≤ 9223372036854775807) : IntKind.i64.wrap x = x := by
  unfold IntKind.wrap
  simp only [IntKind.bits, IntKind.signed]
  simp
  omega
theorem wrapU {x : Int} (h1 : 0 ≤ x) (h2 : x ≤ 18446744073709551615) : IntKind.u64.wrap x = x := by
  unfold IntKind.wrap
  simp only [IntKind.bits, IntKind.signed]
  simp
  omega
theorem half_sum (a b : Nat) : ((a : Int) + b).fdiv (2 ^ min 1 64) = (((a + b) / 2 : Nat) : Int) := by
  have : min 1 64 = 1 := by decide
  rw [this, Int.fdiv_eq_ediv_of_nonneg _ (by omega)]
  omega
theorem FreeL_nth : ∀ {vs : List AV}, FreeL vs → ∀ j, Free (nth vs j)
  | [], _, j => by simp [nth, Free]
  | v :: vs, h, 0 => by simp only [FreeL] at h; simpa [nth] using h.1
  | v :: vs, h, j + 1 => by simp only [FreeL] at h; simpa [nth] using FreeL_nth h.2 j
@[simp] theorem Free_nth_iff {vs : List AV} : (∀ j, Free (nth vs j)) ↔ FreeL vs := by
  constructor
  · intro h
    induction vs with
    | nil => simp [FreeL]
    | cons v vs ih =>
      simp only [FreeL]
      exact ⟨by simpa [nth] using h 0, ih fun j => by simpa [nth] using h (j + 1)⟩
  · exact fun h => FreeL_nth h
theorem toNat_sub1 (i : Nat) : ((i : Int) - 1).toNat = i - 1 := by omega
theorem toNat_add1 (i : Nat) : ((i : Int) + 1).toNat = i + 1 := by omega
theorem Cv.ptr {σ : List AObj} {o n : Nat} {ety : TypeId} {cells cells2 : List AV} (h : nthO σ o = .box ety cells) (hn : cells.length = n) (hc : CvL σ cells cells2) : Cv σ (.optr o 0 0) (.rptr n (nth cells2)) := fun ρ w x hH hx=>by
  simp only [Rv] at hx ⊢
  obtain ⟨l, hl, rfl⟩ := hx
  have hso := nthO_eq h (a := .box ety cells) rfl
  obtain ⟨l', c, hl', h0, h1, h2, hh, h3, hr⟩ := hH.obj o _ hso
  rw [hl] at hl'
  simp only [Option.some.injEq] at hl'
  subst hl'
  have hr2 := hc _ _ _ hH hr
  refine ⟨_, rfl, hH.lt o l hl, not_has_nil, fun j hj => ?_⟩
  have hlen := hr2.length
  have hlen0 := hr.length
  obtain ⟨y, hy, hv⟩ := RvL.get hr2 (nth_eq (l := cells2) (i := j) (by omega))
  refine ⟨y, ?_, h3 y (List.mem_of_getElem? hy), hv⟩
  rw [add_lit]
  simp only [World.cell?, hh, h0]
  simpa using hy
attribute [go_sem] toNat_sub1 toNat_add1 Int.cast_ofNat_Int Option.isNone_none Option.isNone_some Bool.and_self Bool.or_self
end Go.Ab
namespace Go.Ab
section
variable {P : Program} {Γ : Tab}
theorem TC.weak {f : FuncId} {args : List AV} {σ : List AObj} {Q Q2 : AV → List AObj → Prop} (h : TC P f args σ Q)
    (hq : ∀ v σ',Q v σ' → ∃ (π : List Nat) (v2 : AV) (σ2 : List AObj),π.take σ.length = List.range σ.length ∧ π.Nodup ∧ (∀ o ∈ π,o < σ'.length) ∧ WkV π σ' v v2 ∧ WkOL π σ' π σ2 ∧ Q2 v2 σ2) : TC P f args σ Q2 :=
  ⟨h.1, fun ρ w vs ha hH => (h.2 ρ w vs ha hH).mono fun e w' ⟨ρ', v, σ', x, he, hv, hr, hH', hs⟩ => by
    obtain ⟨π, v2, σ2, h1, h2, h3, h4, h5, h6⟩ := hq v σ' hv
    have hw : Wk σ.length ⟨[v], σ'⟩ ⟨[v2], σ2⟩ := Wk.intro π h1 h2 h3 (WkVL.cons h4 WkVL.nil) h5
    have hrel : Rel .it ρ w ⟨[v], σ'⟩ { tmps := #[x], defers := [] } w' := ⟨ρ', hs, rfl, by simp [RvL, hr], hH'⟩
    obtain ⟨ρ2, q1, _, q3, q4⟩ := hw .it ρ w _ w' hH.len hrel
    simp only [RvL, and_true] at q3
    exact ⟨ρ2, v2, σ2, x, he, h6, q3, q4, q1⟩⟩
theorem TC.pushNone {f : FuncId} {args : List AV} {σ : List AObj} {Q : AV → List AObj → Prop} (h : TC P f args σ Q) (ety : TypeId) (esz : Nat) (g : Nat → Nat → AV) : TC P f args σ (fun v σ'=>∃ σ0,Q v σ0 ∧ σ' = σ0 ++ [.arr ety esz 0 g]) :=
  ⟨h.1, fun ρ w vs ha hH => (h.2 ρ w vs ha hH).mono fun _ w' ⟨ρ', v, σ', x, he, hv, hr, hH', hs⟩ => by
    obtain ⟨h1, h2⟩ := hH'.pushNone ety esz g
    exact ⟨ρ' ++ [none], v, σ' ++ [.arr ety esz 0 g], x, he, ⟨σ', hv, rfl⟩, Rv.mono h2 _ hr, h1, hs.trans h2⟩⟩
theorem TC_view_cases {f : FuncId} {us1 us2 : List AV} {n esz : Nat} {e : Nat → Nat → AV} {σ : List AObj} {Q : AV → List AObj → Prop} 
    (hemp : n = 0 → ∀ a c,TC P f (us1 ++ .imm (.slice (some a) 0 c) :: us2) σ Q) (hcap : n = 0 → ∀ c,TC P f (us1 ++ .imm (.slice none 0 c) :: us2) σ Q) (hpos : 0 < n → TC P f (us1 ++ .view n esz e :: us2) σ Q) : TC P f (us1 ++ .view n esz e :: us2) σ Q := by
  rcases Nat.eq_zero_or_pos n with h0 | hp
  · refine ⟨trivial, fun ρ w vs ha hH => ?_⟩
    have key : ∀ {us1 : List AV} {vs : List Value},RvL ρ w (us1 ++ .view n esz e :: us2) vs → ∃ (a : Option Addr) (c : Nat),RvL ρ w (us1 ++ .imm (.slice a 0 c) :: us2) vs := by
      intro us1
      induction us1 with
      | nil =>
        intro vs hv
        cases vs with
        | nil => simp [RvL] at hv
        | cons x xs =>
          simp only [List.nil_append, RvL, Rv] at hv ⊢
          obtain ⟨⟨a, c, rfl, _⟩, h2⟩ := hv
          exact ⟨a, c, by rw [h0], h2⟩
      | cons u us ih =>
        intro vs hv
        cases vs with
        | nil => simp [RvL] at hv
        | cons x xs =>
          simp only [List.cons_append, RvL] at hv ⊢
          obtain ⟨a, c, h3⟩ := ih hv.2
          exact ⟨a, c, hv.1, h3⟩
    obtain ⟨a, c, h3⟩ := key ha
    cases a with
    | none => exact (hcap h0 c).2 ρ w vs h3 hH
    | some a => exact (hemp h0 a c).2 ρ w vs h3 hH
  · exact hpos hp
end
end Go.Ab
namespace Go.Ab
section
variable {P : Program} {Γ : Tab}
/-! ### Calls that turn some of the caller's objects -/
def renN : List Nat → Nat → Nat → Nat
  | [], n, o => n + o
  | q :: _, _, 0 => q
  | _ :: π, n, o + 1 => renN π n o
mutual
def renV (π : List Nat) (n : Nat) : AV → AV
  | .gd g v => .gd g (renV π n v)
  | .optr o i off => .optr (renN π n o) i off
  | .own o s k c => .own (renN π n o) s k c
  | .bsl o a b c d => .bsl (renN π n o) a b c d
  | .map o => .map (renN π n o)
  | .fn f a b => .fn f (renL π n a) (renL π n b)
  | .agg vs => .agg (renL π n vs)
  | .tup vs => .tup (renL π n vs)
  | .ifc t v => .ifc t (renV π n v)
  | v => v
def renL (π : List Nat) (n : Nat) : List AV → List AV
  | [] => []
  | v :: vs => renV π n v :: renL π n vs
end
def renO (π : List Nat) (n : Nat) : AObj → AObj
  | .box ety cells => .box ety (renL π n cells)
  | a => a
def VFO : AObj → Prop
  | .dead => True
  | .box _ cells => VFL cells
  | .arr _ _ _ e => ∀ i j, Pl (e i j)
  | .mp _ es => PlL (es.map (·.2))
  | .raw _ _ => False
  | .ghost _ _ _ _ _ => False
def putO : List Nat → List AObj → List AObj → List AObj
  | [], σ, σ1 => σ ++ σ1
  | q :: π, σ, a :: σ1 => putO π (σ.set q a) σ1
  | _ :: _, σ, [] => σ
theorem renL_length (π : List Nat) (n : Nat) : ∀ vs : List AV, (renL π n vs).length = vs.length
  | [] => rfl
  | _ :: vs => by simp [renL, renL_length π n vs]
theorem renN_lt : ∀ {π : List Nat} {n o : Nat}, o < π.length → π[o]? = some (renN π n o)
  | [], _, _, h => by simp at h
  | q :: π, n, 0, _ => by simp [renN]
  | q :: π, n, o + 1, h => by simpa [renN] using renN_lt (by simpa using h)
theorem renN_ge : ∀ {π : List Nat} {n o : Nat}, π.length ≤ o → renN π n o = n + (o - π.length)
  | [], n, o, _ => by simp [renN]
  | q :: π, n, 0, h => by simp at h
  | q :: π, n, o + 1, h => by rw [renN, renN_ge (by simpa using h)]; simp
theorem putO_length : ∀ {π : List Nat} {σ σ1 : List AObj},π.length ≤ σ1.length → (putO π σ σ1).length = σ.length + (σ1.length - π.length)
  | [], σ, σ1, _ => by simp [putO]
  | q :: π, σ, [], h => by simp at h
  | q :: π, σ, a :: σ1, h => by rw [putO, putO_length (by simpa using h)]; simp
theorem putO_old : ∀ {π : List Nat} {σ σ1 : List AObj} {q : Nat}, q ∉ π → q < σ.length → (putO π σ σ1)[q]? = σ[q]?
  | [], σ, σ1, q, _, hq => by rw [putO, List.getElem?_append_left hq]
  | p :: π, σ, [], q, _, _ => by rw [putO]
  | p :: π, σ, a :: σ1, q, hn, hq => by
    rw [putO,putO_old (by simp at hn;exact hn.2) (by simpa using hq),List.getElem?_set_ne (by simp at hn;exact fun e => hn.1 e.symm)]
theorem putO_new : ∀ {π : List Nat} {σ σ1 : List AObj} {o : Nat},π.Nodup → (∀ q ∈ π,q < σ.length) → o < σ1.length → (putO π σ σ1)[renN π σ.length o]? = σ1[o]?
  | [], σ, σ1, o, _, _, _ => by rw [putO, renN, List.getElem?_append_right (by omega)]; congr 1; omega
  | p :: π, σ, [], o, _, _, h => by simp at h
  | p :: π, σ, a :: σ1, 0, hd, hb, _ => by
    simp only [List.nodup_cons] at hd
    rw [putO, renN, putO_old hd.1 (by simpa using hb p (by simp))]
    simp [hb p (by simp)]
  | p :: π, σ, a :: σ1, o + 1, hd, hb, h => by
    simp only [List.nodup_cons] at hd
    have := putO_new (π := π) (σ := σ.set p a) (σ1 := σ1) (o := o) hd.2 (fun q hq => by simpa using hb q (by simp [hq])) (by simpa using h)
    simpa [putO, renN] using this
theorem putO_cases {π : List Nat} {σ σ1 : List AObj} (hd : π.Nodup) (hb : ∀ q ∈ π,q < σ.length) (hl : π.length ≤ σ1.length) {p : Nat} {a : AObj} (h : (putO π σ σ1)[p]? = some a) :
    (∃ o, o < σ1.length ∧ p = renN π σ.length o ∧ σ1[o]? = some a) ∨ (p ∉ π ∧ p < σ.length ∧ σ[p]? = some a) := by
  have hp := (List.getElem?_eq_some_iff.1 h).1
  rw [putO_length hl] at hp
  by_cases hlt : p < σ.length
  · by_cases hm : p ∈ π
    · obtain ⟨i, hi, rfl⟩ := List.mem_iff_getElem.1 hm
      have h1 := renN_lt (π := π) (n := σ.length) hi
      rw [List.getElem?_eq_getElem hi] at h1
      simp only [Option.some.injEq] at h1
      have hi2 : i < σ1.length := by omega
      refine .inl ⟨i, hi2, h1, ?_⟩
      rw [h1, putO_new hd hb hi2] at h
      exact h
    · exact .inr ⟨hm, hlt, by rw [← putO_old (σ1 := σ1) hm hlt]; exact h⟩
  · have e : p = renN π σ.length (π.length + (p - σ.length)) := by rw [renN_ge (by omega)]; omega
    have hi2 : π.length + (p - σ.length) < σ1.length := by omega
    refine .inl ⟨_, hi2, e, ?_⟩
    rw [e, putO_new hd hb hi2] at h
    exact h
mutual
theorem VF.ren {ρ1 ρ2 : Rho} {w : World} {π : List Nat} {n : Nat} (hr : ∀ (o : Nat) (l : Loc),ρ1[o]? = some (some l) → ρ2[renN π n o]? = some (some l)) : (v : AV) → VF v → ∀ {x},Rv ρ1 w v x → Rv ρ2 w (renV π n v) x
  | .top, _, _, _ => trivial
  | .imm _, _, _, h => h
  | .gd g v, hf, x, h => by
    simp only [VF] at hf
    simp only [renV, Rv] at h ⊢
    split
    · rename_i hg; rw [if_pos hg] at h; exact VF.ren hr v hf h
    · rename_i hg; rw [if_neg hg] at h; exact h
  | .rptr _ _, hf, _, _ => by simp [VF] at hf
  | .vmap _ _ _, hf, _, _ => by simp [VF] at hf
  | .view _ _ _, hf, _, _ => by simp [VF] at hf
  | .pv _ _ _ _, hf, _, _ => by simp [VF] at hf
  | .optr o i off, _, x, h => by
    simp only [renV, Rv] at h ⊢
    obtain ⟨l, hl, rfl⟩ := h
    exact ⟨l, hr o l hl, rfl⟩
  | .own o s k c, _, x, h => by
    simp only [renV, Rv] at h ⊢
    rcases h with ⟨l, cap, hl, h1⟩ | h1
    · exact .inl ⟨l, cap, hr o l hl, h1⟩
    · exact .inr h1
  | .emp, _, _, h => by simpa only [Rv, renV] using h
  | .bsl o _ _ _ _, _, x, h => by
    simp only [renV, Rv] at h ⊢
    obtain ⟨hc, l, hl, rfl⟩ := h
    exact ⟨hc, l, hr o l hl, rfl⟩
  | .map o, _, x, h => by
    simp only [renV, Rv] at h ⊢
    obtain ⟨l, hl, rfl⟩ := h
    exact ⟨l, hr o l hl, rfl⟩
  | .fn f a b, hf, x, h => by
    simp only [VF] at hf
    simp only [renV, Rv] at h ⊢
    obtain ⟨fs, cs, rfl, h1, h2⟩ := h
    exact ⟨fs, cs, rfl, VFL.ren hr a hf.1 h1, VFL.ren hr b hf.2 h2⟩
  | .agg vs, hf, x, h => by
    simp only [VF] at hf
    simp only [renV, Rv] at h ⊢
    obtain ⟨cs, rfl, h1⟩ := h
    exact ⟨cs, rfl, VFL.ren hr vs hf h1⟩
  | .tup vs, hf, x, h => by
    simp only [VF] at hf
    simp only [renV, Rv] at h ⊢
    obtain ⟨cs, rfl, h1⟩ := h
    exact ⟨cs, rfl, VFL.ren hr vs hf h1⟩
  | .ifc t v, hf, x, h => by
    simp only [VF] at hf
    simp only [renV, Rv] at h ⊢
    obtain ⟨y, rfl, h1⟩ := h
    exact ⟨y, rfl, VF.ren hr v hf h1⟩
theorem VFL.ren {ρ1 ρ2 : Rho} {w : World} {π : List Nat} {n : Nat} (hr : ∀ (o : Nat) (l : Loc),ρ1[o]? = some (some l) → ρ2[renN π n o]? = some (some l)) : (vs : List AV) → VFL vs → ∀ {xs},RvL ρ1 w vs xs → RvL ρ2 w (renL π n vs) xs
  | [], _, [], _ => by simp [renL, RvL]
  | v :: vs, hf, x :: xs, h => by
    simp only [VFL] at hf
    simp only [renL, RvL] at h ⊢
    exact ⟨VF.ren hr v hf.1 h.1, VFL.ren hr vs hf.2 h.2⟩
  | [], _, _ :: _, h => by simp [RvL] at h
  | _ :: _, _, [], h => by simp [RvL] at h
end
theorem VFO.ren {ρ1 ρ2 : Rho} {w : World} {π : List Nat} {n o : Nat} {a : AObj} (hr : ∀ (o : Nat) (l : Loc),ρ1[o]? = some (some l) → ρ2[renN π n o]? = some (some l)) (hn : ρ1[o]? = some none → ρ2[renN π n o]? = some none) (hp : VFO a) (h : RO ρ1 w o a) : RO ρ2 w (renN π n o) (renO π n a) := by
  cases a with
  | dead => trivial
  | box ety cells =>
    obtain ⟨l, c, hl, h0, h1, h2, h3, h4, h5⟩ := h
    exact ⟨l,c,hr o l hl,h0,by rw [renL_length];exact h1,by rw [renL_length];exact h2,h3,h4,VFL.ren hr _ hp h5⟩
  | arr ety esz len e =>
    rcases h with ⟨l, c, hl, he, hh, hc, hd, hr2⟩ | ⟨hno, h0⟩
    · refine .inl ⟨l, c, hr o l hl, he, hh, hc, hd, fun i hi j hj => ?_⟩
      obtain ⟨y, a, b, c⟩ := hr2 i hi j hj
      exact ⟨y, a, b, Pl.any _ (hp i j) c⟩
    · exact .inr ⟨hn hno, h0⟩
  | mp sh es =>
    obtain ⟨l, a, clock, hl, hh, hb, hks, he, hv⟩ := h
    exact ⟨l, a, clock, hr o l hl, hh, hb, hks, he, PlL.any _ hp hv⟩
  | raw _ _ => exact hp.elim
  | ghost _ _ _ _ _ => exact hp.elim
theorem TC.sub {f : FuncId} {args args0 : List AV} {σ σ0 : List AObj} {Q : AV → List AObj → Prop} (π : List Nat) (h : TC P f args0 σ0 Q) (hd : π.Nodup) (hb : ∀ q ∈ π,q < σ.length ∧ (nthO σ q).alive = true)
    (hargs : WkVL π σ args args0) (hσ : WkOL π σ π σ0) (hp : ∀ v σ1, Q v σ1 → VF v ∧ ∀ a ∈ σ1, VFO a) :
    TC P f args σ (fun v σ' => ∃ v1 σ1, Q v1 σ1 ∧ v = renV π σ.length v1 ∧ σ' = putO π σ (σ1.map (renO π σ.length))) :=
  ⟨trivial, fun ρ w vs ha hH => by
    have hπl : ∀ q ∈ π, q < σ.length := fun q hq => (hb q hq).1
    have hH0 : RH (pull π ρ) w σ0 := RH.pullH π hd hπl hσ hH
    have hl0 : σ0.length = π.length := hσ.length.symm
    refine (h.2 (pull π ρ) w vs (hargs ρ w vs hH ha) hH0).mono fun e w' ⟨ρ1, v, σ1, x, he, hq, hv, hH1, hs⟩ => ?_
    obtain ⟨hvf, hpo⟩ := hp v σ1 hq
    have hpl : (pull π ρ).length = π.length := by simp [pull]
    have hle : π.length ≤ σ1.length := by
      have := hs.pre.length_le
      rw [hpl, hH1.len] at this
      exact this
    have hle1 : π.length ≤ ρ1.length := by rw [hH1.len]; exact hle
    have hget : ∀ o, o < π.length → ρ1[o]? = (pull π ρ)[o]? := fun o ho => by
      obtain ⟨t, ht⟩ := hs.pre
      rw [← ht, List.getElem?_append_left (by omega)]
    have hpullAt : ∀ (o q : Nat),π[o]? = some q → (pull π ρ)[o]? = some (ρ[q]?.getD none) := fun o q hq => by simp [pull,hq]
    -- the numbers afterwards
    have hr : ∀ (o : Nat) (y : Option Loc),ρ1[o]? = some y → (ρ ++ ρ1.drop π.length)[renN π σ.length o]? = some y := fun o y hy => by
      by_cases ho : o < π.length
      · have h1 := renN_lt (π := π) (n := σ.length) ho
        have hlt : renN π σ.length o < ρ.length := by rw [hH.len]; exact hπl _ (List.mem_of_getElem? h1)
        rw [List.getElem?_append_left hlt]
        rw [hget o ho, hpullAt o _ h1, List.getElem?_eq_getElem hlt] at hy
        simp only [Option.getD_some] at hy
        rw [List.getElem?_eq_getElem hlt]
        exact hy
      · rw [renN_ge (by omega), List.getElem?_append_right (by rw [hH.len]; omega), List.getElem?_drop, ← hy]
        congr 1
        rw [hH.len]; omega
    have hrS : ∀ (o : Nat) (l : Loc),ρ1[o]? = some (some l) → (ρ ++ ρ1.drop π.length)[renN π σ.length o]? = some (some l) := fun o l hl => hr o _ hl
    have hhas : ∀ b, Rho.has (ρ ++ ρ1.drop π.length) b → ρ.has b ∨ Rho.has ρ1 b := fun b hbb => by
      obtain ⟨o, l, hl, rfl⟩ := hbb
      rw [List.getElem?_append] at hl
      split at hl
      · exact .inl ⟨o, l, hl, rfl⟩
      · rw [List.getElem?_drop] at hl; exact .inr ⟨_, l, hl, rfl⟩
    have hst : Step ρ w (ρ ++ ρ1.drop π.length) w' := ⟨hs.os,hs.tape,hs.output,hs.size,fun b hbl hn => hs.same b hbl fun hh => hn (pull_has hh),List.prefix_append _ _,fun b hbb => by
      rcases hhas b hbb with h0 | h0
      · exact .inl h0
      · rcases hs.own b h0 with h2 | h2
        · exact .inl (pull_has h2)
        · exact .inr h2⟩
    -- a living object that was not handed over lies apart from what the callee had
    have hfar : ∀ (q : Nat) (a : AObj) (l : Loc),q ∉ π → σ[q]? = some a → a.alive = true → ρ[q]? = some (some l) → ¬ Rho.has ρ1 l.b := fun q a l hqn ha hal hl hb1 => by
      rcases hs.own l.b hb1 with h2 | h2
      · obtain ⟨o', l', hl', hbb⟩ := h2
        obtain ⟨p, hp1, hlp⟩ := pull_inv hl'
        have hpm := List.mem_of_getElem? hp1
        exact hH.apart p q l' l _ _ (fun e => hqn (e ▸ hpm)) (nthO_eq rfl (hb p hpm).2) (hb p hpm).2 ha hal hlp hl hbb
      · exact absurd (hH.lt q l hl) (by omega)
    have hsb : ∀ q ∈ π, q < σ.length := hπl
    have hml : π.length ≤ (σ1.map (renO π σ.length)).length := by simpa using hle
    have halr : ∀ a : AObj, (renO π σ.length a).alive = a.alive := fun a => by cases a <;> rfl
    refine ⟨ρ ++ ρ1.drop π.length,renV π σ.length v,putO π σ (σ1.map (renO π σ.length)),x,he,⟨v,σ1,hq,rfl,rfl⟩,VF.ren hrS v hvf hv,⟨?_,fun o l hl=>?_,fun p a ha=>?_,fun p p' l l' a a' hne h1 k1 h2 k2 r1 r2=>?_,hH.glob.step hst⟩,hst⟩
    · rw [putO_length hml]; simp [hH.len, hH1.len]
    · rw [List.getElem?_append] at hl
      split at hl
      · exact Nat.lt_of_lt_of_le (hH.lt o l hl) hs.size
      · rw [List.getElem?_drop] at hl; exact hH1.lt _ l hl
    · rcases putO_cases hd hsb hml ha with ⟨o, ho, rfl, h1⟩ | ⟨hqn, hqlt, h1⟩
      · simp only [List.getElem?_map] at h1
        cases hs1 : σ1[o]? with
        | none => simp [hs1] at h1
        | some a1 =>
          simp only [hs1, Option.map_some, Option.some.injEq] at h1
          subst h1
          exact VFO.ren hrS (fun hn => hr o _ hn) (hpo a1 (List.mem_of_getElem? hs1)) (hH1.obj o a1 hs1)
      · cases hal : a.alive with
        | false => exact RO.keepD hst hal (hH.obj p a h1)
        | true =>
          refine RO.keep hst (hH.obj p a h1) fun l hl => hs.same _ (hH.lt p l hl) fun hh => ?_
          obtain ⟨o', l', hl', hbb⟩ := hh
          obtain ⟨q, hq1, hlq⟩ := pull_inv hl'
          have hqm := List.mem_of_getElem? hq1
          exact hH.apart q p l' l _ _ (fun e => hqn (e ▸ hqm)) (nthO_eq rfl (hb q hqm).2) (hb q hqm).2 h1 hal hlq hl hbb
    · have side : ∀ (p : Nat) (a : AObj) (l : Loc),(putO π σ (σ1.map (renO π σ.length)))[p]? = some a → a.alive = true → (ρ ++ ρ1.drop π.length)[p]? = some (some l) →
          (∃ o a1,p = renN π σ.length o ∧ σ1[o]? = some a1 ∧ a1.alive = true ∧ ρ1[o]? = some (some l)) ∨ (p ∉ π ∧ σ[p]? = some a ∧ ρ[p]? = some (some l)) := by
        intro p a l hpa hal hpl
        rcases putO_cases hd hsb hml hpa with ⟨o, ho, rfl, h1⟩ | ⟨hqn, hqlt, h1⟩
        · simp only [List.getElem?_map] at h1
          cases hs1 : σ1[o]? with
          | none => simp [hs1] at h1
          | some a1 =>
            simp only [hs1, Option.map_some, Option.some.injEq] at h1
            subst h1
            have hor : o < ρ1.length := by rw [hH1.len]; simpa using ho
            have := hr o _ (List.getElem?_eq_getElem hor)
            rw [hpl] at this
            simp only [Option.some.injEq] at this
            exact .inl ⟨o, a1, rfl, hs1, by rw [halr] at hal; exact hal, by rw [List.getElem?_eq_getElem hor, ← this]⟩
        · exact .inr ⟨hqn, h1, by rw [List.getElem?_append_left (by rw [hH.len]; exact hqlt)] at hpl; exact hpl⟩
      rcases side p a l h1 k1 r1 with ⟨o,a1,rfl,q1,q2,q3⟩ | ⟨q1,q2,q3⟩ <;> rcases side p' a' l' h2 k2 r2 with ⟨o',a1',rfl,s1,s2,s3⟩ | ⟨s1,s2,s3⟩
      · exact hH1.apart o o' l l' a1 a1' (fun e => hne (by rw [e])) q1 q2 s1 s2 q3 s3
      · exact fun e => hfar p' a' l' s1 s2 k2 s3 ⟨o, l, q3, e⟩
      · exact fun e => hfar p a l q1 q2 k1 q3 ⟨o', l', s3, e.symm⟩
      · exact hH.apart p p' l l' a a' hne q2 k1 s2 k2 q3 s3⟩
theorem callGoal_sub {σ σ0 : List AObj} {next : AV → List AObj → Prop} {k : FuncId} {args args0 : List AV} {C : Prop} {Q : AV → List AObj → Prop} (π : List Nat) (hC : C) (h : TC P k args0 σ0 Q) (hd : π.Nodup) (hb : ∀ q ∈ π,q < σ.length ∧ (nthO σ q).alive = true)
    (hargs : WkVL π σ args args0) (hσ : WkOL π σ π σ0) (hp : ∀ v σ1,Q v σ1 → VF v ∧ ∀ a ∈ σ1,VFO a) (hn : ∀ v σ1,Q v σ1 → next (renV π σ.length v) (putO π σ (σ1.map (renO π σ.length)))) : callGoal P σ next (some (k,args,C)) :=
  ⟨hC, _, TC.sub π h hd hb hargs hσ hp, fun v σ' ⟨v1, σ1, hq, hv, hs⟩ => by subst hv; subst hs; exact hn v1 σ1 hq⟩
def Turns (P : Program) (k : FuncId) (args0 : List AV) (σ0 : List AObj) (v1 : AV) (σ1 : List AObj) : Prop := TC P k args0 σ0 (fun v σ' => v = v1 ∧ σ' = σ1) ∧ VF v1 ∧ ∀ a ∈ σ1,VFO a
theorem callGoal_turns {σ σ0 σ1 : List AObj} {next : AV → List AObj → Prop} {k : FuncId} {args args0 : List AV} {C : Prop} {v1 : AV} (π : List Nat) (hC : C) (h : Turns P k args0 σ0 v1 σ1) (hd : π.Nodup) (hb : ∀ q ∈ π,q < σ.length ∧ (nthO σ q).alive = true)
    (hargs : WkVL π σ args args0) (hσ : WkOL π σ π σ0) (hn : next (renV π σ.length v1) (putO π σ (σ1.map (renO π σ.length)))) : callGoal P σ next (some (k,args,C)) :=
  callGoal_sub π hC h.1 hd hb hargs hσ (fun v s ⟨e1,e2⟩ => by subst e1;subst e2;exact h.2) fun v s ⟨e1,e2⟩ => by subst e1;subst e2;exact hn
attribute [go_sem] renN renV renL renO putO
theorem nthO_of_get : ∀ {σ : List AObj} {k : Nat} {a : AObj}, σ[k]? = some a → nthO σ k = a
  | [], _, _, h => by simp at h
  | x :: σ, 0, a, h => by simpa [nthO] using h
  | x :: σ, k + 1, a, h => by
    simp only [List.getElem?_cons_succ] at h
    simpa [nthO] using nthO_of_get h
theorem nthO_snoc (σ : List AObj) (a : AObj) : nthO (σ ++ [a]) σ.length = a := nthO_of_get (getElem?_snoc _ _)
mutual
theorem Pl.VF : (v : AV) → Pl v → Go.Ab.VF v
  | .top, _ => trivial
  | .imm _, _ => trivial
  | .gd _ v, h => by simp only [Pl] at h; simp only [Go.Ab.VF]; exact Pl.VF v h
  | .rptr _ _, hf => by simp [Pl] at hf
  | .vmap _ _ _, hf => by simp [Pl] at hf
  | .view _ _ _, hf => by simp [Pl] at hf
  | .pv _ _ _ _, hf => by simp [Pl] at hf
  | .optr _ _ _, _ => trivial
  | .own _ _ _ _, _ => trivial
  | .emp, _ => trivial
  | .bsl _ _ _ _ _, _ => trivial
  | .map _, _ => trivial
  | .fn _ a b, h => by simp only [Pl] at h; simp only [Go.Ab.VF]; exact ⟨PlL.VF a h.1, PlL.VF b h.2⟩
  | .agg vs, h => by simp only [Pl] at h; simp only [Go.Ab.VF]; exact PlL.VF vs h
  | .tup vs, h => by simp only [Pl] at h; simp only [Go.Ab.VF]; exact PlL.VF vs h
  | .ifc t v, h => by simp only [Pl] at h; simp only [Go.Ab.VF]; exact Pl.VF v h
theorem PlL.VF : (vs : List AV) → PlL vs → VFL vs
  | [], _ => trivial
  | v :: vs, h => by simp only [PlL] at h; simp only [VFL]; exact ⟨Pl.VF v h.1, PlL.VF vs h.2⟩
end
theorem Wk.push {n : Nat} {env : List AV} {σ : List AObj} (ety : TypeId) (esz : Nat) (g : Nat → Nat → AV) : Wk n ⟨env,σ⟩ ⟨env,σ ++ [.arr ety esz 0 g]⟩ :=
  fun _ _ _ _ _ _ ⟨_, h1, h2, h3, h4⟩ => by
    obtain ⟨q1, q2⟩ := h4.pushNone ety esz g
    exact ⟨_, h1.trans q2, h2.step q2, RvL.mono q2 _ h3, q1⟩
theorem Cv.own {σ : List AObj} {o n esz : Nat} {ety : TypeId} {c : Option Nat} {E E2 : Nat → Nat → AV} (hob : nthO σ o = .arr ety esz n E) (hz : 0 < esz) (hE : ∀ i j,i < n → j < esz → E i j = E2 i j) (hf : ∀ i j,Free (E2 i j)) : Cv σ (.own o 0 n c) (.view n esz E2) :=
  Cv.view (v := .own o 0 n c) (f := fun i j => E (0 + i) j) (c := 0 + n ≤ n) (by simp only [src,hob]) (by omega) hz fun i j hi hj => by rw [Nat.zero_add,hE i j hi hj];exact Cv.free (hf i j)
theorem Cv.pvE {σ : List AObj} {n esz : Nat} {c : Option Nat} {E E2 : Nat → Nat → AV} (hE : ∀ i j,i < n → j < esz → E i j = E2 i j) (hf : ∀ i j,Free (E2 i j)) (hz : 0 < esz) : Cv σ (.pv n esz c E) (.view n esz E2) :=
  Cv.view (v := .pv n esz c E) (f := E) (c := True) rfl trivial hz fun i j hi hj => by rw [hE i j hi hj];exact Cv.free (hf i j)
theorem WkV.eqF {π : List Nat} {σ : List AObj} {v v2 : AV} (h : v = v2) (hf : Free v2) : WkV π σ v v2 := by rw [h];exact WkV.free hf
/-! ### Calls by contract, what follows ahead of the contract -/
section
variable {σ σ1 : List AObj} {next N : AV → List AObj → Prop} {k : FuncId} {args args0 : List AV} {C : Prop} {v : AV} {g : Bool}
theorem callGoal_lookA (h : Look P k args0 v) (hC : C) (hc : CvL σ args args0) (hn : next v σ) : callGoal P σ next (some (k,args,C)) := callGoal_look hC hc h hn
theorem callGoal_makeA (h : Makes P k args0 v σ1) (hC : C) (hc : CvL σ args args0) (hn : next (sh σ.length v) (σ ++ σ1)) : callGoal P σ next (some (k,args,C)) := callGoal_make hC hc h hn
theorem gC_lookA (h : g = true → Look P k args0 v) (hC : g = true → C) (hc : g = true → CvL σ args args0) (hn : N (.gd g v) σ) : gC P σ N g (some (k,args,C)) := gC_look (fun hg=>⟨hC hg,hc hg,h hg⟩) hn
theorem dCall_lookA (h : Look P k args0 v) (hC : C) (hc : CvL σ args args0) (hn : N v σ) : dCall P σ N (some (k,args,C)) (some none) := dCall_look hC hc h hn
theorem dCall_makeA (h : Makes P k args0 v σ1) (hC : C) (hc : CvL σ args args0) (hn : N (sh σ.length v) (σ ++ σ1)) : dCall P σ N (some (k,args,C)) (some none) := dCall_make hC hc h hn
theorem dCall_lookGA (h : g = true → Look P k args0 v) (hC : g = true → C) (hc : g = true → CvL σ args args0) (hn : N (.gd g v) σ) : dCall P σ N (some (k,args,C)) (some (some g)) := dCall_lookG (fun hg=>⟨hC hg,hc hg,h hg⟩) hn
end
end
end Go.Ab
namespace Go.Ab
open Go.ChangeShapes Go.WideShapes Go.RowKit
inductive Dat where
  | int (k : IntKind) (n : Int)
  | bool (b : Bool)
  | str (s : ByteArray)
  | strct (fs : List Dat)
  | slice (z : Nat) (l : List Dat)
def nthL : List (List AV) → Nat → List AV
  | [], _ => []
  | x :: _, 0 => x
  | _ :: xs, n + 1 => nthL xs n
mutual
def Dat.cells : Dat → List AV
  | .int k n => [.imm (.int k n)]
  | .bool b => [.imm (.bool b)]
  | .str s => [.imm (.string s)]
  | .strct fs => cellsL fs
  | .slice z l => [.view l.length z (fun i j => nth (nthL (cellsLL l) i) j)]
def cellsL : List Dat → List AV
  | [] => []
  | d :: ds => d.cells ++ cellsL ds
def cellsLL : List Dat → List (List AV)
  | [] => []
  | d :: ds => d.cells :: cellsLL ds
end
mutual
def Fits (Γ : Tab) : TypeId → Dat → Prop
  | t, .int k n => (∃ ti, Γ.get t = some ti ∧ ti.d = .int k) ∧ (Lit.int k n).wf = true
  | t, .bool _ => ∃ ti, Γ.get t = some ti ∧ ti.d = .bool
  | t, .str s => (∃ ti, Γ.get t = some ti ∧ ti.d = .str) ∧ s.size ≤ maxLen
  | t, .strct ds => ∃ ti fs, Γ.get t = some ti ∧ ti.d = .strct fs ∧ FitsL Γ fs ds
  | t,.slice z ds => ∃ ti e te,Γ.get t = some ti ∧ ti.d = .slice e ∧ Γ.get e = some te ∧ z = te.size ∧ ds.length ≤ maxLen ∧ FitsA Γ e ds
def FitsL (Γ : Tab) : List (TypeId × Nat) → List Dat → Prop
  | [], [] => True
  | f :: fs, d :: ds => Fits Γ f.1 d ∧ FitsL Γ fs ds
  | _, _ => False
def FitsA (Γ : Tab) : TypeId → List Dat → Prop
  | _, [] => True
  | e, d :: ds => Fits Γ e d ∧ FitsA Γ e ds
end
def supF (Γ : Tab) (r : TypeId → Bool) : List (TypeId × Nat) → Nat → Option Nat
  | [], off => some off
  | (t, o) :: fs, off =>
    match Γ.get t with
    | some ti => if o = off ∧ r t = true then supF Γ r fs (off + ti.size) else none
    | none => none
mutual
theorem Dat.oneL : ∀ d : Dat, oneL d.cells = true
  | .int _ _ => rfl
  | .bool _ => rfl
  | .str _ => rfl
  | .strct fs => oneL_cellsL fs
  | .slice _ _ => rfl
theorem oneL_cellsL : ∀ l : List Dat, Go.Ab.oneL (cellsL l) = true
  | [] => rfl
  | d :: l => by
    rw [cellsL]
    have h1 := d.oneL
    have h2 := oneL_cellsL l
    have : ∀ a b : List AV, Go.Ab.oneL a = true → Go.Ab.oneL b = true → Go.Ab.oneL (a ++ b) = true := by
      intro a b ha hb
      induction a with
      | nil => simpa using hb
      | cons x a ih => simp only [Go.Ab.oneL, Bool.and_eq_true, List.cons_append] at ha ⊢; exact ⟨ha.1, ih ha.2⟩
    exact this _ _ h1 h2
end
section
variable {H : Type} {enc : TypeId × Value → H} {P : Program} {Γ : Tab} {w : World} {sp : Nat → Bool} {held : Bool}
theorem TIok.cellsOf {t : TypeId} {ti : TI} (h : TIok P t ti) : P.cellsOf t = ti.size := by
  obtain ⟨i, z, hi, hs, _⟩ := h.info
  simp [Program.cellsOf, hi, hs]
theorem block_lt {a : Addr} {v : Value} (h : w.cell? a = some v) : a.block < w.heap.size := by
  rcases Nat.lt_or_ge a.block w.heap.size with h1 | h1
  · exact h1
  · unfold World.cell? at h
    rw [Array.getElem?_eq_none h1] at h
    simp at h
theorem Rv_view_ext {ρ : Rho} {n z : Nat} {e e2 : Nat → Nat → AV} {x : Value} (h : ∀ i j,i < n → j < z → e i j = e2 i j) (hx : Rv ρ w (.view n z e) x) : Rv ρ w (.view n z e2) x := by
  simp only [Rv] at hx ⊢
  obtain ⟨a, cap, rfl, h1, h2⟩ := hx
  refine ⟨a, cap, rfl, h1, fun hp => ?_⟩
  obtain ⟨ad, rfl, q1, q2, q3⟩ := h2 hp
  refine ⟨ad, rfl, q1, q2, fun i hi j hj => ?_⟩
  obtain ⟨y, a, b, c⟩ := q3 i hi j hj
  exact ⟨y, a, b, by rw [← h i j hi hj]; exact c⟩
theorem post_of_below {f : Func} {s : ChangeSpec} {W W' : World} {args : Array Value} {v : Value} {ds gs : List (DataW H)} {before pa pv : List MemPlace} {apart fresh handsOn again : Bool}
    (hW : DataW.Whole enc P f.params.toList s.vars apart W args.toList ds gs before)
    (hres : ∀ (b : Nat) (sp : Nat → Bool) (hd : Bool),DataW.TrodAll enc P W' b sp hd f.resultTypes.toList (v.resultList f.resultTypes.size) (s.fn H (ds ++ gs)).results [])
    (hargs : ∀ sp : Nat → Bool,(∀ p ∈ before,sp p.block = true) → DataW.TrodAll enc P W' 0 sp true f.params.toList args.toList (s.fn H (ds ++ gs)).args pa)
    (hvars : ∀ sp : Nat → Bool,(∀ p ∈ before,sp p.block = true) → DataW.TrodVars enc P W' sp s.vars (s.fn H (ds ++ gs)).vars pv)
    (hps : before = pa ++ pv) (hb : Below W.heap.size W W')
    (hok : ∀ (j : Nat) (t : TypeId) (r : Value),f.resultTypes[j]? = some t → (v.resultList f.resultTypes.size)[j]? = some r → Value.okWide P W' .any 0 t r) :
    s.post enc P f apart fresh handsOn again W args v W' := by
  have hold : ∀ p ∈ before, (fun b => decide (b < W.heap.size)) p.block = true := fun p hp => by simpa using hW.lt p hp
  have hlt := hW.lt
  refine ⟨ds,gs,before,[],pa,pv,hW,hres _ _ _,hargs _ hold,hvars _ hold,World.keptBut_mono (fun p hp => ⟨hp,?_⟩) (hb.frame (· ∈ before)),fun _ => ?_⟩
  · rw [hps, List.mem_append] at hp
    exact Or.inr hp
  · obtain ⟨_, _, _, _, _, hz, hn⟩ := hW
    refine ⟨hok,_,_,([] ++ pa) ++ pv,⟨[] ++ pa,pv,trodAll_append (hargs _ (fun _ _ => rfl)) (hres _ _ _),hvars _ (fun _ _ => rfl),rfl,?_,?_⟩,?_⟩
    · intro b off hp
      have hp' : MemPlace.cell b off ∈ before := by rw [hps]; simpa using hp
      rw [hb.frozen (p := ⟨b, off, none⟩) (hlt _ hp')]
      exact hz b off hp'
    · intro ha
      have := hn ha
      rw [hps] at this
      simpa using this
    · intro p hp _
      rw [hps]
      simpa using hp
theorem trodAll_stays (hl : laidOutB P = true) {W W' : World} {sp' : Nat → Bool} (hb : Below W.heap.size W W') : ∀ {ts : List TypeId} {vs : List Value} {ds : List (DataW H)} {ps : List MemPlace},
    (∀ t ∈ ts,P.readableRec t = true ∧ t < P.types.size) → DataW.TrodAll enc P W 0 (fun _=>true) true ts vs ds ps → (∀ p ∈ ps,p.block < W.heap.size) → (∀ p ∈ ps,sp' p.block = true) → DataW.TrodAll enc P W' 0 sp' true ts vs ds ps
  | [], [], [], ps, _, h, _, _ => h
  | t :: ts, v :: vs, d :: ds, ps, ht, h, hlt, hs => by
    obtain ⟨p, q, h1, h2, rfl⟩ := h
    exact ⟨p,q,WideElems.Trod_stays hl (ht t (by simp)).1 (ht t (by simp)).2 h1 (fun x hx => hb.same (hlt x (by simp [hx]))) (fun x hx => hs x (by simp [hx])),
      trodAll_stays hl hb (fun t' ht' => ht t' (by simp [ht'])) h2 (fun x hx => hlt x (by simp [hx])) (fun x hx => hs x (by simp [hx])),rfl⟩
  | [], _ :: _, _, _, _, h, _, _ => by simp [DataW.TrodAll] at h
  | [], [], _ :: _, _, _, h, _, _ => by simp [DataW.TrodAll] at h
  | _ :: _, [], _, _, _, h, _, _ => by simp [DataW.TrodAll] at h
  | _ :: _, _ :: _, [], _, _, h, _, _ => by simp [DataW.TrodAll] at h
theorem Step.below {w' : World} {ρ' : Rho} (h : Step [] w ρ' w') : Below w.heap.size w w' := ⟨h.os,h.tape,h.output,h.size,fun b hb => h.same b hb not_has_nil⟩
theorem Look.calls {f : FuncId} {args : List AV} {v : Value} (hG : Glob [] w) (hok : fnOk P f = true) (h : Look P f args (.imm v)) {vs : List Value} (ha : RvL [] w args vs) : Calls P f vs.toArray w fun e w'=>e = .returned v ∧ Below w.heap.size w w' := by
  rcases h.1.2 [] w vs ha (RH.nil w hG) with ⟨_, h2⟩ | ⟨u, w', h1, _⟩
  · refine h2.mono fun e w' ⟨ρ', u, σ', x, he, hu, hr, _, hs⟩ => ?_
    subst hu
    simp only [Rv] at hr
    subst hr
    exact ⟨he, hs.below⟩
  · rw [run_call hok] at h1
    cases h1
theorem law_post {fn : Func} {s : ChangeSpec} {f : FuncId} {tb : TypeId} (hl : laidOutB P = true) (hres : fn.resultTypes = #[tb]) (hbool : P.underlying tb = some .bool) (hpar : fn.params.toList.all (fun t=>P.readableRec t && Nat.blt t P.types.size) = true) (hvars : s.vars = [])
    {W : World} {args : Array Value} {ds gs : List (DataW H)} {before : List MemPlace} (hW : DataW.Whole enc P fn.params.toList s.vars false W args.toList ds gs before) (hspec : s.fn H ds = { results := [.lit (.bool true)],args := ds })
    (hc : Calls P f args W fun e W'=>e = .returned (.bool true) ∧ Below W.heap.size W W') : Calls P f args W fun e W'=>∃ v,e = .returned v ∧ s.post enc P fn false true false false W args v W' := by
  refine hc.mono fun e W' ⟨he, hb⟩ => ⟨.bool true, he, ?_⟩
  have hW' := hW
  obtain ⟨p, q, hA, hV, hpq, _, _⟩ := hW
  rw [hvars] at hV
  obtain ⟨rfl, rfl⟩ := trodVars_none hV
  have hlt := hW'.lt
  rw [List.append_nil] at hpq
  subst hpq
  have hds : s.fn H (ds ++ []) = { results := [.lit (.bool true)], args := ds } := by rw [List.append_nil]; exact hspec
  refine post_of_below (pa := before) (pv := []) hW' (fun b sp hd => ?_) (fun sp hsp => ?_) (fun sp _ => ?_) (by simp) hb ?_
  · rw [hds, hres]
    exact trodAll_cons_mk (shut_bool hbool _) trodAll_mk0
  · rw [hds]
    refine trodAll_stays hl hb (fun t ht => ?_) hA hlt hsp
    have := List.all_eq_true.1 hpar t ht
    simpa using this
  · rw [hds, hvars]
    rfl
  · exact ok_one hres rfl (okWide_bool_mk hbool _)
def isAggT (Γ : Tab) (t : TypeId) : Bool := match Γ.get t with | some ti => ti.d.isAgg | none => false
end
end Go.Ab
namespace Go.Ab
section
variable {P : Program} {Γ : Tab}
theorem Cv.ownS {σ : List AObj} {o s n N esz : Nat} {ety : TypeId} {c : Option Nat} {E E2 : Nat → Nat → AV} (hob : nthO σ o = .arr ety esz N E) (hle : s + n ≤ N) (hz : 0 < esz) (hE : ∀ i j,i < n → j < esz → E (s + i) j = E2 i j) (hf : ∀ i j,Free (E2 i j)) : Cv σ (.own o s n c) (.view n esz E2) :=
  Cv.view (v := .own o s n c) (f := fun i j => E (s + i) j) (c := s + n ≤ N) (by simp only [src,hob]) hle hz fun i j hi hj => by rw [hE i j hi hj];exact Cv.free (hf i j)
theorem Cv.viewE {σ : List AObj} {n esz : Nat} {E E2 : Nat → Nat → AV} (hz : 0 < esz) (hE : ∀ i j,i < n → j < esz → E i j = E2 i j) (hf : ∀ i j,Free (E2 i j)) : Cv σ (.view n esz E) (.view n esz E2) :=
  Cv.view (v := .view n esz E) (f := E) (c := True) rfl trivial hz fun i j hi hj => by rw [hE i j hi hj];exact Cv.free (hf i j)
end
end Go.Ab
namespace Go.Ab
def _root_.Go.Loop.at (r : Loop) (s : LoopState) (p : Option Code) : Loop := { r with state := s, pending := p }
structure LoopOf (r : Loop) (ps : Array Tmp) (assign body : Code) (tc : Array Value) : Prop where
  ps : r.params = ps
  assign : r.assign = assign
  body : r.body = body
  tmps : r.tmps = tc
def setPs : List AV → List Nat → List AV → List AV
  | env, p :: ps, v :: vs => setPs (setN env p v) ps vs
  | env, _, _ => env
section
variable {P : Program} {Γ : Tab} {n : Nat} {rd : Rd}
theorem nthO_get : ∀ {σ : List AObj} {o : Nat} {a : AObj}, nthO σ o = a → a ≠ .dead → σ[o]? = some a
  | x :: _, 0, a, h, _ => by simpa [nthO] using h
  | x :: xs, o + 1, a, h, hl => by simp only [List.getElem?_cons_succ]; exact nthO_get (by simpa [nthO] using h) hl
  | [], o, a, h, hl => by simp [nthO] at h; exact absurd h.symm hl
theorem setPs_sound {ρ : Rho} {w : World} : ∀ {ps : List Nat} {vs : List AV} {xs : List Value} {env : List AV} {ts : Array Value},RvL ρ w env ts.toList → RvL ρ w vs xs → ps.length = xs.length →
    RvL ρ w (setPs env ps vs) ((ps.zip xs).foldl (fun t (p : Nat × Value) => t.setIfInBounds p.1 p.2) ts).toList
  | [], _, _, env, ts, h, _, _ => by simpa [setPs] using h
  | p :: ps, [], xs, env, ts, h, hv, hl => by
    cases xs with
    | nil => simp at hl
    | cons x xs => simp [RvL] at hv
  | p :: ps, v :: vs, [], env, ts, h, hv, hl => by simp [RvL] at hv
  | p :: ps, v :: vs, x :: xs, env, ts, h, hv, hl => by
    simp only [RvL] at hv
    simp only [setPs, List.zip_cons_cons, List.foldl_cons]
    refine setPs_sound ?_ hv.2 (by simpa using hl)
    rw [setN_eq, Array.toList_setIfInBounds]
    exact RvL.set hv.1 p h
def roundQ (P : Program) (n : Nat) (rd : Rd) (ops rest : List Oper) (K : St → Prop) (dst : Option Tmp) (l : Nat) (r : Loop) (ti : List Value) (lo hi : Nat) (ds : List Deferred) (e : Exit) (st : St) : Prop :=
  ∃ q j env', nthO st.σ q = .raw l (.loop (r.at .busy none)) ∧ nthO st.σ j = .ghost env' ti lo hi ds ∧
    match e with
    | .normal => TO P n (rd := rd) ops rest K ⟨setE env' dst (.imm (.bool true)),(st.σ.set q (.raw l (.loop (r.at .ready none)))).set j .dead⟩
    | .ret => TO P n (rd := rd) ops rest K ⟨setE env' dst (.imm (.bool false)),(st.σ.set q (.raw l (.loop (r.at .done (some .ret))))).set j .dead⟩
    | .exit id => TO P n (rd := rd) ops rest K ⟨setE env' dst (.imm (.bool false)),(st.σ.set q (.raw l (.loop (r.at .done (some (.exit id)))))).set j .dead⟩
    | _ => False
def assignQ (P : Program) (n : Nat) (body : Code) (l : Nat) (r : Loop) (Q : Exit → St → Prop) (st : St) : Prop :=
  ∃ q,nthO st.σ q = .raw l (.loop (r.at .ready none)) ∧ T P n (rd := .rnd l) body Q ⟨st.env,st.σ.set q (.raw l (.loop (r.at .busy none)))⟩
theorem RH.pushGhost {ρ : Rho} {w : World} {σ : List AObj} (h : RH ρ w σ) {vs : List AV} {xs : List Value} {lo hi : Nat} {ds : List Deferred} (hr : RvL ρ w vs xs) (hm : Marks ρ w lo hi ds) :
    RH (ρ ++ [none]) w (σ ++ [.ghost vs xs lo hi ds]) ∧ Step ρ w (ρ ++ [none]) w := by
  have hb : ∀ b, Rho.has (ρ ++ [none]) b → ρ.has b := by
    rintro b ⟨o, l, hl, rfl⟩
    rcases snoc_cases hl with ⟨h1, h2⟩ | ⟨_, h2⟩
    · exact ⟨o, l, h2, rfl⟩
    · cases h2
  have hs : Step ρ w (ρ ++ [none]) w := ⟨rfl,rfl,rfl,Nat.le_refl _,fun _ _ _ => rfl,List.prefix_append _ _,fun b hh => .inl (hb b hh)⟩
  refine ⟨⟨by simp [h.len],fun o l hl => ?_,fun o a ha => ?_,fun o o' l l' a a' hne h1 k1 h2 k2 r1 r2 => ?_,h.glob.step hs⟩,hs⟩
  · rcases snoc_cases hl with ⟨_, h2⟩ | ⟨_, h2⟩
    · exact h.lt o l h2
    · cases h2
  · rcases snoc_cases ha with ⟨_, h2⟩ | ⟨ho9, rfl⟩
    · exact RO.keep hs (h.obj o a h2) fun _ _ => rfl
    · exact ⟨RvL.mono hs _ hr, hm.step hs, by rw [show o = ρ.length from ho9.trans h.len.symm]; simp⟩
  · rcases snoc_cases h1 with ⟨_,g1⟩ | ⟨_,rfl⟩ <;> rcases snoc_cases h2 with ⟨_,g2⟩ | ⟨_,rfl⟩ <;> (try (simp [AObj.alive] at k1;done)) <;> (try (simp [AObj.alive] at k2;done))
    rcases snoc_cases r1 with ⟨_,s1⟩ | ⟨_,s1⟩ <;> rcases snoc_cases r2 with ⟨_,s2⟩ | ⟨_,s2⟩ <;> (try (cases s1;done)) <;> (try (cases s2;done))
    exact h.apart o o' l l' a a' hne g1 k1 g2 k2 s1 s2
theorem run_putRaw {ρ : Rho} {w : World} {σ : List AObj} (hH : RH ρ w σ) {q l : Nat} {ob : Obj} (hq : nthO σ q = .raw l ob) (ob2 : Obj) :
    RH ρ (w.putObj l ob2) (σ.set q (.raw l ob2)) ∧ Step ρ w ρ (w.putObj l ob2) ∧ w.heap[l]? = some ob := by
  have hg := nthO_get hq (by simp)
  obtain ⟨lc, hl, rfl, hh⟩ := hH.obj q _ hg
  have hlt : lc.b < w.heap.size := (Array.getElem?_eq_some_iff.1 hh).1
  have hold : ∀ b, b ≠ lc.b → (w.putObj lc.b ob2).heap[b]? = w.heap[b]? := fun b hb => World.putObj_heap_other hb
  have hs : Step ρ w ρ (w.putObj lc.b ob2) := Step.turn hl rfl rfl rfl (by simp) hold
  exact ⟨hH.turn hg rfl hl hs hold ⟨lc, hl, rfl, World.putObj_heap_same hlt⟩, hs, hh⟩
theorem nthO_set_ne : ∀ {σ : List AObj} {q j : Nat} {a : AObj}, q ≠ j → nthO (σ.set q a) j = nthO σ j
  | [], q, j, a, _ => by simp
  | x :: σ, 0, 0, a, h => absurd rfl h
  | x :: σ, 0, j + 1, a, _ => by simp [nthO]
  | x :: σ, q + 1, 0, a, _ => by simp [nthO]
  | x :: σ, q + 1, j + 1, a, h => by simpa [nthO] using nthO_set_ne (σ := σ) (a := a) (fun e => h (by rw [e]))
theorem TO_yield {ops rest : List Oper} {K : St → Prop} {o : Oper} {c : Call} {f : Operand} {env : List AV} {σ : List AObj} {l : Nat} {r : Loop} {ps : Array Tmp} {assign body : Code} {tc : Array Value} {envc : List AV} {lo hi : Nat} {ds : List Deferred}
    (hr : LoopOf r ps assign body tc) (q m : Nat) (hc : opCall o.op = some c) (hf : c.callee = .value f) (hv : us (opd env f) = .fn (.yield l) [] []) (hg : guardOf ops env o.guard = some none ∨ guardOf ops env o.guard = some (some true))
    (hq : nthO σ q = .raw l (.loop (r.at .ready none))) (hm : nthO σ m = .ghost envc tc.toList lo hi ds) (hps : ps.size = c.args.size) (hob : ug true (opd env f) ∧ oblig true env c.args.toList)
    (h : ∀ (ti : List Value) (lo' hi' : Nat) (ds' : List Deferred),
      T P n (rd := .rnd l) assign (thenQ (assignQ P n body l r (roundQ P n rd ops rest K o.dst l r ti lo' hi' ds')) (fun _ _ => False))
        ⟨setPs envc ps.toList (mapL (fun x => us (opd env x)) c.args.toList),σ ++ [.ghost env ti lo' hi' ds']⟩) (hnd : rd.isDf = false := by rfl) : TO P n (rd := rd) ops (o :: rest) K ⟨env,σ⟩ := by
  have hop : o.op = .call c := by
    cases hh : o.op <;> rw [hh] at hc <;> simp [opCall] at hc
    subst hc; rfl
  intro ρ0 W0 a w Q hn hR hQ
  obtain ⟨ρ, hst, hdf, henv, hH⟩ := hR
  refine wpListIn_stepR fun K' hK => ?_
  rw [if_pos (by rcases hg with hg | hg <;> rw [guardOf_sound henv hg] <;> rfl)]
  refine Oper.wpInR (fun c' e => by rw [hop] at e; cases e) ?_
  have hfv := us_sound rfl hob.1 (opd_sound hH.glob henv f)
  rw [hv] at hfv
  simp only [Rv] at hfv
  obtain ⟨fs, cs, hfe, h1, h2⟩ := hfv
  have hfs : fs = [] := by cases fs <;> simp [RvL] at h1 ⊢
  have hcs : cs = [] := by cases cs <;> simp [RvL] at h2 ⊢
  subst hfs; subst hcs
  have hargs := mapL_sound (ρ := ρ) (w := w) (r := fun x => us (opd env x)) (e := a.eval) (xs := c.args.toList) fun x hx => us_sound rfl (oblig_mem hob.2 x hx) (opd_sound hH.glob henv x)
  obtain ⟨hH1, hs1, hloop⟩ := run_putRaw hH hq (.loop (r.at .ready none))
  have hy := run_yield (P := P) (args := (c.args.map a.eval)) hloop (by simp [Loop.at, hr.ps, hps])
  have hrun : (execOp a.eval o).run P w = (Instr.yield l (c.args.map a.eval)).run P w := by
    unfold execOp
    rw [hop]
    simp only [resolve, hf, Sem.run_bind, hfe, Deferred.ofValue, Sem.run_pure, Result.andThen_ok, invoke]
    congr 2
    simp
  rw [hrun, hy, Oper.uponIn_round]
  refine ⟨rd.depth_none 0, ?_⟩
  have hgm := nthO_get hm (by simp)
  obtain ⟨hcenv, hcm, _⟩ := hH.obj m _ hgm
  -- the round begins
  obtain ⟨lo',hi',hdm,hback⟩ : ∃ lo' hi',Marks ρ w lo' hi' a.defers ∧ (∀ ρ' w',Marks ρ' w' lo' hi' a.defers → Mk rd ρ' W0 w' a.defers) := by
    cases rd
    · exact ⟨_, _, hdf, fun ρ' w' hm' => hm'.here⟩
    · refine ⟨0, 0, ?_, fun _ _ _ => hdf⟩
      simp only [Mk] at hdf; rw [hdf]; exact Marks.nil
    · refine ⟨0, 0, ?_, fun _ _ _ => hdf⟩
      simp only [Mk] at hdf; rw [hdf]; exact Marks.nil
    · cases hnd
  obtain ⟨hG, hsG⟩ := hH.pushGhost henv hdm
  have hrel : Rel (.rnd l) ρ0 W0 ⟨setPs envc ps.toList (mapL (fun x => us (opd env x)) c.args.toList),σ ++ [.ghost env a.tmps.toList lo' hi' a.defers]⟩
      { tmps := ((r.at .ready none).params.zip (c.args.map a.eval)).foldl (fun t (p,v) => t.setIfInBounds p v) (r.at .ready none).tmps,defers := [] } w := by
    refine ⟨ρ ++ [none], hst.trans hsG, rfl, RvL.mono hsG _ ?_, hG⟩
    have := setPs_sound (ps := ps.toList) (ts := tc) hcenv hargs (by simpa using hps)
    simp only [Loop.at, hr.ps, hr.tmps]
    rw [← Array.foldl_toList, Array.toList_zip, Array.toList_map]
    exact this
  have hasg := h a.tmps.toList lo' hi' a.defers ρ0 W0 _ w hn hrel
  have hfen : rd.fence.inRound l = (Rd.rnd l).fence := by cases rd <;> rfl
  refine roundIn_of_wpIn (rd.fn_all _) ?_
  rw [hfen]
  show ((r.at .ready none).assign).wpIn _ _ _ _ _ _
  rw [show (r.at .ready none).assign = assign from hr.assign, show (r.at .ready none).body = body from hr.body]
  refine wpIn_mono hasg fun e a1 w1 hq1 => ?_
  obtain ⟨st1, hq1, ρ1, hst1, hdf1, henv1, hH1'⟩ := hq1
  cases e with
  | normal =>
    obtain ⟨q1, hq1a, hbody⟩ := hq1
    obtain ⟨hH2, hs2, hl2⟩ := run_putRaw hH1' hq1a (.loop (r.at .busy none))
    refine ⟨_, run_beginRound hl2 rfl, ?_⟩
    have hrel2 : Rel (.rnd l) ρ0 W0 ⟨st1.env,st1.σ.set q1 (.raw l (.loop (r.at .busy none)))⟩ a1 (w1.putObj l (.loop (r.at .busy none))) :=
      ⟨ρ1, hst1.trans hs2, hdf1, RvL.mono hs2 _ henv1, hH2⟩
    refine wpIn_mono (hbody ρ0 W0 a1 _ hn hrel2) fun e2 a2 w2 hq2 => ?_
    obtain ⟨st2, ⟨q2, j2, env2, hq2a, hj2, hres⟩, ρ2, hst2, _, _, hH3⟩ := hq2
    have fin : ∀ (jump : Option Code) (s : LoopState),s = (if jump.isNone then .ready else .done) → (TO P n (rd := rd) ops rest K ⟨setE env2 o.dst (.imm (.bool jump.isNone)),(st2.σ.set q2 (.raw l (.loop (r.at s jump)))).set j2 .dead⟩) →
        ∃ v w', (Instr.endRound l jump).run P w2 = .ok v w' ∧ K' (a.put o.dst v) w' := by
      intro jump s hs hto
      obtain ⟨hH4, hs4, hl4⟩ := run_putRaw hH3 hq2a (.loop (r.at s jump))
      have hend := run_endRound (P := P) jump hl4
      refine ⟨_, _, hend, ?_⟩
      have hrec : ({ r.at .busy none with state := if jump.isNone then LoopState.ready else .done,pending := jump } : Loop) = r.at s jump := by
        simp only [Loop.at]
        rw [hs]
      rw [hrec]
      have hj4 : nthO (st2.σ.set q2 (.raw l (.loop (r.at s jump)))) j2 = .ghost env2 a.tmps.toList lo' hi' a.defers := by
        rw [nthO_set_ne, hj2]
        intro e; rw [e] at hq2a; rw [hq2a] at hj2; cases hj2
      obtain ⟨hge, hgm', _⟩ := hH4.obj j2 _ (nthO_get hj4 (by simp))
      refine hK _ _ (hto ρ0 W0 _ _ Q hn ⟨ρ2, hst2.trans hs4, ?_, put_sound hge (by simp [Rv]) _, hH4.kill j2⟩ hQ)
      have hmk : Mk rd ρ2 W0 (w2.putObj l (.loop (r.at s jump))) a.defers := hback _ _ hgm'
      cases o.dst <;> exact hmk
    cases e2 with
    | normal =>
      obtain ⟨v, w', h1, h2⟩ := fin none .ready rfl hres
      exact ⟨v, w', h1, h2⟩
    | ret =>
      obtain ⟨v, w', h1, h2⟩ := fin (some .ret) .done rfl hres
      exact ⟨v, w', h1, h2⟩
    | exit id =>
      obtain ⟨v, w', h1, h2⟩ := fin (some (.exit id)) .done rfl hres
      exact ⟨v, w', h1, h2⟩
    | goto _ => exact hres.elim
    | panic _ => exact hres.elim
    | outgrown => exact hres.elim
  | exit _ => exact hq1.elim
  | goto _ => exact hq1.elim
  | ret => exact hq1.elim
  | panic _ => exact hq1.elim
  | outgrown => exact hq1.elim
def iterQ (Q : Exit → St → Prop) (l : Nat) (r : Loop) (tc : List Value) (lo hi : Nat) (ds : List Deferred) (e : Exit) (st : St) : Prop :=
  match e with
  | .normal | .ret => ∃ q j env', nthO st.σ j = .ghost env' tc lo hi ds ∧
      ((nthO st.σ q = .raw l (.loop (r.at .ready none)) ∧ Q .normal ⟨env', (st.σ.set q .dead).set j .dead⟩) ∨
       (nthO st.σ q = .raw l (.loop (r.at .done (some .ret))) ∧ Q .ret ⟨env', (st.σ.set q .dead).set j .dead⟩) ∨
       (∃ id,nthO st.σ q = .raw l (.loop (r.at .done (some (.exit id)))) ∧ Q (.exit id) ⟨env',(st.σ.set q .dead).set j .dead⟩))
  | _ => False
theorem RH.pushRaw {ρ : Rho} {w : World} {σ : List AObj} (h : RH ρ w σ) (ob : Obj) :
    RH (ρ ++ [some ⟨w.heap.size,0,0,0⟩]) (w.alloc ob) (σ ++ [.raw w.heap.size ob]) ∧ Step ρ w (ρ ++ [some ⟨w.heap.size,0,0,0⟩]) (w.alloc ob) := by
  have hold : ∀ b, b < w.heap.size → (w.alloc ob).heap[b]? = w.heap[b]? := fun b hb => by
    show (w.heap.push ob)[b]? = _
    rw [Array.getElem?_push_lt hb]; simp [hb]
  have hs : Step ρ w (ρ ++ [some ⟨w.heap.size, 0, 0, 0⟩]) (w.alloc ob) := Step.push _ rfl rfl rfl rfl (by simp) hold
  exact ⟨h.push _ _ hs rfl (by simp) hold ⟨_, getElem?_snoc _ _, rfl, World.alloc_heap_new w ob⟩, hs⟩
theorem T_rangeFunc {g : Operand} {ps : Array Tmp} {assign body : Code} {Q : Exit → St → Prop} {env : List AV} {σ : List AObj} (hrd : rd = .fn ∨ ∃ l0 q0 r0,rd = .rnd l0 ∧ nthO σ q0 = .raw l0 (.loop r0)) {gf : FuncId} {caps : List AV} {fnI : Func} {cI : Code}
    (hg : us (opd env g) = .fn (.func gf) [] caps) (hu : ug true (opd env g)) (hf : P.funcs[gf]? = some fnI) (hb : fnI.body = some cI) (hok : fnOk P gf = true) (hres : fnI.results = #[])
    (h : ∀ (l : Nat) (r : Loop) (tc : Array Value) (lo hi : Nat) (ds : List Deferred), LoopOf r ps assign body tc →
      T P n (rd := .it) cI (iterQ Q l r tc.toList lo hi ds) ⟨(.fn (.yield l) [] [] :: caps) ++ List.replicate (fnI.ntmps - (caps.length + 1)) .top,σ ++ [.ghost env tc.toList lo hi ds,.raw l (.loop (r.at .ready none))]⟩) :
    T P n (rd := rd) (.rangeFunc g ps assign body) Q ⟨env, σ⟩ := by
  intro ρ0 W0 a w hn hR
  obtain ⟨ρ, hst, hdf, henv, hH⟩ := hR
  have hgv := us_sound rfl hu (opd_sound hH.glob henv g)
  rw [hg] at hgv
  simp only [Rv] at hgv
  obtain ⟨fs, cs, hge, h1, hcaps⟩ := hgv
  have hfs : fs = [] := by cases fs <;> simp [RvL] at h1 ⊢
  subst hfs
  -- the record is laid, whatever the frame is of
  have main : ∀ (fn : FuncId) (rec : LoopState → Option Code → Loop) (D : Nat) (wm : World) (mark : List Deferred),rec = (fun st pe=>{ state := st,pending := pe,fn,tmps := a.tmps,params := ps,assign,body,defers := D }) →
      RH ρ wm σ → Step ρ w ρ wm → Mk rd ρ W0 wm (mark ++ a.defers) →
      CallsIn rd.fence 0 P gf (#[.func (.yield wm.heap.size) #[] #[]] ++ cs.toArray) (wm.alloc (.loop (rec .ready none))) (rangePost rd.fence 0 P wm.heap.size (QC rd Q ρ0 W0) { a with defers := mark ++ a.defers }) := by
    intro fn rec D wm mark hrec hHm hsm hmk
    have hrecL : LoopOf (rec .ready none) ps assign body a.tmps := by rw [hrec]; exact ⟨rfl, rfl, rfl, rfl⟩
    have hat : ∀ s p, (rec .ready none).at s p = rec s p := fun s p => by rw [hrec]; rfl
    obtain ⟨lo,hi,hms,hback⟩ : ∃ lo hi,Marks ρ wm lo hi (mark ++ a.defers) ∧ (∀ ρ' w',Marks ρ' w' lo hi (mark ++ a.defers) → Mk rd ρ' W0 w' (mark ++ a.defers)) := by
      cases rd
      · exact ⟨_, _, hmk, fun ρ' w' hm' => hm'.here⟩
      · refine ⟨0, 0, ?_, fun _ _ _ => hmk⟩
        simp only [Mk] at hmk; rw [hmk]; exact Marks.nil
      · refine ⟨0, 0, ?_, fun _ _ _ => hmk⟩
        simp only [Mk] at hmk; rw [hmk]; exact Marks.nil
      · rcases hrd with h9 | ⟨_, _, _, h9, _⟩ <;> cases h9
    obtain ⟨hG, hsG⟩ := hHm.pushGhost (RvL.mono hsm _ henv) hms
    obtain ⟨hL, hsL⟩ := hG.pushRaw (.loop (rec .ready none))
    have hsAll := hsm.trans (hsG.trans hsL)
    have hT := h wm.heap.size (rec .ready none) a.tmps lo hi (mark ++ a.defers) hrecL ρ0 W0
      { tmps := (#[.func (.yield wm.heap.size) #[] #[]] ++ cs.toArray) ++ Array.replicate (fnI.ntmps - (#[Value.func (.yield wm.heap.size) #[] #[]] ++ cs.toArray).size) undef,defers := [] } (wm.alloc (.loop (rec .ready none))) hn (by
        refine ⟨_, hst.trans hsAll, rfl, ?_, by rw [hat]; have hL' := hL; rw [List.append_assoc σ] at hL'; exact hL'⟩
        have hlen : cs.length = caps.length := hcaps.length.symm
        simp only [Array.toList_append, Array.toList_replicate, List.cons_append]
        simp only [RvL, List.nil_append]
        refine ⟨?_, RvL.append (RvL.mono hsAll _ hcaps) ?_⟩
        · simp only [Rv]; exact ⟨[], [], rfl, by simp [RvL], by simp [RvL]⟩
        · have := RvL.tops (ρ := (ρ ++ [none]) ++ [some ⟨wm.heap.size,0,0,0⟩]) (w := wm.alloc (.loop (rec .ready none))) (List.replicate (fnI.ntmps - (#[Value.func (.yield wm.heap.size) #[] #[]] ++ cs.toArray).size) undef)
          simpa [hlen, Nat.add_comm] using this)
    refine Calls.inR ?_ rd
    refine calls_of_wp hf hb ?_
    refine wp_mono (wpIn_wide.1 hT) fun e a2 w2 hq => ?_
    obtain ⟨st2, hq, ρ2, hst2, hd2, _, hH2⟩ := hq
    have fin : (∃ q j env', nthO st2.σ j = .ghost env' a.tmps.toList lo hi (mark ++ a.defers) ∧
      ((nthO st2.σ q = .raw wm.heap.size (.loop ((rec .ready none).at .ready none)) ∧ Q .normal ⟨env',(st2.σ.set q .dead).set j .dead⟩) ∨
       (nthO st2.σ q = .raw wm.heap.size (.loop ((rec .ready none).at .done (some .ret))) ∧ Q .ret ⟨env',(st2.σ.set q .dead).set j .dead⟩) ∨
       (∃ id,nthO st2.σ q = .raw wm.heap.size (.loop ((rec .ready none).at .done (some (.exit id)))) ∧ Q (.exit id) ⟨env',(st2.σ.set q .dead).set j .dead⟩))) →
       a2.defers = [] ∧ ∃ v,(results fnI a2.tmps).run P w2 = .ok v w2 ∧ rangePost rd.fence 0 P wm.heap.size (QC rd Q ρ0 W0) { a with defers := mark ++ a.defers } (.returned v) w2 := by
      rintro ⟨q, j, env', hj, hor⟩
      refine ⟨hd2, .tuple #[], ?_, ?_⟩
      · unfold results
        rw [hres]
        simp
      have key : ∀ (s : LoopState) (p : Option Code) (e : Exit),s ≠ .busy → nthO st2.σ q = .raw wm.heap.size (.loop ((rec .ready none).at s p)) → Q e ⟨env',(st2.σ.set q .dead).set j .dead⟩ →
          ∃ w4,(Instr.endLoop wm.heap.size).run P w2 = .ok p w4 ∧ QC rd Q ρ0 W0 e { a with defers := mark ++ a.defers } w4 := by
        intro s p e hs hq hQ
        obtain ⟨hH4, hs4, hl4⟩ := run_putRaw hH2 hq (.loop ((rec .ready none).at .exhausted p))
        have hend := run_endLoop (P := P) hl4 hs
        refine ⟨_, hend, _, hQ, ?_⟩
        have hrec2 : ({ (rec .ready none).at s p with state := .exhausted } : Loop) = (rec .ready none).at .exhausted p := rfl
        rw [hrec2]
        have hj4 : nthO (st2.σ.set q (.raw wm.heap.size (.loop ((rec .ready none).at .exhausted p)))) j = .ghost env' a.tmps.toList lo hi (mark ++ a.defers) := by
          rw [nthO_set_ne, hj]
          intro e; rw [e] at hq; rw [hq] at hj; cases hj
        obtain ⟨hge, hgm', _⟩ := hH4.obj j _ (nthO_get hj4 (by simp))
        refine ⟨ρ2, hst2.trans hs4, hback _ _ hgm', hge, ?_⟩
        have := (hH4.kill q).kill j
        rwa [List.set_set] at this
      rcases hor with ⟨hq, hQ⟩ | ⟨hq, hQ⟩ | ⟨id, hq, hQ⟩
      · obtain ⟨w4, h4, hQC⟩ := key .ready none .normal (by simp) hq hQ
        exact ⟨none, w4, h4, hQC⟩
      · obtain ⟨w4, h4, hQC⟩ := key .done _ .ret (by simp) hq hQ
        exact ⟨_, w4, h4, wpIn_ret hQC⟩
      · obtain ⟨w4, h4, hQC⟩ := key .done _ (.exit id) (by simp) hq hQ
        exact ⟨_, w4, h4, wpIn_exit hQC⟩
    cases e <;> first | exact fin hq | exact hq.elim
  have hrun : ∀ l (w1 : World),(resolve a.eval (rangeCall g l) 0).run P w1 = .ok { target := .fn (.func gf) cs.toArray,args := #[.func (.yield l) #[] #[]] } w1 := by
    intro l w1
    simp only [resolve, hge]
    simp [go_sem]
  have hinv : ∀ l (w1 : World),(invoke (.fn (.func gf) cs.toArray) #[.func (.yield l) #[] #[]]).run P w1 = .ok (.enter gf (#[.func (.yield l) #[] #[]] ++ cs.toArray)) w1 := by
    intro l w1
    simp [invoke, go_sem, run_call hok]
  refine wpIn_rangeFunc fun fn hfn => ?_
  rcases hrd with rfl | ⟨l0, q0, r0, rfl, hq0⟩
  · -- an outermost loop
    have hkp := alloc_keep hH (.deferred (some []))
    have hmk : Mk .fn ρ W0 (w.alloc (.deferred (some []))) ([{ target := .collected w.heap.size,args := #[] }] ++ a.defers) := by
      have hm := hdf.step hkp.2
      refine ⟨fun d hd => ?_, ?_⟩
      · rcases List.mem_append.1 hd with hd | hd
        · simp only [List.mem_singleton] at hd
          refine ⟨w.heap.size, hd, hst.size, by simp, World.alloc_heap_new w _, ?_⟩
          rintro ⟨o, l, hl, hb⟩
          have := hH.lt o l hl
          omega
        · exact hm.1 d hd
      · rw [List.singleton_append, List.nodup_cons]
        refine ⟨fun hd => ?_, hm.2⟩
        obtain ⟨D, e, _, h2, _⟩ := hdf.1 _ hd
        simp at e
        omega
    refine ⟨w.heap.size + 1,[{ target := .collected w.heap.size,args := #[] }],_,{ target := .fn (.func gf) cs.toArray,args := #[.func (.yield (w.heap.size + 1)) #[] #[]] },_,gf,_,_,run_enterLoop_outer _ _ _ _ _,hrun _ _,fun f' _=>Rd.fn_all .fn f',hinv _ _,Rd.depth_none .fn 0,?_⟩
    have := main fn _ w.heap.size (w.alloc (.deferred (some []))) _ rfl hkp.1 hkp.2 hmk
    rw [World.size_alloc] at this
    exact this
  · obtain ⟨lc, hl, rfl, hh⟩ := hH.obj q0 _ (nthO_get hq0 (by simp))
    refine ⟨w.heap.size,[],_,{ target := .fn (.func gf) cs.toArray,args := #[.func (.yield w.heap.size) #[] #[]] },_,gf,_,_,run_enterLoop_inner hh _ _ _ _ _,hrun _ _,fun f' _=>Rd.fn_all _ f',hinv _ _,Rd.depth_none _ 0,?_⟩
    exact main fn _ r0.defers w [] rfl hH (Step.refl _ _) hdf
structure Shut (ρ : Rho) (w w' : World) : Prop where
  os : w'.os = w.os
  tape : w'.tape = w.tape
  output : w'.output = w.output
  size : w'.heap.size = w.heap.size
  same : ∀ b, w'.heap[b]? = w.heap[b]? ∨ (w.heap[b]? = some (.deferred (some [])) ∧ ¬ ρ.has b)
theorem Shut.cell {ρ : Rho} {w w' : World} (h : Shut ρ w w') {a : Addr} {v : Value} (hc : w.cell? a = some v) : w'.cell? a = some v := by
  rcases h.same a.block with e | ⟨e, _⟩
  · rw [World.cell?_of_block (w := w) e]; exact hc
  · unfold World.cell? at hc; rw [e] at hc; simp at hc
mutual
theorem Rv.shut {ρ : Rho} {w w' : World} (h : Shut ρ w w') : (v : AV) → {x : Value} → Rv ρ w v x → Rv ρ w' v x
  | .top, _, _ => trivial
  | .imm _, _, hx => hx
  | .gd g v, x, hx => by
    simp only [Rv] at hx ⊢
    split
    · rename_i hg; rw [if_pos hg] at hx; exact Rv.shut h v hx
    · rename_i hg; rw [if_neg hg] at hx; exact hx
  | .rptr n cell, x, hx => by
    simp only [Rv] at hx ⊢
    obtain ⟨ad, rfl, hlt, hn, hc⟩ := hx
    refine ⟨ad, rfl, by rw [h.size]; exact hlt, hn, fun j hj => ?_⟩
    obtain ⟨y, hy, h1, hr⟩ := hc j hj
    exact ⟨y, h.cell hy, h1, Rv.shut h (cell j) hr⟩
  | .view len esz elem, x, hx => by
    simp only [Rv] at hx ⊢
    obtain ⟨a, cap, rfl, hlc, hc⟩ := hx
    refine ⟨a, cap, rfl, hlc, fun hpos => ?_⟩
    obtain ⟨ad, rfl, hlt, hn, hc⟩ := hc hpos
    refine ⟨ad, rfl, by rw [h.size]; exact hlt, hn, fun i hi j hj => ?_⟩
    obtain ⟨y, hy, h1, hr⟩ := hc i hi j hj
    exact ⟨y, h.cell hy, h1, Rv.shut h (elem i j) hr⟩
  | .pv len esz _ elem, x, hx => by
    simp only [Rv] at hx ⊢
    obtain ⟨b, d, cap, c, ety, rfl, hlc, hn, hh, hc⟩ := hx
    have hh' : w'.heap[b]? = some (.cells c ety (0, 0)) := by
      rcases h.same b with e | ⟨e, _⟩
      · exact e.trans hh
      · rw [hh] at e; cases e
    refine ⟨b, d, cap, c, ety, rfl, hlc, hn, hh', fun i hi j hj => ?_⟩
    obtain ⟨y, hy, h1, hr⟩ := hc i hi j hj
    exact ⟨y, hy, h1, Rv.shut h (elem i j) hr⟩
  | .optr o i off, x, hx => by simpa only [Rv] using hx
  | .own o s n c, x, hx => by simpa only [Rv] using hx
  | .emp, _, hx => by simpa only [Rv] using hx
  | .bsl o off esz n c, x, hx => by simpa only [Rv] using hx
  | .map o, x, hx => by simpa only [Rv] using hx
  | .vmap kd ks vs, x, hx => by
    simp only [Rv] at hx ⊢
    obtain ⟨b, a, clock, rfl, hn, hh, h3, h4, h5, h6⟩ := hx
    have hh' : w'.heap[b]? = some (.map a clock) := by
      rcases h.same b with e | ⟨e, _⟩
      · exact e.trans hh
      · rw [hh] at e; cases e
    exact ⟨b, a, clock, rfl, hn, hh', h3, h4, h5, RvL.shut h vs h6⟩
  | .fn f first captured, x, hx => by
    simp only [Rv] at hx ⊢
    obtain ⟨fs, cs, rfl, h1, h2⟩ := hx
    exact ⟨fs, cs, rfl, RvL.shut h first h1, RvL.shut h captured h2⟩
  | .agg vs, x, hx => by
    simp only [Rv] at hx ⊢
    obtain ⟨cs, rfl, h1⟩ := hx
    exact ⟨cs, rfl, RvL.shut h vs h1⟩
  | .tup vs, x, hx => by
    simp only [Rv] at hx ⊢
    obtain ⟨cs, rfl, h1⟩ := hx
    exact ⟨cs, rfl, RvL.shut h vs h1⟩
  | .ifc t v, x, hx => by
    simp only [Rv] at hx ⊢
    obtain ⟨y, rfl, h1⟩ := hx
    exact ⟨y, rfl, Rv.shut h v h1⟩
theorem RvL.shut {ρ : Rho} {w w' : World} (h : Shut ρ w w') : (vs : List AV) → {xs : List Value} → RvL ρ w vs xs → RvL ρ w' vs xs
  | [], [], _ => by simp [RvL]
  | v :: vs, x :: xs, hx => by
    simp only [RvL] at hx ⊢
    exact ⟨Rv.shut h v hx.1, RvL.shut h vs hx.2⟩
  | [], _ :: _, hx => by simp [RvL] at hx
  | _ :: _, [], hx => by simp [RvL] at hx
end
def noGh : List AObj → Bool
  | [] => true
  | .ghost _ _ _ _ _ :: _ => false
  | _ :: σ => noGh σ
theorem noGh_get : ∀ {σ : List AObj}, noGh σ = true → ∀ {o : Nat} {vs xs lo hi ds}, σ[o]? ≠ some (.ghost vs xs lo hi ds)
  | [], _, o, _, _, _, _, _ => by simp
  | a :: σ, h, 0, _, _, _, _, _ => by intro e; simp at e; subst e; simp [noGh] at h
  | a :: σ, h, o + 1, _, _, _, _, _ => by
    simp only [List.getElem?_cons_succ]
    exact noGh_get (by cases a <;> simp [noGh] at h <;> exact h)
theorem RH.shut {ρ : Rho} {w w' : World} {σ : List AObj} (hH : RH ρ w σ) (h : Shut ρ w w') (hng : noGh σ = true) : RH ρ w' σ := by
  refine ⟨hH.len,fun o l hl => by rw [h.size];exact hH.lt o l hl,fun o a ha => ?_,hH.apart,fun g k vs hm => Rv.shut h _ (hH.glob g k vs hm)⟩
  have ro := hH.obj o a ha
  have hb : ∀ l : Loc, ρ[o]? = some (some l) → w'.heap[l.b]? = w.heap[l.b]? := fun l hl => by
    rcases h.same l.b with e | ⟨_, e⟩
    · exact e
    · exact absurd ⟨o, l, hl, rfl⟩ e
  cases a with
  | dead => trivial
  | box ety cells =>
    obtain ⟨l, c, hl, h0, h1, h2, hh, h3, hr⟩ := ro
    exact ⟨l, c, hl, h0, h1, h2, (hb l hl).trans hh, h3, RvL.shut h cells hr⟩
  | arr ety esz len elem =>
    rcases ro with ⟨l, c, hl, he, hh, hc, hd, hr⟩ | ⟨hn, h0⟩
    · refine .inl ⟨l, c, hl, he, (hb l hl).trans hh, hc, hd, fun i hi j hj => ?_⟩
      obtain ⟨y, hy, h1, hv⟩ := hr i hi j hj
      exact ⟨y, hy, h1, Rv.shut h _ hv⟩
    · exact .inr ⟨hn, h0⟩
  | mp sh es =>
    obtain ⟨l, a, clock, hl, hh, hb', hk, hks, hv⟩ := ro
    exact ⟨l, a, clock, hl, (hb l hl).trans hh, hb', hk, hks, RvL.shut h _ hv⟩
  | raw b ob =>
    obtain ⟨l, hl, rfl, hh⟩ := ro
    exact ⟨l, hl, rfl, (hb l hl).trans hh⟩
  | ghost vs xs lo hi ds => exact absurd ha (noGh_get hng)
theorem leaves_marks {fn : Func} {ρ : Rho} {lo : Nat} {R : Ending → World → Prop} {tmps : Array Value} : ∀ {ds : List Deferred} {w : World},Marks ρ w lo w.heap.size ds →
    (∀ w',Shut ρ w w' → (∀ b,b < lo → w'.heap[b]? = w.heap[b]?) → ∃ v,(results fn tmps).run P w' = .ok v w' ∧ R (.returned v) w') → LeavesInM Fence.wide 0 P fn tmps R ds .returning w
  | [], w, _, h => h w ⟨rfl, rfl, rfl, rfl, fun _ => .inl rfl⟩ fun _ _ => rfl
  | d :: ds, w, hm, h => by
    refine ⟨by simp, .inl ?_⟩
    obtain ⟨D, e, h1, h2, h3, h4⟩ := hm.1 d (by simp)
    have hsz : (w.putObj D (.deferred none)).heap.size = w.heap.size := by simp
    refine ⟨D,w.putObj D (.deferred none),by rw [e],run_takeDeferred h3,leaves_marks (ρ := ρ) (lo := lo) ⟨fun d' hd' => ?_,(List.nodup_cons.1 hm.2).2⟩ fun w' hs hlo => h w' ?_ ?_⟩
    · obtain ⟨D', e', g1, g2, g3, g4⟩ := hm.1 d' (by simp [hd'])
      refine ⟨D', e', g1, by rw [hsz]; exact g2, ?_, g4⟩
      rw [World.putObj_heap_other]
      · exact g3
      · intro eD
        exact (List.nodup_cons.1 hm.2).1 (by rw [e, ← eD, ← e']; exact hd')
    · refine ⟨hs.os, hs.tape, hs.output, hs.size.trans hsz, fun b => ?_⟩
      by_cases hb : b = D
      · subst hb; exact .inr ⟨h3, h4⟩
      · rcases hs.same b with q | ⟨q1, q2⟩
        · exact .inl (q.trans (World.putObj_heap_other hb))
        · rw [World.putObj_heap_other hb] at q1; exact .inr ⟨q1, q2⟩
    · intro b hb
      exact (hlo b hb).trans (World.putObj_heap_other (by omega))
def retGoalM (σ : List AObj) (Q : AV → List AObj → Prop) : Option (List AV × Prop) → Prop
  | some (vs, c) => c ∧ noGh σ = true ∧ Q (mkRes vs) σ
  | none => False
def retQM (Γ : Tab) (rs : List ResultVar) (Q : AV → List AObj → Prop) : Exit → St → Prop
  | .ret, st | .normal, st => retGoalM st.σ Q (eRes Γ st rs)
  | _, _ => False
theorem retQM_r {st : St} {rs : List ResultVar} {Q : AV → List AObj → Prop} (h : retGoalM st.σ Q (eRes Γ st rs)) : retQM Γ rs Q .ret st := h
theorem retQM_n {st : St} {rs : List ResultVar} {Q : AV → List AObj → Prop} (h : retGoalM st.σ Q (eRes Γ st rs)) : retQM Γ rs Q .normal st := h
theorem TC_of_TM (hΓ : TabOk P Γ) {f : FuncId} {fn : Func} {c : Code} {args : List AV} {σ : List AObj} {Q : AV → List AObj → Prop} (hf : P.funcs[f]? = some fn) (hb : fn.body = some c) (hok : fnOk P f = true)
    (h : T P σ.length (rd := .fn) c (retQM Γ fn.results.toList Q) ⟨args ++ List.replicate (fn.ntmps - args.length) .top,σ⟩) : TC P f args σ Q := by
  refine ⟨trivial, fun ρ w vs ha hH => .inl ⟨run_call hok w _, ?_⟩⟩
  refine (callsIn_wide (n := 0)).1 (callsIn_of_wp_marks hf hb trivial ?_)
  have hR : Rel .fn ρ w ⟨args ++ List.replicate (fn.ntmps - args.length) .top,σ⟩ { tmps := vs.toArray ++ Array.replicate (fn.ntmps - vs.toArray.size) undef,defers := [] } w := by
    refine ⟨ρ, Step.refl _ _, Marks.nil, ?_, hH⟩
    simp only [Array.toList_append, List.size_toArray, Array.toList_replicate]
    refine RvL.append ha ?_
    rw [ha.length]
    have := RvL.tops (ρ := ρ) (w := w) (List.replicate (fn.ntmps - vs.length) undef)
    simpa using this
  refine wpIn_mono (h ρ w _ w hH.len hR) fun e a w1 hq => ?_
  obtain ⟨st, hk, ρ', hst, hdf, henv, hH'⟩ := hq
  have fin : retGoalM st.σ Q (eRes Γ st fn.results.toList) → LeavesInM Fence.wide 0 P fn a.tmps (fun e w'=>∃ (ρ' : Rho) (v : AV) (σ' : List AObj) (x : Value),e = .returned x ∧ Q v σ' ∧ Rv ρ' w' v x ∧ RH ρ' w' σ' ∧ Step ρ w ρ' w') a.defers .returning w1 := by
    intro hk
    cases he : eRes Γ st fn.results.toList with
    | none => rw [he] at hk; exact hk.elim
    | some q =>
      obtain ⟨us', C⟩ := q
      rw [he] at hk
      obtain ⟨hc, hng, hq⟩ := hk
      refine leaves_marks hdf fun w' hs hlo => ?_
      have hH2 := hH'.shut hs hng
      obtain ⟨xs, h1, h2⟩ := eRes_sound hΓ (RvL.shut hs _ henv) hH2 he hc
      have hm : ∀ g : ResultVar → Sem Value,(∀ t,g (.tmp t) = pure (a.tmps.getD t undef)) → (∀ p t,g (.cell p t) = do loadVar t (← asAddr (a.tmps.getD p undef))) → (fn.results.mapM g).run P w' = .ok xs.toArray w' := by
        intro g g1 g2
        rw [Array.mapM_eq_mapM_toList, Sem.run_map, h1 g g1 g2]
        rfl
      have hst2 : Step ρ w ρ' w' := ⟨hs.os.trans hst.os,hs.tape.trans hst.tape,hs.output.trans hst.output,by rw [hs.size];exact hst.size,fun b hb hn=>(hlo b hb).trans (hst.same b hb hn),hst.pre,hst.own⟩
      refine ⟨(if h : xs.toArray.size = 1 then xs.toArray[0] else .tuple xs.toArray),?_,ρ',mkRes us',st.σ,_,rfl,hq,?_,hH2,hst2⟩
      · unfold results
        rw [Sem.run_bind, hm _ (fun _ => rfl) (fun _ _ => rfl)]
        rfl
      · match us', xs, h2 with
        | [], [], _ => simp only [mkRes, Rv]; exact ⟨[], by simp, by simp [RvL]⟩
        | [u], [x], h2 => simp only [RvL] at h2; simpa [mkRes] using h2.1
        | u1 :: u2 :: us', x1 :: x2 :: xs, h2 =>
          simp only [mkRes, Rv]
          exact ⟨x1 :: x2 :: xs, by simp, h2⟩
        | [], _ :: _, h2 => simp [RvL] at h2
        | _ :: _, [], h2 => simp [RvL] at h2
        | [_], _ :: _ :: _, h2 => simp [RvL] at h2
        | _ :: _ :: _, [_], h2 => simp [RvL] at h2
  cases e <;> first | exact fin hk | exact hk.elim
end
end Go.Ab
namespace Go.Ab
section
variable {P : Program} {n : Nat} {rd : Rd}
theorem gC_falseV {σ : List AObj} {N : AV → List AObj → Prop} {ca : Option (FuncId × List AV × Prop)} (v : AV) (h : N (.gd false v) σ) : gC P σ N false ca := .inl ⟨v,(fun h => nomatch h),h⟩
theorem assignQ_mk {body : Code} {l : Nat} {r : Loop} {Q : Exit → St → Prop} {st : St} (q : Nat) (h : nthO st.σ q = .raw l (.loop (r.at .ready none)))
    (k : T P n (rd := .rnd l) body Q ⟨st.env,st.σ.set q (.raw l (.loop (r.at .busy none)))⟩) : assignQ P n body l r Q st := ⟨q,h,k⟩
theorem roundQ_n {ops rest : List Oper} {K : St → Prop} {dst : Option Tmp} {l : Nat} {r : Loop} {ti : List Value} {lo hi : Nat} {ds : List Deferred} {st : St} {env' : List AV} (q j : Nat)
    (h1 : nthO st.σ q = .raw l (.loop (r.at .busy none))) (h2 : nthO st.σ j = .ghost env' ti lo hi ds)
    (k : TO P n (rd := rd) ops rest K ⟨setE env' dst (.imm (.bool true)),(st.σ.set q (.raw l (.loop (r.at .ready none)))).set j .dead⟩) : roundQ P n rd ops rest K dst l r ti lo hi ds .normal st := ⟨q,j,env',h1,h2,k⟩
theorem roundQ_r {ops rest : List Oper} {K : St → Prop} {dst : Option Tmp} {l : Nat} {r : Loop} {ti : List Value} {lo hi : Nat} {ds : List Deferred} {st : St} {env' : List AV} (q j : Nat)
    (h1 : nthO st.σ q = .raw l (.loop (r.at .busy none))) (h2 : nthO st.σ j = .ghost env' ti lo hi ds)
    (k : TO P n (rd := rd) ops rest K ⟨setE env' dst (.imm (.bool false)),(st.σ.set q (.raw l (.loop (r.at .done (some .ret))))).set j .dead⟩) : roundQ P n rd ops rest K dst l r ti lo hi ds .ret st := ⟨q,j,env',h1,h2,k⟩
theorem roundQ_e {ops rest : List Oper} {K : St → Prop} {dst : Option Tmp} {l : Nat} {r : Loop} {ti : List Value} {lo hi : Nat} {ds : List Deferred} {st : St} {env' : List AV} {id : Nat} (q j : Nat)
    (h1 : nthO st.σ q = .raw l (.loop (r.at .busy none))) (h2 : nthO st.σ j = .ghost env' ti lo hi ds)
    (k : TO P n (rd := rd) ops rest K ⟨setE env' dst (.imm (.bool false)),(st.σ.set q (.raw l (.loop (r.at .done (some (.exit id)))))).set j .dead⟩) : roundQ P n rd ops rest K dst l r ti lo hi ds (.exit id) st := ⟨q,j,env',h1,h2,k⟩
section
variable {Q : Exit → St → Prop} {l : Nat} {r : Loop} {tc : List Value} {lo hi : Nat} {ds : List Deferred} {st : St} {env' : List AV}
theorem iterQ_r (q j : Nat) (h1 : nthO st.σ q = .raw l (.loop (r.at .ready none))) (h2 : nthO st.σ j = .ghost env' tc lo hi ds) (k : Q .normal ⟨env',(st.σ.set q .dead).set j .dead⟩) : iterQ Q l r tc lo hi ds .ret st := ⟨q,j,env',h2,.inl ⟨h1,k⟩⟩
theorem iterQ_n (q j : Nat) (h1 : nthO st.σ q = .raw l (.loop (r.at .ready none))) (h2 : nthO st.σ j = .ghost env' tc lo hi ds) (k : Q .normal ⟨env',(st.σ.set q .dead).set j .dead⟩) : iterQ Q l r tc lo hi ds .normal st := ⟨q,j,env',h2,.inl ⟨h1,k⟩⟩
theorem iterQ_rr (q j : Nat) (h1 : nthO st.σ q = .raw l (.loop (r.at .done (some .ret)))) (h2 : nthO st.σ j = .ghost env' tc lo hi ds) (k : Q .ret ⟨env',(st.σ.set q .dead).set j .dead⟩) : iterQ Q l r tc lo hi ds .ret st := ⟨q,j,env',h2,.inr (.inl ⟨h1,k⟩)⟩
theorem iterQ_nr (q j : Nat) (h1 : nthO st.σ q = .raw l (.loop (r.at .done (some .ret)))) (h2 : nthO st.σ j = .ghost env' tc lo hi ds) (k : Q .ret ⟨env',(st.σ.set q .dead).set j .dead⟩) : iterQ Q l r tc lo hi ds .normal st := ⟨q,j,env',h2,.inr (.inl ⟨h1,k⟩)⟩
theorem iterQ_re {id : Nat} (q j : Nat) (h1 : nthO st.σ q = .raw l (.loop (r.at .done (some (.exit id))))) (h2 : nthO st.σ j = .ghost env' tc lo hi ds) (k : Q (.exit id) ⟨env',(st.σ.set q .dead).set j .dead⟩) : iterQ Q l r tc lo hi ds .ret st := ⟨q,j,env',h2,.inr (.inr ⟨id,h1,k⟩)⟩
theorem iterQ_ne {id : Nat} (q j : Nat) (h1 : nthO st.σ q = .raw l (.loop (r.at .done (some (.exit id))))) (h2 : nthO st.σ j = .ghost env' tc lo hi ds) (k : Q (.exit id) ⟨env',(st.σ.set q .dead).set j .dead⟩) : iterQ Q l r tc lo hi ds .normal st := ⟨q,j,env',h2,.inr (.inr ⟨id,h1,k⟩)⟩
end
attribute [go_sem] setPs retGoalM noGh
theorem TC.pushNones {f : FuncId} {args : List AV} {σ : List AObj} : ∀ (em : List (TypeId × Nat)) {Q : AV → List AObj → Prop},TC P f args σ Q → TC P f args σ (fun v σ'=>∃ σ0,Q v σ0 ∧ σ' = σ0 ++ em.map fun p=>.arr p.1 p.2 0 fun _ _=>.top)
  | [], _, h => h.mono fun v σ' hq => ⟨σ', hq, by simp⟩
  | p :: em,Q,h => (TC.pushNones em (h.pushNone p.1 p.2 fun _ _ => .top)).mono fun v σ' ⟨σ0,⟨σ1,hq,e1⟩,e⟩ => ⟨σ1,hq,by rw [e,e1];simp⟩
theorem Makes.gen (em : List (TypeId × Nat)) {f : FuncId} {args : List AV} {v2 : AV} {σ2 : List AObj} (hv : VF v2) (hσ : ∀ a ∈ σ2,PlO a)
    (h : TC P f args [] (fun v σ' => ∃ π : List Nat,π.Nodup ∧ (∀ o ∈ π,o < σ'.length + em.length) ∧ WkV π (σ' ++ em.map fun p => .arr p.1 p.2 0 fun _ _ => .top) v v2 ∧
      WkOL π (σ' ++ em.map fun p => .arr p.1 p.2 0 fun _ _ => .top) π σ2)) : Makes P f args v2 σ2 :=
  ⟨(h.pushNones em).weak fun v σ' ⟨σ0,⟨π,h1,h2,h3,h4⟩,e⟩ => ⟨π,v2,σ2,by simp,h1,fun o ho => by rw [e];simpa using h2 o ho,by rw [e];exact h3,by rw [e];exact h4,rfl,rfl⟩,hv,hσ⟩
theorem Makes.lstJ {f : FuncId} {args : List AV} {ety : TypeId} {esz n : Nat} {E : Nat → Nat → AV} {e : AV} (hE : ∀ i j,Pl (E i j)) (he : Pl e)
    (h : TC P f args [] (fun v σ'=>(v = .tup [.imm (.slice none 0 0),e] ∧ n = 0) ∨ ∃ k E',v = .tup [.own k 0 n none,e] ∧ nthO σ' k = .arr ety esz n E' ∧ ∀ i j,i < n → j < esz → E' i j = E i j)) : Makes P f args (.tup [.own 0 0 n none,e]) [.arr ety esz n E] := by
  refine ⟨(h.pushNone ety esz E).weak fun v σ' ⟨σ0,hq,hs⟩ => ?_,?_,fun a ha => by simp only [List.mem_singleton] at ha;subst ha;exact hE⟩
  · rcases hq with ⟨hv, h0⟩ | ⟨k, E', hv, hk, hEE⟩
    · refine ⟨[σ0.length], _, _, by simp, by simp, by simp [hs], ?_, ?_, rfl, rfl⟩
      · rw [hv, h0]
        exact WkV.tup (WkVL.cons (WkV.nil_own (.inl rfl)) (WkVL.cons (WkV.free (Pl.free _ he)) WkVL.nil))
      · rw [hs, h0]
        refine ⟨?_, fun _ => ?_, trivial⟩
        · rw [nthO_snoc]
          exact WkO.arr fun i j hi => by omega
        · rw [nthO_snoc]; rfl
    · have hk' := nthO_eq hk rfl
      have hlt : k < σ0.length := (List.getElem?_eq_some_iff.1 hk').1
      have hk2 : nthO σ' k = .arr ety esz n E' := by
        rw [hs]
        exact nthO_of_get (by rw [List.getElem?_append_left hlt]; exact hk')
      refine ⟨[k], _, _, by simp, by simp, by simp [hs]; omega, ?_, ?_, rfl, rfl⟩
      · rw [hv]
        exact WkV.tup (WkVL.cons (WkV.own rfl (by simp)) (WkVL.cons (WkV.free (Pl.free _ he)) WkVL.nil))
      · refine ⟨?_, fun _ => by rw [hk2]; rfl, trivial⟩
        rw [hk2]
        exact WkO.arr fun i j hi hj => by rw [hEE i j hi hj]; exact WkV.free (Pl.free _ (hE i j))
  · simp only [VF, VFL, and_true, true_and]
    exact Pl.VF _ he
theorem Makes.lst1J {f : FuncId} {args : List AV} {ety : TypeId} {esz n : Nat} {E : Nat → Nat → AV} (hE : ∀ i j,Pl (E i j))
    (h : TC P f args [] (fun v σ'=>(v = .imm (.slice none 0 0) ∧ n = 0) ∨ ∃ k E',v = .own k 0 n none ∧ nthO σ' k = .arr ety esz n E' ∧ ∀ i j,i < n → j < esz → E' i j = E i j)) : Makes P f args (.own 0 0 n none) [.arr ety esz n E] := by
  refine ⟨(h.pushNone ety esz E).weak fun v σ' ⟨σ0,hq,hs⟩ => ?_,trivial,fun a ha => by simp only [List.mem_singleton] at ha;subst ha;exact hE⟩
  rcases hq with ⟨hv, h0⟩ | ⟨k, E', hv, hk, hEE⟩
  · refine ⟨[σ0.length], _, _, by simp, by simp, by simp [hs], ?_, ?_, rfl, rfl⟩
    · rw [hv, h0]
      exact WkV.nil_own (.inl rfl)
    · rw [hs, h0]
      refine ⟨?_, fun _ => ?_, trivial⟩
      · rw [nthO_snoc]
        exact WkO.arr fun i j hi => by omega
      · rw [nthO_snoc]; rfl
  · have hk' := nthO_eq hk rfl
    have hlt : k < σ0.length := (List.getElem?_eq_some_iff.1 hk').1
    have hk2 : nthO σ' k = .arr ety esz n E' := by
      rw [hs]
      exact nthO_of_get (by rw [List.getElem?_append_left hlt]; exact hk')
    refine ⟨[k], _, _, by simp, by simp, by simp [hs]; omega, ?_, ?_, rfl, rfl⟩
    · rw [hv]
      exact WkV.own rfl (by simp)
    · refine ⟨?_, fun _ => by rw [hk2]; rfl, trivial⟩
      rw [hk2]
      exact WkO.arr fun i j hi hj => by rw [hEE i j hi hj]; exact WkV.free (Pl.free _ (hE i j))
end
end Go.Ab
namespace Go.Ab
def liveAt (o : Nat) : List Nat → List AObj → Bool
  | p :: π, a :: σ => (a.alive && Nat.beq p o) || liveAt o π σ
  | _, _ => false
def dupB : List Nat → List AObj → Bool
  | o :: π, a :: σ => (!a.alive || !liveAt o π σ) && dupB π σ
  | _, _ => true
theorem liveAt_get : ∀ {π : List Nat} {σ : List AObj} {o j : Nat} {b : AObj},π[j]? = some o → σ[j]? = some b → b.alive = true → liveAt o π σ = true
  | p :: π, a :: σ, o, 0, b, h1, h2, h3 => by
    simp at h1 h2
    subst h1; subst h2
    simp [liveAt, h3, Nat.beq_refl]
  | p :: π, a :: σ, o, j + 1, b, h1, h2, h3 => by
    simp only [List.getElem?_cons_succ] at h1 h2
    simp [liveAt, liveAt_get h1 h2 h3]
  | [], _, _, _, _, h1, _, _ => by simp at h1
  | _ :: _, [], _, _, _, _, h2, _ => by simp at h2
theorem dupB_lt : ∀ {π : List Nat} {σ : List AObj} {o i j : Nat} {a b : AObj},dupB π σ = true → i < j → π[i]? = some o → π[j]? = some o → σ[i]? = some a → σ[j]? = some b → a.alive = true → b.alive = true → False
  | p :: π, x :: σ, o, 0, j + 1, a, b, h, _, h1, h2, h3, h4, ha, hb => by
    simp at h1 h3
    simp only [List.getElem?_cons_succ] at h2 h4
    subst h1; subst h3
    simp [dupB, ha, liveAt_get h2 h4 hb] at h
  | p :: π, x :: σ, o, i + 1, j + 1, a, b, h, hij, h1, h2, h3, h4, ha, hb => by
    simp only [List.getElem?_cons_succ] at h1 h2 h3 h4
    simp only [dupB, Bool.and_eq_true] at h
    exact dupB_lt h.2 (by omega) h1 h2 h3 h4 ha hb
  | [], _, _, _, _, _, _, _, _, h1, _, _, _, _, _ => by simp at h1
  | _ :: _, [], _, _, _, _, _, _, _, _, _, h3, _, _, _ => by simp at h3
  | _ :: _, _ :: _, _, _, 0, _, _, _, hij, _, _, _, _, _, _ => by omega
section
variable {P : Program} {n : Nat} {rd : Rd}
theorem RH.pullM (π : List Nat) {σ σ2 : List AObj} (hd : dupB π σ2 = true) (hb : ∀ o ∈ π,o < σ.length) (hσ : WkOL π σ π σ2) {ρ : Rho} {w : World} (h4 : RH ρ w σ) : RH (pull π ρ) w σ2 := by
  refine ⟨by simp [pull,hσ.length],fun o l hl => ?_,fun o' a' ha' => ?_,fun o o' l l' b b' hne hb1 hk1 hb2 hk2 r1 r2 => ?_,h4.glob.sub fun _ hb => pull_has hb⟩
  · obtain ⟨q, _, h⟩ := pull_inv hl
    exact h4.lt q l h
  · obtain ⟨o, ho, hw, _⟩ := WkOL.get hσ ha'
    have hlt : o < σ.length := hb o (List.mem_of_getElem? ho)
    have hso : σ[o]? = some (nthO σ o) := by
      have key : ∀ (l : List AObj) (i : Nat), i < l.length → l[i]? = some (nthO l i) := by
        intro l
        induction l with
        | nil => intro i hi; simp at hi
        | cons x xs ih => intro i hi;cases i with | zero => simp [nthO] | succ i => simpa [nthO] using ih i (by simpa using hi)
      exact key _ _ hlt
    exact hw.sound h4 ho (h4.obj o _ hso)
  · obtain ⟨q1, p1, s1⟩ := pull_inv r1
    obtain ⟨q2, p2, s2⟩ := pull_inv r2
    obtain ⟨o1, e1, _, a1⟩ := WkOL.get hσ hb1
    obtain ⟨o2, e2, _, a2⟩ := WkOL.get hσ hb2
    rw [p1] at e1
    rw [p2] at e2
    simp only [Option.some.injEq] at e1 e2
    subst e1; subst e2
    have hne' : q1 ≠ q2 := by
      intro e
      subst e
      rcases Nat.lt_or_gt_of_ne hne with h | h
      · exact dupB_lt hd h p1 p2 hb1 hb2 hk1 hk2
      · exact dupB_lt hd h p2 p1 hb2 hb1 hk2 hk1
    exact h4.apart q1 q2 l l' _ _ hne' (nthO_eq rfl (a1 hk1)) (a1 hk1) (nthO_eq rfl (a2 hk2)) (a2 hk2) s1 s2
theorem Wk.introM (π : List Nat) {st st2 : St} (hn : π.take n = List.range n) (hd : dupB π st2.σ = true) (hb : ∀ o ∈ π,o < st.σ.length) (henv : WkVL π st.σ st.env st2.env) (hσ : WkOL π st.σ π st2.σ) : Wk n st st2 := by
  intro rd ρ0 W0 a w hlen hR
  obtain ⟨ρ, h1, h2, h3, h4⟩ := hR
  refine ⟨pull π ρ, ?_, h2.sub fun _ hb => pull_has hb, henv _ _ _ h4 h3, ?_⟩
  · refine ⟨h1.os, h1.tape, h1.output, h1.size, h1.same, ?_, fun b hb' => h1.own b (pull_has hb')⟩
    obtain ⟨t, ht⟩ := h1.pre
    have hle : n ≤ π.length := by
      have := congrArg List.length hn
      simp at this
      omega
    have e : (pull π ρ).take n = ρ0 := by
      rw [pull, ← List.map_take, hn]
      apply List.ext_getElem?
      intro i
      by_cases hi : i < n
      · have : ρ[i]? = ρ0[i]? := by rw [← ht, List.getElem?_append_left (by omega)]
        simp only [List.getElem?_map, List.getElem?_range hi, Option.map_some, this]
        rw [List.getElem?_eq_getElem (by omega)]
        rfl
      · rw [List.getElem?_eq_none (by simp; omega), List.getElem?_eq_none (by omega)]
    rw [← e]
    exact List.take_prefix _ _
  · exact RH.pullM π hd hb hσ h4
theorem TC.weakM {f : FuncId} {args : List AV} {σ : List AObj} {Q Q2 : AV → List AObj → Prop} (h : TC P f args σ Q)
    (hq : ∀ v σ',Q v σ' → ∃ (π : List Nat) (v2 : AV) (σ2 : List AObj),π.take σ.length = List.range σ.length ∧ dupB π σ2 = true ∧ (∀ o ∈ π,o < σ'.length) ∧ WkV π σ' v v2 ∧ WkOL π σ' π σ2 ∧ Q2 v2 σ2) : TC P f args σ Q2 :=
  ⟨h.1, fun ρ w vs ha hH => (h.2 ρ w vs ha hH).mono fun e w' ⟨ρ', v, σ', x, he, hv, hr, hH', hs⟩ => by
    obtain ⟨π, v2, σ2, h1, h2, h3, h4, h5, h6⟩ := hq v σ' hv
    have hw : Wk σ.length ⟨[v], σ'⟩ ⟨[v2], σ2⟩ := Wk.introM π h1 h2 h3 (WkVL.cons h4 WkVL.nil) h5
    have hrel : Rel .it ρ w ⟨[v], σ'⟩ { tmps := #[x], defers := [] } w' := ⟨ρ', hs, rfl, by simp [RvL, hr], hH'⟩
    obtain ⟨ρ2, q1, _, q3, q4⟩ := hw .it ρ w _ w' hH.len hrel
    simp only [RvL, and_true] at q3
    exact ⟨ρ2, v2, σ2, x, he, h6, q3, q4, q1⟩⟩
end
end Go.Ab
namespace Go.Ab
end Go.Ab
namespace Go.Ab
structure Lf (p : Prop) : Prop where
  ok : p
structure Sl (p : Prop) : Prop where
  ok : p
def TurnsAt (P : Program) (k : FuncId) (π : List Nat) (args0 : List AV) (σ0 : List AObj) (v1 : AV) (σ1 : List AObj) : Prop := π = π ∧ Turns P k args0 σ0 v1 σ1
theorem TurnsAt.mk {P : Program} {k : FuncId} {args0 : List AV} {σ0 : List AObj} {v1 : AV} {σ1 : List AObj} (π : List Nat) (h : Turns P k args0 σ0 v1 σ1) : TurnsAt P k π args0 σ0 v1 σ1 := ⟨rfl,h⟩
theorem callGoal_turnsA {P : Program} {σ σ0 σ1 : List AObj} {next : AV → List AObj → Prop} {k : FuncId} {args args0 : List AV} {C : Prop} {v1 : AV} {π : List Nat} (h : TurnsAt P k π args0 σ0 v1 σ1) (hC : C) (hd : π.Nodup) (hb : ∀ q ∈ π,q < σ.length ∧ (nthO σ q).alive = true)
    (hargs : WkVL π σ args args0) (hσ : WkOL π σ π σ0) (hn : next (renV π σ.length v1) (putO π σ (σ1.map (renO π σ.length)))) : callGoal P σ next (some (k,args,C)) :=
  callGoal_turns π hC h.2 hd hb hargs hσ hn
end Go.Ab
namespace Go.Ab
open Go.ChangeShapes Go.WideShapes Go.ChangeAt Go.RowKit
section
variable {H : Type} {enc : TypeId × Value → H} {P : Program} {Γ : Tab} {w : World} {sp : Nat → Bool} {held : Bool}
theorem glob_tab {g : Nat} {k : IntKind} {zs : List Int} {W : World} (hn : 0 < zs.length)
    (hc : ∀ i : Nat,i < zs.length → W.cell? ⟨g,i,none⟩ = some (.int k (zs.getD i 0))) : Rv [] W (.rptr zs.length (gcell k zs)) (.pointer (some ⟨g,0,none⟩)) := by
  simp only [Rv]
  refine ⟨⟨g,0,none⟩,rfl,block_lt (hc 0 hn),not_has_nil,fun j hj => ⟨_,by rw [add_lit,Nat.zero_add];exact hc j hj,rfl,?_⟩⟩
  simp [gcell, Rv]
end
end Go.Ab
namespace Go.Ab
section
variable {P : Program} {Γ : Tab} {n : Nat} {rd : Rd}
variable {σ : List AObj} {next N : AV → List AObj → Prop} {k : FuncId} {args : List AV} {C : Prop} {v : AV} {g : Bool}
end
end Go.Ab
