/-
  Slices whose capacity is taken as it is; calls that turn some of the caller's objects; two slices that share no memory.
-/
import Derived.Test.YtnomenmakhielaaAb18
import Derived.Lib.Overlaps
namespace Go.Ab
section
variable {P : Program} {Γ : Tab}

/-- An object told in another way. -/
theorem RH.chg {ρ : Rho} {w : World} {σ : List AObj} (h : RH ρ w σ) {o : Nat} {a a' : AObj} (ho : σ[o]? = some a) (hal : a.alive = true) (ro : RO ρ w o a') : RH ρ w (σ.set o a') := by
  refine ⟨by simp [h.len], h.lt, fun o' b hb => ?_, fun o1 o2 l1 l2 a1 a2 hne h1 k1 h2 k2 r1 r2 => ?_, h.glob⟩
  · rw [List.getElem?_set] at hb
    split at hb
    · rename_i heq
      subst heq
      split at hb
      · simp at hb; subst hb; exact ro
      · cases hb
    · exact h.obj o' b hb
  · have back : ∀ (q : Nat) (b : AObj), (σ.set o a')[q]? = some b → b.alive = true → ∃ b', σ[q]? = some b' ∧ b'.alive = true := by
      intro q b hb hk
      rw [List.getElem?_set] at hb
      split at hb
      · rename_i heq; subst heq; exact ⟨a, ho, hal⟩
      · exact ⟨b, hb, hk⟩
    obtain ⟨b1, q1, p1⟩ := back o1 a1 h1 k1
    obtain ⟨b2, q2, p2⟩ := back o2 a2 h2 k2
    exact h.apart o1 o2 l1 l2 b1 b2 hne q1 p1 q2 p2 r1 r2

theorem RvL_mid {ρ : Rho} {w : World} {v : AV} {us2 : List AV} : ∀ {us1 : List AV} {vs : List Value}, RvL ρ w (us1 ++ v :: us2) vs → ∃ xs x ys, vs = xs ++ x :: ys ∧ RvL ρ w us1 xs ∧ Rv ρ w v x ∧ RvL ρ w us2 ys
  | [], [], h => by simp [RvL] at h
  | [], x :: xs, h => by
    simp only [List.nil_append, RvL] at h
    exact ⟨[], x, xs, rfl, by simp [RvL], h.1, h.2⟩
  | u :: us, [], h => by simp [RvL] at h
  | u :: us, x :: xs, h => by
    simp only [List.cons_append, RvL] at h
    obtain ⟨as, y, bs, rfl, h1, h2, h3⟩ := RvL_mid h.2
    exact ⟨x :: as, y, bs, rfl, by simp only [RvL]; exact ⟨h.1, h1⟩, h2, h3⟩

theorem RvL_join {ρ : Rho} {w : World} {v : AV} {us1 us2 : List AV} {x : Value} {xs ys : List Value} (h1 : RvL ρ w us1 xs) (h2 : Rv ρ w v x) (h3 : RvL ρ w us2 ys) : RvL ρ w (us1 ++ v :: us2) (xs ++ x :: ys) :=
  RvL.append h1 (by simp only [RvL]; exact ⟨h2, h3⟩)

/-- The elements of a slice and, behind them, its spare room. -/
def withRoom (n : Nat) (e : Nat → Nat → AV) (i j : Nat) : AV := if i < n then e i j else .top

/-- An own slice, its capacity taken as it is, its spare room as elements of which nothing is told. -/
theorem TC_room {f : FuncId} {us1 us2 : List AV} {o n esz : Nat} {ety : TypeId} {e : Nat → Nat → AV} {σ : List AObj} {Q : AV → List AObj → Prop} (hob : nthO σ o = .arr ety esz n e)
    (h : ∀ c, n ≤ c → TC P f (us1 ++ .own o 0 n (some c) :: us2) (σ.set o (.arr ety esz c (withRoom n e))) Q) : TC P f (us1 ++ .own o 0 n none :: us2) σ Q := by
  refine ⟨trivial, fun ρ w vs ha hH => ?_⟩
  obtain ⟨xs, x, ys, rfl, h1, h2, h3⟩ := RvL_mid ha
  have hso := nthO_eq hob rfl
  simp only [Rv] at h2
  rcases h2 with ⟨l, cap, hl, rfl, hn, hfit, _⟩ | ⟨rfl, ⟨a, rfl⟩, _⟩
  · refine (h cap hn).2 ρ w _ (RvL_join h1 ?_ h3) (hH.chg hso rfl ?_)
    · simp only [Rv]
      exact .inl ⟨l, cap, hl, rfl, hn, hfit, by simp⟩
    · rcases hH.obj o _ hso with ⟨l', c, hl', q1, q2, q3, q4, q5⟩ | ⟨hno, _⟩
      · rw [hl] at hl'
        simp only [Option.some.injEq] at hl'
        subst hl'
        rw [Nat.zero_add] at hfit
        refine .inl ⟨l, c, hl, q1, q2, q3, by rw [← q1]; exact hfit, fun i hi j hj => ?_⟩
        unfold withRoom
        by_cases hin : i < n
        · rw [if_pos hin]; exact q5 i hin j hj
        · rw [if_neg hin]
          have hlt : l.d + i * esz + j < c.size := by
            have := Nat.mul_le_mul_right esz (Nat.succ_le_of_lt hi)
            rw [Nat.succ_mul] at this
            rw [q1] at hfit
            rw [q3.1]; omega
          exact ⟨c[l.d + i * esz + j], by simp [hlt], q3.2 _ (by simp), trivial⟩
      · rw [hl] at hno; simp at hno
  · refine (h 0 (Nat.le_refl _)).2 ρ w _ (RvL_join h1 ?_ h3) (hH.chg hso rfl ?_)
    · simp only [Rv]
      exact .inr ⟨trivial, ⟨a, rfl⟩, by simp⟩
    · rcases hH.obj o _ hso with ⟨l', c, hl', q1, q2, q3, q4, q5⟩ | ⟨hno, _⟩
      · exact .inl ⟨l', c, hl', q1, q2, q3, q4, fun i hi => by omega⟩
      · exact .inr ⟨hno, rfl⟩

/-! ### Calls that turn some of the caller's objects -/

/-- The caller's number of the callee's object. -/
def renN : List Nat → Nat → Nat → Nat
  | [], n, o => n + o
  | q :: _, _, 0 => q
  | _ :: π, n, o + 1 => renN π n o

mutual
def renV (π : List Nat) (n : Nat) : AV → AV
  | .gd g v => .gd g (renV π n v)
  | .optr o i off => .optr (renN π n o) i off
  | .own o s k c => .own (renN π n o) s k c
  | .bsl o a b c d => .bsl (renN π n o) a b c d
  | .map o => .map (renN π n o)
  | .fn f a b => .fn f (renL π n a) (renL π n b)
  | .agg vs => .agg (renL π n vs)
  | .tup vs => .tup (renL π n vs)
  | v => v
def renL (π : List Nat) (n : Nat) : List AV → List AV
  | [] => []
  | v :: vs => renV π n v :: renL π n vs
end

def renO (π : List Nat) (n : Nat) : AObj → AObj
  | .box ety cells => .box ety (renL π n cells)
  | a => a

/-- Objects that name no memory that is only read; what many cells hold is plain. -/
def VFO : AObj → Prop
  | .dead => True
  | .box _ cells => VFL cells
  | .arr _ _ _ e => ∀ i j, Pl (e i j)
  | .mp _ es => PlL (es.map (·.2))

def putO : List Nat → List AObj → List AObj → List AObj
  | [], σ, σ1 => σ ++ σ1
  | q :: π, σ, a :: σ1 => putO π (σ.set q a) σ1
  | _ :: _, σ, [] => σ

theorem renL_length (π : List Nat) (n : Nat) : ∀ vs : List AV, (renL π n vs).length = vs.length
  | [] => rfl
  | _ :: vs => by simp [renL, renL_length π n vs]

theorem renN_lt : ∀ {π : List Nat} {n o : Nat}, o < π.length → π[o]? = some (renN π n o)
  | [], _, _, h => by simp at h
  | q :: π, n, 0, _ => by simp [renN]
  | q :: π, n, o + 1, h => by simpa [renN] using renN_lt (by simpa using h)
theorem renN_ge : ∀ {π : List Nat} {n o : Nat}, π.length ≤ o → renN π n o = n + (o - π.length)
  | [], n, o, _ => by simp [renN]
  | q :: π, n, 0, h => by simp at h
  | q :: π, n, o + 1, h => by rw [renN, renN_ge (by simpa using h)]; simp

theorem putO_length : ∀ {π : List Nat} {σ σ1 : List AObj}, π.length ≤ σ1.length → (putO π σ σ1).length = σ.length + (σ1.length - π.length)
  | [], σ, σ1, _ => by simp [putO]
  | q :: π, σ, [], h => by simp at h
  | q :: π, σ, a :: σ1, h => by rw [putO, putO_length (by simpa using h)]; simp

theorem putO_old : ∀ {π : List Nat} {σ σ1 : List AObj} {q : Nat}, q ∉ π → q < σ.length → (putO π σ σ1)[q]? = σ[q]?
  | [], σ, σ1, q, _, hq => by rw [putO, List.getElem?_append_left hq]
  | p :: π, σ, [], q, _, _ => by rw [putO]
  | p :: π, σ, a :: σ1, q, hn, hq => by
    rw [putO, putO_old (by simp at hn; exact hn.2) (by simpa using hq), List.getElem?_set_ne (by simp at hn; exact fun e => hn.1 e.symm)]

theorem putO_new : ∀ {π : List Nat} {σ σ1 : List AObj} {o : Nat}, π.Nodup → (∀ q ∈ π, q < σ.length) → o < σ1.length → (putO π σ σ1)[renN π σ.length o]? = σ1[o]?
  | [], σ, σ1, o, _, _, _ => by rw [putO, renN, List.getElem?_append_right (by omega)]; congr 1; omega
  | p :: π, σ, [], o, _, _, h => by simp at h
  | p :: π, σ, a :: σ1, 0, hd, hb, _ => by
    simp only [List.nodup_cons] at hd
    rw [putO, renN, putO_old hd.1 (by simpa using hb p (by simp))]
    simp [hb p (by simp)]
  | p :: π, σ, a :: σ1, o + 1, hd, hb, h => by
    simp only [List.nodup_cons] at hd
    have := putO_new (π := π) (σ := σ.set p a) (σ1 := σ1) (o := o) hd.2 (fun q hq => by simpa using hb q (by simp [hq])) (by simpa using h)
    simpa [putO, renN] using this

/-- Each of the objects afterwards is one of the callee's, or one of the caller's that it was not handed. -/
theorem putO_cases {π : List Nat} {σ σ1 : List AObj} (hd : π.Nodup) (hb : ∀ q ∈ π, q < σ.length) (hl : π.length ≤ σ1.length) {p : Nat} {a : AObj} (h : (putO π σ σ1)[p]? = some a) :
    (∃ o, o < σ1.length ∧ p = renN π σ.length o ∧ σ1[o]? = some a) ∨ (p ∉ π ∧ p < σ.length ∧ σ[p]? = some a) := by
  have hp := (List.getElem?_eq_some_iff.1 h).1
  rw [putO_length hl] at hp
  by_cases hlt : p < σ.length
  · by_cases hm : p ∈ π
    · obtain ⟨i, hi, rfl⟩ := List.mem_iff_getElem.1 hm
      have h1 := renN_lt (π := π) (n := σ.length) hi
      rw [List.getElem?_eq_getElem hi] at h1
      simp only [Option.some.injEq] at h1
      have hi2 : i < σ1.length := by omega
      refine .inl ⟨i, hi2, h1, ?_⟩
      rw [h1, putO_new hd hb hi2] at h
      exact h
    · exact .inr ⟨hm, hlt, by rw [← putO_old (σ1 := σ1) hm hlt]; exact h⟩
  · have e : p = renN π σ.length (π.length + (p - σ.length)) := by rw [renN_ge (by omega)]; omega
    have hi2 : π.length + (p - σ.length) < σ1.length := by omega
    refine .inl ⟨_, hi2, e, ?_⟩
    rw [e, putO_new hd hb hi2] at h
    exact h

mutual
theorem VF.ren {ρ1 ρ2 : Rho} {w : World} {π : List Nat} {n : Nat} (hr : ∀ (o : Nat) (l : Loc), ρ1[o]? = some (some l) → ρ2[renN π n o]? = some (some l)) : (v : AV) → VF v → ∀ {x}, Rv ρ1 w v x → Rv ρ2 w (renV π n v) x
  | .top, _, _, _ => trivial
  | .imm _, _, _, h => h
  | .gd g v, hf, x, h => by
    simp only [VF] at hf
    simp only [renV, Rv] at h ⊢
    split
    · rename_i hg; rw [if_pos hg] at h; exact VF.ren hr v hf h
    · rename_i hg; rw [if_neg hg] at h; exact h
  | .rptr _ _, hf, _, _ => by simp [VF] at hf
  | .view _ _ _, hf, _, _ => by simp [VF] at hf
  | .pv _ _ _ _, hf, _, _ => by simp [VF] at hf
  | .optr o i off, _, x, h => by
    simp only [renV, Rv] at h ⊢
    obtain ⟨l, hl, rfl⟩ := h
    exact ⟨l, hr o l hl, rfl⟩
  | .own o s k c, _, x, h => by
    simp only [renV, Rv] at h ⊢
    rcases h with ⟨l, cap, hl, h1⟩ | h1
    · exact .inl ⟨l, cap, hr o l hl, h1⟩
    · exact .inr h1
  | .emp, _, _, h => by simpa only [Rv, renV] using h
  | .bsl o _ _ _ _, _, x, h => by
    simp only [renV, Rv] at h ⊢
    obtain ⟨hc, l, hl, rfl⟩ := h
    exact ⟨hc, l, hr o l hl, rfl⟩
  | .map o, _, x, h => by
    simp only [renV, Rv] at h ⊢
    obtain ⟨l, hl, rfl⟩ := h
    exact ⟨l, hr o l hl, rfl⟩
  | .fn f a b, hf, x, h => by
    simp only [VF] at hf
    simp only [renV, Rv] at h ⊢
    obtain ⟨fs, cs, rfl, h1, h2⟩ := h
    exact ⟨fs, cs, rfl, VFL.ren hr a hf.1 h1, VFL.ren hr b hf.2 h2⟩
  | .agg vs, hf, x, h => by
    simp only [VF] at hf
    simp only [renV, Rv] at h ⊢
    obtain ⟨cs, rfl, h1⟩ := h
    exact ⟨cs, rfl, VFL.ren hr vs hf h1⟩
  | .tup vs, hf, x, h => by
    simp only [VF] at hf
    simp only [renV, Rv] at h ⊢
    obtain ⟨cs, rfl, h1⟩ := h
    exact ⟨cs, rfl, VFL.ren hr vs hf h1⟩
theorem VFL.ren {ρ1 ρ2 : Rho} {w : World} {π : List Nat} {n : Nat} (hr : ∀ (o : Nat) (l : Loc), ρ1[o]? = some (some l) → ρ2[renN π n o]? = some (some l)) : (vs : List AV) → VFL vs → ∀ {xs}, RvL ρ1 w vs xs → RvL ρ2 w (renL π n vs) xs
  | [], _, [], _ => by simp [renL, RvL]
  | v :: vs, hf, x :: xs, h => by
    simp only [VFL] at hf
    simp only [renL, RvL] at h ⊢
    exact ⟨VF.ren hr v hf.1 h.1, VFL.ren hr vs hf.2 h.2⟩
  | [], _, _ :: _, h => by simp [RvL] at h
  | _ :: _, _, [], h => by simp [RvL] at h
end

theorem VFO.ren {ρ1 ρ2 : Rho} {w : World} {π : List Nat} {n o : Nat} {a : AObj} (hr : ∀ (o : Nat) (l : Loc), ρ1[o]? = some (some l) → ρ2[renN π n o]? = some (some l)) (hn : ρ1[o]? = some none → ρ2[renN π n o]? = some none) (hp : VFO a) (h : RO ρ1 w o a) : RO ρ2 w (renN π n o) (renO π n a) := by
  cases a with
  | dead => trivial
  | box ety cells =>
    obtain ⟨l, c, hl, h0, h1, h2, h3, h4, h5⟩ := h
    exact ⟨l, c, hr o l hl, h0, by rw [renL_length]; exact h1, by rw [renL_length]; exact h2, h3, h4, VFL.ren hr _ hp h5⟩
  | arr ety esz len e =>
    rcases h with ⟨l, c, hl, he, hh, hc, hd, hr2⟩ | ⟨hno, h0⟩
    · refine .inl ⟨l, c, hr o l hl, he, hh, hc, hd, fun i hi j hj => ?_⟩
      obtain ⟨y, a, b, c⟩ := hr2 i hi j hj
      exact ⟨y, a, b, Pl.any _ (hp i j) c⟩
    · exact .inr ⟨hn hno, h0⟩
  | mp sh es =>
    obtain ⟨l, a, clock, hl, hh, hb, hks, he, hv⟩ := h
    exact ⟨l, a, clock, hr o l hl, hh, hb, hks, he, PlL.any _ hp hv⟩

/-- A function is handed the objects π of the caller's, by its own numbers; the others are left as they were. -/
theorem TC.sub {f : FuncId} {args args0 : List AV} {σ σ0 : List AObj} {Q : AV → List AObj → Prop} (π : List Nat) (h : TC P f args0 σ0 Q) (hd : π.Nodup) (hb : ∀ q ∈ π, q < σ.length ∧ (nthO σ q).alive = true)
    (hargs : WkVL π σ args args0) (hσ : WkOL π σ π σ0) (hp : ∀ v σ1, Q v σ1 → VF v ∧ ∀ a ∈ σ1, VFO a) :
    TC P f args σ (fun v σ' => ∃ v1 σ1, Q v1 σ1 ∧ v = renV π σ.length v1 ∧ σ' = putO π σ (σ1.map (renO π σ.length))) :=
  ⟨trivial, fun ρ w vs ha hH => by
    have hπl : ∀ q ∈ π, q < σ.length := fun q hq => (hb q hq).1
    have hH0 : RH (pull π ρ) w σ0 := RH.pullH π hd hπl hσ hH
    have hl0 : σ0.length = π.length := hσ.length.symm
    refine (h.2 (pull π ρ) w vs (hargs ρ w vs hH ha) hH0).mono fun e w' ⟨ρ1, v, σ1, x, he, hq, hv, hH1, hs⟩ => ?_
    obtain ⟨hvf, hpo⟩ := hp v σ1 hq
    have hpl : (pull π ρ).length = π.length := by simp [pull]
    have hle : π.length ≤ σ1.length := by
      have := hs.pre.length_le
      rw [hpl, hH1.len] at this
      exact this
    have hle1 : π.length ≤ ρ1.length := by rw [hH1.len]; exact hle
    have hget : ∀ o, o < π.length → ρ1[o]? = (pull π ρ)[o]? := fun o ho => by
      obtain ⟨t, ht⟩ := hs.pre
      rw [← ht, List.getElem?_append_left (by omega)]
    have hpullAt : ∀ (o q : Nat), π[o]? = some q → (pull π ρ)[o]? = some (ρ[q]?.getD none) := fun o q hq => by simp [pull, hq]
    -- the numbers afterwards
    have hr : ∀ (o : Nat) (y : Option Loc), ρ1[o]? = some y → (ρ ++ ρ1.drop π.length)[renN π σ.length o]? = some y := fun o y hy => by
      by_cases ho : o < π.length
      · have h1 := renN_lt (π := π) (n := σ.length) ho
        have hlt : renN π σ.length o < ρ.length := by rw [hH.len]; exact hπl _ (List.mem_of_getElem? h1)
        rw [List.getElem?_append_left hlt]
        rw [hget o ho, hpullAt o _ h1, List.getElem?_eq_getElem hlt] at hy
        simp only [Option.getD_some] at hy
        rw [List.getElem?_eq_getElem hlt]
        exact hy
      · rw [renN_ge (by omega), List.getElem?_append_right (by rw [hH.len]; omega), List.getElem?_drop, ← hy]
        congr 1
        rw [hH.len]; omega
    have hrS : ∀ (o : Nat) (l : Loc), ρ1[o]? = some (some l) → (ρ ++ ρ1.drop π.length)[renN π σ.length o]? = some (some l) := fun o l hl => hr o _ hl
    have hhas : ∀ b, Rho.has (ρ ++ ρ1.drop π.length) b → ρ.has b ∨ Rho.has ρ1 b := fun b hbb => by
      obtain ⟨o, l, hl, rfl⟩ := hbb
      rw [List.getElem?_append] at hl
      split at hl
      · exact .inl ⟨o, l, hl, rfl⟩
      · rw [List.getElem?_drop] at hl; exact .inr ⟨_, l, hl, rfl⟩
    have hst : Step ρ w (ρ ++ ρ1.drop π.length) w' := ⟨hs.os, hs.tape, hs.output, hs.size, fun b hbl hn => hs.same b hbl fun hh => hn (pull_has hh), List.prefix_append _ _, fun b hbb => by
      rcases hhas b hbb with h0 | h0
      · exact .inl h0
      · rcases hs.own b h0 with h2 | h2
        · exact .inl (pull_has h2)
        · exact .inr h2⟩
    -- a living object that was not handed over lies apart from what the callee had
    have hfar : ∀ (q : Nat) (a : AObj) (l : Loc), q ∉ π → σ[q]? = some a → a.alive = true → ρ[q]? = some (some l) → ¬ Rho.has ρ1 l.b := fun q a l hqn ha hal hl hb1 => by
      rcases hs.own l.b hb1 with h2 | h2
      · obtain ⟨o', l', hl', hbb⟩ := h2
        obtain ⟨p, hp1, hlp⟩ := pull_inv hl'
        have hpm := List.mem_of_getElem? hp1
        exact hH.apart p q l' l _ _ (fun e => hqn (e ▸ hpm)) (nthO_eq rfl (hb p hpm).2) (hb p hpm).2 ha hal hlp hl hbb
      · exact absurd (hH.lt q l hl) (by omega)
    have hsb : ∀ q ∈ π, q < σ.length := hπl
    have hml : π.length ≤ (σ1.map (renO π σ.length)).length := by simpa using hle
    have halr : ∀ a : AObj, (renO π σ.length a).alive = a.alive := fun a => by cases a <;> rfl
    refine ⟨ρ ++ ρ1.drop π.length, renV π σ.length v, putO π σ (σ1.map (renO π σ.length)), x, he, ⟨v, σ1, hq, rfl, rfl⟩, VF.ren hrS v hvf hv, ⟨?_, fun o l hl => ?_, fun p a ha => ?_, fun p p' l l' a a' hne h1 k1 h2 k2 r1 r2 => ?_, hH.glob.step hst⟩, hst⟩
    · rw [putO_length hml]; simp [hH.len, hH1.len]
    · rw [List.getElem?_append] at hl
      split at hl
      · exact Nat.lt_of_lt_of_le (hH.lt o l hl) hs.size
      · rw [List.getElem?_drop] at hl; exact hH1.lt _ l hl
    · rcases putO_cases hd hsb hml ha with ⟨o, ho, rfl, h1⟩ | ⟨hqn, hqlt, h1⟩
      · simp only [List.getElem?_map] at h1
        cases hs1 : σ1[o]? with
        | none => simp [hs1] at h1
        | some a1 =>
          simp only [hs1, Option.map_some, Option.some.injEq] at h1
          subst h1
          exact VFO.ren hrS (fun hn => hr o _ hn) (hpo a1 (List.mem_of_getElem? hs1)) (hH1.obj o a1 hs1)
      · cases hal : a.alive with
        | false => cases a <;> simp [AObj.alive] at hal; trivial
        | true =>
          refine RO.keep hst (hH.obj p a h1) fun l hl => hs.same _ (hH.lt p l hl) fun hh => ?_
          obtain ⟨o', l', hl', hbb⟩ := hh
          obtain ⟨q, hq1, hlq⟩ := pull_inv hl'
          have hqm := List.mem_of_getElem? hq1
          exact hH.apart q p l' l _ _ (fun e => hqn (e ▸ hqm)) (nthO_eq rfl (hb q hqm).2) (hb q hqm).2 h1 hal hlq hl hbb
    · have side : ∀ (p : Nat) (a : AObj) (l : Loc), (putO π σ (σ1.map (renO π σ.length)))[p]? = some a → a.alive = true → (ρ ++ ρ1.drop π.length)[p]? = some (some l) →
          (∃ o a1, p = renN π σ.length o ∧ σ1[o]? = some a1 ∧ a1.alive = true ∧ ρ1[o]? = some (some l)) ∨ (p ∉ π ∧ σ[p]? = some a ∧ ρ[p]? = some (some l)) := by
        intro p a l hpa hal hpl
        rcases putO_cases hd hsb hml hpa with ⟨o, ho, rfl, h1⟩ | ⟨hqn, hqlt, h1⟩
        · simp only [List.getElem?_map] at h1
          cases hs1 : σ1[o]? with
          | none => simp [hs1] at h1
          | some a1 =>
            simp only [hs1, Option.map_some, Option.some.injEq] at h1
            subst h1
            have hor : o < ρ1.length := by rw [hH1.len]; simpa using ho
            have := hr o _ (List.getElem?_eq_getElem hor)
            rw [hpl] at this
            simp only [Option.some.injEq] at this
            exact .inl ⟨o, a1, rfl, hs1, by rw [halr] at hal; exact hal, by rw [List.getElem?_eq_getElem hor, ← this]⟩
        · exact .inr ⟨hqn, h1, by rw [List.getElem?_append_left (by rw [hH.len]; exact hqlt)] at hpl; exact hpl⟩
      rcases side p a l h1 k1 r1 with ⟨o, a1, rfl, q1, q2, q3⟩ | ⟨q1, q2, q3⟩ <;> rcases side p' a' l' h2 k2 r2 with ⟨o', a1', rfl, s1, s2, s3⟩ | ⟨s1, s2, s3⟩
      · exact hH1.apart o o' l l' a1 a1' (fun e => hne (by rw [e])) q1 q2 s1 s2 q3 s3
      · exact fun e => hfar p' a' l' s1 s2 k2 s3 ⟨o, l, q3, e⟩
      · exact fun e => hfar p a l q1 q2 k1 q3 ⟨o', l', s3, e.symm⟩
      · exact hH.apart p p' l l' a a' hne q2 k1 s2 k2 q3 s3⟩

theorem callGoal_sub {σ σ0 : List AObj} {next : AV → List AObj → Prop} {k : FuncId} {args args0 : List AV} {C : Prop} {Q : AV → List AObj → Prop} (π : List Nat) (hC : C) (h : TC P k args0 σ0 Q) (hd : π.Nodup) (hb : ∀ q ∈ π, q < σ.length ∧ (nthO σ q).alive = true)
    (hargs : WkVL π σ args args0) (hσ : WkOL π σ π σ0) (hp : ∀ v σ1, Q v σ1 → VF v ∧ ∀ a ∈ σ1, VFO a) (hn : ∀ v σ1, Q v σ1 → next (renV π σ.length v) (putO π σ (σ1.map (renO π σ.length)))) : callGoal P σ next (some (k, args, C)) :=
  ⟨hC, _, TC.sub π h hd hb hargs hσ hp, fun v σ' ⟨v1, σ1, hq, hv, hs⟩ => by subst hv; subst hs; exact hn v1 σ1 hq⟩

theorem run_overlaps_empty (w : World) (tS tR e : TypeId) (ht : P.underlying tS = some (.slice e)) (size : Nat) (hz : ∀ w, (Go.sizeOf e).run P w = .ok size w) (a b : Option Addr) (la ca lb cb : Nat) (h0 : la = 0 ∨ lb = 0 ∨ size = 0) :
    (Extern.SlicesOverlaps.overlaps #[tS, tS] #[tR] #[.slice a la ca, .slice b lb cb]).run P w = .ok (.bool false) w := by
  change Sem.run P (α := Value) (do
    let some t := (#[tS, tS] : Array TypeId)[0]? | stuck "slices.overlaps: no parameter types"
    let .slice elem ← underlying t | stuck "slices.overlaps: slice type expected"
    let size ← sizeOf elem
    match a, b with
    | some a, some b =>
      if la = 0 ∨ lb = 0 ∨ size = 0 then pure (Value.bool false)
      else if a.block != b.block && (← frozen a) && (← frozen b) then unsupported .addressObserved
      else do
        if a.block != b.block then do
          noView a; noView b
          if ← mayBeOne a b then return Value.bool ((← choose (.extern "sameAddr.stringBytes" 2)) == 1)
        pure (Value.bool (a.block == b.block && a.off < b.off + lb * size && b.off < a.off + la * size))
    | _, _ => pure (Value.bool false)) w = _
  cases a <;> cases b <;> simp [run_underlying ht, hz, h0]

/-- slices.overlaps: a plain slice that is only read, and an own one. -/
theorem TC_overlaps {f : FuncId} {fn : Func} {tS tR e : TypeId} {te : TI} {Γ : Tab} (hΓ : TabOk P Γ) (hf : P.funcs[f]? = some fn) (hname : (fn.name == "runtime.NumGoroutine") = false) (hb : fn.body.isNone = true) (hfn : Extern.findNext fn = none)
    (hfe : Extern.find fn = some (Extern.SlicesOverlaps.overlaps #[tS, tS] #[tR])) (ht : P.underlying tS = some (.slice e)) (hte : Γ.get e = some te) {n esz : Nat} {c : Option Nat} {el : Nat → Nat → AV} {o s k : Nat} {c' : Option Nat} {ety : TypeId} {ez len : Nat} {el' : Nat → Nat → AV} {σ : List AObj}
    (hob : nthO σ o = .arr ety ez len el') (hez : ez = te.size) : TC P f [.pv n esz c el, .own o s k c'] σ (fun v σ' => v = .imm (.bool false) ∧ σ' = σ) := by
  refine ⟨trivial, fun ρ w vs ha hH => .inr ?_⟩
  match vs, ha with
  | [x, y], ha =>
    simp only [RvL, and_true] at ha
    obtain ⟨hx, hy⟩ := ha
    have hte := hΓ e te hte
    simp only [Rv] at hx
    obtain ⟨b, d, cap, cs, ety', rfl, ⟨hlc, _⟩, hnb, hh, hcs⟩ := hx
    have fin : ∀ r : Value, (Extern.SlicesOverlaps.overlaps #[tS, tS] #[tR] #[.slice (some ⟨b, d, none⟩) n cap, r]).run P w = .ok (.bool false) w → (callFunc f [.slice (some ⟨b, d, none⟩) n cap, r].toArray).run P w = .ok (.value (.bool false)) w := by
      intro r hr
      rw [run_callFunc_extern hf hname hb hfn hfe]
      simp [hr]
    simp only [Rv] at hy
    refine ⟨.bool false, w, fin _ ?_, ρ, .imm (.bool false), σ, _, rfl, ⟨rfl, rfl⟩, by simp [Rv], hH, Step.refl _ _⟩
    have none0 : ∀ a : Option Addr, (Extern.SlicesOverlaps.overlaps #[tS, tS] #[tR] #[.slice (some ⟨b, d, none⟩) n cap, .slice a 0 0]).run P w = .ok (.bool false) w := by
      intro a
      exact run_overlaps_empty w tS tR e ht te.size hte.sizeOf _ _ _ _ _ _ (.inr (.inl rfl))
    rcases hy with ⟨l, cap', hl, rfl, hk, hfit, _⟩ | ⟨_, ⟨a, rfl⟩, _⟩
    · by_cases h0 : n = 0 ∨ k = 0 ∨ te.size = 0
      · exact run_overlaps_empty w tS tR e ht te.size hte.sizeOf _ _ _ _ _ _ h0
      · simp only [not_or] at h0
        rcases hH.obj o _ (nthO_eq hob rfl) with ⟨l', cs', hl', q1, q2, q3, _⟩ | ⟨hno, _⟩
        · rw [hl] at hl'
          simp only [Option.some.injEq] at hl'
          subst hl'
          have hne : b ≠ l.b := fun e => hnb ⟨o, l, hl, e.symm⟩
          have hcs' : cs'.size ≠ 0 := by
            rw [q3.1]
            have h1 : 0 < (s + cap') * l.esz := Nat.mul_pos (by omega) (by rw [q1, hez]; omega)
            omega
          exact Lib.run_overlaps_apart (P := P) w tS tR e ht te.size hte.sizeOf ⟨b, d, none⟩ ⟨l.b, l.d + s * l.esz, none⟩ n cap k cap' hne ety' ety cs.size cs'.size (by simp [World.shape?, hh]) (by simp [World.shape?, q2]) hcs' (by simp [World.frozen?, hh]) (by simp [World.frozen?, hh])
        · rw [hl] at hno; simp at hno
    · exact none0 a
  | [], ha => simp [RvL] at ha
  | [_], ha => simp [RvL] at ha
  | _ :: _ :: _ :: _, ha => simp [RvL] at ha

/-- The slice that is answered gets a number of its own. -/
theorem TC.move {f : FuncId} {args : List AV} {σ : List AObj} {Q Q2 : AV → List AObj → Prop} (h : TC P f args σ Q)
    (hq : ∀ v σ', Q v σ' → Q2 v σ' ∨ ∃ o s k c ety esz n e, v = .own o s k c ∧ nthO σ' o = .arr ety esz n e ∧ Q2 (.own σ'.length s k c) (σ'.set o .dead ++ [.arr ety esz n e])) : TC P f args σ Q2 :=
  ⟨trivial, fun ρ w vs ha hH => (h.2 ρ w vs ha hH).mono fun _ w' ⟨ρ', v, σ', x, he, hv, hr, hH', hs⟩ => by
    rcases hq v σ' hv with h1 | ⟨o, s, k, c, ety, esz, n, e, rfl, hob, h1⟩
    · exact ⟨ρ', v, σ', x, he, h1, hr, hH', hs⟩
    · have hso := nthO_eq hob rfl
      rcases hH'.obj o _ hso with ⟨l, cs, hl, q1, q2, q3, q4, q5⟩ | ⟨hno, rfl⟩
      · obtain ⟨g1, g2⟩ := RH.rehome hH' (l2 := l) (a' := .arr ety esz n e) hso rfl hl rfl (Step.refl ρ' w') (fun _ _ => rfl) (fun hst => by
          refine .inl ⟨l, cs, getElem?_snoc _ _, q1, q2, q3, q4, fun i hi j hj => ?_⟩
          obtain ⟨y, a, b, c⟩ := q5 i hi j hj
          exact ⟨y, a, b, Rv.mono hst _ c⟩)
        refine ⟨_, _, _, x, he, h1, ?_, g1, hs.trans g2⟩
        simp only [Rv] at hr ⊢
        rcases hr with ⟨l', cap, hl', hx⟩ | hr
        · rw [hl] at hl'
          simp only [Option.some.injEq] at hl'
          subst hl'
          exact .inl ⟨l, cap, by rw [← hH'.len]; exact getElem?_snoc _ _, hx⟩
        · exact .inr hr
      · obtain ⟨g1, g2⟩ := (hH'.kill o).pushNone ety esz e
        refine ⟨_, _, _, x, he, h1, ?_, g1, hs.trans g2⟩
        simp only [Rv] at hr ⊢
        rcases hr with ⟨l', cap, hl', _⟩ | hr
        · rw [hl'] at hno; simp at hno
        · exact .inr hr⟩

/-- The contract of a function that turns objects that it is handed, and may make others. -/
def Turns (P : Program) (k : FuncId) (args0 : List AV) (σ0 : List AObj) (v1 : AV) (σ1 : List AObj) : Prop := TC P k args0 σ0 (fun v σ' => v = v1 ∧ σ' = σ1) ∧ VF v1 ∧ ∀ a ∈ σ1, VFO a

theorem callGoal_turns {σ σ0 σ1 : List AObj} {next : AV → List AObj → Prop} {k : FuncId} {args args0 : List AV} {C : Prop} {v1 : AV} (π : List Nat) (hC : C) (h : Turns P k args0 σ0 v1 σ1) (hd : π.Nodup) (hb : ∀ q ∈ π, q < σ.length ∧ (nthO σ q).alive = true)
    (hargs : WkVL π σ args args0) (hσ : WkOL π σ π σ0) (hn : next (renV π σ.length v1) (putO π σ (σ1.map (renO π σ.length)))) : callGoal P σ next (some (k, args, C)) :=
  callGoal_sub π hC h.1 hd hb hargs hσ (fun v s ⟨e1, e2⟩ => by subst e1; subst e2; exact h.2) fun v s ⟨e1, e2⟩ => by subst e1; subst e2; exact hn

theorem dCall_turns {σ σ0 σ1 : List AObj} {N : AV → List AObj → Prop} {k : FuncId} {args args0 : List AV} {C : Prop} {v1 : AV} (π : List Nat) (hC : C) (h : Turns P k args0 σ0 v1 σ1) (hd : π.Nodup) (hb : ∀ q ∈ π, q < σ.length ∧ (nthO σ q).alive = true)
    (hargs : WkVL π σ args args0) (hσ : WkOL π σ π σ0) (hn : N (renV π σ.length v1) (putO π σ (σ1.map (renO π σ.length)))) : dCall P σ N (some (k, args, C)) (some none) :=
  dCall_any _ _ (callGoal_turns π hC h hd hb hargs hσ ⟨rfl, rfl⟩) hn
attribute [go_sem] renN renV renL renO putO

theorem nthO_of_get : ∀ {σ : List AObj} {k : Nat} {a : AObj}, σ[k]? = some a → nthO σ k = a
  | [], _, _, h => by simp at h
  | x :: σ, 0, a, h => by simpa [nthO] using h
  | x :: σ, k + 1, a, h => by
    simp only [List.getElem?_cons_succ] at h
    simpa [nthO] using nthO_of_get h
theorem nthO_snoc (σ : List AObj) (a : AObj) : nthO (σ ++ [a]) σ.length = a := nthO_of_get (getElem?_snoc _ _)
mutual
theorem Pl.VF : (v : AV) → Pl v → Go.Ab.VF v
  | .top, _ => trivial
  | .imm _, _ => trivial
  | .gd _ v, h => by simp only [Pl] at h; simp only [Go.Ab.VF]; exact Pl.VF v h
  | .rptr _ _, hf => by simp [Pl] at hf
  | .view _ _ _, hf => by simp [Pl] at hf
  | .pv _ _ _ _, hf => by simp [Pl] at hf
  | .optr _ _ _, _ => trivial
  | .own _ _ _ _, _ => trivial
  | .emp, _ => trivial
  | .bsl _ _ _ _ _, _ => trivial
  | .map _, _ => trivial
  | .fn _ a b, h => by simp only [Pl] at h; simp only [Go.Ab.VF]; exact ⟨PlL.VF a h.1, PlL.VF b h.2⟩
  | .agg vs, h => by simp only [Pl] at h; simp only [Go.Ab.VF]; exact PlL.VF vs h
  | .tup vs, h => by simp only [Pl] at h; simp only [Go.Ab.VF]; exact PlL.VF vs h
theorem PlL.VF : (vs : List AV) → PlL vs → VFL vs
  | [], _ => trivial
  | v :: vs, h => by simp only [PlL] at h; simp only [VFL]; exact ⟨Pl.VF v h.1, PlL.VF vs h.2⟩
end

/-- A function that answers a new slice, or nil, beside something plain. -/
theorem Makes.lst {f : FuncId} {args : List AV} {ety : TypeId} {esz n : Nat} {E : Nat → Nat → AV} {e : AV} (hE : ∀ i j, Pl (E i j)) (he : Pl e)
    (h : TC P f args [] (fun v σ' => (v = .tup [.imm (.slice none 0 0), e] ∧ n = 0) ∨ ∃ k E', v = .tup [.own k 0 n none, e] ∧ nthO σ' k = .arr ety esz n E' ∧ ∀ i j, i < n → E' i j = E i j)) : Makes P f args (.tup [.own 0 0 n none, e]) [.arr ety esz n E] := by
  refine ⟨(h.pushNone ety esz E).weak fun v σ' ⟨σ0, hq, hs⟩ => ?_, ?_, fun a ha => by simp only [List.mem_singleton] at ha; subst ha; exact hE⟩
  · rcases hq with ⟨hv, h0⟩ | ⟨k, E', hv, hk, hEE⟩
    · refine ⟨[σ0.length], _, _, by simp, by simp, by simp [hs], ?_, ?_, rfl, rfl⟩
      · rw [hv, h0]
        exact WkV.tup (WkVL.cons (WkV.nil_own (.inl rfl)) (WkVL.cons (WkV.free (Pl.free _ he)) WkVL.nil))
      · rw [hs, h0]
        refine ⟨?_, fun _ => ?_, trivial⟩
        · rw [nthO_snoc]
          exact WkO.arr fun i j hi => by omega
        · rw [nthO_snoc]; rfl
    · have hk' := nthO_eq hk rfl
      have hlt : k < σ0.length := (List.getElem?_eq_some_iff.1 hk').1
      have hk2 : nthO σ' k = .arr ety esz n E' := by
        rw [hs]
        exact nthO_of_get (by rw [List.getElem?_append_left hlt]; exact hk')
      refine ⟨[k], _, _, by simp, by simp, by simp [hs]; omega, ?_, ?_, rfl, rfl⟩
      · rw [hv]
        exact WkV.tup (WkVL.cons (WkV.own rfl (by simp)) (WkVL.cons (WkV.free (Pl.free _ he)) WkVL.nil))
      · refine ⟨?_, fun _ => by rw [hk2]; rfl, trivial⟩
        rw [hk2]
        exact WkO.arr fun i j hi _ => by rw [hEE i j hi]; exact WkV.free (Pl.free _ (hE i j))
  · simp only [VF, VFL, and_true, true_and]
    exact Pl.VF _ he

/-- The same of a function that answers the slice alone. -/
theorem Makes.lst1 {f : FuncId} {args : List AV} {ety : TypeId} {esz n : Nat} {E : Nat → Nat → AV} (hE : ∀ i j, Pl (E i j))
    (h : TC P f args [] (fun v σ' => (v = .imm (.slice none 0 0) ∧ n = 0) ∨ ∃ k E', v = .own k 0 n none ∧ nthO σ' k = .arr ety esz n E' ∧ ∀ i j, i < n → E' i j = E i j)) : Makes P f args (.own 0 0 n none) [.arr ety esz n E] := by
  refine ⟨(h.pushNone ety esz E).weak fun v σ' ⟨σ0, hq, hs⟩ => ?_, trivial, fun a ha => by simp only [List.mem_singleton] at ha; subst ha; exact hE⟩
  rcases hq with ⟨hv, h0⟩ | ⟨k, E', hv, hk, hEE⟩
  · refine ⟨[σ0.length], _, _, by simp, by simp, by simp [hs], ?_, ?_, rfl, rfl⟩
    · rw [hv, h0]
      exact WkV.nil_own (.inl rfl)
    · rw [hs, h0]
      refine ⟨?_, fun _ => ?_, trivial⟩
      · rw [nthO_snoc]
        exact WkO.arr fun i j hi => by omega
      · rw [nthO_snoc]; rfl
  · have hk' := nthO_eq hk rfl
    have hlt : k < σ0.length := (List.getElem?_eq_some_iff.1 hk').1
    have hk2 : nthO σ' k = .arr ety esz n E' := by
      rw [hs]
      exact nthO_of_get (by rw [List.getElem?_append_left hlt]; exact hk')
    refine ⟨[k], _, _, by simp, by simp, by simp [hs]; omega, ?_, ?_, rfl, rfl⟩
    · rw [hv]
      exact WkV.own rfl (by simp)
    · refine ⟨?_, fun _ => by rw [hk2]; rfl, trivial⟩
      rw [hk2]
      exact WkO.arr fun i j hi _ => by rw [hEE i j hi]; exact WkV.free (Pl.free _ (hE i j))

/-- One more object that lies nowhere: an empty slice may be it. -/
theorem Wk.push {n : Nat} {env : List AV} {σ : List AObj} (ety : TypeId) (esz : Nat) (g : Nat → Nat → AV) : Wk n ⟨env, σ⟩ ⟨env, σ ++ [.arr ety esz 0 g]⟩ :=
  fun _ _ _ _ _ ⟨_, h1, h2, h3, h4⟩ => by
    obtain ⟨q1, q2⟩ := h4.pushNone ety esz g
    exact ⟨_, h1.trans q2, h2, RvL.mono q2 _ h3, q1⟩

/-- An own slice as one that is only read. -/
theorem Cv.own {σ : List AObj} {o n esz : Nat} {ety : TypeId} {c : Option Nat} {E E2 : Nat → Nat → AV} (hob : nthO σ o = .arr ety esz n E) (hz : 0 < esz) (hE : ∀ i j, i < n → j < esz → E i j = E2 i j) (hf : ∀ i j, Free (E2 i j)) : Cv σ (.own o 0 n c) (.view n esz E2) :=
  Cv.view (v := .own o 0 n c) (f := fun i j => E (0 + i) j) (c := 0 + n ≤ n) (by simp only [src, hob]) (by omega) hz fun i j hi hj => by rw [Nat.zero_add, hE i j hi hj]; exact Cv.free (hf i j)
/-- The same of a plain slice. -/
theorem Cv.pvE {σ : List AObj} {n esz : Nat} {c : Option Nat} {E E2 : Nat → Nat → AV} (hE : ∀ i j, i < n → j < esz → E i j = E2 i j) (hf : ∀ i j, Free (E2 i j)) (hz : 0 < esz) : Cv σ (.pv n esz c E) (.view n esz E2) :=
  Cv.view (v := .pv n esz c E) (f := E) (c := True) rfl trivial hz fun i j hi hj => by rw [hE i j hi hj]; exact Cv.free (hf i j)
theorem Cv.tup {σ : List AObj} {vs vs2 : List AV} (h : CvL σ vs vs2) : Cv σ (.tup vs) (.tup vs2) := fun ρ w x hH hx => by
  simp only [Rv] at hx ⊢
  obtain ⟨cs, rfl, h1⟩ := hx
  exact ⟨cs, rfl, h _ _ _ hH h1⟩

theorem WkV.eqF {π : List Nat} {σ : List AObj} {v v2 : AV} (h : v = v2) (hf : Free v2) : WkV π σ v v2 := by rw [h]; exact WkV.free hf

/-! ### Calls by contract, what follows ahead of the contract -/
section
variable {σ σ1 : List AObj} {next N : AV → List AObj → Prop} {k : FuncId} {args args0 : List AV} {C : Prop} {v : AV} {g : Bool}
theorem callGoal_lookA (h : Look P k args0 v) (hC : C) (hc : CvL σ args args0) (hn : next v σ) : callGoal P σ next (some (k, args, C)) := callGoal_look hC hc h hn
theorem callGoal_makeA (h : Makes P k args0 v σ1) (hC : C) (hc : CvL σ args args0) (hn : next (sh σ.length v) (σ ++ σ1)) : callGoal P σ next (some (k, args, C)) := callGoal_make hC hc h hn
theorem gC_lookA (h : g = true → Look P k args0 v) (hC : g = true → C) (hc : g = true → CvL σ args args0) (hn : N (.gd g v) σ) : gC P σ N g (some (k, args, C)) := gC_look (fun hg => ⟨hC hg, hc hg, h hg⟩) hn
theorem dCall_lookA (h : Look P k args0 v) (hC : C) (hc : CvL σ args args0) (hn : N v σ) : dCall P σ N (some (k, args, C)) (some none) := dCall_look hC hc h hn
theorem dCall_makeA (h : Makes P k args0 v σ1) (hC : C) (hc : CvL σ args args0) (hn : N (sh σ.length v) (σ ++ σ1)) : dCall P σ N (some (k, args, C)) (some none) := dCall_make hC hc h hn
theorem dCall_lookGA (h : g = true → Look P k args0 v) (hC : g = true → C) (hc : g = true → CvL σ args args0) (hn : N (.gd g v) σ) : dCall P σ N (some (k, args, C)) (some (some g)) := dCall_lookG (fun hg => ⟨hC hg, hc hg, h hg⟩) hn
end
end
end Go.Ab
