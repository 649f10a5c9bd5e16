/-
  Plain: intervals, pitches that are near, keyboards, what Find and Hands answer.
-/
import Derived.Test.YtonmienclploaaaGreatDoorQP1
set_option linter.unusedSimpArgs false
set_option linter.unusedVariables false
namespace Go.Proofs.YtonmienclploaaaGreatDoor
def P6.all (p : P6) (q : Int → Bool) : Bool := q p.a && q p.b && q p.c && q p.d && q p.e && q p.f
def inB (n x : Int) : Bool := decide (-n ≤ x) && decide (x ≤ n)
def pOk (p : P6) : Bool := p.all (inB 576)
def vOk (p : P6) : Bool := p.all (inB 48)
def P6.map2 (g : Int → Int → Int) (p q : P6) : P6 := ⟨g p.a q.a, g p.b q.b, g p.c q.c, g p.d q.d, g p.e q.e, g p.f q.f⟩
def P6.sub (p q : P6) : P6 := p.map2 (fun x y => x - y) q
def P6.add (p q : P6) : P6 := p.map2 (fun x y => x + y) q
def P6.x12 (p : P6) : P6 := ⟨p.a * 12, p.b * 12, p.c * 12, p.d * 12, p.e * 12, p.f * 12⟩
def exL (e l h : Int) : Int := if e < 0 then e * h else e * l
def sizeLo (e : P6) : Int := exL e.a 1000000000 1000000000 + exL e.b 1584962500 1584962501 + exL e.c 2321928094 2321928095 + exL e.d 2807354922 2807354923 + exL e.e 3459431618 3459431619 + exL e.f 3700439718 3700439719
def sizeHi (e : P6) : Int := exL e.a 1000000000 1000000000 + exL e.b 1584962501 1584962500 + exL e.c 2321928095 2321928094 + exL e.d 2807354923 2807354922 + exL e.e 3459431619 3459431618 + exL e.f 3700439719 3700439718
def surelyI (lo hi low high : Int) : Int := if low ≤ lo ∧ hi ≤ high then 1 else if hi < low ∨ high < lo then -1 else 0
def nearI (p q : P6) (t : Int) : Int × Int :=
  if pOk p = true ∧ pOk q = true ∧ 0 ≤ t ∧ t ≤ 2400000 then (surelyI (sizeLo (p.sub q)) (sizeHi (p.sub q)) (-10000 * t) (10000 * t),0) else (0,1)
structure Good (b : Bd) : Prop where
  len : b.ks.length ≤ 120
  s0 : 0 ≤ b.span
  s1 : b.span ≤ 1000
  t0 : 0 ≤ b.tol
  t1 : b.tol ≤ 50000
  rise : b.ks.Pairwise fun a c => a.id < c.id
  one : ∀ k ∈ b.ks, 0 < k.id ∧ k.id ≤ 1000 ∧ 0 ≤ k.x ∧ k.x ≤ 1000 ∧ 0 ≤ k.row ∧ k.row ≤ 10 ∧ pOk k.p = true
  apart : Apart b.ks
def keyOf (ks : List Ky) (id : Int) : Option Ky := ks.find? fun k => decide (k.id = id)
def diffP (b : Bd) (ids : List Int) : Prop := ids.Nodup ∧ ∀ id ∈ ids, (keyOf b.ks id).isSome = true
instance (b : Bd) (ids : List Int) : Decidable (diffP b ids) := by unfold diffP; exact inferInstance
def ordK (b : Bd) (ids : List Int) : List Ky := (srtK b.ks).filter fun k => decide (k.id ∈ ids)
theorem ordK_lr {b : Bd} (h : Good b) (ids : List Int) : Lr (ordK b ids) := (srtK_lr h.apart).sublist List.filter_sublist
def playP (b : Bd) (ids : List Int) : Prop := diffP b ids ∧ 0 ≤ divR b.span (ordK b ids)
instance (b : Bd) (ids : List Int) : Decidable (playP b ids) := by unfold playP; exact inferInstance
theorem playP_can {b : Bd} (h : Good b) {ids : List Int} : playP b ids ↔ diffP b ids ∧ can b.span (ordK b ids) := by
  unfold playP; rw [divR_nonneg h.s0 (ordK_lr h ids)]
theorem filter_sub {α : Type} {p q : α → Bool} (h : ∀ a,p a = true → q a = true) : ∀ l : List α,List.Sublist (l.filter p) (l.filter q)
  | [] => List.Sublist.slnil
  | a :: l => by
    by_cases hp : p a = true
    · rw [List.filter_cons_of_pos hp, List.filter_cons_of_pos (h a hp)]; exact (filter_sub h l).cons_cons a
    · rw [List.filter_cons_of_neg hp]
      by_cases hq : q a = true
      · rw [List.filter_cons_of_pos hq]; exact (filter_sub h l).cons a
      · rw [List.filter_cons_of_neg hq]; exact filter_sub h l
theorem ordK_sub {b : Bd} {ids js : List Int} (h : ∀ i ∈ ids, i ∈ js) : List.Sublist (ordK b ids) (ordK b js) := by
  unfold ordK
  refine filter_sub (fun k hk => ?_) _
  simp only [decide_eq_true_eq] at hk ⊢
  exact h k.id hk
theorem playP.sub {b : Bd} (hb : Good b) {ids js : List Int} (h : playP b js) (hs : List.Sublist ids js) : playP b ids := by
  rw [playP_can hb] at h ⊢
  exact ⟨⟨h.1.1.sublist hs, fun i hi => h.1.2 i (hs.subset hi)⟩, h.2.sub (ordK_sub fun i hi => hs.subset hi)⟩
end Go.Proofs.YtonmienclploaaaGreatDoor
