/-
 The law of any player.
-/
import Derived.Test.YtonmienclploaaaGreatDoorQLA
import Derived.Test.YtonmienclploaaaGreatDoorQL3
import Derived.Test.YtonmienclploaaaGreatDoorQL4
set_option linter.unusedSimpArgs false
set_option linter.unusedVariables false
namespace Go.Proofs.YtonmienclploaaaGreatDoor
open Go.Ab
theorem of_any (k : Int) (p : Ply) (hp : PlOk p) : ∃ (iv : AV) (vb : Bool),TC Tryz.prog 29 [plyA k p] [plyO k p] (fun u σ' => u = .tup [iv,.imm (.bool vb)] ∧ σ' = [plyO k p]) ∧
  (vb = true → (k = 1 ∧ bdB p.bd = true) ∨ (k = 2 ∧ ogB p.og = true) ∨ (k = 3 ∧ nkB p.nk = true) ∨ (k = 4 ∧ hnB p.hn = true) ∨ (k = 5 ∧ vcB p.vc = true)) := by
 by_cases h1 : k = 1
 ·subst h1; exact ⟨_, _, of1_tc p hp, fun h => .inl ⟨rfl, h⟩⟩
 by_cases h2 : k = 2
 ·subst h2; exact ⟨_, _, of2_tc p hp, fun h => .inr (.inl ⟨rfl, h⟩)⟩
 by_cases h3 : k = 3
 ·subst h3; exact ⟨_, _, of3_tc p hp, fun h => .inr (.inr (.inl ⟨rfl, h⟩))⟩
 by_cases h4 : k = 4
 ·subst h4; exact ⟨_, _, of4_tc p hp, fun h => .inr (.inr (.inr (.inl ⟨rfl, h⟩)))⟩
 by_cases h5 : k = 5
 ·subst h5; exact ⟨_, _, of5_tc p hp, fun h => .inr (.inr (.inr (.inr ⟨rfl, h⟩)))⟩
 exact ⟨_, _, of0_tc k p ⟨h1, h2, h3, h4, h5⟩, fun h => by cases h⟩
theorem sgR_ok {v : Vc} {vs : List P6} (hv : vcB v = true) (ha : ∀ i,i < vs.length → vOk (gV vs i) = true) (h : (sgR v vs).2 = 0) : (sgR v vs).1.length = vs.length ∧ ∀ i,i < vs.length → hasR v (gV vs i) = (true,0) ∧ gL (sgR v vs).1 i = 0 := by
 unfold sgR at h ⊢
 split
 ·rename_i h0; exact ⟨by simp [h0], fun i hi => by omega⟩
 ·rename_i h0
  rw [if_neg h0] at h
  split
  ·rename_i h1
   rw [if_pos h1] at h
   split
   ·rename_i h2
    refine ⟨by simp [h1], fun i hi => ?_⟩
    obtain rfl : i = 0 := by omega
    refine ⟨?_, rfl⟩
    unfold hasR at h2 ⊢
    rw [if_pos ⟨hv, ha 0 hi⟩] at h2 ⊢
    exact Prod.ext h2 rfl
   ·rename_i h2; rw [if_neg h2] at h; cases h
  ·rename_i h1; rw [if_neg h1] at h; cases h
theorem sgR_nil {v : Vc} {vs : List P6} (h : (sgR v vs).2 ≠ 0) : (sgR v vs).1 = [] := by
 unfold sgR at h ⊢
 split
 ·rfl
 ·rename_i h0
  rw [if_neg h0] at h
  split
  ·rename_i h1
   rw [if_pos h1] at h
   split
   ·rename_i h2; rw [if_pos h2] at h; exact absurd rfl h
   ·rfl
  ·rfl
theorem hbR_ok {h : Hn} {vs : List P6} (hh : hnB h = true) (he : (hbR h vs).2 = 0) : (hbR h vs).1.length = vs.length ∧ ∀ i,i < vs.length → ∃ b : Bw,gL (hbR h vs).1 i = 100 * b.h + b.v ∧ (1 ≤ b.h ∧ b.h ≤ h.most) ∧ (0 ≤ b.v ∧ b.v < ((2 ^ h.vl.length : Nat) : Int)) ∧ okBw h (gV vs i) b = true := by
 unfold hbR at he ⊢
 split
 ·rename_i h0; exact ⟨by simp [h0], fun i hi => by omega⟩
 ·rename_i h0
  rw [if_neg h0] at he
  split
  ·rename_i h1
   rw [if_pos h1] at he
   split
   ·rename_i h2
    refine ⟨by simp [h1], fun i hi => ?_⟩
    obtain rfl : i = 0 := by omega
    exact ⟨(bestR h (gV vs 0)).1, rfl, bestR_bd hh h2⟩
   ·rename_i h2; rw [if_neg h2] at he; exact absurd he h2
  ·rename_i h1; rw [if_neg h1] at he; cases he
theorem hbR_nil {h : Hn} {vs : List P6} (he : (hbR h vs).2 ≠ 0) : (hbR h vs).1 = [] := by
 unfold hbR at he ⊢
 split
 ·rfl
 ·rename_i h0
  rw [if_neg h0] at he
  split
  ·rename_i h1
   rw [if_pos h1] at he
   split
   ·rename_i h2; rw [if_pos h2] at he; exact absurd rfl he
   ·rfl
  ·rfl
theorem fchR_nil {n : Nk} {vs : List P6} (h : (fchR n vs).2 ≠ 0) : (fchR n vs).1 = [] := by
 unfold fchR at h ⊢
 split
 ·rfl
 ·rename_i h1
  rw [if_neg h1] at h
  split
  ·rfl
  ·rename_i h2
   rw [if_neg h2] at h
   split
   ·rename_i h3; rw [if_pos h3] at h; exact absurd rfl h
   ·rfl
theorem fewB_iff {p : Ply} {n : Nat} : fewB p n = true ↔ p.bd.ks.length ≤ 60 ∧ p.og.ps.length ≤ 60 ∧ p.nk.fr.length ≤ 20 ∧ p.hn.vl.length ≤ 4 ∧ n ≤ 4 := decide_eq_true_iff
theorem law_whole (k : Int) (p : Ply) (vs : List P6) (hw : PlW p) (hvs : vs.length ≤ 9223372036854775807) : Look Tryz.prog 4 [plyA k p,vts vs] (.imm (.bool true)) := by
 by_cases hf : fewB p vs.length = true
 case neg =>
  rw [Bool.not_eq_true] at hf
  exact law_no k p vs hw hvs hf
 obtain ⟨f1, f2, f3, f4, f5⟩ := fewB_iff.1 hf
 have hp : PlOk p := ⟨by omega, by omega, hw.n1, by omega, by omega⟩
 obtain ⟨iv, vb, hof, hvb⟩ := of_any k p hp
 by_cases hok : vb = true ∧ anyV (fun x => !vOk x) vs = false
 case neg =>
  have h := rb_no vs hof (by omega) (fun h => hok ⟨h.1, h.2.2⟩)
  refine law_err k p vs hp hf f5 (e := 1) (by decide) ?_
  exact Makes.lstJ (n := 0) (E := itE []) (itE_pl _) trivial (h.1.mono fun v σ' h => .inl ⟨h, rfl⟩)
 have ha : ∀ i, i < vs.length → vOk (gV vs i) = true := fun i hi => by
  have := anyV_no hok.2 hi
  simpa using this
 rcases hvb hok.1 with ⟨rfl, hv⟩ | ⟨rfl, hv⟩ | ⟨rfl, hv⟩ | ⟨rfl, hv⟩ | ⟨rfl, hv⟩
 ·have hof := of1_tc p hp
  rw [hv] at hof
  have hB := rb_ok vs hof (by omega) hok.2 (kb := 153) (by kernel_rfl) rfl (kbbest_tc p.bd vs hp.b (by omega)) (Cv.free (by simp [Free,FreeL]))
  by_cases he : (B.chordR p.bd vs).2 = 0
  ·obtain ⟨_, k1, k2, k3⟩ := chordR_ok he
   rw [he] at hB
   exact law_1 p vs hp hf f5 ha k1 hv k2 k3 hB
  ·rw [chordR_nil he] at hB
   exact law_err 1 p vs hp hf f5 he hB
 ·have hof := of2_tc p hp
  rw [hv] at hof
  have hB := rb_ok vs hof (by omega) hok.2 (kb := 160) (by kernel_rfl) rfl (ppbest_tc p.og vs hp.o (by omega)) (Cv.free (by simp [Free,FreeL]))
  by_cases he : (ochR p.og vs 0).2 = 0
  ·obtain ⟨k0, k1, k2, k3, k4⟩ := ochR_ok he
   rw [he] at hB
   exact law_2 p vs hp hf f5 ha k1 k0 k2 k3 k4 hB
  ·rw [ochR_nil he] at hB
   exact law_err 2 p vs hp hf f5 he hB
 ·have hof := of3_tc p hp
  rw [hv] at hof
  have hB := rb_ok vs hof (by omega) hok.2 (kb := 171) (by kernel_rfl) (l := (fchR p.nk vs).1.map nbI) (by simp) (strbest_tc p.nk vs hv (by omega) ha) (Cv.free (by simp [Free,FreeL]))
  by_cases he : (fchR p.nk vs).2 = 0
  ·obtain ⟨k1, k2, k3⟩ := fchR_ok he
   rw [he] at hB
   exact law_3 p vs hp hf f5 ha k1 hv k2 k3 hB
  ·rw [fchR_nil he] at hB
   exact law_err 3 p vs hp hf f5 he hB
 ·have hof := of4_tc p hp
  rw [hv] at hof
  have hB := rb_ok vs hof (by omega) hok.2 (kb := 178) (by kernel_rfl) rfl (hbest_tc p.hn vs hv (by omega) ha) (Cv.free (by simp [Free,FreeL]))
  by_cases he : (hbR p.hn vs).2 = 0
  ·obtain ⟨k1, k2⟩ := hbR_ok hv he
   rw [he] at hB
   exact law_4 p vs hp hf f5 ha k1 hv k2 hB
  ·rw [hbR_nil he] at hB
   exact law_err 4 p vs hp hf f5 he hB
 ·have hof := of5_tc p hp
  rw [hv] at hof
  have hB := rb_ok vs hof (by omega) hok.2 (kb := 186) (by kernel_rfl) rfl (sgbest_tc p.vc vs (by omega)) (Cv.free (by simp [Free,FreeL]))
  by_cases he : (sgR p.vc vs).2 = 0
  ·obtain ⟨k1, k2⟩ := sgR_ok hv ha he
   rw [he] at hB
   exact law_5 p vs hp hf f5 k1 k2 hB
  ·rw [sgR_nil he] at hB
   exact law_err 5 p vs hp hf f5 he hB
end Go.Proofs.YtonmienclploaaaGreatDoor
