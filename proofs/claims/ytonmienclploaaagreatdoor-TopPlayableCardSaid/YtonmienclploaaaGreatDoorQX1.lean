/-
 Parts joined: H1 H2 H3.
-/
import Derived.Test.YtonmienclploaaaGreatDoorQGo
import Derived.Test.YtonmienclploaaaGreatDoorQW1
set_option linter.unusedSimpArgs false
set_option linter.unusedVariables false
namespace Go.Proofs.YtonmienclploaaaGreatDoor
open Go.Ab
structure Hn where
 bs : P6
 vl : List P6
 most : Int
 tol : Int
@[go_sem,reducible] def hnL (h : Hn) : List AV := [.imm (.int .i64 h.bs.a),.imm (.int .i64 h.bs.b),.imm (.int .i64 h.bs.c),.imm (.int .i64 h.bs.d),.imm (.int .i64 h.bs.e),.imm (.int .i64 h.bs.f),vts h.vl,.imm (.int .i64 h.most),.imm (.int .i64 h.tol)]
@[go_sem, reducible] def hnA (h : Hn) : AV := .agg (hnL h)
structure Bw where
 h : Int
 v : Int
deriving DecidableEq
@[go_sem, reducible] def bwL (b : Bw) : List AV := [.imm (.int .i64 b.h), .imm (.int .i64 b.v)]
@[go_sem, reducible] def bwA (b : Bw) : AV := .agg (bwL b)
def vlBad (l : List P6) (i : Nat) : Bool := !(decide ((cmR (gV l i) zP).2 = 0) && decide (0 < (cmR (gV l i) zP).1))
def hnS (h : Hn) : Bool := pOk h.bs && decide (h.vl.length ≤ 4 ∧ 1 ≤ h.most ∧ h.most ≤ 16 ∧ 0 ≤ h.tol ∧ h.tol ≤ 50000)
def hnB (h : Hn) : Bool := hnS h && decide (fstF (vlBad h.vl) 0 h.vl.length = h.vl.length)
theorem hnS_iff {h : Hn} : hnS h = true ↔ pOk h.bs = true ∧ h.vl.length ≤ 4 ∧ 1 ≤ h.most ∧ h.most ≤ 16 ∧ 0 ≤ h.tol ∧ h.tol ≤ 50000 := by
 unfold hnS
 simp only [Bool.and_eq_true, decide_eq_true_eq]
theorem hnB_s {h : Hn} (hb' : hnB h = true) : hnS h = true := by
 unfold hnB at hb'
 rw [Bool.and_eq_true] at hb'
 exact hb'.1
set_option maxRecDepth 100000 in
set_option maxHeartbeats 4000000 in
theorem bvalid_tc (h : Hn) (h1 : h.vl.length ≤ 1000000) : Look Tryz.prog 47 [hnA h] (.imm (.bool (hnB h))) := by
 refine Look.mk trivial ?_
 have c0 := valid_p h.bs
 unfold hnB
 by_cases hs : hnS h = true
 ·have hk := hnS_iff.1 hs
  rw [hs, Bool.true_and]
  rw [hk.1] at c0
  generalize hr : fstF (vlBad h.vl) 0 h.vl.length = r
  have d1 : decide ((h.vl.length : Int) > 4) = false := decide_eq_false (by omega)
  have d2 : decide (h.most < 1) = false := decide_eq_false (by omega)
  have d3 : decide (h.most > 16) = false := decide_eq_false (by omega)
  have d4 : decide (h.tol < 0) = false := decide_eq_false (by omega)
  have d5 : decide (h.tol > 50000) = false := decide_eq_false (by omega)
  (refine TC_of_T Γ_ok Tryz.func47 rfl (by kernel_rfl) ?_;simp only [Tryz.ntmps47,Tryz.results47,List.length_cons,List.length_nil,Nat.reduceSub,Nat.reduceAdd,List.replicate,List.cons_append,List.nil_append])
  (have cl1 := c0;have sx1 := d1;have sx2 := d2;have sx3 := d3;have sx4 := d4;have sx5 := d5;have sx6:=sx0;((obtain ⟨sx7,sx8,sx9⟩:=sx0_3;refine goR9 _ _ _ _ _ _ _ _ ?_ ?_ ?_ ?_ ?_ ?_ ?_ ?_)<;>(repeat intro hb)<;>first|exact True.intro|refine Lf.mk ?_))
  refine T_loopW (fun m st=>∃ i : Nat,i ≤ h.vl.length ∧ m + i = h.vl.length ∧ fstF (vlBad h.vl) i (h.vl.length - i) = r ∧ st = ⟨[.top,.optr 0 0 0] ++ List.replicate 36 .top ++ [vts h.vl,.imm (.int .i64 h.vl.length),.imm (.int .i64 i)] ++ List.replicate 16 .top,[.box 54 (hnL h)]⟩)
   h.vl.length ⟨_, ?_, 0, by omega, rfl, hr, rfl⟩ ?_
  ·((try refine sgl ?_);exact wkI [0])
  rintro m st ⟨i, g0, g1, g2, rfl⟩
  by_cases hi : i < h.vl.length
  ·have c := pcmp_v (gV h.vl i) zP
   have hbd : vlBad h.vl i = !(decide ((cmR (gV h.vl i) zP).2 = 0) && decide (0 < (cmR (gV h.vl i) zP).1)) := rfl
   generalize (cmR (gV h.vl i) zP).1 = ca at c hbd
   generalize (cmR (gV h.vl i) zP).2 = ce at c hbd
   refine sgo ?_
   (have cl1 := c;((refine goR0 _ _ _ _ _ _ _ _ ?_ ?_ ?_ ?_ ?_ ?_ ?_ ?_)<;>(repeat intro hb)<;>first|exact True.intro|refine Lf.mk ?_))
   ·rw [fstF_yes (by rw [hbd]; simp; omega) (by omega)] at g2
    rw [decide_eq_false (show ¬ r = h.vl.length by omega)]
   ·rw [show h.vl.length - i = h.vl.length - (i + 1) + 1 by omega, fstF_no (by rw [hbd]; simp; omega)] at g2
    refine ⟨h.vl.length - (i + 1), by omega, _, ?_, i + 1, by omega, by omega, g2, rfl⟩
    ((try refine sgl ?_);exact wkI [0])
  ·rw [show h.vl.length - i = 0 by omega, fstF] at g2
   rw [decide_eq_true (show r = h.vl.length by omega)]
   refine sgo ?_
   (((refine goR0 _ _ _ _ _ _ _ _ ?_ ?_ ?_ ?_ ?_ ?_ ?_ ?_)<;>(repeat intro hb)<;>first|exact True.intro|refine Lf.mk ?_))
 ·rw [Bool.not_eq_true] at hs
  rw [hs, Bool.false_and]
  have hq : ¬ (hnS h = true) := by rw [hs]; simp
  rw [hnS_iff] at hq
  generalize pOk h.bs = pb at c0 hq
  cases pb with
  | true =>
   (refine TC_of_T Γ_ok Tryz.func47 rfl (by kernel_rfl) ?_;simp only [Tryz.ntmps47,Tryz.results47,List.length_cons,List.length_nil,Nat.reduceSub,Nat.reduceAdd,List.replicate,List.cons_append,List.nil_append])
   (have cl1 := c0;((refine goR0 _ _ _ _ _ _ _ _ ?_ ?_ ?_ ?_ ?_ ?_ ?_ ?_)<;>(repeat intro hb)<;>first|exact True.intro|refine Lf.mk ?_))
   all_goals exact absurd hb (by have h9 : ¬ (h.vl.length ≤ 4 ∧ 1 ≤ h.most ∧ h.most ≤ 16 ∧ 0 ≤ h.tol ∧ h.tol ≤ 50000) := fun hh => hq ⟨rfl,hh⟩;omega)
  | false =>
   (refine TC_of_T Γ_ok Tryz.func47 rfl (by kernel_rfl) ?_;simp only [Tryz.ntmps47,Tryz.results47,List.length_cons,List.length_nil,Nat.reduceSub,Nat.reduceAdd,List.replicate,List.cons_append,List.nil_append])
   (have cl1 := c0;((refine goR0 _ _ _ _ _ _ _ _ ?_ ?_ ?_ ?_ ?_ ?_ ?_ ?_)<;>(repeat intro hb)<;>first|exact True.intro|refine Lf.mk ?_))
end Go.Proofs.YtonmienclploaaaGreatDoor
namespace Go.Proofs.YtonmienclploaaaGreatDoor
open Go.Ab
def P6.upd (p : P6) (k : Nat) (x : Int) : P6 :=
 match k with
 | 0 => ⟨x, p.b, p.c, p.d, p.e, p.f⟩
 | 1 => ⟨p.a, x, p.c, p.d, p.e, p.f⟩
 | 2 => ⟨p.a, p.b, x, p.d, p.e, p.f⟩
 | 3 => ⟨p.a, p.b, p.c, x, p.e, p.f⟩
 | 4 => ⟨p.a, p.b, p.c, p.d, x, p.f⟩
 | _ => ⟨p.a, p.b, p.c, p.d, p.e, x⟩
theorem upd_at (p : P6) {k : Nat} (hk : k < 6) (x : Int) : (p.upd k x).at k = x := by
 match k, hk with
 | 0, _ | 1, _ | 2, _ | 3, _ | 4, _ | 5, _ => rfl
theorem upd_ne (p : P6) {k j : Nat} (hk : k < 6) (hj : j < 6) (h : j ≠ k) (x : Int) : (p.upd k x).at j = p.at j := by
 match k, hk, j, hj with
 | 0, _, 0, _ | 1, _, 1, _ | 2, _, 2, _ | 3, _, 3, _ | 4, _, 4, _ | 5, _, 5, _ => exact absurd rfl h
 | 0, _, 1, _ | 0, _, 2, _ | 0, _, 3, _ | 0, _, 4, _ | 0, _, 5, _ => rfl
 | 1, _, 0, _ | 1, _, 2, _ | 1, _, 3, _ | 1, _, 4, _ | 1, _, 5, _ => rfl
 | 2, _, 0, _ | 2, _, 1, _ | 2, _, 3, _ | 2, _, 4, _ | 2, _, 5, _ => rfl
 | 3, _, 0, _ | 3, _, 1, _ | 3, _, 2, _ | 3, _, 4, _ | 3, _, 5, _ => rfl
 | 4, _, 0, _ | 4, _, 1, _ | 4, _, 2, _ | 4, _, 3, _ | 4, _, 5, _ => rfl
 | 5, _, 0, _ | 5, _, 1, _ | 5, _, 2, _ | 5, _, 3, _ | 5, _, 4, _ => rfl
theorem upd_upd (p : P6) {k : Nat} (hk : k < 6) (x y : Int) : (p.upd k x).upd k y = p.upd k y := by
 match k, hk with
 | 0, _ | 1, _ | 2, _ | 3, _ | 4, _ | 5, _ => rfl
theorem upd_self (p : P6) {k : Nat} (hk : k < 6) : p.upd k (p.at k) = p := by
 match k, hk with
 | 0, _ | 1, _ | 2, _ | 3, _ | 4, _ | 5, _ => rfl
theorem nth_at (p : P6) {k : Nat} (hk : k < 6) : nth [AV.imm (.int .i64 p.a),.imm (.int .i64 p.b),.imm (.int .i64 p.c),.imm (.int .i64 p.d),.imm (.int .i64 p.e),.imm (.int .i64 p.f)] (k * 1) = .imm (.int .i64 (p.at k)) := by
 match k, hk with
 | 0, _ | 1, _ | 2, _ | 3, _ | 4, _ | 5, _ => rfl
theorem setC_at (p : P6) {k : Nat} (hk : k < 6) (x : Int) : List.take (k * 1) [AV.imm (.int .i64 p.a),.imm (.int .i64 p.b),.imm (.int .i64 p.c),.imm (.int .i64 p.d),.imm (.int .i64 p.e),.imm (.int .i64 p.f)] ++ [AV.imm (.int .i64 x)] ++ List.drop (k * 1) [AV.imm (.int .i64 p.b),.imm (.int .i64 p.c),.imm (.int .i64 p.d),.imm (.int .i64 p.e),.imm (.int .i64 p.f)] =
  [AV.imm (.int .i64 (p.upd k x).a),.imm (.int .i64 (p.upd k x).b),.imm (.int .i64 (p.upd k x).c),.imm (.int .i64 (p.upd k x).d),.imm (.int .i64 (p.upd k x).e),.imm (.int .i64 (p.upd k x).f)] := by
 match k, hk with
 | 0, _ | 1, _ | 2, _ | 3, _ | 4, _ | 5, _ => rfl
def prA : Nat → Int
 | 0 => 2
 | 1 => 3
 | 2 => 5
 | 3 => 7
 | 4 => 11
 | _ => 13
theorem pr_two (k : Nat) : 2 ≤ prA k := by
 match k with
 | 0 | 1 | 2 | 3 | 4 => decide
 | k + 5 => simp [prA]
def dvN (q : Int) : Nat → Int → Nat × Int
 | 0, n => (0, n)
 | f + 1, n => if n.tmod q = 0 then ((dvN q f (n.tdiv q)).1 + 1, (dvN q f (n.tdiv q)).2) else (0, n)
theorem tdiv_lt {q n : Int} (hq : 2 ≤ q) (hn : 1 ≤ n) (h : n.tmod q = 0) : 1 ≤ n.tdiv q ∧ n.tdiv q < n := by
 have h1 := Int.mul_tdiv_add_tmod n q
 rw [h, Int.add_zero] at h1
 generalize n.tdiv q = d at h1
 have hd : 1 ≤ d := by
  by_cases h0 : d ≤ 0
  ·have := Int.mul_le_mul_of_nonneg_left h0 (show 0 ≤ q by omega)
   omega
  ·omega
 refine ⟨hd, ?_⟩
 have := Int.mul_le_mul_of_nonneg_right hq (show 0 ≤ d by omega)
 omega
def btB (v : Int) (k : Nat) : Bool := bits .and .i64 (v.fdiv (2 ^ (min k 64))) 1 == 1
def vlK (l : List P6) (v : Int) (i : Nat) : Nat → Int → Int
 | 0, x => x
 | k + 1, x => if btB v k = true then vlK l v i k x - (gV l k).at i else vlK l v i k x
def sndK (h : Hn) (b : Bw) : Nat → P6 × Int
 | 0 => (h.bs, b.h)
 | i + 1 => ((sndK h b i).1.upd i (vlK h.vl b.v i h.vl.length ((sndK h b i).1.at i + 12 * ((dvN (prA i) 16 (sndK h b i).2).1 : Int))),(dvN (prA i) 16 (sndK h b i).2).2)
def sndB (h : Hn) (b : Bw) : P6 := (sndK h b 6).1
theorem sndK_at (h : Hn) (b : Bw) : ∀ (i j : Nat), i ≤ j → j < 6 → (sndK h b i).1.at j = h.bs.at j
 | 0, j, _, _ => rfl
 | i + 1, j, h1, h2 => by
  rw [sndK, upd_ne _ (by omega) h2 (by omega)]
  exact sndK_at h b i j (by omega) h2
theorem dvN_pos {q : Int} (hq : 2 ≤ q) : ∀ (f : Nat) (n : Int),1 ≤ n → n ≤ 16 → (1 ≤ (dvN q f n).2 ∧ (dvN q f n).2 ≤ 16) ∧ (dvN q f n).1 ≤ f
 | 0, n, h1, h2 => ⟨⟨h1, h2⟩, Nat.le_refl _⟩
 | f + 1, n, h1, h2 => by
  rw [dvN]
  split
  ·rename_i h
   have hd := tdiv_lt hq h1 h
   have := dvN_pos hq f (n.tdiv q) hd.1 (by omega)
   exact ⟨this.1, by simp only []; omega⟩
  ·exact ⟨⟨h1, h2⟩, Nat.zero_le _⟩
theorem sndK_pos {h : Hn} {b : Bw} (h1 : 1 ≤ b.h) (h2 : b.h ≤ 16) : ∀ i, 1 ≤ (sndK h b i).2 ∧ (sndK h b i).2 ≤ 16
 | 0 => ⟨h1, h2⟩
 | i + 1 => (dvN_pos (pr_two i) 16 _ (sndK_pos h1 h2 i).1 (sndK_pos h1 h2 i).2).1
theorem dvN_fuel {q : Int} (hq : 2 ≤ q) : ∀ (f g : Nat) (n : Int), 1 ≤ n → n ≤ f → n ≤ g → dvN q f n = dvN q g n
 | 0, g, n, h1, h2, _ => by omega
 | f + 1, 0, n, h1, _, h3 => by omega
 | f + 1, g + 1, n, h1, h2, h3 => by
  rw [dvN, dvN]
  by_cases h : n.tmod q = 0
  ·have hd := tdiv_lt hq h1 h
   rw [if_pos h, if_pos h, dvN_fuel hq f g (n.tdiv q) hd.1 (by omega) (by omega)]
  ·rw [if_neg h, if_neg h]
theorem vlK_bd {l : List P6} {v : Int} {i : Nat} (hl : ∀ k,k < l.length → -576 ≤ (gV l k).at i ∧ (gV l k).at i ≤ 576) : ∀ (k : Nat) (x : Int),k ≤ l.length → x - 576 * k ≤ vlK l v i k x ∧ vlK l v i k x ≤ x + 576 * k
 | 0, x, _ => by simp [vlK]
 | k + 1, x, h => by
  have h1 := vlK_bd (v := v) hl k x (by omega)
  have h2 := hl k (by omega)
  rw [vlK]
  split <;> omega
end Go.Proofs.YtonmienclploaaaGreatDoor
namespace Go.Proofs.YtonmienclploaaaGreatDoor
open Go.Ab
@[go_sem] theorem gA_0 : gA 0 = .rptr 6 (gcell .i64 primL) := rfl
@[go_sem] theorem gcp_0 : gcell .i64 primL 0 = .imm (.int .i64 2) := rfl
@[go_sem] theorem gcp_1 : gcell .i64 primL 1 = .imm (.int .i64 3) := rfl
@[go_sem] theorem gcp_2 : gcell .i64 primL 2 = .imm (.int .i64 5) := rfl
@[go_sem] theorem gcp_3 : gcell .i64 primL 3 = .imm (.int .i64 7) := rfl
@[go_sem] theorem gcp_4 : gcell .i64 primL 4 = .imm (.int .i64 11) := rfl
@[go_sem] theorem gcp_5 : gcell .i64 primL 5 = .imm (.int .i64 13) := rfl
theorem prs_nth {k : Nat} (hk : k < 6) : nth [AV.imm (.int .i64 2),.imm (.int .i64 3),.imm (.int .i64 5),.imm (.int .i64 7),.imm (.int .i64 11),.imm (.int .i64 13)] (k * 1) = .imm (.int .i64 (prA k)) := by
 match k, hk with
 | 0, _ | 1, _ | 2, _ | 3, _ | 4, _ | 5, _ => rfl
@[go_sem,reducible] def prs : AV := .agg [.imm (.int .i64 2),.imm (.int .i64 3),.imm (.int .i64 5),.imm (.int .i64 7),.imm (.int .i64 11),.imm (.int .i64 13)]
def VlOk (h : Hn) : Prop := ∀ k, k < h.vl.length → pOk (gV h.vl k) = true
theorem pOk_at {p : P6} (h : pOk p = true) {i : Nat} (hi : i < 6) : -576 ≤ p.at i ∧ p.at i ≤ 576 := by
 have q := pOk_iff.1 h
 match i, hi with
 | 0, _ => exact q.1
 | 1, _ => exact q.2.1
 | 2, _ => exact q.2.2.1
 | 3, _ => exact q.2.2.2.1
 | 4, _ => exact q.2.2.2.2.1
 | 5, _ => exact q.2.2.2.2.2
set_option maxRecDepth 100000 in
set_option maxHeartbeats 8000000 in
theorem bsound_tc (h : Hn) (b : Bw) (hb1 : hnS h = true) (hv : VlOk h) (h1 : 1 ≤ b.h) (h2 : b.h ≤ 16) (h3 : 0 ≤ b.v ∧ b.v ≤ 1000) : Look Tryz.prog 49 [hnA h,bwA b] (p6A (sndB h b)) := by
 have hs := hnS_iff.1 hb1
 refine Look.mk (by simp [Pl, PlL]) ?_
 (refine TC_of_T Γ_ok Tryz.func49 rfl (by kernel_rfl) ?_;simp only [Tryz.ntmps49,Tryz.results49,List.length_cons,List.length_nil,Nat.reduceSub,Nat.reduceAdd,List.replicate,List.cons_append,List.nil_append])
 (repeat' (first|with_reducible refine T_seq_drawT (id := 1) Γ_ok drawsAny pl49_1 (by kernel_rfl) (fun K hK=>?_)|with_reducible refine T_last_drawT (id := 1) Γ_ok drawsAny pl49_1 (by kernel_rfl) (fun K hK=>?_)|with_reducible refine T_seq_drawT (id := 12) Γ_ok drawsAny pl49_12 (by kernel_rfl) (fun K hK=>?_)|with_reducible refine T_last_drawT (id := 12) Γ_ok drawsAny pl49_12 (by kernel_rfl) (fun K hK=>?_)|((refine goR0 _ _ _ _ _ _ _ _ ?_ ?_ ?_ ?_ ?_ ?_ ?_ ?_)<;>(repeat intro hb)<;>first|exact True.intro|refine Lf.mk ?_)))
 refine T_loopW (fun m st=>∃ i : Nat,i ≤ 6 ∧ m + i = 6 ∧ st = ⟨[.top,.top,.optr 0 0 0,.optr 1 0 0,.optr 2 0 0,.optr 3 0 0,.imm (.int .i64 (sndK h b i).2)] ++ List.replicate 8 .top ++ [prs,.imm (.int .i64 i)] ++ List.replicate 40 .top,
   [.box 54 (hnL h), .box 69 (bwL b), .box 23 (p6L zP), .box 23 (p6L (sndK h b i).1)]⟩)
  6 ⟨_, ?_, 0, by omega, rfl, rfl⟩ ?_
 ·((try refine sgl ?_);exact wkI [0,1,2,3])
 rintro m st ⟨i, g0, g1, rfl⟩
 by_cases hi : i < 6
 ·have hpr := prs_nth hi
  have hq2 := pr_two i
  have hK := sndK_at h b i i (Nat.le_refl _) hi
  have hps := sndK_pos (h := h) (b := b) h1 h2 i
  have hbs := pOk_at hs.1 hi
  rw [← hK] at hbs
  have hstep : sndK h b (i + 1) = ((sndK h b i).1.upd i (vlK h.vl b.v i h.vl.length ((sndK h b i).1.at i + 12 * ((dvN (prA i) 16 (sndK h b i).2).1 : Int))),(dvN (prA i) 16 (sndK h b i).2).2) := rfl
  generalize hkk : sndK h b i = kk at *
  obtain ⟨p, n⟩ := kk
  simp only [] at *
  generalize prA i = q at *
  refine sgo ?_
  (have sx1 := hpr;have sx2:=sx0;repeat' (first|with_reducible refine T_seq_drawT (id := 1) Γ_ok drawsAny pl49_1 (by kernel_rfl) (fun K hK=>?_)|with_reducible refine T_last_drawT (id := 1) Γ_ok drawsAny pl49_1 (by kernel_rfl) (fun K hK=>?_)|with_reducible refine T_seq_drawT (id := 12) Γ_ok drawsAny pl49_12 (by kernel_rfl) (fun K hK=>?_)|with_reducible refine T_last_drawT (id := 12) Γ_ok drawsAny pl49_12 (by kernel_rfl) (fun K hK=>?_)|((obtain ⟨sx3,sx4,sx5,sx6,sx7,sx8,sx9⟩:=sx0_7;refine goR9 _ _ _ _ _ _ _ _ ?_ ?_ ?_ ?_ ?_ ?_ ?_ ?_)<;>(repeat intro hb)<;>first|exact True.intro|refine Lf.mk ?_)))
  refine T_loopW (fun m2 st=>∃ (c : Nat) (n' : Int) (P : P6),m2 = n'.toNat ∧ (1 ≤ n' ∧ n' ≤ 16) ∧ (dvN q 16 n').1 + c = (dvN q 16 n).1 ∧ (dvN q 16 n').2 = (dvN q 16 n).2 ∧ P = p.upd i (p.at i + 12 * (c : Int)) ∧
    st = ⟨[.top,.top,.optr 0 0 0,.optr 1 0 0,.optr 2 0 0,.optr 3 0 0,.imm (.int .i64 n'),.imm (.int .i64 i),.imm (.int .i64 q)] ++ List.replicate 6 .top ++ [prs,.imm (.int .i64 i)] ++ List.replicate 40 .top,
     [.box 54 (hnL h), .box 69 (bwL b), .box 23 (p6L zP), .box 23 (p6L P)]⟩)
   n.toNat ⟨_, ?_, 0, n, p, rfl, hps, by simp, rfl, by simp [upd_self p hi], rfl⟩ ?_
  ·((try refine sgl ?_);exact wkI [0,1,2,3])
  rintro m2 st ⟨c, n', P, rfl, f1, f2, f3, f4, rfl⟩
  have hP : P.at i = p.at i + 12 * (c : Int) := by rw [f4, upd_at p hi]
  have hn1 := nth_at P hi
  have hn2 := setC_at P hi (P.at i + 12)
  have hdb := (dvN_pos hq2 16 n' f1.1 f1.2).2
  have hdn := (dvN_pos hq2 16 n hps.1 hps.2).2
  by_cases hm : n'.tmod q = 0
  ·have hd := tdiv_lt hq2 f1.1 hm
   have hw : IntKind.i64.wrap (n'.tdiv q) = n'.tdiv q := wrapI (by omega) (by omega)
   have e1 : (n'.tmod q == 0) = true := by simpa using hm
   refine sgo ?_
   (have sx1 := e1;have sx2 := hw;have sx3 := hn1;have sx4 := hn2;repeat' (first|with_reducible refine T_seq_drawT (id := 1) Γ_ok drawsAny pl49_1 (by kernel_rfl) (fun K hK=>?_)|with_reducible refine T_last_drawT (id := 1) Γ_ok drawsAny pl49_1 (by kernel_rfl) (fun K hK=>?_)|with_reducible refine T_seq_drawT (id := 12) Γ_ok drawsAny pl49_12 (by kernel_rfl) (fun K hK=>?_)|with_reducible refine T_last_drawT (id := 12) Γ_ok drawsAny pl49_12 (by kernel_rfl) (fun K hK=>?_)|((obtain ⟨sx5,sx6,sx7,sx8,sx9⟩:=sx0_5;refine goR9 _ _ _ _ _ _ _ _ ?_ ?_ ?_ ?_ ?_ ?_ ?_ ?_)<;>(repeat intro hb)<;>first|exact True.intro|refine Lf.mk ?_)))
   have hfu : dvN q 16 n' = ((dvN q 16 (n'.tdiv q)).1 + 1, (dvN q 16 (n'.tdiv q)).2) := by
    rw [show dvN q 16 n' = if n'.tmod q = 0 then ((dvN q 15 (n'.tdiv q)).1 + 1,(dvN q 15 (n'.tdiv q)).2) else (0,n') from rfl,if_pos hm,dvN_fuel hq2 15 16 (n'.tdiv q) hd.1 (by omega) (by omega)]
   rw [hfu] at f2 f3
   refine ⟨(n'.tdiv q).toNat,by omega,_,?_,c + 1,n'.tdiv q,P.upd i (P.at i + 12),rfl,⟨hd.1,by omega⟩,by simp only [] at f2;omega,f3,?_,rfl⟩
   ·((try refine sgl ?_);exact wkI [0,1,2,3])
   ·rw [f4, upd_at p hi, upd_upd p hi]
    congr 1
    omega
  ·have e1 : (n'.tmod q == 0) = false := by simpa using hm
   have hfu : dvN q 16 n' = (0, n') := by
    rw [show dvN q 16 n' = if n'.tmod q = 0 then ((dvN q 15 (n'.tdiv q)).1 + 1,(dvN q 15 (n'.tdiv q)).2) else (0,n') from rfl,if_neg hm]
   rw [hfu] at f2 f3
   simp only [Nat.zero_add] at f2 f3
   subst f2
   have hvb := fun k hk => pOk_at (hv k hk) hi
   have hvk := fun k x hk => vlK_bd (l := h.vl) (v := b.v) (i := i) hvb k x hk
   generalize hx0 : p.at i + 12 * ((dvN q 16 n).1 : Int) = x0 at *
   refine sgo ?_
   (have sx1 := e1;have sx2:=sx0;repeat' (first|with_reducible refine T_seq_drawT (id := 1) Γ_ok drawsAny pl49_1 (by kernel_rfl) (fun K hK=>?_)|with_reducible refine T_last_drawT (id := 1) Γ_ok drawsAny pl49_1 (by kernel_rfl) (fun K hK=>?_)|with_reducible refine T_seq_drawT (id := 12) Γ_ok drawsAny pl49_12 (by kernel_rfl) (fun K hK=>?_)|with_reducible refine T_last_drawT (id := 12) Γ_ok drawsAny pl49_12 (by kernel_rfl) (fun K hK=>?_)|((obtain ⟨sx3,sx4,sx5,sx6,sx7,sx8,sx9⟩:=sx0_7;refine goR9 _ _ _ _ _ _ _ _ ?_ ?_ ?_ ?_ ?_ ?_ ?_ ?_)<;>(repeat intro hb)<;>first|exact True.intro|refine Lf.mk ?_)))
   refine T_loopW (fun m3 st => ∃ (k : Nat) (R : P6),k ≤ h.vl.length ∧ m3 + k = h.vl.length ∧ R = p.upd i (vlK h.vl b.v i k x0) ∧
     st = ⟨[.top,.top,.optr 0 0 0,.optr 1 0 0,.optr 2 0 0,.optr 3 0 0,.imm (.int .i64 n'),.imm (.int .i64 i)] ++ List.replicate 7 .top ++ [prs,.imm (.int .i64 i)] ++ List.replicate 16 .top ++ [vts h.vl,.imm (.int .i64 h.vl.length),.imm (.int .i64 k)] ++ List.replicate 21 .top,
      [.box 54 (hnL h), .box 69 (bwL b), .box 23 (p6L zP), .box 23 (p6L R)]⟩)
    h.vl.length ⟨_, ?_, 0, P, by omega, rfl, f4, rfl⟩ ?_
   ·((try refine sgl ?_);exact wkI [0,1,2,3])
   rintro m3 st ⟨k, R, k0, k1, hR, rfl⟩
   by_cases hk : k < h.vl.length
   ·have hRa : R.at i = vlK h.vl b.v i k x0 := by rw [hR, upd_at p hi]
    have hbv := hvk k x0 (by omega)
    have hvv := hvb k hk
    rw [← hRa] at hbv
    have hn1 := nth_at R hi
    have hn3 := nth_at (gV h.vl k) hi
    have hn2 := setC_at R hi (R.at i - (gV h.vl k).at i)
    refine sgo ?_
    (have sx1 := hn1;have sx2 := hn2;have sx3 := hn3;have sx4:=sx0;repeat' (first|with_reducible refine T_seq_drawT (id := 1) Γ_ok drawsAny pl49_1 (by kernel_rfl) (fun K hK=>?_)|with_reducible refine T_last_drawT (id := 1) Γ_ok drawsAny pl49_1 (by kernel_rfl) (fun K hK=>?_)|with_reducible refine T_seq_drawT (id := 12) Γ_ok drawsAny pl49_12 (by kernel_rfl) (fun K hK=>?_)|with_reducible refine T_last_drawT (id := 12) Γ_ok drawsAny pl49_12 (by kernel_rfl) (fun K hK=>?_)|((obtain ⟨sx5,sx6,sx7,sx8,sx9⟩:=sx0_5;refine goR9 _ _ _ _ _ _ _ _ ?_ ?_ ?_ ?_ ?_ ?_ ?_ ?_)<;>(repeat intro hb)<;>first|exact True.intro|refine Lf.mk ?_)))
    ·have hbt : btB b.v k = true := beq_iff_eq.2 hb
     refine ⟨h.vl.length - (k + 1),by omega,_,?_,k + 1,R.upd i (R.at i - (gV h.vl k).at i),by omega,by omega,?_,rfl⟩
     ·((try refine sgl ?_);exact wkI [0,1,2,3])
     ·rw [hRa, hR, upd_upd p hi, vlK, if_pos hbt]
    ·have hbt : ¬ btB b.v k = true := fun h => hb (beq_iff_eq.1 h)
     refine ⟨h.vl.length - (k + 1), by omega, _, ?_, k + 1, R, by omega, by omega, ?_, rfl⟩
     ·((try refine sgl ?_);exact wkI [0,1,2,3])
     ·rw [hR, vlK, if_neg hbt]
   ·obtain rfl : k = h.vl.length := by omega
    refine sgo ?_
    (((refine goR0 _ _ _ _ _ _ _ _ ?_ ?_ ?_ ?_ ?_ ?_ ?_ ?_)<;>(repeat intro hb)<;>first|exact True.intro|refine Lf.mk ?_))
    refine ⟨6 - (i + 1), by omega, _, ?_, i + 1, by omega, by omega, rfl⟩
    rw [hstep, f3]
    simp only []
    rw [← hR]
    ((try refine sgl ?_);exact wkI [0,1,2,3])
 ·obtain rfl : i = 6 := by omega
  refine sgo ?_
  (((refine goR0 _ _ _ _ _ _ _ _ ?_ ?_ ?_ ?_ ?_ ?_ ?_ ?_)<;>(repeat intro hb)<;>first|exact True.intro|refine Lf.mk ?_))
  rfl
end Go.Proofs.YtonmienclploaaaGreatDoor
