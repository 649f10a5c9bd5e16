/-
  Parts joined: N13 N14.
-/
import Derived.Test.YtdglbjjenihdlaaDoorWGo3
import Derived.Test.YtdglbjjenihdlaaDoorWN12
import Derived.Test.YtdglbjjenihdlaaDoorWGo
set_option linter.unusedSimpArgs false
set_option linter.unusedVariables false
namespace Go.Proofs.YtdglbjjenihdlaaDoor
open Go.Ab
def cmpR (p q : P6) : Int × Int := if Bd6 576 p ∧ Bd6 576 q then (cmpP p q, 0) else (0, 1)
theorem cmpN_num (p q : P6) : cmpN (num (p.sub q)) (den (p.sub q)) = cmpP p q := by rw [cmp_num]; rfl
set_option maxRecDepth 100000 in
set_option maxHeartbeats 4000000 in
theorem pcmp_tc (p q : P6) : Look Tryd.prog 28 [p6A p,p6A q] (.tup [.imm (.int .i64 (cmpR p q).1),.imm (.int .i64 (cmpR p q).2)]) := by
  have c1 := valid_p p
  have c2 := valid_p q
  refine Look.mk (by simp [Pl, PlL]) ?_
  by_cases hpq : Bd6 576 p ∧ Bd6 576 q
  · have hp := hpq.1
    have hq := hpq.2
    rw [decide_eq_true hp] at c1
    rw [decide_eq_true hq] at c2
    have hb := hp.sub hq
    have c3 := fraction_mk (p.sub q) (hb.mono (by omega))
    have c4 := ncmp_tc (num (p.sub q)) (den (p.sub q)) (num_lim (hb.mono (by omega))) (num_lim (hb.neg.mono (by omega)))
    rw [cmpN_num] at c4
    have hr : cmpR p q = (cmpP p q, 0) := if_pos hpq
    rw [hr]
    unfold Bd6 at hp hq
    clear hb
    (refine TC_of_T Γ_ok Tryd.func28 rfl (by kernel_rfl) ?_;simp only [Tryd.ntmps28,Tryd.results28,List.length_cons,List.length_nil,Nat.reduceSub,Nat.reduceAdd,List.replicate,List.cons_append,List.nil_append])
    (have dl1 := c1;have dl2 := c2;have sx1 : (0 : Nat) + 0 = 0 := rfl;((refine goU1 _ _ _ _ _ _ _ _ _ _ _ _ ?_ ?_ ?_ ?_ ?_ ?_ ?_ ?_ ?_ ?_ ?_ ?_) <;> (repeat intro hb) <;> first|exact True.intro|refine Lf.mk ?_))
    refine T_rounds 7 ?_
    (have cm1 := c3;have cl1 := c4;have sx1 : (0 : Nat) + 0 = 0 := rfl;((refine goU1 _ _ _ _ _ _ _ _ _ _ _ _ ?_ ?_ ?_ ?_ ?_ ?_ ?_ ?_ ?_ ?_ ?_ ?_) <;> (repeat intro hb) <;> first|exact True.intro|refine Lf.mk ?_))
  · have hr : cmpR p q = (0, 1) := if_neg hpq
    rw [hr]
    (refine TC_of_T Γ_ok Tryd.func28 rfl (by kernel_rfl) ?_;simp only [Tryd.ntmps28,Tryd.results28,List.length_cons,List.length_nil,Nat.reduceSub,Nat.reduceAdd,List.replicate,List.cons_append,List.nil_append])
    (have dl1 := c1;have dl2 := c2;have sx1 : (0 : Nat) + 0 = 0 := rfl;((refine goU1 _ _ _ _ _ _ _ _ _ _ _ _ ?_ ?_ ?_ ?_ ?_ ?_ ?_ ?_ ?_ ?_ ?_ ?_) <;> (repeat intro hb) <;> first|exact True.intro|refine Lf.mk ?_))
    exact absurd hb hpq
end Go.Proofs.YtdglbjjenihdlaaDoor
namespace Go.Proofs.YtdglbjjenihdlaaDoor
open Go.Ab
def up12 (p : P6) (o : Int) : P6 := ⟨p.a + 12 * o, p.b, p.c, p.d, p.e, p.f⟩
def cmT (p q : P6) : Int := (cmpR p q).1
def oct : P6 := ⟨12, 0, 0, 0, 0, 0⟩
def inB (p : P6) : Bool := decide (0 ≤ cmT p z6) && decide (cmT p oct < 0)
set_option maxRecDepth 100000 in
set_option maxHeartbeats 4000000 in
theorem raised_tc (p : P6) (o : Int) (h1 : -1000000 ≤ p.a ∧ p.a ≤ 1000000) (h2 : -1000000 ≤ o ∧ o ≤ 1000000) : Look Tryd.prog 34 [p6A p,.imm (.int .i64 o)] (p6A (up12 p o)) := by
  refine Look.mk (by simp [Pl, PlL]) ?_
  (refine TC_of_T Γ_ok Tryd.func34 rfl (by kernel_rfl) ?_;simp only [Tryd.ntmps34,Tryd.results34,List.length_cons,List.length_nil,Nat.reduceSub,Nat.reduceAdd,List.replicate,List.cons_append,List.nil_append])
  (((refine goR0 _ _ _ _ _ _ _ _ ?_ ?_ ?_ ?_ ?_ ?_ ?_ ?_) <;> (repeat intro hb) <;> first | exact True.intro | refine Lf.mk ?_))
  rfl
set_option maxRecDepth 100000 in
set_option maxHeartbeats 4000000 in
theorem compare_p (p q : P6) : Look Tryd.prog 33 [p6A p, p6A q] (.imm (.int .i64 (cmT p q))) := by
  refine Look.mk trivial ?_
  have c1 := pcmp_tc p q
  (refine TC_of_T Γ_ok Tryd.func33 rfl (by kernel_rfl) ?_;simp only [Tryd.ntmps33,Tryd.results33,List.length_cons,List.length_nil,Nat.reduceSub,Nat.reduceAdd,List.replicate,List.cons_append,List.nil_append])
  (have cl1 := c1;((refine goR0 _ _ _ _ _ _ _ _ ?_ ?_ ?_ ?_ ?_ ?_ ?_ ?_) <;> (repeat intro hb) <;> first | exact True.intro | refine Lf.mk ?_))
  rfl
set_option maxRecDepth 100000 in
set_option maxHeartbeats 4000000 in
theorem inside_tc (p : P6) : Look Tryd.prog 35 [p6A p] (.imm (.bool (inB p))) := by
  refine Look.mk trivial ?_
  have c1 := compare_p p z6
  have c2 := compare_p p oct
  simp only [z6] at c1
  simp only [oct] at c2
  (refine TC_of_T Γ_ok Tryd.func35 rfl (by kernel_rfl) ?_;simp only [Tryd.ntmps35,Tryd.results35,List.length_cons,List.length_nil,Nat.reduceSub,Nat.reduceAdd,List.replicate,List.cons_append,List.nil_append])
  (have dl1 := c1;have dl2 := c2;((refine goR0 _ _ _ _ _ _ _ _ ?_ ?_ ?_ ?_ ?_ ?_ ?_ ?_) <;> (repeat intro hb) <;> first | exact True.intro | refine Lf.mk ?_))
  rfl
def lastF (q : Int → Bool) : Nat → Int → Int → Int
  | 0, lo, _ => lo
  | n + 1,lo,hi => if lo < hi then (if q (hi - (hi - lo) / 2) then lastF q n (hi - (hi - lo) / 2) hi else lastF q n lo (hi - (hi - lo) / 2 - 1)) else lo
theorem lastF_more (q : Int → Bool) : ∀ (n m : Nat) (lo hi : Int),(hi - lo).toNat ≤ n → n ≤ m → lastF q n lo hi = lastF q m lo hi
  | 0, 0, _, _, _, _ => rfl
  | 0, m + 1, lo, hi, h, _ => by rw [lastF, lastF, if_neg (by omega)]
  | n + 1, m + 1, lo, hi, h, k => by
    rw [lastF, lastF]
    split
    · split
      · exact lastF_more q n m _ _ (by omega) (by omega)
      · exact lastF_more q n m _ _ (by omega) (by omega)
    · rfl
def lastI (q : Int → Bool) (lo hi : Int) : Int := lastF q (hi - lo).toNat lo hi
theorem lastI_s (q : Int → Bool) {lo hi : Int} (h : lo < hi) : lastI q lo hi = if q (hi - (hi - lo) / 2) then lastI q (hi - (hi - lo) / 2) hi else lastI q lo (hi - (hi - lo) / 2 - 1) := by
  unfold lastI
  obtain ⟨n, hn⟩ : ∃ n, (hi - lo).toNat = n + 1 := ⟨(hi - lo).toNat - 1, by omega⟩
  rw [hn, lastF, if_pos h]
  split
  · exact (lastF_more q _ _ _ _ (Nat.le_refl _) (by omega)).symm
  · exact (lastF_more q _ _ _ _ (Nat.le_refl _) (by omega)).symm
theorem lastI_e (q : Int → Bool) {lo hi : Int} (h : ¬ lo < hi) : lastI q lo hi = lo := by
  unfold lastI
  rw [show (hi - lo).toNat = 0 by omega]; rfl
theorem lastI_rg (q : Int → Bool) : ∀ (n : Nat) (lo hi : Int),(hi - lo).toNat ≤ n → lo ≤ hi → lo ≤ lastI q lo hi ∧ lastI q lo hi ≤ hi
  | n, lo, hi, h, k => by
    by_cases hl : lo < hi
    · rw [lastI_s q hl]
      match n, h with
      | 0, h => omega
      | n + 1, h =>
        split
        · have := lastI_rg q n (hi - (hi - lo) / 2) hi (by omega) (by omega); omega
        · have := lastI_rg q n lo (hi - (hi - lo) / 2 - 1) (by omega) (by omega); omega
    · rw [lastI_e q hl]; omega
@[go_sem,reducible] def enL (f : FuncId) (caps : List AV) (lo hi : Int) : List AV := [.imm (.int .i64 lo),.imm (.int .i64 hi),.fn (.func f) [] caps,.top,.top,.top,.imm (.int .i64 0)] ++ List.replicate 17 .top
set_option maxRecDepth 100000 in
set_option maxHeartbeats 4000000 in
theorem last_tc (f : FuncId) (caps : List AV) (q : Int → Bool) (lo hi : Int) (h1 : -1000000 ≤ lo) (h2 : hi ≤ 1000000) (h3 : lo ≤ hi) (hcf : FreeL caps) (hq : ∀ o,lo ≤ o → o ≤ hi → Look Tryd.prog f (.imm (.int .i64 o) :: caps) (.imm (.bool (q o)))) :
    Look Tryd.prog 31 [.imm (.int .i64 lo),.imm (.int .i64 hi),.fn (.func f) [] caps] (.imm (.int .i64 (lastI q lo hi))) := by
  refine Look.mk trivial ?_
  generalize hR : lastI q lo hi = R
  have hfn : ∀ π σ,WkV π σ (.fn (.func f) [] caps) (.fn (.func f) [] caps) := fun π σ => WkV.free (by simp [Free,FreeL];exact hcf)
  (refine TC_of_T Γ_ok Tryd.func31 rfl (by kernel_rfl) ?_;simp only [Tryd.ntmps31,Tryd.results31,List.length_cons,List.length_nil,Nat.reduceSub,Nat.reduceAdd,List.replicate,List.cons_append,List.nil_append])
  (((refine goR0 _ _ _ _ _ _ _ _ ?_ ?_ ?_ ?_ ?_ ?_ ?_ ?_) <;> (repeat intro hb) <;> first | exact True.intro | refine Lf.mk ?_))
  refine T_loopW (fun m st => ∃ a b : Int,lo ≤ a ∧ a ≤ b ∧ b ≤ hi ∧ lastI q a b = R ∧ m = (b - a).toNat ∧ st = ⟨enL f caps a b,[]⟩)
    (hi - lo).toNat ⟨_, ?_, lo, hi, by omega, h3, by omega, hR, rfl, rfl⟩ ?_
  · ((try simp only [List.length_append,List.length_cons,List.length_nil,Nat.zero_add]);refine Wk.intro [] (by decide) (by decide) (by intro o ho;simp at ho ⊢ <;> omega) ?_ ?_ <;> repeat' (first|(exact hfn _ _)|exact WkVL.nil|refine WkVL.cons ?_ ?_|exact WkV.top|exact WkV.imm rfl|exact WkV.imm (by simp)|exact WkV.optr rfl|exact WkV.own rfl (by simp)|exact WkV.nil_own (.inl rfl)|exact WkV.map rfl|(refine WkV.free ?_;simp [Free,FreeL] <;> assumption)|(refine WkV.free (fun _ _=>FreeL_nth ?_ _);simp [Free,FreeL];done)|refine WkV.agg ?_|refine WkV.tup ?_|refine WkV.fn ?_ ?_|exact WkO.dead|exact WkO.raw|refine WkO.ghost ?_|exact WkO.mpE rfl trivial|refine WkO.box ?_ rfl|refine WkO.arr ?_|refine And.intro ?_ (And.intro (by first|exact fun h=>h|exact fun _=>rfl|exact nofun) ?_)|exact trivial|(intro i j hi hj)))
  rintro m st ⟨a, b, g1, g2, g3, g4, rfl, rfl⟩
  by_cases hl : a < b
  · rw [lastI_s q hl] at g4
    obtain ⟨c, hc⟩ : ∃ c, c = b - (b - a) / 2 := ⟨_, rfl⟩
    rw [← hc] at g4
    have c1 := hq c (by omega) (by omega)
    have e1 : b - (b - a).tdiv 2 = c := by rw [hc, Int.tdiv_eq_ediv_of_nonneg (by omega)]
    (simp only [go_sem,↓reduceIte,Nat.reduceAdd,Nat.reduceSub,Nat.reduceMul,Nat.reduceLT,Nat.reduceLeDiff,Nat.reduceEqDiff,Nat.reduceGT,Int.reduceToNat,Int.reduceBEq,Int.reduceBNe];try simp (disch := omega) only [wrapI,wrapU,half_sum,toNat_sub1,toNat_add1,Int.toNat_natCast])
    (have sx1 := e1;have sx2 : (0 : Nat) + 0 = 0 := rfl;((have sx3 : (0 : Nat) + 0 = 0 := rfl;have sx4 : (0 : Nat) + 0 = 0 := rfl;have sx5 : (0 : Nat) + 0 = 0 := rfl;have sx6 : (0 : Nat) + 0 = 0 := rfl;have sx7 : (0 : Nat) + 0 = 0 := rfl;have sx8 : (0 : Nat) + 0 = 0 := rfl;have sx9 : (0 : Nat) + 0 = 0 := rfl;refine goR9 _ _ _ _ _ _ _ _ ?_ ?_ ?_ ?_ ?_ ?_ ?_ ?_) <;> (repeat intro hb) <;> first|exact True.intro|refine Lf.mk ?_))
    refine callGoal_lookA c1 trivial (CvL.cons (Cv.imm rfl) (cvl_free hcf)) ?_
    rename_i KF hKF NF hNF
    refine hNF _ _ ?_
    (simp only [go_sem,↓reduceIte,Nat.reduceAdd,Nat.reduceSub,Nat.reduceMul,Nat.reduceLT,Nat.reduceLeDiff,Nat.reduceEqDiff,Nat.reduceGT,Int.reduceToNat,Int.reduceBEq,Int.reduceBNe];try simp (disch := omega) only [wrapI,wrapU,half_sum,toNat_sub1,toNat_add1,Int.toNat_natCast])
    (((refine goR0 _ _ _ _ _ _ _ _ ?_ ?_ ?_ ?_ ?_ ?_ ?_ ?_) <;> (repeat intro hb) <;> first | exact True.intro | refine Lf.mk ?_))
    refine hKF _ ?_
    cases hqc : q c with
    | true =>
      rw [hqc, if_pos rfl] at g4
      (((refine goR0 _ _ _ _ _ _ _ _ ?_ ?_ ?_ ?_ ?_ ?_ ?_ ?_) <;> (repeat intro hb) <;> first | exact True.intro | refine Lf.mk ?_))
      refine ⟨(b - c).toNat, by omega, _, ?_, c, b, by omega, by omega, g3, g4, rfl, rfl⟩
      ((try simp only [List.length_append,List.length_cons,List.length_nil,Nat.zero_add]);refine Wk.intro [] (by decide) (by decide) (by intro o ho;simp at ho ⊢ <;> omega) ?_ ?_ <;> repeat' (first|(exact hfn _ _)|exact WkVL.nil|refine WkVL.cons ?_ ?_|exact WkV.top|exact WkV.imm rfl|exact WkV.imm (by simp)|exact WkV.optr rfl|exact WkV.own rfl (by simp)|exact WkV.nil_own (.inl rfl)|exact WkV.map rfl|(refine WkV.free ?_;simp [Free,FreeL] <;> assumption)|(refine WkV.free (fun _ _=>FreeL_nth ?_ _);simp [Free,FreeL];done)|refine WkV.agg ?_|refine WkV.tup ?_|refine WkV.fn ?_ ?_|exact WkO.dead|exact WkO.raw|refine WkO.ghost ?_|exact WkO.mpE rfl trivial|refine WkO.box ?_ rfl|refine WkO.arr ?_|refine And.intro ?_ (And.intro (by first|exact fun h=>h|exact fun _=>rfl|exact nofun) ?_)|exact trivial|(intro i j hi hj)))
    | false =>
      rw [hqc, if_neg (by simp)] at g4
      (((refine goR0 _ _ _ _ _ _ _ _ ?_ ?_ ?_ ?_ ?_ ?_ ?_ ?_) <;> (repeat intro hb) <;> first | exact True.intro | refine Lf.mk ?_))
      refine ⟨(c - 1 - a).toNat, by omega, _, ?_, a, c - 1, g1, by omega, by omega, g4, rfl, rfl⟩
      ((try simp only [List.length_append,List.length_cons,List.length_nil,Nat.zero_add]);refine Wk.intro [] (by decide) (by decide) (by intro o ho;simp at ho ⊢ <;> omega) ?_ ?_ <;> repeat' (first|(exact hfn _ _)|(refine WkV.imm ?_;congr 1;omega)|exact WkVL.nil|refine WkVL.cons ?_ ?_|exact WkV.top|exact WkV.imm rfl|exact WkV.imm (by simp)|exact WkV.optr rfl|exact WkV.own rfl (by simp)|exact WkV.nil_own (.inl rfl)|exact WkV.map rfl|(refine WkV.free ?_;simp [Free,FreeL] <;> assumption)|(refine WkV.free (fun _ _=>FreeL_nth ?_ _);simp [Free,FreeL];done)|refine WkV.agg ?_|refine WkV.tup ?_|refine WkV.fn ?_ ?_|exact WkO.dead|exact WkO.raw|refine WkO.ghost ?_|exact WkO.mpE rfl trivial|refine WkO.box ?_ rfl|refine WkO.arr ?_|refine And.intro ?_ (And.intro (by first|exact fun h=>h|exact fun _=>rfl|exact nofun) ?_)|exact trivial|(intro i j hi hj)))
  · (simp only [go_sem,↓reduceIte,Nat.reduceAdd,Nat.reduceSub,Nat.reduceMul,Nat.reduceLT,Nat.reduceLeDiff,Nat.reduceEqDiff,Nat.reduceGT,Int.reduceToNat,Int.reduceBEq,Int.reduceBNe];try simp (disch := omega) only [wrapI,wrapU,half_sum,toNat_sub1,toNat_add1,Int.toNat_natCast])
    (((refine goR0 _ _ _ _ _ _ _ _ ?_ ?_ ?_ ?_ ?_ ?_ ?_ ?_) <;> (repeat intro hb) <;> first | exact True.intro | refine Lf.mk ?_))
    rw [← g4, lastI_e q hl]
end Go.Proofs.YtdglbjjenihdlaaDoor
