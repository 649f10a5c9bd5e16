/-
  Parts joined: T10 T11.
-/
import Derived.Test.YtngfnogoicfmaaaGreatDoorQGo
import Derived.Test.YtngfnogoicfmaaaGreatDoorQV3
set_option linter.unusedSimpArgs false
set_option linter.unusedVariables false
namespace Go.Proofs.YtngfnogoicfmaaaGreatDoor
open Go.Ab
def gI (l : List Int) (i : Nat) : Int := l.getD i 0
def itE (l : List Int) (i _j : Nat) : AV := .imm (.int .i64 (gI l i))
@[go_sem] theorem itE_eq (l : List Int) (i j : Nat) : itE l i j = .imm (.int .i64 (gI l i)) := rfl
@[simp] theorem itE_free (l : List Int) (i j : Nat) : Free (itE l i j) := trivial
@[simp] theorem itE_pl (l : List Int) (i j : Nat) : Pl (itE l i j) := trivial
@[go_sem, reducible] def its (l : List Int) : AV := .view l.length 1 (itE l)
@[go_sem, reducible] def itO (l : List Int) : AObj := .arr 3 1 l.length (itE l)
theorem gI_mem {l : List Int} {i : Nat} (h : i < l.length) : gI l i ∈ l := by simp [gI, h]
def cntB (x : Int) : Bool := decide (-1000 ≤ x ∧ x ≤ 1000)
def acB (l : List Nm) (ks : List Int) : Bool := ks.all cntB && (decide (ks.length = l.length) && cvB l)
theorem ieq (a b : Nat) : ((a : Int) == (b : Int)) = decide (a = b) := by rw [Bool.eq_iff_iff]; simp; omega
set_option maxRecDepth 100000 in
set_option maxHeartbeats 4000000 in
theorem account_tc (l : List Nm) (ks : List Int) (hkl : ks.length ≤ 1000000) : Look Tryz.prog 32 [nmV l,its ks] (.imm (.bool (acB l ks))) := by
  refine Look.mk trivial ?_
  have hv := cvalid_tc l
  (refine TC_of_T Γ_ok Tryz.func32 rfl (by kernel_rfl) ?_;simp only [Tryz.ntmps32,Tryz.results32,List.length_cons,List.length_nil,Nat.reduceSub,Nat.reduceAdd,List.replicate,List.cons_append,List.nil_append])
  (((refine goR0 _ _ _ _ _ _ _ _ ?_ ?_ ?_ ?_ ?_ ?_ ?_ ?_) <;> (repeat intro hb) <;> first | exact True.intro | refine Lf.mk ?_))
  refine T_loopW (fun m st=>∃ i : Nat,i ≤ ks.length ∧ m + i = ks.length ∧ (∀ j,j < i → cntB (gI ks j) = true) ∧ st = ⟨[nmV l,its ks,.top,.top,.imm (.bool false),.top,.top,its ks,.imm (.int .i64 ks.length),.imm (.int .i64 i)] ++ List.replicate 19 .top,[]⟩)
    ks.length ⟨_, ?_, 0, by omega, rfl, fun j hj => by omega, rfl⟩ ?_
  · ((try simp only [List.length_append,List.length_cons,List.length_nil,Nat.zero_add]);refine Wk.intro [] (by decide) (by decide) (by intro o ho;simp at ho ⊢ <;> omega) ?_ ?_ <;> repeat' (first|exact WkVL.nil|refine WkVL.cons ?_ ?_|exact WkV.top|exact WkV.imm rfl|exact WkV.imm (by simp)|exact WkV.optr rfl|exact WkV.own rfl (by simp)|exact WkV.nil_own (.inl rfl)|exact WkV.map rfl|(refine WkV.free ?_;simp [Free,FreeL] <;> assumption)|(refine WkV.free (fun _ _=>FreeL_nth ?_ _);simp [Free,FreeL];done)|refine WkV.agg ?_|refine WkV.tup ?_|refine WkV.fn ?_ ?_|exact WkO.dead|exact WkO.raw|refine WkO.ghost ?_|exact WkO.mpE rfl trivial|refine WkO.box ?_ rfl|refine WkO.arr ?_|refine And.intro ?_ (And.intro (by first|exact fun h=>h|exact fun _=>rfl|exact nofun) ?_)|exact trivial|(intro i j hi hj)))
  rintro m st ⟨i, g0, g1, g2, rfl⟩
  (simp only [go_sem,↓reduceIte,Nat.reduceAdd,Nat.reduceSub,Nat.reduceMul,Nat.reduceLT,Nat.reduceLeDiff,Nat.reduceEqDiff,Nat.reduceGT,Int.reduceToNat,Int.reduceBEq,Int.reduceBNe];try simp (disch := omega) only [wrapI,wrapU,half_sum,toNat_sub1,toNat_add1,Int.toNat_natCast])
  by_cases hi : i < ks.length
  · cases hc : cntB (gI ks i) with
    | true =>
      have hc2 := of_decide_eq_true hc
      (((refine goR0 _ _ _ _ _ _ _ _ ?_ ?_ ?_ ?_ ?_ ?_ ?_ ?_) <;> (repeat intro hb) <;> first | exact True.intro | refine Lf.mk ?_))
      refine ⟨ks.length - (i + 1), by omega, _, ?_, i + 1, by omega, by omega, fun j hj => ?_, rfl⟩
      · ((try simp only [List.length_append,List.length_cons,List.length_nil,Nat.zero_add]);refine Wk.intro [] (by decide) (by decide) (by intro o ho;simp at ho ⊢ <;> omega) ?_ ?_ <;> repeat' (first|exact WkVL.nil|refine WkVL.cons ?_ ?_|exact WkV.top|exact WkV.imm rfl|exact WkV.imm (by simp)|exact WkV.optr rfl|exact WkV.own rfl (by simp)|exact WkV.nil_own (.inl rfl)|exact WkV.map rfl|(refine WkV.free ?_;simp [Free,FreeL] <;> assumption)|(refine WkV.free (fun _ _=>FreeL_nth ?_ _);simp [Free,FreeL];done)|refine WkV.agg ?_|refine WkV.tup ?_|refine WkV.fn ?_ ?_|exact WkO.dead|exact WkO.raw|refine WkO.ghost ?_|exact WkO.mpE rfl trivial|refine WkO.box ?_ rfl|refine WkO.arr ?_|refine And.intro ?_ (And.intro (by first|exact fun h=>h|exact fun _=>rfl|exact nofun) ?_)|exact trivial|(intro i j hi hj)))
      · by_cases e : j = i
        · rw [e]; exact hc
        · exact g2 j (by omega)
    | false =>
      have hc2 := of_decide_eq_false hc
      have e : ks.all cntB = false := by
        rw [Bool.eq_false_iff]
        intro ha
        have := List.all_eq_true.1 ha _ (gI_mem hi)
        rw [hc] at this; cases this
      unfold acB
      rw [e, Bool.false_and]
      (((refine goR0 _ _ _ _ _ _ _ _ ?_ ?_ ?_ ?_ ?_ ?_ ?_ ?_) <;> (repeat intro hb) <;> first | exact True.intro | refine Lf.mk ?_))
  · have e : ks.all cntB = true := List.all_eq_true.2 fun x hx => by
      obtain ⟨j, hj, rfl⟩ := List.getElem_of_mem hx
      have := g2 j (by omega)
      simpa [gI, hj] using this
    unfold acB
    rw [e, Bool.true_and]
    have hie := ieq ks.length l.length
    (have cl1 := hv;have sx1 := hie;have sx2 : (0 : Nat) + 0 = 0 := rfl;((have sx3 : (0 : Nat) + 0 = 0 := rfl;have sx4 : (0 : Nat) + 0 = 0 := rfl;have sx5 : (0 : Nat) + 0 = 0 := rfl;have sx6 : (0 : Nat) + 0 = 0 := rfl;have sx7 : (0 : Nat) + 0 = 0 := rfl;have sx8 : (0 : Nat) + 0 = 0 := rfl;have sx9 : (0 : Nat) + 0 = 0 := rfl;refine goR9 _ _ _ _ _ _ _ _ ?_ ?_ ?_ ?_ ?_ ?_ ?_ ?_) <;> (repeat intro hb) <;> first|exact True.intro|refine Lf.mk ?_))
def sumK (l : List Nm) (ks : List Int) : Nat → P6
  | 0 => z6
  | k + 1 => (sumK l ks k).addN (gN l k).v (gI ks k)
def smR (l : List Nm) (ks : List Int) : P6 × Int := if acB l ks = true then (if Bd6 48 (sumK l ks ks.length) then (sumK l ks ks.length,0) else (z6,3)) else (z6,1)
theorem addN_bd {v c : P6} {n : Int} {B : Int} (hv : Bd6 B v) (hc : Bd6 48 c) (hn : -1000 ≤ n ∧ n ≤ 1000) : Bd6 (B + 48000) (v.addN c n) := by
  obtain ⟨v1, v2, v3, v4, v5, v6⟩ := hv
  obtain ⟨c1, c2, c3, c4, c5, c6⟩ := hc
  have k1 := mul_bd hn c1 (by omega) (by omega)
  have k2 := mul_bd hn c2 (by omega) (by omega)
  have k3 := mul_bd hn c3 (by omega) (by omega)
  have k4 := mul_bd hn c4 (by omega) (by omega)
  have k5 := mul_bd hn c5 (by omega) (by omega)
  have k6 := mul_bd hn c6 (by omega) (by omega)
  unfold Bd6 P6.addN
  simp only []
  omega
theorem sumK_bd {l : List Nm} {ks : List Int} (hl : ∀ n ∈ l,Bd6 48 n.v) (hk : ks.all cntB = true) (he : ks.length = l.length) : ∀ k,k ≤ ks.length → Bd6 (48000 * k) (sumK l ks k)
  | 0, _ => z6_bd (by omega)
  | k + 1, h => by
    have h1 := sumK_bd hl hk he k (by omega)
    have h2 := of_decide_eq_true (List.all_eq_true.1 hk _ (gI_mem (l := ks) (i := k) (by omega)))
    exact (addN_bd h1 (hl _ (gN_mem (by omega))) h2).le (by omega)
set_option maxRecDepth 100000 in
set_option maxHeartbeats 4000000 in
theorem sum_tcC (l : List Nm) (ks : List Int) (hkl : ks.length ≤ 1000000) : Look Tryz.prog 29 [nmV l,its ks] (.tup [p6A (smR l ks).1,.imm (.int .i64 (smR l ks).2)]) := by
  refine Look.mk (by simp [Pl, PlL]) ?_
  have ha := account_tc l ks hkl
  cases hac : acB l ks with
  | true =>
    rw [hac] at ha
    have hac2 := hac
    unfold acB at hac2
    simp only [Bool.and_eq_true, decide_eq_true_eq] at hac2
    obtain ⟨hk, he, hcv⟩ := hac2
    have hcv := cvB_ok hcv
    have hbs := sumK_bd hcv.bd hk he
    (refine TC_of_T Γ_ok Tryz.func29 rfl (by kernel_rfl) ?_;simp only [Tryz.ntmps29,Tryz.results29,List.length_cons,List.length_nil,Nat.reduceSub,Nat.reduceAdd,List.replicate,List.cons_append,List.nil_append])
    (have cl1 := ha;((refine goR0 _ _ _ _ _ _ _ _ ?_ ?_ ?_ ?_ ?_ ?_ ?_ ?_) <;> (repeat intro hb) <;> first | exact True.intro | refine Lf.mk ?_))
    refine T_loopW (fun m st=>∃ i : Nat,i ≤ ks.length ∧ m + i = ks.length ∧ st = ⟨[nmV l,its ks,.top,.top,.optr 0 0 0,.imm (.int .i64 0),.optr 1 0 0] ++ List.replicate 7 .top ++ [its ks,.imm (.int .i64 ks.length),.imm (.int .i64 i)] ++ List.replicate 17 .top,[.box 37 (p6L z6),.box 37 (p6L (sumK l ks i))]⟩)
      ks.length ⟨_, ?_, 0, by omega, rfl, rfl⟩ ?_
    · ((try simp only [List.length_append,List.length_cons,List.length_nil,Nat.zero_add]);refine Wk.intro [0,1] (by decide) (by decide) (by intro o ho;simp at ho ⊢ <;> omega) ?_ ?_ <;> repeat' (first|exact WkVL.nil|refine WkVL.cons ?_ ?_|exact WkV.top|exact WkV.imm rfl|exact WkV.imm (by simp)|exact WkV.optr rfl|exact WkV.own rfl (by simp)|exact WkV.nil_own (.inl rfl)|exact WkV.map rfl|(refine WkV.free ?_;simp [Free,FreeL] <;> assumption)|(refine WkV.free (fun _ _=>FreeL_nth ?_ _);simp [Free,FreeL];done)|refine WkV.agg ?_|refine WkV.tup ?_|refine WkV.fn ?_ ?_|exact WkO.dead|exact WkO.raw|refine WkO.ghost ?_|exact WkO.mpE rfl trivial|refine WkO.box ?_ rfl|refine WkO.arr ?_|refine And.intro ?_ (And.intro (by first|exact fun h=>h|exact fun _=>rfl|exact nofun) ?_)|exact trivial|(intro i j hi hj)))
    rintro m st ⟨i, g0, g1, rfl⟩
    (simp only [go_sem,↓reduceIte,Nat.reduceAdd,Nat.reduceSub,Nat.reduceMul,Nat.reduceLT,Nat.reduceLeDiff,Nat.reduceEqDiff,Nat.reduceGT,Int.reduceToNat,Int.reduceBEq,Int.reduceBNe];try simp (disch := omega) only [wrapI,wrapU,half_sum,toNat_sub1,toNat_add1,Int.toNat_natCast])
    by_cases hi : i < ks.length
    · have had := add_tu (sumK l ks i) (gN l i).v (gI ks i) ((hbs i (by omega)).le (by have := hcv.l6;omega)) (hcv.bd _ (gN_mem (by omega))) (of_decide_eq_true (List.all_eq_true.1 hk _ (gI_mem hi)))
      have hes : (sumK l ks i).addN (gN l i).v (gI ks i) = sumK l ks (i + 1) := rfl
      rw [hes] at had
      (have ct1 := TurnsAt.mk [1] (had);((refine goR0 _ _ _ _ _ _ _ _ ?_ ?_ ?_ ?_ ?_ ?_ ?_ ?_) <;> (repeat intro hb) <;> first | exact True.intro | refine Lf.mk ?_))
      refine ⟨ks.length - (i + 1), by omega, _, ?_, i + 1, by omega, by omega, rfl⟩
      ((try simp only [List.length_append,List.length_cons,List.length_nil,Nat.zero_add]);refine Wk.intro [0,1] (by decide) (by decide) (by intro o ho;simp at ho ⊢ <;> omega) ?_ ?_ <;> repeat' (first|exact WkVL.nil|refine WkVL.cons ?_ ?_|exact WkV.top|exact WkV.imm rfl|exact WkV.imm (by simp)|exact WkV.optr rfl|exact WkV.own rfl (by simp)|exact WkV.nil_own (.inl rfl)|exact WkV.map rfl|(refine WkV.free ?_;simp [Free,FreeL] <;> assumption)|(refine WkV.free (fun _ _=>FreeL_nth ?_ _);simp [Free,FreeL];done)|refine WkV.agg ?_|refine WkV.tup ?_|refine WkV.fn ?_ ?_|exact WkO.dead|exact WkO.raw|refine WkO.ghost ?_|exact WkO.mpE rfl trivial|refine WkO.box ?_ rfl|refine WkO.arr ?_|refine And.intro ?_ (And.intro (by first|exact fun h=>h|exact fun _=>rfl|exact nofun) ?_)|exact trivial|(intro i j hi hj)))
    · have hie : i = ks.length := by omega
      subst hie
      have hiv := interval_tc (sumK l ks ks.length)
      unfold smR
      rw [if_pos hac]
      by_cases hin : Bd6 48 (sumK l ks ks.length)
      · rw [decide_eq_true hin] at hiv
        rw [if_pos hin]
        (have cl1 := hiv;((refine goR0 _ _ _ _ _ _ _ _ ?_ ?_ ?_ ?_ ?_ ?_ ?_ ?_) <;> (repeat intro hb) <;> first | exact True.intro | refine Lf.mk ?_))
      · rw [decide_eq_false hin] at hiv
        rw [if_neg hin]
        (have cl1 := hiv;((refine goR0 _ _ _ _ _ _ _ _ ?_ ?_ ?_ ?_ ?_ ?_ ?_ ?_) <;> (repeat intro hb) <;> first | exact True.intro | refine Lf.mk ?_))
        all_goals rfl
  | false =>
    rw [hac] at ha
    have e : smR l ks = (z6, 1) := by unfold smR; rw [if_neg (by rw [hac]; simp)]
    rw [e]
    (refine TC_of_T Γ_ok Tryz.func29 rfl (by kernel_rfl) ?_;simp only [Tryz.ntmps29,Tryz.results29,List.length_cons,List.length_nil,Nat.reduceSub,Nat.reduceAdd,List.replicate,List.cons_append,List.nil_append])
    (have cl1 := ha;((refine goR0 _ _ _ _ _ _ _ _ ?_ ?_ ?_ ?_ ?_ ?_ ?_ ?_) <;> (repeat intro hb) <;> first | exact True.intro | refine Lf.mk ?_))
    all_goals rfl
end Go.Proofs.YtngfnogoicfmaaaGreatDoor
namespace Go.Proofs.YtngfnogoicfmaaaGreatDoor
open Go.Ab
theorem ofInt64 {a : Nat} (h : a < 18446744073709551616) : (BitVec.ofInt 64 (a : Int)).toNat = a := by
  simp [BitVec.toNat_ofInt]; omega
theorem band1 {a : Nat} (ha : a < 9223372036854775808) : bits .and .i64 (a : Int) 1 = ((a % 2 : Nat) : Int) := by
  show IntKind.i64.wrap (((BitVec.ofInt 64 (a : Int) &&& BitVec.ofInt 64 ((1 : Nat) : Int)).toNat : Nat) : Int) = _
  rw [BitVec.toNat_and, ofInt64 (by omega), ofInt64 (by omega), Nat.and_one_is_mod, wrapI (by omega) (by omega)]
theorem shr_nat (m j : Nat) : ((m : Int)).fdiv (2 ^ j) = ((m / 2 ^ j : Nat) : Int) := by
  rw [Int.fdiv_eq_ediv_of_nonneg _ (by exact Int.le_of_lt (Int.pow_pos (by decide)))]
  simp
theorem bit_at {m j : Nat} (hm : m < 64) (hj : j < 6) : bits .and .i64 ((m : Int).fdiv (2 ^ min j 64)) 1 = if m.testBit j = true then 1 else 0 := by
  rw [Nat.min_eq_left (by omega), shr_nat, band1 (by have := Nat.div_le_self m (2 ^ j); omega)]
  rw [Nat.testBit_eq_decide_div_mod_eq]
  by_cases h : m / 2 ^ j % 2 = 1
  · rw [decide_eq_true h, if_pos rfl, h]; rfl
  · rw [decide_eq_false h, if_neg (by simp)]
    have : m / 2 ^ j % 2 = 0 := by omega
    rw [this]; rfl
def clr (m j : Nat) : Nat := if m.testBit j = true then m - 2 ^ j else m
theorem clr_at {m j : Nat} (hm : m < 64) (hj : j < 6) : bits .andNot .i64 (m : Int) (IntKind.i64.wrap (1 * 2 ^ min j 64)) = ((clr m j : Nat) : Int) := by
  have h : ∀ j : Fin 6,∀ m : Fin 64,bits .andNot .i64 ((m.val : Nat) : Int) (IntKind.i64.wrap (1 * 2 ^ min j.val 64)) = ((clr m.val j.val : Nat) : Int) := by decide +kernel
  exact h ⟨j, hj⟩ ⟨m, hm⟩
theorem clr_lt {m : Nat} (hm : m < 64) (j : Nat) : clr m j < 64 := by have := Nat.sub_le m (2 ^ j);unfold clr;split <;> omega
theorem clr_bit {m j : Nat} (hm : m < 64) (hj : j < 6) (k : Nat) : (clr m j).testBit k = (m.testBit k && decide (k ≠ j)) := by
  by_cases hk : k < 6
  · have h : ∀ j : Fin 6,∀ m : Fin 64,∀ k : Fin 6,(clr m.val j.val).testBit k.val = (m.val.testBit k.val && decide (k.val ≠ j.val)) := by decide +kernel
    exact h ⟨j, hj⟩ ⟨m, hm⟩ ⟨k, hk⟩
  · have e : ∀ n,n < 64 → n.testBit k = false := fun n hn => Nat.testBit_lt_two_pow (Nat.lt_of_lt_of_le hn (show 64 ≤ 2 ^ k from Nat.pow_le_pow_right (n := 2) (i := 6) (by decide) (by omega)))
    rw [e _ (clr_lt hm j), e _ hm]; rfl
theorem clr_col {m j : Nat} (hm : m < 64) (hj : j < 6) : colM (clr m j) = colF m j ++ colT m (j + 1) := colM_off hj (clr_bit hm hj)
def popc : Nat → Nat → Nat
  | 0, _ => 0
  | f + 1, m => m % 2 + popc f (m / 2)
theorem popc_col {m : Nat} (hm : m < 64) : popc 7 m = (colM m).length := by
  have h : ∀ m : Fin 64, popc 7 m.val = (colM m.val).length := by decide +kernel
  exact h ⟨m, hm⟩
theorem popc_0 : ∀ f, popc f 0 = 0
  | 0 => rfl
  | f + 1 => by rw [popc, Nat.zero_mod, Nat.zero_div, popc_0 f]
theorem fdiv2 (m : Nat) : (m : Int).fdiv (2 ^ min 1 64) = ((m / 2 : Nat) : Int) := by
  rw [show min 1 64 = 1 from rfl, shr_nat]
set_option maxRecDepth 100000 in
set_option maxHeartbeats 4000000 in
theorem bits_tc (m : Nat) (hm : m < 64) : Look Tryz.prog 30 [.imm (.int .i64 (m : Int))] (.imm (.int .i64 (((colM m).length : Nat) : Int))) := by
  refine Look.mk trivial ?_
  rw [← popc_col hm]
  (refine TC_of_T Γ_ok Tryz.func30 rfl (by kernel_rfl) ?_;simp only [Tryz.ntmps30,Tryz.results30,List.length_cons,List.length_nil,Nat.reduceSub,Nat.reduceAdd,List.replicate,List.cons_append,List.nil_append])
  (((refine goR0 _ _ _ _ _ _ _ _ ?_ ?_ ?_ ?_ ?_ ?_ ?_ ?_) <;> (repeat intro hb) <;> first | exact True.intro | refine Lf.mk ?_))
  refine T_loopW (fun f st=>∃ (q n : Nat),q < 2 ^ f ∧ f ≤ 6 ∧ n ≤ 7 - f ∧ n + popc (f + 1) q = popc 7 m ∧ st = ⟨[.imm (.int .i64 (q : Int)),.top,.imm (.int .i64 0),.imm (.int .i64 (n : Int))] ++ List.replicate 9 .top,[]⟩)
    6 ⟨_, ?_, m, 0, hm, by omega, by omega, by rw [Nat.zero_add], rfl⟩ ?_
  · ((try simp only [List.length_append,List.length_cons,List.length_nil,Nat.zero_add]);refine Wk.intro [] (by decide) (by decide) (by intro o ho;simp at ho ⊢ <;> omega) ?_ ?_ <;> repeat' (first|exact WkVL.nil|refine WkVL.cons ?_ ?_|exact WkV.top|exact WkV.imm rfl|exact WkV.imm (by simp)|exact WkV.optr rfl|exact WkV.own rfl (by simp)|exact WkV.nil_own (.inl rfl)|exact WkV.map rfl|(refine WkV.free ?_;simp [Free,FreeL] <;> assumption)|(refine WkV.free (fun _ _=>FreeL_nth ?_ _);simp [Free,FreeL];done)|refine WkV.agg ?_|refine WkV.tup ?_|refine WkV.fn ?_ ?_|exact WkO.dead|exact WkO.raw|refine WkO.ghost ?_|exact WkO.mpE rfl trivial|refine WkO.box ?_ rfl|refine WkO.arr ?_|refine And.intro ?_ (And.intro (by first|exact fun h=>h|exact fun _=>rfl|exact nofun) ?_)|exact trivial|(intro i j hi hj)))
  rintro f st ⟨q, n, g0, g1, g2, g3, rfl⟩
  (simp only [go_sem,↓reduceIte,Nat.reduceAdd,Nat.reduceSub,Nat.reduceMul,Nat.reduceLT,Nat.reduceLeDiff,Nat.reduceEqDiff,Nat.reduceGT,Int.reduceToNat,Int.reduceBEq,Int.reduceBNe];try simp (disch := omega) only [wrapI,wrapU,half_sum,toNat_sub1,toNat_add1,Int.toNat_natCast])
  have hq : q < 64 := Nat.lt_of_lt_of_le g0 (show 2 ^ f ≤ 64 from Nat.pow_le_pow_right (by decide : 0 < 2) g1)
  have hb1 := band1 (a := q) (by omega)
  have hf2 := fdiv2 q
  by_cases h0 : 0 < q
  · (have sx1 := hb1;have sx2 := hf2;((have sx3 : (0 : Nat) + 0 = 0 := rfl;have sx4 : (0 : Nat) + 0 = 0 := rfl;have sx5 : (0 : Nat) + 0 = 0 := rfl;have sx6 : (0 : Nat) + 0 = 0 := rfl;have sx7 : (0 : Nat) + 0 = 0 := rfl;have sx8 : (0 : Nat) + 0 = 0 := rfl;have sx9 : (0 : Nat) + 0 = 0 := rfl;refine goR9 _ _ _ _ _ _ _ _ ?_ ?_ ?_ ?_ ?_ ?_ ?_ ?_) <;> (repeat intro hb) <;> first|exact True.intro|refine Lf.mk ?_))
    cases f with
    | zero => simp at g0; omega
    | succ f =>
      refine ⟨f, by omega, _, ?_, q / 2, n + q % 2, by rw [Nat.pow_succ] at g0; omega, by omega, by omega, ?_, rfl⟩
      · ((try simp only [List.length_append,List.length_cons,List.length_nil,Nat.zero_add]);refine Wk.intro [] (by decide) (by decide) (by intro o ho;simp at ho ⊢ <;> omega) ?_ ?_ <;> repeat' (first|(refine WkV.imm ?_;congr 1;omega)|exact WkVL.nil|refine WkVL.cons ?_ ?_|exact WkV.top|exact WkV.imm rfl|exact WkV.imm (by simp)|exact WkV.optr rfl|exact WkV.own rfl (by simp)|exact WkV.nil_own (.inl rfl)|exact WkV.map rfl|(refine WkV.free ?_;simp [Free,FreeL] <;> assumption)|(refine WkV.free (fun _ _=>FreeL_nth ?_ _);simp [Free,FreeL];done)|refine WkV.agg ?_|refine WkV.tup ?_|refine WkV.fn ?_ ?_|exact WkO.dead|exact WkO.raw|refine WkO.ghost ?_|exact WkO.mpE rfl trivial|refine WkO.box ?_ rfl|refine WkO.arr ?_|refine And.intro ?_ (And.intro (by first|exact fun h=>h|exact fun _=>rfl|exact nofun) ?_)|exact trivial|(intro i j hi hj)))
      · have e : popc (f + 1 + 1) q = q % 2 + popc (f + 1) (q / 2) := rfl
        omega
  · obtain rfl : q = 0 := by omega
    rw [popc_0] at g3
    (((refine goR0 _ _ _ _ _ _ _ _ ?_ ?_ ?_ ?_ ?_ ?_ ?_ ?_) <;> (repeat intro hb) <;> first | exact True.intro | refine Lf.mk ?_))
    rw [← g3]; rfl
@[go_sem, reducible] def dRw (l : List P6) : AV := .rptr 1 (nth [rowsV l])
def dEf (l : List P6) : Nat → AV
  | 0 => .top
  | r + 1 => .fn (.func 50) [] [dRw l, .rptr 1 (nth [dEf l r])]
@[go_sem] theorem dEf_succ (l : List P6) (r : Nat) : dEf l (r + 1) = .fn (.func 50) [] [dRw l,.rptr 1 (nth [dEf l r])] := rfl
@[go_sem, reducible] def dEp (l : List P6) (r : Nat) : AV := .rptr 1 (nth [dEf l r])
theorem nth1_free {v : AV} (h : Free v) (j : Nat) : Free (nth [v] j) := FreeL_nth (vs := [v]) ⟨h, trivial⟩ j
@[simp] theorem dRw_free (l : List P6) (j : Nat) : Free (nth [rowsV l] j) := nth1_free (by simp [Free]) j
@[simp] theorem dEf_free (l : List P6) : ∀ r, Free (dEf l r)
  | 0 => trivial
  | r + 1 => ⟨trivial, fun j => dRw_free l j, fun j => nth1_free (dEf_free l r) j, trivial⟩
@[simp] theorem dEp_free (l : List P6) (r j : Nat) : Free (nth [dEf l r] j) := nth1_free (dEf_free l r) j
theorem colF_colT (m : Nat) {j : Nat} (hj : j ≤ 6) : (colF m j).length + (colT m j).length ≤ 6 := by
  have h1 : (colF m j).length ≤ j := Nat.le_trans (List.length_filter_le _ _) (by simp)
  have h2 : (colT m j).length ≤ 6 - j := Nat.le_trans (List.length_filter_le _ _) (by simp)
  omega
set_option maxRecDepth 100000 in
set_option maxHeartbeats 4000000 in
theorem dexp_tc (l : List P6) (hbd : ∀ p ∈ l,Bd6 48 p) (h6 : l.length ≤ 6) : ∀ (r i : Nat),i + r = l.length → ∀ m : Nat,m < 64 →
    Look Tryz.prog 50 [.imm (.int .i64 (i : Int)),.imm (.int .i64 (m : Int)),dRw l,dEp l r] (.imm (.int .i64 (det (rowsR (l.drop i)) (colM m)))) := by
  intro r
  induction r with
  | zero =>
    intro i hr m hm
    have e : l.drop i = [] := List.drop_of_length_le (by omega)
    have hlen : (i : Int) = (l.length : Int) := by omega
    rw [e]
    refine Look.mk trivial ?_
    (refine TC_of_T Γ_ok Tryz.func50 rfl (by kernel_rfl) ?_;simp only [Tryz.ntmps50,Tryz.results50,List.length_cons,List.length_nil,Nat.reduceSub,Nat.reduceAdd,List.replicate,List.cons_append,List.nil_append])
    (((refine goR0 _ _ _ _ _ _ _ _ ?_ ?_ ?_ ?_ ?_ ?_ ?_ ?_) <;> (repeat intro hb) <;> first | exact True.intro | refine Lf.mk ?_))
    rfl
  | succ r ih =>
    intro i hr m hm
    have hlt : i < l.length := by omega
    have hdr : rowsR (l.drop i) = rwP (gP l i) :: rowsR (l.drop (i + 1)) := by unfold rowsR; rw [drop_gP hlt]; rfl
    have hF : ∀ cs : List Nat,cs.length ≤ 6 → -bdD 5 ≤ det (rowsR (l.drop (i + 1))) cs ∧ det (rowsR (l.drop (i + 1))) cs ≤ bdD 5 := fun cs hc => by
      have h := det_bd (rs := rowsR (l.drop (i + 1))) (fun q hq j => by
        obtain ⟨a, ha, rfl⟩ := List.mem_map.1 hq
        exact rwP_bd (by decide) (hbd _ (List.mem_of_mem_drop ha)) j) hc
      have h2 : (rowsR (l.drop (i + 1))).length ≤ 5 := by unfold rowsR; simp; omega
      have h3 := bdD_le h2
      omega
    have hx : ∀ j, -48 ≤ rwP (gP l i) j ∧ rwP (gP l i) j ≤ 48 := rwP_bd (by decide) (hbd _ (gP_mem hlt))
    have ih1 := ih (i + 1) (by omega)
    have hpx : ∀ j,j < 6 → nth (p6L (gP l i)) (j * 1) = .imm (.int .i64 (rwP (gP l i) j)) := fun j hj => by rw [Nat.mul_one];exact p6E_at l i hj
    rw [hdr, det]
    generalize hX : rwP (gP l i) = X at *
    generalize det (rowsR (l.drop (i + 1))) = F at *
    have b5 : bdD 5 = 1981355655168 := by decide
    rw [b5] at hF
    have hsum : ∀ j, j ≤ 6 → -1141260857376768 ≤ (lpC X F m j).1 ∧ (lpC X F m j).1 ≤ 1141260857376768 := fun j hj => by
      have h1 := lpC_inv X F m j hj
      have h2 := lpC_sign X F m j
      have h3 := colF_colT m hj
      have h4 := iota_bd6 (x := X) (F := fun q => F (colF m j ++ q)) (cs := colT m j) (C := 1981355655168) (by decide) hx (by omega) fun q hq => hF _ (by rw [List.length_append];omega)
      have h5 := colF_colT m (j := 0) (by omega)
      rw [colT_0] at h5
      have h6 := iota_bd6 (x := X) (F := F) (cs := colM m) (C := 1981355655168) (by decide) hx (by omega) fun q hq => hF _ (by omega)
      rw [expS_iota] at h1
      rcases h2 with h2 | h2 <;> rw [h2] at h1 <;> omega
    rw [← lpC_end]
    refine Look.mk trivial ?_
    (refine TC_of_T Γ_ok Tryz.func50 rfl (by kernel_rfl) ?_;simp only [Tryz.ntmps50,Tryz.results50,List.length_cons,List.length_nil,Nat.reduceSub,Nat.reduceAdd,List.replicate,List.cons_append,List.nil_append])
    (((refine goR0 _ _ _ _ _ _ _ _ ?_ ?_ ?_ ?_ ?_ ?_ ?_ ?_) <;> (repeat intro hb) <;> first | exact True.intro | refine Lf.mk ?_))
    refine T_loopW (fun f st => ∃ j : Nat, j ≤ 6 ∧ f + j = 6 ∧
        st = ⟨[.imm (.int .i64 (i : Int)),.imm (.int .i64 (m : Int)),dRw l,dEp l (r + 1),.top,.top,.imm (.int .i64 0),.imm (.int .i64 (lpC X F m j).1),.imm (.int .i64 (lpC X F m j).2)] ++ List.replicate 9 .top ++ [p6A (gP l i),.imm (.int .i64 (j : Int))] ++ List.replicate 28 .top,[]⟩)
      6 ⟨_, ?_, 0, by omega, rfl, rfl⟩ ?_
    · ((try simp only [List.length_append,List.length_cons,List.length_nil,Nat.zero_add]);refine Wk.intro [] (by decide) (by decide) (by intro o ho;simp at ho ⊢ <;> omega) ?_ ?_ <;> repeat' (first|exact WkVL.nil|refine WkVL.cons ?_ ?_|exact WkV.top|exact WkV.imm rfl|exact WkV.imm (by simp)|exact WkV.optr rfl|exact WkV.own rfl (by simp)|exact WkV.nil_own (.inl rfl)|exact WkV.map rfl|(refine WkV.free ?_;simp [Free,FreeL] <;> assumption)|(refine WkV.free (fun _ _=>FreeL_nth ?_ _);simp [Free,FreeL];done)|refine WkV.agg ?_|refine WkV.tup ?_|refine WkV.fn ?_ ?_|exact WkO.dead|exact WkO.raw|refine WkO.ghost ?_|exact WkO.mpE rfl trivial|refine WkO.box ?_ rfl|refine WkO.arr ?_|refine And.intro ?_ (And.intro (by first|exact fun h=>h|exact fun _=>rfl|exact nofun) ?_)|exact trivial|(intro i j hi hj)))
    rintro f st ⟨j, g0, g1, rfl⟩
    (simp only [go_sem,↓reduceIte,Nat.reduceAdd,Nat.reduceSub,Nat.reduceMul,Nat.reduceLT,Nat.reduceLeDiff,Nat.reduceEqDiff,Nat.reduceGT,Int.reduceToNat,Int.reduceBEq,Int.reduceBNe];try simp (disch := omega) only [wrapI,wrapU,half_sum,toNat_sub1,toNat_add1,Int.toNat_natCast])
    by_cases hj : j < 6
    · have hp := hpx j hj
      have hbt := bit_at hm hj
      have hcl := clr_at hm hj
      have hss := hsum (j + 1) (by omega)
      have hsj := hsum j (by omega)
      have hsg := lpC_sign X F m j
      have hst : lpC X F m (j + 1) = if m.testBit j = true then ((lpC X F m j).1 + (lpC X F m j).2 * X j * F (colF m j ++ colT m (j + 1)),-(lpC X F m j).2) else lpC X F m j := rfl
      have hcc := clr_col hm hj
      have hcl64 := clr_lt hm j
      rw [← hcc] at hst
      have ih2 := ih1 (clr m j) hcl64
      have hbF := hF (colM (clr m j)) (by have := colF_colT (clr m j) (j := 0) (by omega); rw [colT_0] at this; omega)
      have hxj := hx j
      cases hb1 : m.testBit j with
      | false =>
        rw [hb1, if_neg (by simp)] at hst
        rw [hb1, if_neg (by simp)] at hbt
        (have sx1 := hp;have sx2 := hbt;((have sx3 : (0 : Nat) + 0 = 0 := rfl;have sx4 : (0 : Nat) + 0 = 0 := rfl;have sx5 : (0 : Nat) + 0 = 0 := rfl;have sx6 : (0 : Nat) + 0 = 0 := rfl;have sx7 : (0 : Nat) + 0 = 0 := rfl;have sx8 : (0 : Nat) + 0 = 0 := rfl;have sx9 : (0 : Nat) + 0 = 0 := rfl;refine goR9 _ _ _ _ _ _ _ _ ?_ ?_ ?_ ?_ ?_ ?_ ?_ ?_) <;> (repeat intro hb) <;> first|exact True.intro|refine Lf.mk ?_))
        refine ⟨6 - (j + 1), by omega, _, ?_, j + 1, by omega, by omega, rfl⟩
        rw [hst]
        ((try simp only [List.length_append,List.length_cons,List.length_nil,Nat.zero_add]);refine Wk.intro [] (by decide) (by decide) (by intro o ho;simp at ho ⊢ <;> omega) ?_ ?_ <;> repeat' (first|exact WkVL.nil|refine WkVL.cons ?_ ?_|exact WkV.top|exact WkV.imm rfl|exact WkV.imm (by simp)|exact WkV.optr rfl|exact WkV.own rfl (by simp)|exact WkV.nil_own (.inl rfl)|exact WkV.map rfl|(refine WkV.free ?_;simp [Free,FreeL] <;> assumption)|(refine WkV.free (fun _ _=>FreeL_nth ?_ _);simp [Free,FreeL];done)|refine WkV.agg ?_|refine WkV.tup ?_|refine WkV.fn ?_ ?_|exact WkO.dead|exact WkO.raw|refine WkO.ghost ?_|exact WkO.mpE rfl trivial|refine WkO.box ?_ rfl|refine WkO.arr ?_|refine And.intro ?_ (And.intro (by first|exact fun h=>h|exact fun _=>rfl|exact nofun) ?_)|exact trivial|(intro i j hi hj)))
      | true =>
        rw [hb1, if_pos rfl] at hst
        rw [hb1, if_pos rfl] at hbt
        rw [hst] at hss
        have hsb : -1 ≤ (lpC X F m j).2 ∧ (lpC X F m j).2 ≤ 1 := by omega
        have m1 := mul_bd hsb hxj (by decide) (by decide)
        have m2 := mul_bd m1 hbF (by decide) (by decide)
        simp only [] at hss
        have hw1 := wrapI (x := (lpC X F m j).2 * X j) (by omega) (by omega)
        have hw2 := wrapI (x := (lpC X F m j).2 * X j * F (colM (clr m j))) (by omega) (by omega)
        have hw3 := wrapI (x := (lpC X F m j).1 + (lpC X F m j).2 * X j * F (colM (clr m j))) (by omega) (by omega)
        (have cl1 := ih2;have sx1 := hp;have sx2 := hbt;have sx3 := hcl;have sx4 : (0 : Nat) + 0 = 0 := rfl;repeat' (first|with_reducible refine T_seq_drawT (id := 9) Γ_ok drawsAny pl50_9 (by kernel_rfl) (fun K hK=>?_)|with_reducible refine T_last_drawT (id := 9) Γ_ok drawsAny pl50_9 (by kernel_rfl) (fun K hK=>?_)|((have sx5 : (0 : Nat) + 0 = 0 := rfl;have sx6 : (0 : Nat) + 0 = 0 := rfl;have sx7 : (0 : Nat) + 0 = 0 := rfl;have sx8 : (0 : Nat) + 0 = 0 := rfl;have sx9 : (0 : Nat) + 0 = 0 := rfl;refine goR9 _ _ _ _ _ _ _ _ ?_ ?_ ?_ ?_ ?_ ?_ ?_ ?_) <;> (repeat intro hb) <;> first|exact True.intro|refine Lf.mk ?_)))
        · refine ⟨6 - (j + 1), by omega, _, ?_, j + 1, by omega, by omega, rfl⟩
          rw [hst]
          try simp only [hw1, hw2, hw3]
          ((try simp only [List.length_append,List.length_cons,List.length_nil,Nat.zero_add]);refine Wk.intro [] (by decide) (by decide) (by intro o ho;simp at ho ⊢ <;> omega) ?_ ?_ <;> repeat' (first|(refine WkV.imm ?_;congr 1;omega)|exact WkVL.nil|refine WkVL.cons ?_ ?_|exact WkV.top|exact WkV.imm rfl|exact WkV.imm (by simp)|exact WkV.optr rfl|exact WkV.own rfl (by simp)|exact WkV.nil_own (.inl rfl)|exact WkV.map rfl|(refine WkV.free ?_;simp [Free,FreeL] <;> assumption)|(refine WkV.free (fun _ _=>FreeL_nth ?_ _);simp [Free,FreeL];done)|refine WkV.agg ?_|refine WkV.tup ?_|refine WkV.fn ?_ ?_|exact WkO.dead|exact WkO.raw|refine WkO.ghost ?_|exact WkO.mpE rfl trivial|refine WkO.box ?_ rfl|refine WkO.arr ?_|refine And.intro ?_ (And.intro (by first|exact fun h=>h|exact fun _=>rfl|exact nofun) ?_)|exact trivial|(intro i j hi hj)))
        · refine ⟨6 - (j + 1), by omega, _, ?_, j + 1, by omega, by omega, rfl⟩
          have hz : X j = 0 := by assumption
          rw [hst, hz, Int.mul_zero, Int.zero_mul, Int.add_zero]
          ((try simp only [List.length_append,List.length_cons,List.length_nil,Nat.zero_add]);refine Wk.intro [] (by decide) (by decide) (by intro o ho;simp at ho ⊢ <;> omega) ?_ ?_ <;> repeat' (first|(refine WkV.imm ?_;congr 1;omega)|exact WkVL.nil|refine WkVL.cons ?_ ?_|exact WkV.top|exact WkV.imm rfl|exact WkV.imm (by simp)|exact WkV.optr rfl|exact WkV.own rfl (by simp)|exact WkV.nil_own (.inl rfl)|exact WkV.map rfl|(refine WkV.free ?_;simp [Free,FreeL] <;> assumption)|(refine WkV.free (fun _ _=>FreeL_nth ?_ _);simp [Free,FreeL];done)|refine WkV.agg ?_|refine WkV.tup ?_|refine WkV.fn ?_ ?_|exact WkO.dead|exact WkO.raw|refine WkO.ghost ?_|exact WkO.mpE rfl trivial|refine WkO.box ?_ rfl|refine WkO.arr ?_|refine And.intro ?_ (And.intro (by first|exact fun h=>h|exact fun _=>rfl|exact nofun) ?_)|exact trivial|(intro i j hi hj)))
    · obtain rfl : j = 6 := by omega
      (((refine goR0 _ _ _ _ _ _ _ _ ?_ ?_ ?_ ?_ ?_ ?_ ?_ ?_) <;> (repeat intro hb) <;> first | exact True.intro | refine Lf.mk ?_))
end Go.Proofs.YtngfnogoicfmaaaGreatDoor
