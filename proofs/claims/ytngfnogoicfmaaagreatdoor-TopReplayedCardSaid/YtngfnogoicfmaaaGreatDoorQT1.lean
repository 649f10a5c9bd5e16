/-
  Intervals as values; pitch.within, Interval; matrix.abs, Valid; comma.add.
-/
import Derived.Test.YtngfnogoicfmaaaGreatDoorQGo3
import Derived.Test.YtngfnogoicfmaaaGreatDoorQA5
import Derived.Test.YtngfnogoicfmaaaGreatDoorQA1
set_option linter.unusedSimpArgs false
set_option linter.unusedVariables false
namespace Go.Proofs.YtngfnogoicfmaaaGreatDoor
open Go.Ab
structure P6 where
  a : Int
  b : Int
  c : Int
  d : Int
  e : Int
  f : Int
  deriving DecidableEq
def z6 : P6 := ⟨0, 0, 0, 0, 0, 0⟩
instance : Inhabited P6 := ⟨z6⟩
def Bd6 (n : Int) (p : P6) : Prop := (-n ≤ p.a ∧ p.a ≤ n) ∧ (-n ≤ p.b ∧ p.b ≤ n) ∧ (-n ≤ p.c ∧ p.c ≤ n) ∧ (-n ≤ p.d ∧ p.d ≤ n) ∧ (-n ≤ p.e ∧ p.e ≤ n) ∧ (-n ≤ p.f ∧ p.f ≤ n)
instance (n : Int) (p : P6) : Decidable (Bd6 n p) := by unfold Bd6; infer_instance
@[go_sem,reducible] def p6L (p : P6) : List AV := [.imm (.int .i64 p.a),.imm (.int .i64 p.b),.imm (.int .i64 p.c),.imm (.int .i64 p.d),.imm (.int .i64 p.e),.imm (.int .i64 p.f)]
@[go_sem, reducible] def p6A (p : P6) : AV := .agg (p6L p)
@[go_sem] theorem P6.eta (p : P6) : (⟨p.a, p.b, p.c, p.d, p.e, p.f⟩ : P6) = p := rfl
def gP (l : List P6) (i : Nat) : P6 := l.getD i z6
def p6E (l : List P6) (i j : Nat) : AV := nth (p6L (gP l i)) j
@[go_sem] theorem p6E_0 (l : List P6) (i : Nat) : p6E l i 0 = .imm (.int .i64 (gP l i).a) := rfl
@[go_sem] theorem p6E_1 (l : List P6) (i : Nat) : p6E l i 1 = .imm (.int .i64 (gP l i).b) := rfl
@[go_sem] theorem p6E_2 (l : List P6) (i : Nat) : p6E l i 2 = .imm (.int .i64 (gP l i).c) := rfl
@[go_sem] theorem p6E_3 (l : List P6) (i : Nat) : p6E l i 3 = .imm (.int .i64 (gP l i).d) := rfl
@[go_sem] theorem p6E_4 (l : List P6) (i : Nat) : p6E l i 4 = .imm (.int .i64 (gP l i).e) := rfl
@[go_sem] theorem p6E_5 (l : List P6) (i : Nat) : p6E l i 5 = .imm (.int .i64 (gP l i).f) := rfl
@[simp] theorem p6E_free (l : List P6) (i j : Nat) : Free (p6E l i j) := FreeL_nth (by simp [FreeL, Free]) _
@[simp] theorem p6E_pl (l : List P6) (i j : Nat) : Pl (p6E l i j) := by unfold p6E;rcases j with _ | _ | _ | _ | _ | _ | j <;> trivial
@[go_sem, reducible] def rowsV (l : List P6) : AV := .view l.length 6 (p6E l)
set_option maxRecDepth 100000 in
set_option maxHeartbeats 4000000 in
theorem within_tc (p : P6) (n : Int) (h0 : 0 ≤ n) (h1 : n ≤ 1000) : Look Tryz.prog 42 [p6A p,.imm (.int .i64 n)] (.imm (.bool (decide (Bd6 n p)))) := by
  refine Look.mk trivial ?_
  (refine TC_of_T Γ_ok Tryz.func42 rfl (by kernel_rfl) ?_;simp only [Tryz.ntmps42,Tryz.results42,List.length_cons,List.length_nil,Nat.reduceSub,Nat.reduceAdd,List.replicate,List.cons_append,List.nil_append])
  (have sx1 : (0 : Nat) + 0 = 0 := rfl;((refine goU1 _ _ _ _ _ _ _ _ _ _ _ _ ?_ ?_ ?_ ?_ ?_ ?_ ?_ ?_ ?_ ?_ ?_ ?_) <;> (repeat intro hb) <;> first | exact True.intro | refine Lf.mk ?_))
  refine T_rounds 7 ?_
  (have sx1 : (0 : Nat) + 0 = 0 := rfl;((refine goU1 _ _ _ _ _ _ _ _ _ _ _ _ ?_ ?_ ?_ ?_ ?_ ?_ ?_ ?_ ?_ ?_ ?_ ?_) <;> (repeat intro hb) <;> first | exact True.intro | refine Lf.mk ?_))
  all_goals (refine congrArg (fun b => AV.imm (.bool b)) ?_; rw [Bool.eq_iff_iff, decide_eq_true_eq]; unfold Bd6; grind)
set_option maxRecDepth 100000 in
set_option maxHeartbeats 4000000 in
theorem interval_tc (p : P6) : Look Tryz.prog 19 [p6A p] (.imm (.bool (decide (Bd6 48 p)))) := by
  have h := within_tc p 48 (by omega) (by omega)
  refine Look.mk trivial ?_
  (refine TC_of_T Γ_ok Tryz.func19 rfl (by kernel_rfl) ?_;simp only [Tryz.ntmps19,Tryz.results19,List.length_cons,List.length_nil,Nat.reduceSub,Nat.reduceAdd,List.replicate,List.cons_append,List.nil_append])
  (have cl1 := h;have sx1 : (0 : Nat) + 0 = 0 := rfl;((refine goU1 _ _ _ _ _ _ _ _ _ _ _ _ ?_ ?_ ?_ ?_ ?_ ?_ ?_ ?_ ?_ ?_ ?_ ?_) <;> (repeat intro hb) <;> first | exact True.intro | refine Lf.mk ?_))
def absI (x : Int) : Int := if x < 0 then -x else x
set_option maxRecDepth 100000 in
set_option maxHeartbeats 4000000 in
theorem abs_tc (x : Int) (h0 : -1000000000 ≤ x) (h1 : x ≤ 1000000000) : Look Tryz.prog 82 [.imm (.int .i64 x)] (.imm (.int .i64 (absI x))) := by
  refine Look.mk trivial ?_
  (refine TC_of_T Γ_ok Tryz.func82 rfl (by kernel_rfl) ?_;simp only [Tryz.ntmps82,Tryz.results82,List.length_cons,List.length_nil,Nat.reduceSub,Nat.reduceAdd,List.replicate,List.cons_append,List.nil_append])
  (have sx1 : (0 : Nat) + 0 = 0 := rfl;((refine goU1 _ _ _ _ _ _ _ _ _ _ _ _ ?_ ?_ ?_ ?_ ?_ ?_ ?_ ?_ ?_ ?_ ?_ ?_) <;> (repeat intro hb) <;> first | exact True.intro | refine Lf.mk ?_))
  · unfold absI; rw [if_pos (by assumption)]
    congr 2; omega
  · unfold absI; rw [if_neg (by omega)]
def P6.sum (p : P6) : Int := absI p.a + absI p.b + absI p.c + absI p.d + absI p.e + absI p.f
theorem absI_bd {n x : Int} (h : -n ≤ x ∧ x ≤ n) : 0 ≤ absI x ∧ absI x ≤ n := by unfold absI; split <;> omega
theorem P6.sum_bd {n : Int} {p : P6} (h : Bd6 n p) : 0 ≤ p.sum ∧ p.sum ≤ 6 * n := by
  obtain ⟨h1, h2, h3, h4, h5, h6⟩ := h
  have := absI_bd h1; have := absI_bd h2; have := absI_bd h3; have := absI_bd h4; have := absI_bd h5; have := absI_bd h6
  unfold P6.sum; omega
def volB : List P6 → Int → Bool
  | [], _ => true
  | p :: l, v => if v * max p.sum 1 > 1000000000 then false else volB l (v * max p.sum 1)
def matB (l : List P6) : Bool := volB l 1 && decide (l.length ≤ 8)
theorem drop_gP {l : List P6} {i : Nat} (h : i < l.length) : l.drop i = gP l i :: l.drop (i + 1) := by
  rw [List.drop_eq_getElem_cons h]; simp [gP, h]
theorem gP_mem {l : List P6} {i : Nat} (h : i < l.length) : gP l i ∈ l := by simp [gP, h]
set_option maxRecDepth 100000 in
set_option maxHeartbeats 4000000 in
theorem matValid_tc (l : List P6) (hl : l.length ≤ 1000) (hb : ∀ p ∈ l,Bd6 48 p) : Look Tryz.prog 61 [rowsV l] (.imm (.bool (matB l))) := by
  refine Look.mk trivial ?_
  (refine TC_of_T Γ_ok Tryz.func61 rfl (by kernel_rfl) ?_;simp only [Tryz.ntmps61,Tryz.results61,List.length_cons,List.length_nil,Nat.reduceSub,Nat.reduceAdd,List.replicate,List.cons_append,List.nil_append])
  (have sx1 : (0 : Nat) + 0 = 0 := rfl;((refine goU1 _ _ _ _ _ _ _ _ _ _ _ _ ?_ ?_ ?_ ?_ ?_ ?_ ?_ ?_ ?_ ?_ ?_ ?_) <;> (repeat intro hb) <;> first | exact True.intro | refine Lf.mk ?_))
  refine T_loopW (fun m st=>∃ (i : Nat) (v : Int),i ≤ l.length ∧ m + i = l.length ∧ volB l 1 = volB (l.drop i) v ∧ (1 ≤ v ∧ v ≤ 1000000000) ∧ st = ⟨[rowsV l,.top,.imm (.bool false),.imm (.int .i64 v),.top,.top,.top,.top,.top,rowsV l,.imm (.int .i64 l.length),.imm (.int .i64 i)] ++ List.replicate 28 .top,[]⟩)
    l.length ⟨_, ?_, 0, 1, by omega, rfl, rfl, by omega, rfl⟩ ?_
  · ((try simp only [List.length_append,List.length_cons,List.length_nil,Nat.zero_add]);refine Wk.intro [] (by decide) (by decide) (by intro o ho;simp at ho ⊢ <;> omega) ?_ ?_ <;> repeat' (first|exact WkVL.nil|refine WkVL.cons ?_ ?_|exact WkV.top|exact WkV.imm rfl|exact WkV.imm (by simp)|exact WkV.optr rfl|exact WkV.own rfl (by simp)|exact WkV.nil_own (.inl rfl)|exact WkV.map rfl|(refine WkV.free ?_;simp [Free,FreeL] <;> assumption)|(refine WkV.free (fun _ _=>FreeL_nth ?_ _);simp [Free,FreeL];done)|refine WkV.agg ?_|refine WkV.tup ?_|refine WkV.fn ?_ ?_|exact WkO.dead|exact WkO.raw|refine WkO.ghost ?_|exact WkO.mpE rfl trivial|refine WkO.box ?_ rfl|refine WkO.arr ?_|refine And.intro ?_ (And.intro (by first|exact fun h=>h|exact fun _=>rfl|exact nofun) ?_)|exact trivial|(intro i j hi hj)))
  rintro m st ⟨i, v, h0, hm, hv, hv2, rfl⟩
  (simp only [go_sem,↓reduceIte,Nat.reduceAdd,Nat.reduceSub,Nat.reduceMul,Nat.reduceLT,Nat.reduceLeDiff,Nat.reduceEqDiff,Nat.reduceGT,Int.reduceToNat,Int.reduceBEq,Int.reduceBNe];try simp (disch := omega) only [wrapI,wrapU,half_sum,toNat_sub1,toNat_add1,Int.toNat_natCast])
  by_cases hi : i < l.length
  · have hg := hb _ (gP_mem hi)
    have hs := P6.sum_bd hg
    rw [drop_gP hi, volB] at hv
    have hsum : (gP l i).sum = absI (gP l i).a + absI (gP l i).b + absI (gP l i).c + absI (gP l i).d + absI (gP l i).e + absI (gP l i).f := rfl
    obtain ⟨g1, g2, g3, g4, g5, g6⟩ := hg
    have h1 := abs_tc (gP l i).a (by omega) (by omega)
    have h2 := abs_tc (gP l i).b (by omega) (by omega)
    have h3 := abs_tc (gP l i).c (by omega) (by omega)
    have h4 := abs_tc (gP l i).d (by omega) (by omega)
    have h5 := abs_tc (gP l i).e (by omega) (by omega)
    have h6 := abs_tc (gP l i).f (by omega) (by omega)
    have k1 := absI_bd g1
    have k2 := absI_bd g2
    have k3 := absI_bd g3
    have k4 := absI_bd g4
    have k5 := absI_bd g5
    have k6 := absI_bd g6
    have hsx : 0 + absI (gP l i).a + absI (gP l i).b + absI (gP l i).c + absI (gP l i).d + absI (gP l i).e + absI (gP l i).f = (gP l i).sum := by omega
    have hmx : (if (gP l i).sum < 1 then 1 else (gP l i).sum) = max (gP l i).sum 1 := by omega
    have hm2 : 1 ≤ max (gP l i).sum 1 ∧ max (gP l i).sum 1 ≤ 288 := by omega
    have hnl : v * 1 ≤ v * max (gP l i).sum 1 := Int.mul_le_mul_of_nonneg_left hm2.1 (by omega)
    have hnu : v * max (gP l i).sum 1 ≤ v * 288 := Int.mul_le_mul_of_nonneg_left hm2.2 (by omega)
    rw [← hmx] at hnl hnu hv
    clear hsum
    have hw := wrapI (x := v * (if (gP l i).sum < 1 then 1 else (gP l i).sum)) (by omega) (by omega)
    (have sx1 : (0 : Nat) + 0 = 0 := rfl;((refine goU1 _ _ _ _ _ _ _ _ _ _ _ _ ?_ ?_ ?_ ?_ ?_ ?_ ?_ ?_ ?_ ?_ ?_ ?_) <;> (repeat intro hb) <;> first | exact True.intro | refine Lf.mk ?_))
    refine T_rounds 7 ?_
    (have dl1 := h1;have dl2 := h2;have dl3 := h3;have dl4 := h4;have dl5 := h5;have dl6 := h6;have sx1 := hsx;((refine goU1 _ _ _ _ _ _ _ _ _ _ _ _ ?_ ?_ ?_ ?_ ?_ ?_ ?_ ?_ ?_ ?_ ?_ ?_) <;> (repeat intro hb) <;> first|exact True.intro|refine Lf.mk ?_))
    · rw [hw] at hb
      rw [if_pos (by omega)] at hv
      unfold matB; rw [hv]; rfl
    · rw [hw] at hb
      rw [if_neg (by omega)] at hv
      refine ⟨l.length - (i + 1), by omega, _, ?_, i + 1, _, by omega, by omega, hv, by omega, rfl⟩
      rw [hw]
      ((try simp only [List.length_append,List.length_cons,List.length_nil,Nat.zero_add]);refine Wk.intro [] (by decide) (by decide) (by intro o ho;simp at ho ⊢ <;> omega) ?_ ?_ <;> repeat' (first|exact WkVL.nil|refine WkVL.cons ?_ ?_|exact WkV.top|exact WkV.imm rfl|exact WkV.imm (by simp)|exact WkV.optr rfl|exact WkV.own rfl (by simp)|exact WkV.nil_own (.inl rfl)|exact WkV.map rfl|(refine WkV.free ?_;simp [Free,FreeL] <;> assumption)|(refine WkV.free (fun _ _=>FreeL_nth ?_ _);simp [Free,FreeL];done)|refine WkV.agg ?_|refine WkV.tup ?_|refine WkV.fn ?_ ?_|exact WkO.dead|exact WkO.raw|refine WkO.ghost ?_|exact WkO.mpE rfl trivial|refine WkO.box ?_ rfl|refine WkO.arr ?_|refine And.intro ?_ (And.intro (by first|exact fun h=>h|exact fun _=>rfl|exact nofun) ?_)|exact trivial|(intro i j hi hj)))
  · (have sx1 : (0 : Nat) + 0 = 0 := rfl;((refine goU1 _ _ _ _ _ _ _ _ _ _ _ _ ?_ ?_ ?_ ?_ ?_ ?_ ?_ ?_ ?_ ?_ ?_ ?_) <;> (repeat intro hb) <;> first | exact True.intro | refine Lf.mk ?_))
    have e : l.drop i = [] := List.drop_of_length_le (by omega)
    rw [e, volB] at hv
    unfold matB
    rw [hv, Bool.true_and]
    congr 2
    exact decide_eq_decide.2 (by omega)
def P6.addN (v c : P6) (n : Int) : P6 := ⟨v.a + n * c.a,v.b + n * c.b,v.c + n * c.c,v.d + n * c.d,v.e + n * c.e,v.f + n * c.f⟩
theorem mul_bd {n x N X : Int} (hn : -N ≤ n ∧ n ≤ N) (hx : -X ≤ x ∧ x ≤ X) (h0 : 0 ≤ N) (h1 : 0 ≤ X) : -(N * X) ≤ n * x ∧ n * x ≤ N * X := by
  have h := Int.natAbs_mul n x
  have h2 : n.natAbs * x.natAbs ≤ N.natAbs * X.natAbs := Nat.mul_le_mul (by omega) (by omega)
  have h3 := Int.natAbs_mul N X
  have h4 : 0 ≤ N * X := Int.mul_nonneg h0 h1
  omega
theorem TC.head {P : Program} {f : FuncId} {args : List AV} {a0 a1 : AObj} {v1 : AV} (h : TC P f args [a0] (fun v σ'=>v = v1 ∧ ∃ t,σ' = a1 :: t)) (hv : ∀ t,WkV [0] (a1 :: t) v1 v1) (ho : ∀ t,WkO [0] (a1 :: t) a1 a1) :
    TC P f args [a0] (fun v σ' => v = v1 ∧ σ' = [a1]) :=
  TC.weak h (by
    rintro v σ' ⟨rfl, t, rfl⟩
    exact ⟨[0], v, [a1], rfl, by simp, by simp, hv t, ⟨ho t, fun h => h, trivial⟩, rfl, rfl⟩)
set_option maxRecDepth 100000 in
set_option maxHeartbeats 4000000 in
theorem add_tc (v c : P6) (n : Int) (hv : Bd6 1000000 v) (hc : Bd6 48 c) (hn : -1000 ≤ n ∧ n ≤ 1000) :
    TC Tryz.prog 18 [.optr 0 0 0,p6A c,.imm (.int .i64 n)] [.box 37 (p6L v)] (fun x σ' => x = .tup [] ∧ σ' = [.box 37 (p6L (v.addN c n))]) := by
  obtain ⟨v1, v2, v3, v4, v5, v6⟩ := hv
  obtain ⟨c1, c2, c3, c4, c5, c6⟩ := hc
  have k1 := mul_bd hn c1 (by omega) (by omega)
  have k2 := mul_bd hn c2 (by omega) (by omega)
  have k3 := mul_bd hn c3 (by omega) (by omega)
  have k4 := mul_bd hn c4 (by omega) (by omega)
  have k5 := mul_bd hn c5 (by omega) (by omega)
  have k6 := mul_bd hn c6 (by omega) (by omega)
  refine TC.head ?_ (fun t => WkV.free (by simp [Free,FreeL])) (fun t => WkO.box (by repeat' (first | exact WkVL.nil | refine WkVL.cons (WkV.imm rfl) ?_)) rfl)
  (refine TC_of_T Γ_ok Tryz.func18 rfl (by kernel_rfl) ?_;simp only [Tryz.ntmps18,Tryz.results18,List.length_cons,List.length_nil,Nat.reduceSub,Nat.reduceAdd,List.replicate,List.cons_append,List.nil_append])
  (have sx1 : (0 : Nat) + 0 = 0 := rfl;((refine goU1 _ _ _ _ _ _ _ _ _ _ _ _ ?_ ?_ ?_ ?_ ?_ ?_ ?_ ?_ ?_ ?_ ?_ ?_) <;> (repeat intro hb) <;> first | exact True.intro | refine Lf.mk ?_))
  refine T_rounds 7 ?_
  (have sx1 : (0 : Nat) + 0 = 0 := rfl;repeat' (first|with_reducible refine T_seq_drawT (id := 4) Γ_ok drawsAny pl18_4 (by kernel_rfl) (fun K hK=>?_)|with_reducible refine T_last_drawT (id := 4) Γ_ok drawsAny pl18_4 (by kernel_rfl) (fun K hK=>?_)|((refine goU1 _ _ _ _ _ _ _ _ _ _ _ _ ?_ ?_ ?_ ?_ ?_ ?_ ?_ ?_ ?_ ?_ ?_ ?_) <;> (repeat intro hb) <;> first|exact True.intro|refine Lf.mk ?_)))
  exact ⟨_, rfl⟩
theorem add_tu (v c : P6) (n : Int) (hv : Bd6 1000000 v) (hc : Bd6 48 c) (hn : -1000 ≤ n ∧ n ≤ 1000) :
    Turns Tryz.prog 18 [.optr 0 0 0,p6A c,.imm (.int .i64 n)] [.box 37 (p6L v)] (.tup []) [.box 37 (p6L (v.addN c n))] :=
  ⟨add_tc v c n hv hc hn,by simp [VF,VFL],fun a ha => by simp only [List.mem_cons,List.not_mem_nil,or_false] at ha;subst ha;simp [VFO,VF,VFL]⟩
end Go.Proofs.YtngfnogoicfmaaaGreatDoor
