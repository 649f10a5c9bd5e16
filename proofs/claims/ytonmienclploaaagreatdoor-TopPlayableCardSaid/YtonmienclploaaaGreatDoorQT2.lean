/-
 Parts joined: B2 B3.
-/
import Derived.Test.YtonmienclploaaaGreatDoorQGo3
import Derived.Test.YtonmienclploaaaGreatDoorQT1
set_option linter.unusedSimpArgs false
set_option linter.unusedVariables false
namespace Go.Proofs.YtonmienclploaaaGreatDoor
open Go.Ab
@[go_sem] theorem gcell_0 : gcell .i64 logL 0 = .imm (.int .i64 1000000000) := rfl
@[go_sem] theorem gcell_1 : gcell .i64 logL 1 = .imm (.int .i64 1000000000) := rfl
@[go_sem] theorem gcell_2 : gcell .i64 logL 2 = .imm (.int .i64 1584962500) := rfl
@[go_sem] theorem gcell_3 : gcell .i64 logL 3 = .imm (.int .i64 1584962501) := rfl
@[go_sem] theorem gcell_4 : gcell .i64 logL 4 = .imm (.int .i64 2321928094) := rfl
@[go_sem] theorem gcell_5 : gcell .i64 logL 5 = .imm (.int .i64 2321928095) := rfl
@[go_sem] theorem gcell_6 : gcell .i64 logL 6 = .imm (.int .i64 2807354922) := rfl
@[go_sem] theorem gcell_7 : gcell .i64 logL 7 = .imm (.int .i64 2807354923) := rfl
@[go_sem] theorem gcell_8 : gcell .i64 logL 8 = .imm (.int .i64 3459431618) := rfl
@[go_sem] theorem gcell_9 : gcell .i64 logL 9 = .imm (.int .i64 3459431619) := rfl
@[go_sem] theorem gcell_10 : gcell .i64 logL 10 = .imm (.int .i64 3700439718) := rfl
@[go_sem] theorem gcell_11 : gcell .i64 logL 11 = .imm (.int .i64 3700439719) := rfl
@[go_sem] theorem gA_1 : gA 1 = .rptr 12 (gcell .i64 logL) := rfl
def P6.at (p : P6) : Nat → Int
 | 0 => p.a
 | 1 => p.b
 | 2 => p.c
 | 3 => p.d
 | 4 => p.e
 | _ => p.f
def lgLo : Nat → Int
 | 0 => 1000000000
 | 1 => 1584962500
 | 2 => 2321928094
 | 3 => 2807354922
 | 4 => 3459431618
 | _ => 3700439718
def lgHi : Nat → Int
 | 0 => 1000000000
 | 1 => 1584962501
 | 2 => 2321928095
 | 3 => 2807354923
 | 4 => 3459431619
 | _ => 3700439719
def loS (e : P6) : Nat → Int
 | 0 => 0
 | i + 1 => loS e i + exL (e.at i) (lgLo i) (lgHi i)
def hiS (e : P6) : Nat → Int
 | 0 => 0
 | i + 1 => hiS e i + exL (e.at i) (lgHi i) (lgLo i)
def Small (e : P6) : Prop := (-1152 ≤ e.a ∧ e.a ≤ 1152) ∧ (-1152 ≤ e.b ∧ e.b ≤ 1152) ∧ (-1152 ≤ e.c ∧ e.c ≤ 1152) ∧ (-1152 ≤ e.d ∧ e.d ≤ 1152) ∧ (-1152 ≤ e.e ∧ e.e ≤ 1152) ∧ (-1152 ≤ e.f ∧ e.f ≤ 1152)
theorem exL_bd {x l h : Int} (hx : -1152 ≤ x ∧ x ≤ 1152) (hl : 0 ≤ l ∧ l ≤ 4000000000) (hh : 0 ≤ h ∧ h ≤ 4000000000) : -5000000000000 ≤ exL x l h ∧ exL x l h ≤ 5000000000000 := by
 have key : ∀ z : Int, 0 ≤ z → z ≤ 4000000000 → -5000000000000 ≤ x * z ∧ x * z ≤ 5000000000000 := fun z h0 h1 => by
  have a1 : (x + 1152) * z ≥ 0 := Int.mul_nonneg (by omega) h0
  have a2 : (1152 - x) * z ≥ 0 := Int.mul_nonneg (by omega) h0
  rw [Int.add_mul] at a1
  rw [Int.sub_mul] at a2
  omega
 unfold exL
 split
 ·exact key h hh.1 hh.2
 ·exact key l hl.1 hl.2
theorem at_bd {e : P6} (h : Small e) (i : Nat) : -1152 ≤ e.at i ∧ e.at i ≤ 1152 := by
 obtain ⟨h1, h2, h3, h4, h5, h6⟩ := h
 rcases i with _ | _ | _ | _ | _ | i <;> assumption
theorem lg_bd (i : Nat) : (0 ≤ lgLo i ∧ lgLo i ≤ 4000000000) ∧ (0 ≤ lgHi i ∧ lgHi i ≤ 4000000000) := by
 rcases i with _ | _ | _ | _ | _ | i <;> exact ⟨⟨by simp [lgLo], by simp [lgLo]⟩, by simp [lgHi], by simp [lgHi]⟩
theorem loS_bd {e : P6} (h : Small e) : ∀ i : Nat,-5000000000000 * (i : Int) ≤ loS e i ∧ loS e i ≤ 5000000000000 * (i : Int)
 | 0 => by simp [loS]
 | i + 1 => by
  have := loS_bd h i
  have := exL_bd (at_bd h i) (lg_bd i).1 (lg_bd i).2
  unfold loS; omega
theorem hiS_bd {e : P6} (h : Small e) : ∀ i : Nat,-5000000000000 * (i : Int) ≤ hiS e i ∧ hiS e i ≤ 5000000000000 * (i : Int)
 | 0 => by simp [hiS]
 | i + 1 => by
  have := hiS_bd h i
  have := exL_bd (at_bd h i) (lg_bd i).2 (lg_bd i).1
  unfold hiS; omega
theorem loS_6 (e : P6) : loS e 6 = sizeLo e := by simp only [loS, sizeLo, P6.at, lgLo, lgHi, Int.zero_add]
theorem hiS_6 (e : P6) : hiS e 6 = sizeHi e := by simp only [hiS, sizeHi, P6.at, lgLo, lgHi, Int.zero_add]
def ixI : Nat → Int := fun i => (i : Int)
theorem ixI_0 : ixI 0 = 0 := rfl
theorem ixI_1 : ixI 1 = 1 := rfl
theorem ixI_2 : ixI 2 = 2 := rfl
theorem ixI_3 : ixI 3 = 3 := rfl
theorem ixI_4 : ixI 4 = 4 := rfl
theorem ixI_5 : ixI 5 = 5 := rfl
theorem ixI_6 : ixI 6 = 6 := rfl
def stX (e : P6) (i : Nat) : St := ⟨[p6A e,.optr 0 0 0,.optr 1 0 0,.optr 2 0 0,.top,.top,.agg [.imm (.int .i64 1000000000),.imm (.int .i64 1000000000),.imm (.int .i64 1584962500),.imm (.int .i64 1584962501),.imm (.int .i64 2321928094),.imm (.int .i64 2321928095),.imm (.int .i64 2807354922),.imm (.int .i64 2807354923),.imm (.int .i64 3459431618),.imm (.int .i64 3459431619),.imm (.int .i64 3700439718),.imm (.int .i64 3700439719)],.imm (.int .i64 (ixI i))] ++ List.replicate 35 .top,[.box 22 (p6L e),.box 108 [.imm (.int .i64 0),.imm (.int .i64 0)],.box 108 [.imm (.int .i64 (loS e i)),.imm (.int .i64 (hiS e i))]]⟩
set_option maxRecDepth 100000 in
set_option maxHeartbeats 4000000 in
theorem exponents_tc (e : P6) (h : Small e) : Look Tryz.prog 65 [p6A e] (.agg [.imm (.int .i64 (sizeLo e)),.imm (.int .i64 (sizeHi e))]) := by
 refine Look.mk (by simp [Pl, PlL]) ?_
 have hq := h
 unfold Small at hq
 (refine TC_of_T Γ_ok Tryz.func65 rfl (by kernel_rfl) ?_;simp only [Tryz.ntmps65,Tryz.results65,List.length_cons,List.length_nil,Nat.reduceSub,Nat.reduceAdd,List.replicate,List.cons_append,List.nil_append])
 (have sx1:=sx0;((refine goU1 _ _ _ _ _ _ _ _ _ _ _ _ ?_ ?_ ?_ ?_ ?_ ?_ ?_ ?_ ?_ ?_ ?_ ?_)<;>(repeat intro hb)<;>first|exact True.intro|refine Lf.mk ?_))
 refine T_loopW (fun m st => ∃ i : Nat, i ≤ 6 ∧ m + i = 6 ∧ st = stX e i) 6 ⟨_, ?_, 0, by omega, rfl, rfl⟩ ?_
 ·unfold stX
  ((try refine sgl ?_);exact wkI [0,1,2])
 rintro m st ⟨i, h0, h1, rfl⟩
 unfold stX
 have hb1 := loS_bd h i
 have hb2 := hiS_bd h i
 obtain rfl | rfl | rfl | rfl | rfl | rfl | rfl : i = 0 ∨ i = 1 ∨ i = 2 ∨ i = 3 ∨ i = 4 ∨ i = 5 ∨ i = 6 := by omega
 case inr.inr.inr.inr.inr.inr =>
  rw [ixI_6, loS_6, hiS_6]
  refine sgo ?_
  (have sx1:=sx0;((refine goU1 _ _ _ _ _ _ _ _ _ _ _ _ ?_ ?_ ?_ ?_ ?_ ?_ ?_ ?_ ?_ ?_ ?_ ?_)<;>(repeat intro hb)<;>first|exact True.intro|refine Lf.mk ?_))
 case inl =>
  rw [ixI_0]
  refine sgo ?_
  (have sx1:=sx0;repeat' (first|with_reducible refine T_seq_drawT (id := 7) Γ_ok drawsAny pl65_7 (by kernel_rfl) (fun K hK=>?_)|with_reducible refine T_last_drawT (id := 7) Γ_ok drawsAny pl65_7 (by kernel_rfl) (fun K hK=>?_)|with_reducible refine T_seq_drawT (id := 8) Γ_ok drawsAny pl65_8 (by kernel_rfl) (fun K hK=>?_)|with_reducible refine T_last_drawT (id := 8) Γ_ok drawsAny pl65_8 (by kernel_rfl) (fun K hK=>?_)|((refine goU1 _ _ _ _ _ _ _ _ _ _ _ _ ?_ ?_ ?_ ?_ ?_ ?_ ?_ ?_ ?_ ?_ ?_ ?_)<;>(repeat intro hb)<;>first|exact True.intro|refine Lf.mk ?_)))
  all_goals
   refine ⟨6 - (0 + 1), by omega, _, ?_, 0 + 1, by omega, by omega, rfl⟩
   ((try refine sgl ?_);refine Wk.intro [0,1,2] (by decide) (by decide) wkH ?_ ?_ <;> repeat' (first|(refine WkV.imm ?_;congr 2;(first|rfl|(simp only [loS,hiS,exL,P6.at,lgLo,lgHi];split <;> omega)))|refine WkVL.cons ?_ ?_|exact wkT|refine WkV.agg ?_|refine WkV.tup ?_|refine WkV.fn ?_ ?_|exact WkO.dead|exact WkO.raw|refine WkO.ghost ?_|exact WkO.mpE rfl trivial|refine WkO.box ?_ rfl|refine WkO.arr ?_|refine And.intro ?_ (And.intro aF ?_)|exact trivial|(intro i j hi hj)))
 case inr.inl =>
  rw [ixI_1]
  refine sgo ?_
  (have sx1:=sx0;repeat' (first|with_reducible refine T_seq_drawT (id := 7) Γ_ok drawsAny pl65_7 (by kernel_rfl) (fun K hK=>?_)|with_reducible refine T_last_drawT (id := 7) Γ_ok drawsAny pl65_7 (by kernel_rfl) (fun K hK=>?_)|with_reducible refine T_seq_drawT (id := 8) Γ_ok drawsAny pl65_8 (by kernel_rfl) (fun K hK=>?_)|with_reducible refine T_last_drawT (id := 8) Γ_ok drawsAny pl65_8 (by kernel_rfl) (fun K hK=>?_)|((refine goU1 _ _ _ _ _ _ _ _ _ _ _ _ ?_ ?_ ?_ ?_ ?_ ?_ ?_ ?_ ?_ ?_ ?_ ?_)<;>(repeat intro hb)<;>first|exact True.intro|refine Lf.mk ?_)))
  all_goals
   refine ⟨6 - (1 + 1), by omega, _, ?_, 1 + 1, by omega, by omega, rfl⟩
   ((try refine sgl ?_);refine Wk.intro [0,1,2] (by decide) (by decide) wkH ?_ ?_ <;> repeat' (first|(refine WkV.imm ?_;congr 2;(first|rfl|(simp only [loS,hiS,exL,P6.at,lgLo,lgHi];split <;> omega)))|refine WkVL.cons ?_ ?_|exact wkT|refine WkV.agg ?_|refine WkV.tup ?_|refine WkV.fn ?_ ?_|exact WkO.dead|exact WkO.raw|refine WkO.ghost ?_|exact WkO.mpE rfl trivial|refine WkO.box ?_ rfl|refine WkO.arr ?_|refine And.intro ?_ (And.intro aF ?_)|exact trivial|(intro i j hi hj)))
 case inr.inr.inl =>
  rw [ixI_2]
  refine sgo ?_
  (have sx1:=sx0;repeat' (first|with_reducible refine T_seq_drawT (id := 7) Γ_ok drawsAny pl65_7 (by kernel_rfl) (fun K hK=>?_)|with_reducible refine T_last_drawT (id := 7) Γ_ok drawsAny pl65_7 (by kernel_rfl) (fun K hK=>?_)|with_reducible refine T_seq_drawT (id := 8) Γ_ok drawsAny pl65_8 (by kernel_rfl) (fun K hK=>?_)|with_reducible refine T_last_drawT (id := 8) Γ_ok drawsAny pl65_8 (by kernel_rfl) (fun K hK=>?_)|((refine goU1 _ _ _ _ _ _ _ _ _ _ _ _ ?_ ?_ ?_ ?_ ?_ ?_ ?_ ?_ ?_ ?_ ?_ ?_)<;>(repeat intro hb)<;>first|exact True.intro|refine Lf.mk ?_)))
  all_goals
   refine ⟨6 - (2 + 1), by omega, _, ?_, 2 + 1, by omega, by omega, rfl⟩
   ((try refine sgl ?_);refine Wk.intro [0,1,2] (by decide) (by decide) wkH ?_ ?_ <;> repeat' (first|(refine WkV.imm ?_;congr 2;(first|rfl|(simp only [loS,hiS,exL,P6.at,lgLo,lgHi];split <;> omega)))|refine WkVL.cons ?_ ?_|exact wkT|refine WkV.agg ?_|refine WkV.tup ?_|refine WkV.fn ?_ ?_|exact WkO.dead|exact WkO.raw|refine WkO.ghost ?_|exact WkO.mpE rfl trivial|refine WkO.box ?_ rfl|refine WkO.arr ?_|refine And.intro ?_ (And.intro aF ?_)|exact trivial|(intro i j hi hj)))
 case inr.inr.inr.inl =>
  rw [ixI_3]
  refine sgo ?_
  (have sx1:=sx0;repeat' (first|with_reducible refine T_seq_drawT (id := 7) Γ_ok drawsAny pl65_7 (by kernel_rfl) (fun K hK=>?_)|with_reducible refine T_last_drawT (id := 7) Γ_ok drawsAny pl65_7 (by kernel_rfl) (fun K hK=>?_)|with_reducible refine T_seq_drawT (id := 8) Γ_ok drawsAny pl65_8 (by kernel_rfl) (fun K hK=>?_)|with_reducible refine T_last_drawT (id := 8) Γ_ok drawsAny pl65_8 (by kernel_rfl) (fun K hK=>?_)|((refine goU1 _ _ _ _ _ _ _ _ _ _ _ _ ?_ ?_ ?_ ?_ ?_ ?_ ?_ ?_ ?_ ?_ ?_ ?_)<;>(repeat intro hb)<;>first|exact True.intro|refine Lf.mk ?_)))
  all_goals
   refine ⟨6 - (3 + 1), by omega, _, ?_, 3 + 1, by omega, by omega, rfl⟩
   ((try refine sgl ?_);refine Wk.intro [0,1,2] (by decide) (by decide) wkH ?_ ?_ <;> repeat' (first|(refine WkV.imm ?_;congr 2;(first|rfl|(simp only [loS,hiS,exL,P6.at,lgLo,lgHi];split <;> omega)))|refine WkVL.cons ?_ ?_|exact wkT|refine WkV.agg ?_|refine WkV.tup ?_|refine WkV.fn ?_ ?_|exact WkO.dead|exact WkO.raw|refine WkO.ghost ?_|exact WkO.mpE rfl trivial|refine WkO.box ?_ rfl|refine WkO.arr ?_|refine And.intro ?_ (And.intro aF ?_)|exact trivial|(intro i j hi hj)))
 case inr.inr.inr.inr.inl =>
  rw [ixI_4]
  refine sgo ?_
  (have sx1:=sx0;repeat' (first|with_reducible refine T_seq_drawT (id := 7) Γ_ok drawsAny pl65_7 (by kernel_rfl) (fun K hK=>?_)|with_reducible refine T_last_drawT (id := 7) Γ_ok drawsAny pl65_7 (by kernel_rfl) (fun K hK=>?_)|with_reducible refine T_seq_drawT (id := 8) Γ_ok drawsAny pl65_8 (by kernel_rfl) (fun K hK=>?_)|with_reducible refine T_last_drawT (id := 8) Γ_ok drawsAny pl65_8 (by kernel_rfl) (fun K hK=>?_)|((refine goU1 _ _ _ _ _ _ _ _ _ _ _ _ ?_ ?_ ?_ ?_ ?_ ?_ ?_ ?_ ?_ ?_ ?_ ?_)<;>(repeat intro hb)<;>first|exact True.intro|refine Lf.mk ?_)))
  all_goals
   refine ⟨6 - (4 + 1), by omega, _, ?_, 4 + 1, by omega, by omega, rfl⟩
   ((try refine sgl ?_);refine Wk.intro [0,1,2] (by decide) (by decide) wkH ?_ ?_ <;> repeat' (first|(refine WkV.imm ?_;congr 2;(first|rfl|(simp only [loS,hiS,exL,P6.at,lgLo,lgHi];split <;> omega)))|refine WkVL.cons ?_ ?_|exact wkT|refine WkV.agg ?_|refine WkV.tup ?_|refine WkV.fn ?_ ?_|exact WkO.dead|exact WkO.raw|refine WkO.ghost ?_|exact WkO.mpE rfl trivial|refine WkO.box ?_ rfl|refine WkO.arr ?_|refine And.intro ?_ (And.intro aF ?_)|exact trivial|(intro i j hi hj)))
 case inr.inr.inr.inr.inr.inl =>
  rw [ixI_5]
  refine sgo ?_
  (have sx1:=sx0;repeat' (first|with_reducible refine T_seq_drawT (id := 7) Γ_ok drawsAny pl65_7 (by kernel_rfl) (fun K hK=>?_)|with_reducible refine T_last_drawT (id := 7) Γ_ok drawsAny pl65_7 (by kernel_rfl) (fun K hK=>?_)|with_reducible refine T_seq_drawT (id := 8) Γ_ok drawsAny pl65_8 (by kernel_rfl) (fun K hK=>?_)|with_reducible refine T_last_drawT (id := 8) Γ_ok drawsAny pl65_8 (by kernel_rfl) (fun K hK=>?_)|((refine goU1 _ _ _ _ _ _ _ _ _ _ _ _ ?_ ?_ ?_ ?_ ?_ ?_ ?_ ?_ ?_ ?_ ?_ ?_)<;>(repeat intro hb)<;>first|exact True.intro|refine Lf.mk ?_)))
  all_goals
   refine ⟨6 - (5 + 1), by omega, _, ?_, 5 + 1, by omega, by omega, rfl⟩
   ((try refine sgl ?_);refine Wk.intro [0,1,2] (by decide) (by decide) wkH ?_ ?_ <;> repeat' (first|(refine WkV.imm ?_;congr 2;(first|rfl|(simp only [loS,hiS,exL,P6.at,lgLo,lgHi];split <;> omega)))|refine WkVL.cons ?_ ?_|exact wkT|refine WkV.agg ?_|refine WkV.tup ?_|refine WkV.fn ?_ ?_|exact WkO.dead|exact WkO.raw|refine WkO.ghost ?_|exact WkO.mpE rfl trivial|refine WkO.box ?_ rfl|refine WkO.arr ?_|refine And.intro ?_ (And.intro aF ?_)|exact trivial|(intro i j hi hj)))
end Go.Proofs.YtonmienclploaaaGreatDoor
namespace Go.Proofs.YtonmienclploaaaGreatDoor
open Go.Ab
theorem pOk_sub {p q : P6} (hp : pOk p = true) (hq : pOk q = true) : Small (p.sub q) := by
 unfold pOk P6.all inB at hp hq
 simp only [Bool.and_eq_true, decide_eq_true_eq] at hp hq
 unfold Small P6.sub P6.map2
 simp only []
 omega
def gapR (p q : P6) : (Int × Int) × Int := if pOk p = true ∧ pOk q = true then ((sizeLo (p.sub q),sizeHi (p.sub q)),0) else ((0,0),1)
set_option maxRecDepth 100000 in
set_option maxHeartbeats 4000000 in
theorem gap_tc (p q : P6) : Look Tryz.prog 43 [p6A p,p6A q] (.tup [.agg [.imm (.int .i64 (gapR p q).1.1),.imm (.int .i64 (gapR p q).1.2)],.imm (.int .i64 (gapR p q).2)]) := by
 have h1 := valid_p p
 have h2 := valid_p q
 unfold gapR
 by_cases h : pOk p = true ∧ pOk q = true
 ·rw [if_pos h]
  have he := exponents_tc (p.sub q) (pOk_sub h.1 h.2)
  have hp := h.1
  have hq := h.2
  rw [hp] at h1
  rw [hq] at h2
  unfold pOk P6.all inB at hp hq
  simp only [Bool.and_eq_true, decide_eq_true_eq] at hp hq
  refine Look.mk (by simp [Pl, PlL]) ?_
  (refine TC_of_T Γ_ok Tryz.func43 rfl (by kernel_rfl) ?_;simp only [Tryz.ntmps43,Tryz.results43,List.length_cons,List.length_nil,Nat.reduceSub,Nat.reduceAdd,List.replicate,List.cons_append,List.nil_append])
  (have dl1 := h1;have dl2 := h2;have sx1:=sx0;repeat' (first|with_reducible refine T_seq_drawT (id := 6) Γ_ok drawsAny pl43_6 (by kernel_rfl) (fun K hK=>?_)|with_reducible refine T_last_drawT (id := 6) Γ_ok drawsAny pl43_6 (by kernel_rfl) (fun K hK=>?_)|((refine goU1 _ _ _ _ _ _ _ _ _ _ _ _ ?_ ?_ ?_ ?_ ?_ ?_ ?_ ?_ ?_ ?_ ?_ ?_)<;>(repeat intro hb)<;>first|exact True.intro|refine Lf.mk ?_)))
  refine T_rounds 7 ?_
  (have cl1 := he;have sx1:=sx0;repeat' (first|with_reducible refine T_seq_drawT (id := 6) Γ_ok drawsAny pl43_6 (by kernel_rfl) (fun K hK=>?_)|with_reducible refine T_last_drawT (id := 6) Γ_ok drawsAny pl43_6 (by kernel_rfl) (fun K hK=>?_)|((refine goU1 _ _ _ _ _ _ _ _ _ _ _ _ ?_ ?_ ?_ ?_ ?_ ?_ ?_ ?_ ?_ ?_ ?_ ?_)<;>(repeat intro hb)<;>first|exact True.intro|refine Lf.mk ?_)))
 ·rw [if_neg h]
  refine Look.mk (by simp [Pl, PlL]) ?_
  (refine TC_of_T Γ_ok Tryz.func43 rfl (by kernel_rfl) ?_;simp only [Tryz.ntmps43,Tryz.results43,List.length_cons,List.length_nil,Nat.reduceSub,Nat.reduceAdd,List.replicate,List.cons_append,List.nil_append])
  (have dl1 := h1;have dl2 := h2;have sx1:=sx0;repeat' (first|with_reducible refine T_seq_drawT (id := 6) Γ_ok drawsAny pl43_6 (by kernel_rfl) (fun K hK=>?_)|with_reducible refine T_last_drawT (id := 6) Γ_ok drawsAny pl43_6 (by kernel_rfl) (fun K hK=>?_)|((refine goU1 _ _ _ _ _ _ _ _ _ _ _ _ ?_ ?_ ?_ ?_ ?_ ?_ ?_ ?_ ?_ ?_ ?_ ?_)<;>(repeat intro hb)<;>first|exact True.intro|refine Lf.mk ?_)))
  exact absurd hb h
set_option maxRecDepth 100000 in
set_option maxHeartbeats 4000000 in
theorem surely_tc (l h x y : Int) : Look Tryz.prog 60 [.agg [.imm (.int .i64 l),.imm (.int .i64 h)],.imm (.int .i64 x),.imm (.int .i64 y)] (.imm (.int .i64 (surelyI l h x y))) := by
 refine Look.mk trivial ?_
 (refine TC_of_T Γ_ok Tryz.func60 rfl (by kernel_rfl) ?_;simp only [Tryz.ntmps60,Tryz.results60,List.length_cons,List.length_nil,Nat.reduceSub,Nat.reduceAdd,List.replicate,List.cons_append,List.nil_append])
 (have sx1:=sx0;((refine goU1 _ _ _ _ _ _ _ _ _ _ _ _ ?_ ?_ ?_ ?_ ?_ ?_ ?_ ?_ ?_ ?_ ?_ ?_)<;>(repeat intro hb)<;>first|exact True.intro|refine Lf.mk ?_))
 all_goals (congr 2; unfold surelyI)
 all_goals grind
set_option maxRecDepth 100000 in
set_option maxHeartbeats 4000000 in
theorem near_tc (p q : P6) (t : Int) : Look Tryz.prog 39 [p6A p,p6A q,.imm (.int .i64 t)] (.tup [.imm (.int .i64 (nearI p q t).1),.imm (.int .i64 (nearI p q t).2)]) := by
 have hga := gap_tc p q
 unfold gapR at hga
 unfold nearI
 by_cases h : pOk p = true ∧ pOk q = true
 ·rw [if_pos h] at hga
  by_cases ht : 0 ≤ t ∧ t ≤ 2400000
  ·rw [if_pos ⟨h.1, h.2, ht.1, ht.2⟩]
   refine Look.mk (by simp [Pl, PlL]) ?_
   (refine TC_of_T Γ_ok Tryz.func39 rfl (by kernel_rfl) ?_;simp only [Tryz.ntmps39,Tryz.results39,List.length_cons,List.length_nil,Nat.reduceSub,Nat.reduceAdd,List.replicate,List.cons_append,List.nil_append])
   (have dl1 := hga;have dl2 := fun u1 u2 u3 u4=>surely_tc u1 u2 u3 u4;have sx1:=sx0;((refine goU1 _ _ _ _ _ _ _ _ _ _ _ _ ?_ ?_ ?_ ?_ ?_ ?_ ?_ ?_ ?_ ?_ ?_ ?_)<;>(repeat intro hb)<;>first|exact True.intro|refine Lf.mk ?_))
  ·rw [if_neg fun hh => ht hh.2.2]
   refine Look.mk (by simp [Pl, PlL]) ?_
   (refine TC_of_T Γ_ok Tryz.func39 rfl (by kernel_rfl) ?_;simp only [Tryz.ntmps39,Tryz.results39,List.length_cons,List.length_nil,Nat.reduceSub,Nat.reduceAdd,List.replicate,List.cons_append,List.nil_append])
   (have dl1 := hga;have dl2 := fun u1 u2 u3 u4=>surely_tc u1 u2 u3 u4;have sx1:=sx0;((refine goU1 _ _ _ _ _ _ _ _ _ _ _ _ ?_ ?_ ?_ ?_ ?_ ?_ ?_ ?_ ?_ ?_ ?_ ?_)<;>(repeat intro hb)<;>first|exact True.intro|refine Lf.mk ?_))
 ·rw [if_neg h] at hga
  rw [if_neg fun hh => h ⟨hh.1, hh.2.1⟩]
  refine Look.mk (by simp [Pl, PlL]) ?_
  (refine TC_of_T Γ_ok Tryz.func39 rfl (by kernel_rfl) ?_;simp only [Tryz.ntmps39,Tryz.results39,List.length_cons,List.length_nil,Nat.reduceSub,Nat.reduceAdd,List.replicate,List.cons_append,List.nil_append])
  (have dl1 := hga;have dl2 := fun u1 u2 u3 u4=>surely_tc u1 u2 u3 u4;have sx1:=sx0;((refine goU1 _ _ _ _ _ _ _ _ _ _ _ _ ?_ ?_ ?_ ?_ ?_ ?_ ?_ ?_ ?_ ?_ ?_ ?_)<;>(repeat intro hb)<;>first|exact True.intro|refine Lf.mk ?_))
end Go.Proofs.YtonmienclploaaaGreatDoor
