/-
  Parts joined: N15 N16.
-/
import Derived.Test.YtdglbjjenihdlaaDoorWGo
import Derived.Test.YtdglbjjenihdlaaDoorWS2
set_option linter.unusedSimpArgs false
set_option linter.unusedVariables false
namespace Go.Proofs.YtdglbjjenihdlaaDoor
open Go.Ab
@[go_sem, reducible] def rp6 (p : P6) : AV := .rptr 6 (nth (p6L p))
def octQ (p : P6) (o : Int) : Bool := decide (0 ≤ cmT (up12 p (-o)) z6)
def octLo (p : P6) : Int := -((576 - p.a).tdiv 12)
def octHi (p : P6) : Int := (576 + p.a).tdiv 12
def octO (p : P6) : Int := lastI (octQ p) (octLo p) (octHi p)
def octR (p : P6) : P6 × Int × Int := if Bd6 576 p then (if inB (up12 p (-octO p)) = true then (up12 p (-octO p),octO p,0) else (z6,0,3)) else (z6,0,1)
theorem oct_rg {p : P6} (h : Bd6 576 p) : -1000 ≤ octLo p ∧ octLo p ≤ octHi p ∧ octHi p ≤ 1000 ∧ p.a - 12 * octLo p ≤ 576 ∧ -576 ≤ p.a - 12 * octHi p := by
  unfold Bd6 at h
  unfold octLo octHi
  rw [Int.tdiv_eq_ediv_of_nonneg (by omega), Int.tdiv_eq_ediv_of_nonneg (by omega)]
  omega
set_option maxRecDepth 100000 in
set_option maxHeartbeats 4000000 in
theorem octc_tc (p : P6) (h : Bd6 576 p) (o : Int) (h1 : -100000 ≤ o ∧ o ≤ 100000) : Look Tryd.prog 32 [.imm (.int .i64 o),rp6 p] (.imm (.bool (octQ p o))) := by
  refine Look.mk trivial ?_
  have hz : 0 - o = -o := Int.zero_sub o
  have h2 := h
  unfold Bd6 at h2
  have c1 := raised_tc p (-o) (by omega) (by omega)
  have c2 := compare_p (up12 p (-o)) z6
  simp only [z6] at c2
  (refine TC_of_T Γ_ok Tryd.func32 rfl (by kernel_rfl) ?_;simp only [Tryd.ntmps32,Tryd.results32,List.length_cons,List.length_nil,Nat.reduceSub,Nat.reduceAdd,List.replicate,List.cons_append,List.nil_append])
  (have dl1 := c1;have dl2 := c2;have sx1 := hz;have sx2 : (0 : Nat) + 0 = 0 := rfl;((have sx3 : (0 : Nat) + 0 = 0 := rfl;have sx4 : (0 : Nat) + 0 = 0 := rfl;have sx5 : (0 : Nat) + 0 = 0 := rfl;have sx6 : (0 : Nat) + 0 = 0 := rfl;have sx7 : (0 : Nat) + 0 = 0 := rfl;have sx8 : (0 : Nat) + 0 = 0 := rfl;have sx9 : (0 : Nat) + 0 = 0 := rfl;refine goR9 _ _ _ _ _ _ _ _ ?_ ?_ ?_ ?_ ?_ ?_ ?_ ?_) <;> (repeat intro hb) <;> first|exact True.intro|refine Lf.mk ?_))
  rfl
set_option maxRecDepth 100000 in
set_option maxHeartbeats 4000000 in
theorem octave_tc (p : P6) : Look Tryd.prog 12 [p6A p] (.tup [p6A (octR p).1,.imm (.int .i64 (octR p).2.1),.imm (.int .i64 (octR p).2.2)]) := by
  refine Look.mk (by simp [Pl, PlL]) ?_
  have c1 := valid_p p
  by_cases h : Bd6 576 p
  · rw [decide_eq_true h] at c1
    obtain ⟨g1, g2, g3, g4, g5⟩ := oct_rg h
    have h2 := h
    unfold Bd6 at h2
    have c2 := last_tc 32 [rp6 p] (octQ p) (octLo p) (octHi p) (by omega) (by omega) g2 (by simp [FreeL,Free,nth]) (fun o q1 q2 => octc_tc p h o (by omega))
    have hr := lastI_rg (octQ p) _ (octLo p) (octHi p) (Nat.le_refl _) g2
    change octLo p ≤ octO p ∧ octO p ≤ octHi p at hr
    change Look _ _ _ (.imm (.int .i64 (octO p))) at c2
    have e1 : 0 - (576 - p.a).tdiv 12 = octLo p := Int.zero_sub _
    have e2 : (576 + p.a).tdiv 12 = octHi p := rfl
    have e3 : 0 - octO p = -octO p := Int.zero_sub _
    have c3 := raised_tc p (-octO p) (by omega) (by omega)
    have c4 := inside_tc (up12 p (-octO p))
    have b1 : (576 - p.a).tdiv 12 = (576 - p.a) / 12 := Int.tdiv_eq_ediv_of_nonneg (by omega)
    have b2 : (576 + p.a).tdiv 12 = (576 + p.a) / 12 := Int.tdiv_eq_ediv_of_nonneg (by omega)
    have hres : octR p = if inB (up12 p (-octO p)) = true then (up12 p (-octO p), octO p, 0) else (z6, 0, 3) := if_pos h
    rw [hres]
    clear hres
    generalize hq : up12 p (-octO p) = q at c3 c4
    generalize ho : octO p = o at c2 e3 hr c3 hq
    generalize hlo : octLo p = lo at *
    generalize hhi : octHi p = hi at *
    (refine TC_of_T Γ_ok Tryd.func12 rfl (by kernel_rfl) ?_;simp only [Tryd.ntmps12,Tryd.results12,List.length_cons,List.length_nil,Nat.reduceSub,Nat.reduceAdd,List.replicate,List.cons_append,List.nil_append])
    (have dl1 := c1;have sx1 := e1;have sx2 := e2;repeat' (first|with_reducible refine T_seq_drawT (id := 3) Γ_ok drawsAny pl12_3 (by kernel_rfl) (fun K hK=>?_)|with_reducible refine T_last_drawT (id := 3) Γ_ok drawsAny pl12_3 (by kernel_rfl) (fun K hK=>?_)|((have sx3 : (0 : Nat) + 0 = 0 := rfl;have sx4 : (0 : Nat) + 0 = 0 := rfl;have sx5 : (0 : Nat) + 0 = 0 := rfl;have sx6 : (0 : Nat) + 0 = 0 := rfl;have sx7 : (0 : Nat) + 0 = 0 := rfl;have sx8 : (0 : Nat) + 0 = 0 := rfl;have sx9 : (0 : Nat) + 0 = 0 := rfl;refine goR9 _ _ _ _ _ _ _ _ ?_ ?_ ?_ ?_ ?_ ?_ ?_ ?_) <;> (repeat intro hb) <;> first|exact True.intro|refine Lf.mk ?_)))
    first | refine DCT_last Γ_ok ?_ | refine DCT_fork Γ_ok (fun K2 hK2 => ?_)
    (simp only [go_sem,e1,e2,↓reduceIte,Nat.reduceAdd,Nat.reduceSub,Nat.reduceMul,Nat.reduceLT,Nat.reduceLeDiff,Nat.reduceEqDiff,Nat.reduceGT,Int.reduceToNat,Int.reduceBEq,Int.reduceBNe];try simp (disch := omega) only [wrapI,wrapU,e1,e2])
    refine And.intro (by omega) ?_
    refine hK _ ?_
    clear hK K
    (repeat' (first|with_reducible refine T_seq_drawT (id := 3) Γ_ok drawsAny pl12_3 (by kernel_rfl) (fun K hK=>?_)|with_reducible refine T_last_drawT (id := 3) Γ_ok drawsAny pl12_3 (by kernel_rfl) (fun K hK=>?_)|((refine goR0 _ _ _ _ _ _ _ _ ?_ ?_ ?_ ?_ ?_ ?_ ?_ ?_) <;> (repeat intro hb) <;> first|exact True.intro|refine Lf.mk ?_)))
    refine callGoal_lookA c2 trivial (CvL.cons (Cv.imm rfl) (CvL.cons (Cv.imm rfl) (CvL.cons (Cv.fn CvL.nil (CvL.cons (Cv.ptr (cells2 := p6L p) rfl rfl (cvl_free (by simp [FreeL,Free]))) CvL.nil)) CvL.nil))) ?_
    rename_i _ KF hKF NF
    refine hb _ _ ?_
    (repeat' (first|with_reducible refine T_seq_drawT (id := 3) Γ_ok drawsAny pl12_3 (by kernel_rfl) (fun K hK=>?_)|with_reducible refine T_last_drawT (id := 3) Γ_ok drawsAny pl12_3 (by kernel_rfl) (fun K hK=>?_)|((refine goR0 _ _ _ _ _ _ _ _ ?_ ?_ ?_ ?_ ?_ ?_ ?_ ?_) <;> (repeat intro hb) <;> first|exact True.intro|refine Lf.mk ?_)))
    refine hKF _ ?_
    cases hin : inB q with
    | true =>
      rw [hin] at c4
      (have dl1 := c3;have dl2 := c4;have sx1 := e3;have sx2 : (0 : Nat) + 0 = 0 := rfl;repeat' (first|with_reducible refine T_seq_drawT (id := 3) Γ_ok drawsAny pl12_3 (by kernel_rfl) (fun K hK=>?_)|with_reducible refine T_last_drawT (id := 3) Γ_ok drawsAny pl12_3 (by kernel_rfl) (fun K hK=>?_)|((have sx3 : (0 : Nat) + 0 = 0 := rfl;have sx4 : (0 : Nat) + 0 = 0 := rfl;have sx5 : (0 : Nat) + 0 = 0 := rfl;have sx6 : (0 : Nat) + 0 = 0 := rfl;have sx7 : (0 : Nat) + 0 = 0 := rfl;have sx8 : (0 : Nat) + 0 = 0 := rfl;have sx9 : (0 : Nat) + 0 = 0 := rfl;refine goR9 _ _ _ _ _ _ _ _ ?_ ?_ ?_ ?_ ?_ ?_ ?_ ?_) <;> (repeat intro hb) <;> first|exact True.intro|refine Lf.mk ?_)))
    | false =>
      rw [hin] at c4
      (have dl1 := c3;have dl2 := c4;have sx1 := e3;have sx2 : (0 : Nat) + 0 = 0 := rfl;repeat' (first|with_reducible refine T_seq_drawT (id := 3) Γ_ok drawsAny pl12_3 (by kernel_rfl) (fun K hK=>?_)|with_reducible refine T_last_drawT (id := 3) Γ_ok drawsAny pl12_3 (by kernel_rfl) (fun K hK=>?_)|((have sx3 : (0 : Nat) + 0 = 0 := rfl;have sx4 : (0 : Nat) + 0 = 0 := rfl;have sx5 : (0 : Nat) + 0 = 0 := rfl;have sx6 : (0 : Nat) + 0 = 0 := rfl;have sx7 : (0 : Nat) + 0 = 0 := rfl;have sx8 : (0 : Nat) + 0 = 0 := rfl;have sx9 : (0 : Nat) + 0 = 0 := rfl;refine goR9 _ _ _ _ _ _ _ _ ?_ ?_ ?_ ?_ ?_ ?_ ?_ ?_) <;> (repeat intro hb) <;> first|exact True.intro|refine Lf.mk ?_)))
      rfl
  · rw [decide_eq_false h] at c1
    have hr : octR p = (z6, 0, 1) := if_neg h
    rw [hr]
    simp only [z6]
    (refine TC_of_T Γ_ok Tryd.func12 rfl (by kernel_rfl) ?_;simp only [Tryd.ntmps12,Tryd.results12,List.length_cons,List.length_nil,Nat.reduceSub,Nat.reduceAdd,List.replicate,List.cons_append,List.nil_append])
    (have dl1 := c1;repeat' (first|with_reducible refine T_seq_drawT (id := 3) Γ_ok drawsAny pl12_3 (by kernel_rfl) (fun K hK=>?_)|with_reducible refine T_last_drawT (id := 3) Γ_ok drawsAny pl12_3 (by kernel_rfl) (fun K hK=>?_)|((refine goR0 _ _ _ _ _ _ _ _ ?_ ?_ ?_ ?_ ?_ ?_ ?_ ?_) <;> (repeat intro hb) <;> first|exact True.intro|refine Lf.mk ?_)))
end Go.Proofs.YtdglbjjenihdlaaDoor
namespace Go.Proofs.YtdglbjjenihdlaaDoor
open Go.Ab
noncomputable def tf (p : Prop) : Bool := @decide p (Classical.propDecidable p)
theorem tf_iff {p : Prop} : tf p = true ↔ p := by unfold tf; simp
theorem tf_t {p : Prop} (h : p) : tf p = true := tf_iff.2 h
theorem tf_f {p : Prop} (h : ¬ p) : tf p = false := by rw [Bool.eq_false_iff]; exact fun k => h (tf_iff.1 k)
def gP (l : List P6) (i : Nat) : P6 := l.getD i z6
def ptE (l : List P6) (i j : Nat) : AV := nth (p6L (gP l i)) j
@[go_sem] theorem ptE_0 (l : List P6) (i : Nat) : ptE l i 0 = .imm (.int .i64 (gP l i).a) := rfl
@[go_sem] theorem ptE_1 (l : List P6) (i : Nat) : ptE l i 1 = .imm (.int .i64 (gP l i).b) := rfl
@[go_sem] theorem ptE_2 (l : List P6) (i : Nat) : ptE l i 2 = .imm (.int .i64 (gP l i).c) := rfl
@[go_sem] theorem ptE_3 (l : List P6) (i : Nat) : ptE l i 3 = .imm (.int .i64 (gP l i).d) := rfl
@[go_sem] theorem ptE_4 (l : List P6) (i : Nat) : ptE l i 4 = .imm (.int .i64 (gP l i).e) := rfl
@[go_sem] theorem ptE_5 (l : List P6) (i : Nat) : ptE l i 5 = .imm (.int .i64 (gP l i).f) := rfl
theorem ptE_pl (l : List P6) (i j : Nat) : Pl (ptE l i j) := by rcases j with _ | _ | _ | _ | _ | _ | j <;> trivial
@[simp] theorem ptE_free (l : List P6) (i j : Nat) : Free (ptE l i j) := Pl.free _ (ptE_pl l i j)
@[go_sem, reducible] def pts (l : List P6) : AV := .view l.length 6 (ptE l)
structure SclOk (l : List P6) : Prop where
  ne : l ≠ []
  len : l.length ≤ 64
  zero : gP l 0 = z6
  step : ∀ i, i + 1 < l.length → Bd6 576 (gP l (i + 1)) ∧ cmT (gP l i) (gP l (i + 1)) < 0
  last : inB (gP l (l.length - 1)) = true
theorem p6_eq (p q : P6) : (p.a = q.a ∧ p.b = q.b ∧ p.c = q.c ∧ p.d = q.d ∧ p.e = q.e ∧ p.f = q.f) ↔ p = q :=
  ⟨fun ⟨h1, h2, h3, h4, h5, h6⟩ => P6.ext' h1 h2 h3 h4 h5 h6, fun h => by subst h; exact ⟨rfl, rfl, rfl, rfl, rfl, rfl⟩⟩
@[go_sem,reducible] def enS (l : List P6) (i : Nat) : List AV := [pts l,.top,.imm (.bool false)] ++ List.replicate 18 .top ++ [.view (l.length - 1) 6 (fun i j=>ptE l (1 + i) j),.imm (.int .i64 ((l.length - 1 : Nat) : Int)),.imm (.int .i64 i)] ++ List.replicate 24 .top
set_option maxRecDepth 100000 in
set_option maxHeartbeats 4000000 in
theorem svalid_tc (l : List P6) (h0 : l.length ≤ 9223372036854775807) : Look Tryd.prog 17 [pts l] (.imm (.bool (tf (SclOk l)))) := by
  refine Look.mk trivial ?_
  generalize hR : tf (SclOk l) = R
  by_cases hl : 1 ≤ l.length ∧ l.length ≤ 64
  · by_cases hz : gP l 0 = z6
    · have hz' := (p6_eq _ _).2 hz
      obtain ⟨z1, z2, z3, z4, z5, z6'⟩ := hz'
      simp only [z6] at z1 z2 z3 z4 z5 z6'
      have e1 : ((l.length : Int) == 0) = false := by rw [beq_eq_false_iff_ne]; omega
      have e2 : decide ((l.length : Int) > 64) = false := decide_eq_false (by omega)
      have hbs : ∀ x : Int, (x == x) = true := fun x => beq_self_eq_true x
      have hbn : ∀ x : Int, (x != x) = false := fun x => by simp
      (refine TC_of_T Γ_ok Tryd.func17 rfl (by kernel_rfl) ?_;simp only [Tryd.ntmps17,Tryd.results17,List.length_cons,List.length_nil,Nat.reduceSub,Nat.reduceAdd,List.replicate,List.cons_append,List.nil_append])
      (have sx1 := e1;have sx2 := e2;have sx3 := z1;have sx4 := z2;have sx5 := z3;have sx6 := z4;have sx7 := z5;have sx8 := z6';have sx9 := hbn;repeat' (first|with_reducible refine T_seq_drawT (id := 6) Γ_ok drawsAny pl17_6 (by kernel_rfl) (fun K hK=>?_)|with_reducible refine T_last_drawT (id := 6) Γ_ok drawsAny pl17_6 (by kernel_rfl) (fun K hK=>?_)|((refine goR9 _ _ _ _ _ _ _ _ ?_ ?_ ?_ ?_ ?_ ?_ ?_ ?_) <;> (repeat intro hb) <;> first|exact True.intro|refine Lf.mk ?_)))
      refine T_loopW (fun m st => ∃ i : Nat,i ≤ l.length - 1 ∧ m + i = l.length - 1 ∧ (∀ j,j < i → Bd6 576 (gP l (j + 1)) ∧ cmT (gP l j) (gP l (j + 1)) < 0) ∧ st = ⟨enS l i,[]⟩)
        (l.length - 1) ⟨_, ?_, 0, by omega, rfl, fun j hj => by omega, rfl⟩ ?_
      · ((try simp only [List.length_append,List.length_cons,List.length_nil,Nat.zero_add]);refine Wk.intro [] (by decide) (by decide) (by intro o ho;simp at ho ⊢ <;> omega) ?_ ?_ <;> repeat' (first|exact WkVL.nil|refine WkVL.cons ?_ ?_|exact WkV.top|exact WkV.imm rfl|exact WkV.imm (by simp)|exact WkV.optr rfl|exact WkV.own rfl (by simp)|exact WkV.nil_own (.inl rfl)|exact WkV.map rfl|(refine WkV.free ?_;simp [Free,FreeL] <;> assumption)|(refine WkV.free (fun _ _=>FreeL_nth ?_ _);simp [Free,FreeL];done)|refine WkV.agg ?_|refine WkV.tup ?_|refine WkV.fn ?_ ?_|exact WkO.dead|exact WkO.raw|refine WkO.ghost ?_|exact WkO.mpE rfl trivial|refine WkO.box ?_ rfl|refine WkO.arr ?_|refine And.intro ?_ (And.intro (by first|exact fun h=>h|exact fun _=>rfl|exact nofun) ?_)|exact trivial|(intro i j hi hj)))
      rintro m st ⟨i, k0, k1, k2, rfl⟩
      by_cases hi : i < l.length - 1
      · have c1 := valid_p (gP l (1 + i))
        have c2 := compare_p (gP l i) (gP l (1 + i))
        (simp only [go_sem,↓reduceIte,Nat.reduceAdd,Nat.reduceSub,Nat.reduceMul,Nat.reduceLT,Nat.reduceLeDiff,Nat.reduceEqDiff,Nat.reduceGT,Int.reduceToNat,Int.reduceBEq,Int.reduceBNe];try simp (disch := omega) only [wrapI,wrapU,half_sum,toNat_sub1,toNat_add1,Int.toNat_natCast])
        (have dl1 := c1;have dl2 := c2;repeat' (first|with_reducible refine T_seq_drawT (id := 6) Γ_ok drawsAny pl17_6 (by kernel_rfl) (fun K hK=>?_)|with_reducible refine T_last_drawT (id := 6) Γ_ok drawsAny pl17_6 (by kernel_rfl) (fun K hK=>?_)|((refine goR0 _ _ _ _ _ _ _ _ ?_ ?_ ?_ ?_ ?_ ?_ ?_ ?_) <;> (repeat intro hb) <;> first|exact True.intro|refine Lf.mk ?_)))
        · rw [← hR, tf_f fun h => ?_]
          have h9 := h.step i (by omega)
          rw [Nat.add_comm] at h9
          rcases hb with hb | hb
          · exact hb h9.1
          · omega
        · refine ⟨l.length - 1 - (i + 1), by omega, _, ?_, i + 1, by omega, by omega, fun j hj => ?_, rfl⟩
          · ((try simp only [List.length_append,List.length_cons,List.length_nil,Nat.zero_add]);refine Wk.intro [] (by decide) (by decide) (by intro o ho;simp at ho ⊢ <;> omega) ?_ ?_ <;> repeat' (first|(refine WkV.imm ?_;congr 1;omega)|exact WkVL.nil|refine WkVL.cons ?_ ?_|exact WkV.top|exact WkV.imm rfl|exact WkV.imm (by simp)|exact WkV.optr rfl|exact WkV.own rfl (by simp)|exact WkV.nil_own (.inl rfl)|exact WkV.map rfl|(refine WkV.free ?_;simp [Free,FreeL] <;> assumption)|(refine WkV.free (fun _ _=>FreeL_nth ?_ _);simp [Free,FreeL];done)|refine WkV.agg ?_|refine WkV.tup ?_|refine WkV.fn ?_ ?_|exact WkO.dead|exact WkO.raw|refine WkO.ghost ?_|exact WkO.mpE rfl trivial|refine WkO.box ?_ rfl|refine WkO.arr ?_|refine And.intro ?_ (And.intro (by first|exact fun h=>h|exact fun _=>rfl|exact nofun) ?_)|exact trivial|(intro i j hi hj)))
          · by_cases e : j = i
            · subst e; rw [Nat.add_comm]; exact hb
            · exact k2 j (by omega)
      · obtain rfl : i = l.length - 1 := by omega
        have c1 := inside_tc (gP l (l.length - 1))
        (simp only [go_sem,↓reduceIte,Nat.reduceAdd,Nat.reduceSub,Nat.reduceMul,Nat.reduceLT,Nat.reduceLeDiff,Nat.reduceEqDiff,Nat.reduceGT,Int.reduceToNat,Int.reduceBEq,Int.reduceBNe];try simp (disch := omega) only [wrapI,wrapU,half_sum,toNat_sub1,toNat_add1,Int.toNat_natCast])
        (have dl1 := c1;repeat' (first|with_reducible refine T_seq_drawT (id := 6) Γ_ok drawsAny pl17_6 (by kernel_rfl) (fun K hK=>?_)|with_reducible refine T_last_drawT (id := 6) Γ_ok drawsAny pl17_6 (by kernel_rfl) (fun K hK=>?_)|((refine goR0 _ _ _ _ _ _ _ _ ?_ ?_ ?_ ?_ ?_ ?_ ?_ ?_) <;> (repeat intro hb) <;> first|exact True.intro|refine Lf.mk ?_)))
        rw [← hR]
        refine congrArg (fun b => AV.imm (.bool b)) ?_
        rw [Bool.eq_iff_iff, tf_iff]
        exact ⟨fun h => ⟨List.length_pos_iff.1 hl.1, hl.2, hz, fun j hj => k2 j (by omega), h⟩, fun h => h.last⟩
    · have hR' : R = false := by rw [← hR]; exact tf_f fun h => hz h.zero
      subst hR'
      have e1 : ((l.length : Int) == 0) = false := by rw [beq_eq_false_iff_ne]; omega
      have e2 : decide ((l.length : Int) > 64) = false := decide_eq_false (by omega)
      (refine TC_of_T Γ_ok Tryd.func17 rfl (by kernel_rfl) ?_;simp only [Tryd.ntmps17,Tryd.results17,List.length_cons,List.length_nil,Nat.reduceSub,Nat.reduceAdd,List.replicate,List.cons_append,List.nil_append])
      (have sx1 := e1;have sx2 := e2;repeat' (first|with_reducible refine T_seq_drawT (id := 6) Γ_ok drawsAny pl17_6 (by kernel_rfl) (fun K hK=>?_)|with_reducible refine T_last_drawT (id := 6) Γ_ok drawsAny pl17_6 (by kernel_rfl) (fun K hK=>?_)|((have sx3 : (0 : Nat) + 0 = 0 := rfl;have sx4 : (0 : Nat) + 0 = 0 := rfl;have sx5 : (0 : Nat) + 0 = 0 := rfl;have sx6 : (0 : Nat) + 0 = 0 := rfl;have sx7 : (0 : Nat) + 0 = 0 := rfl;have sx8 : (0 : Nat) + 0 = 0 := rfl;have sx9 : (0 : Nat) + 0 = 0 := rfl;refine goR9 _ _ _ _ _ _ _ _ ?_ ?_ ?_ ?_ ?_ ?_ ?_ ?_) <;> (repeat intro hb) <;> first|exact True.intro|refine Lf.mk ?_)))
      exact absurd ((p6_eq (gP l 0) z6).1 hb) hz
  · have hR' : R = false := by rw [← hR]; exact tf_f fun h => hl ⟨List.length_pos_iff.2 h.ne, h.len⟩
    subst hR'
    by_cases h9 : l.length = 0
    · have e1 : ((l.length : Int) == 0) = true := by rw [beq_iff_eq]; omega
      (refine TC_of_T Γ_ok Tryd.func17 rfl (by kernel_rfl) ?_;simp only [Tryd.ntmps17,Tryd.results17,List.length_cons,List.length_nil,Nat.reduceSub,Nat.reduceAdd,List.replicate,List.cons_append,List.nil_append])
      (have sx1 := e1;have sx2 : (0 : Nat) + 0 = 0 := rfl;repeat' (first|with_reducible refine T_seq_drawT (id := 6) Γ_ok drawsAny pl17_6 (by kernel_rfl) (fun K hK=>?_)|with_reducible refine T_last_drawT (id := 6) Γ_ok drawsAny pl17_6 (by kernel_rfl) (fun K hK=>?_)|((have sx3 : (0 : Nat) + 0 = 0 := rfl;have sx4 : (0 : Nat) + 0 = 0 := rfl;have sx5 : (0 : Nat) + 0 = 0 := rfl;have sx6 : (0 : Nat) + 0 = 0 := rfl;have sx7 : (0 : Nat) + 0 = 0 := rfl;have sx8 : (0 : Nat) + 0 = 0 := rfl;have sx9 : (0 : Nat) + 0 = 0 := rfl;refine goR9 _ _ _ _ _ _ _ _ ?_ ?_ ?_ ?_ ?_ ?_ ?_ ?_) <;> (repeat intro hb) <;> first|exact True.intro|refine Lf.mk ?_)))
    · have e1 : ((l.length : Int) == 0) = false := by rw [beq_eq_false_iff_ne]; omega
      have e2 : decide ((l.length : Int) > 64) = true := decide_eq_true (by omega)
      (refine TC_of_T Γ_ok Tryd.func17 rfl (by kernel_rfl) ?_;simp only [Tryd.ntmps17,Tryd.results17,List.length_cons,List.length_nil,Nat.reduceSub,Nat.reduceAdd,List.replicate,List.cons_append,List.nil_append])
      (have sx1 := e1;have sx2 := e2;repeat' (first|with_reducible refine T_seq_drawT (id := 6) Γ_ok drawsAny pl17_6 (by kernel_rfl) (fun K hK=>?_)|with_reducible refine T_last_drawT (id := 6) Γ_ok drawsAny pl17_6 (by kernel_rfl) (fun K hK=>?_)|((have sx3 : (0 : Nat) + 0 = 0 := rfl;have sx4 : (0 : Nat) + 0 = 0 := rfl;have sx5 : (0 : Nat) + 0 = 0 := rfl;have sx6 : (0 : Nat) + 0 = 0 := rfl;have sx7 : (0 : Nat) + 0 = 0 := rfl;have sx8 : (0 : Nat) + 0 = 0 := rfl;have sx9 : (0 : Nat) + 0 = 0 := rfl;refine goR9 _ _ _ _ _ _ _ _ ?_ ?_ ?_ ?_ ?_ ?_ ?_ ?_) <;> (repeat intro hb) <;> first|exact True.intro|refine Lf.mk ?_)))
end Go.Proofs.YtdglbjjenihdlaaDoor
