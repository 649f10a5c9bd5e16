/-
  ScaleNearest.
-/
import Derived.Test.YtdglbjjenihdlaaDoorQGo
import Derived.Test.YtdglbjjenihdlaaDoorQGo2
import Derived.Test.YtdglbjjenihdlaaDoorQP7
import Derived.Test.YtdglbjjenihdlaaDoorQC1
set_option linter.unusedSimpArgs false
set_option linter.unusedVariables false
namespace Go.Proofs.YtdglbjjenihdlaaDoor
open Go.Ab
theorem divR_ok {p q : P6} (h : (divR p q).2 = 0) : divR p q = (p.sub q,0) ∧ Bd6 576 (p.sub q) ∧ divR q p = (q.sub p,0) := by
  unfold divR at *
  by_cases h1 : Bd6 576 p ∧ Bd6 576 q
  · rw [if_pos h1] at *
    rw [if_pos h1.symm]
    by_cases h2 : Bd6 576 (p.sub q)
    · rw [if_pos h2] at *
      have h3 := h2.neg
      rw [sub_neg] at h3
      rw [if_pos h3]
      exact ⟨rfl, h2, rfl⟩
    · rw [if_neg h2] at h; simp at h
  · rw [if_neg h1] at h; simp at h
set_option maxRecDepth 100000 in
set_option maxHeartbeats 4000000 in
theorem distance_tc (p q : P6) : Look Tryd.prog 30 [p6A p,p6A q] (.tup [p6A (disR p q).1,.imm (.bool (disR p q).2)]) := by
  refine Look.mk (by simp [Pl, PlL]) ?_
  have c1 := div_tc p q
  unfold disR
  by_cases he : (divR p q).2 = 0
  · rw [if_pos he]
    obtain ⟨h1, h2, h3⟩ := divR_ok he
    have c2 := pcmp_tc (p.sub q) z6
    have c3 := div_tc q p
    rw [h1] at c1
    rw [h3, ← sub_neg] at c3
    have hc : cmpR (p.sub q) z6 = (cmpP (p.sub q) z6, 0) := if_pos ⟨h2, bd_z⟩
    rw [hc] at c2
    generalize p.sub q = w at *
    clear h1 h3 he hc
    by_cases hw : Lo w z6
    · have hx := cmpP_lo.2 hw
      have ha : absP w = w.neg := if_pos hw
      rw [ha]
      generalize w.neg = v at *
      generalize cmpP w z6 = x at *
      simp only [z6] at c2
      clear hw ha
      (refine TC_of_T Γ_ok Tryd.func30 rfl (by kernel_rfl) ?_;simp only [Tryd.ntmps30,Tryd.results30,List.length_cons,List.length_nil,Nat.reduceSub,Nat.reduceAdd,List.replicate,List.cons_append,List.nil_append])
      (have dl1 := c1;have dl2 := c3;have dl3 := c2;((refine goR0 _ _ _ _ _ _ _ _ ?_ ?_ ?_ ?_ ?_ ?_ ?_ ?_) <;> (repeat intro hb) <;> first | exact True.intro | refine Lf.mk ?_))
    · have hx : ¬ cmpP w z6 < 0 := fun k => hw (cmpP_lo.1 k)
      have ha : absP w = w := if_neg hw
      rw [ha]
      generalize cmpP w z6 = x at *
      simp only [z6] at c2
      clear hw ha
      (refine TC_of_T Γ_ok Tryd.func30 rfl (by kernel_rfl) ?_;simp only [Tryd.ntmps30,Tryd.results30,List.length_cons,List.length_nil,Nat.reduceSub,Nat.reduceAdd,List.replicate,List.cons_append,List.nil_append])
      (have dl1 := c1;have dl2 := c2;((refine goR0 _ _ _ _ _ _ _ _ ?_ ?_ ?_ ?_ ?_ ?_ ?_ ?_) <;> (repeat intro hb) <;> first | exact True.intro | refine Lf.mk ?_))
  · rw [if_neg he]
    generalize divR p q = R at *
    have e1 : (R.2 != 0) = true := by rw [bne_iff_ne]; exact he
    (refine TC_of_T Γ_ok Tryd.func30 rfl (by kernel_rfl) ?_;simp only [Tryd.ntmps30,Tryd.results30,List.length_cons,List.length_nil,Nat.reduceSub,Nat.reduceAdd,List.replicate,List.cons_append,List.nil_append])
    (have dl1 := c1;have sx1 := e1;have sx2 : (0 : Nat) + 0 = 0 := rfl;((have sx3 : (0 : Nat) + 0 = 0 := rfl;have sx4 : (0 : Nat) + 0 = 0 := rfl;have sx5 : (0 : Nat) + 0 = 0 := rfl;have sx6 : (0 : Nat) + 0 = 0 := rfl;have sx7 : (0 : Nat) + 0 = 0 := rfl;have sx8 : (0 : Nat) + 0 = 0 := rfl;have sx9 : (0 : Nat) + 0 = 0 := rfl;refine goR9 _ _ _ _ _ _ _ _ ?_ ?_ ?_ ?_ ?_ ?_ ?_ ?_) <;> (repeat intro hb) <;> first|exact True.intro|refine Lf.mk ?_))
theorem tmod2 (b : Int) : -1 ≤ b.tmod 2 ∧ b.tmod 2 ≤ 1 := by
  rcases Int.le_total 0 b with h | h
  · rw [Int.tmod_eq_emod_of_nonneg h]; omega
  · have := Int.neg_tmod b 2
    rw [Int.tmod_eq_emod_of_nonneg (show 0 ≤ -b by omega)] at this
    omega
set_option maxRecDepth 100000 in
set_option maxHeartbeats 8000000 in
theorem nearest_law (s : List P6) (h0 : s.length ≤ 9223372036854775807) (p : P6) (d : Nat) (hd : d < 256) (b : Int) (hb' : -128 ≤ b ∧ b ≤ 127) :
    Look Tryd.prog 10 [pts s, p6A p, .imm (.int .u8 d), .imm (.int .i8 b)] (.imm (.bool true)) := by
  refine Look.mk trivial ?_
  have c0 := head_tc
  have c1 := rsvalid_tc s h0
  by_cases h16 : s.length ≤ 16
  · have e1 : decide ((s.length : Int) > 16) = false := decide_eq_false (by omega)
    by_cases hs : SclOk s
    · rw [tf_t hs] at c1
      have c2 := nearest_tc s p h0
      by_cases he : (nearR s p).2.2 = 0
      · have hp3 : nearR s p = ((nearR s p).1, (nearR s p).2.1, 0) := by rw [← he]
        generalize (nearR s p).1 = I at *
        generalize (nearR s p).2.1 = o at *
        obtain ⟨hpb, o1, o2, j, j1, rfl, jb⟩ := near_best hs hp3
        rw [hp3] at c2
        simp only [] at c2
        have hn := scl_pos hs
        have hk := Nat.mod_lt d hn
        have e4 : (d : Int).tmod (s.length : Int) = ((d % s.length : Nat) : Int) := rfl
        generalize d % s.length = k at hk e4
        obtain ⟨t1, t2⟩ := tmod2 b
        have hjb := jb k (o + b.tmod 2) hk
        obtain ⟨t, e5⟩ : ∃ t, b.tmod 2 = t := ⟨_, rfl⟩
        rw [e5] at t1 t2 hjb
        have c3 := distance_tc p (up12 (gP s j) o)
        have c4 := distance_tc p (up12 (gP s k) (o + t))
        have hA := fun h => disR_ok (p := p) (q := up12 (gP s j) o) h
        have hB := fun h => disR_ok (p := p) (q := up12 (gP s k) (o + t)) h
        have bj := hs.bd j
        have bk := hs.bd k
        unfold Bd6 at bj bk
        have hfin : (disR p (up12 (gP s j) o)).2 = true → (disR p (up12 (gP s k) (o + t))).2 = true → cmpR (disR p (up12 (gP s j) o)).1 (disR p (up12 (gP s k) (o + t))).1 = (cmpP (disR p (up12 (gP s j) o)).1 (disR p (up12 (gP s k) (o + t))).1,0) ∧ cmpP (disR p (up12 (gP s j) o)).1 (disR p (up12 (gP s k) (o + t))).1 ≤ 0 := fun x y=>by
          obtain ⟨_, _, x1, x2⟩ := hA x
          obtain ⟨_, _, y1, y2⟩ := hB y
          rw [x2, y2]
          exact ⟨if_pos ⟨absP_bd x1, absP_bd y1⟩, cmpP_le.2 hjb⟩
        clear hA hB hjb jb he hp3
        have c5 := pcmp_tc (disR p (up12 (gP s j) o)).1 (disR p (up12 (gP s k) (o + t))).1
        generalize disR p (up12 (gP s j) o) = A at *
        generalize disR p (up12 (gP s k) (o + t)) = B at *
        obtain ⟨A, ok⟩ := A
        obtain ⟨B, too⟩ := B
        simp only [] at c3 c4 c5 hfin
        simp only [up12] at c3 c4
        have hne : ((s.length : Int) = 0) = False := eq_false (by omega)
        have hkk : ((k : Int) < s.length) = True := eq_true (by omega)
        have hk0 : (0 ≤ (k : Int)) = True := eq_true (by omega)
        have hjj : ((j : Int) < s.length) = True := eq_true (by omega)
        have hj0 : (0 ≤ (j : Int)) = True := eq_true (by omega)
        have f1 : decide ((j : Int) < 0) = false := decide_eq_false (by omega)
        have f2 : decide ((s.length : Int) ≤ (j : Int)) = false := decide_eq_false (by omega)
        have f3 : decide (o < -96) = false := decide_eq_false (by omega)
        have f4 : decide (o > 96) = false := decide_eq_false (by omega)
        have F := And.intro hne (And.intro hkk (And.intro hk0 (And.intro hjj hj0)))
        clear hne hkk hk0 hjj hj0
        cases ok with
        | false =>
          (refine TC_of_T Γ_ok Tryd.func10 rfl (by kernel_rfl) ?_;simp only [Tryd.ntmps10,Tryd.results10,List.length_cons,List.length_nil,Nat.reduceSub,Nat.reduceAdd,List.replicate,List.cons_append,List.nil_append])
          (have cl1 := c0;have dl1 := c1;have dl2 := c2;have dl3 := c3;have dl4 := c4;have sx1 := e1;have sx2 := e4;have sx3 := e5;have sx4 := f1;have sx5 := f2;have sx6 := f3;have sx7 := f4;have sx8 := F;have sx9 : (0 : Nat) + 0 = 0 := rfl;repeat' (first|with_reducible refine T_seq_drawT (id := 7) Γ_ok drawsAny pl10_7 (by kernel_rfl) (fun K hK=>?_)|with_reducible refine T_last_drawT (id := 7) Γ_ok drawsAny pl10_7 (by kernel_rfl) (fun K hK=>?_)|((refine goR9 _ _ _ _ _ _ _ _ ?_ ?_ ?_ ?_ ?_ ?_ ?_ ?_) <;> (repeat intro hb) <;> first|exact True.intro|refine Lf.mk ?_)))
        | true =>
          cases too with
          | false =>
            (refine TC_of_T Γ_ok Tryd.func10 rfl (by kernel_rfl) ?_;simp only [Tryd.ntmps10,Tryd.results10,List.length_cons,List.length_nil,Nat.reduceSub,Nat.reduceAdd,List.replicate,List.cons_append,List.nil_append])
            (have cl1 := c0;have dl1 := c1;have dl2 := c2;have dl3 := c3;have dl4 := c4;have sx1 := e1;have sx2 := e4;have sx3 := e5;have sx4 := f1;have sx5 := f2;have sx6 := f3;have sx7 := f4;have sx8 := F;have sx9 : (0 : Nat) + 0 = 0 := rfl;repeat' (first|with_reducible refine T_seq_drawT (id := 7) Γ_ok drawsAny pl10_7 (by kernel_rfl) (fun K hK=>?_)|with_reducible refine T_last_drawT (id := 7) Γ_ok drawsAny pl10_7 (by kernel_rfl) (fun K hK=>?_)|((refine goR9 _ _ _ _ _ _ _ _ ?_ ?_ ?_ ?_ ?_ ?_ ?_ ?_) <;> (repeat intro hb) <;> first|exact True.intro|refine Lf.mk ?_)))
          | true =>
            obtain ⟨x1, x2⟩ := hfin rfl rfl
            rw [x1] at c5
            simp only [] at c5
            have f5 : decide (cmpP A B ≤ 0) = true := decide_eq_true x2
            generalize cmpP A B = x at *
            (refine TC_of_T Γ_ok Tryd.func10 rfl (by kernel_rfl) ?_;simp only [Tryd.ntmps10,Tryd.results10,List.length_cons,List.length_nil,Nat.reduceSub,Nat.reduceAdd,List.replicate,List.cons_append,List.nil_append])
            (have cl1 := c0;have dl1 := c1;have dl2 := c2;have dl3 := c3;have dl4 := c4;have dl5 := c5;have sx1 := e1;have sx2 := e4;have sx3 := e5;have sx4 := f1;have sx5 := f2;have sx6 := f3;have sx7 := f4;have sx8 := f5;have sx9 := F;repeat' (first|with_reducible refine T_seq_drawT (id := 7) Γ_ok drawsAny pl10_7 (by kernel_rfl) (fun K hK=>?_)|with_reducible refine T_last_drawT (id := 7) Γ_ok drawsAny pl10_7 (by kernel_rfl) (fun K hK=>?_)|((refine goR9 _ _ _ _ _ _ _ _ ?_ ?_ ?_ ?_ ?_ ?_ ?_ ?_) <;> (repeat intro hb) <;> first|exact True.intro|refine Lf.mk ?_)))
      · rcases near_err hs he with h | ⟨h, h2⟩
        · rw [h] at c2
          (refine TC_of_T Γ_ok Tryd.func10 rfl (by kernel_rfl) ?_;simp only [Tryd.ntmps10,Tryd.results10,List.length_cons,List.length_nil,Nat.reduceSub,Nat.reduceAdd,List.replicate,List.cons_append,List.nil_append])
          (have cl1 := c0;have dl1 := c1;have dl2 := c2;have sx1 := e1;repeat' (first|with_reducible refine T_seq_drawT (id := 7) Γ_ok drawsAny pl10_7 (by kernel_rfl) (fun K hK=>?_)|with_reducible refine T_last_drawT (id := 7) Γ_ok drawsAny pl10_7 (by kernel_rfl) (fun K hK=>?_)|((have sx2 : (0 : Nat) + 0 = 0 := rfl;refine goB2 _ _ _ _ _ _ _ _ ?_ ?_ ?_ ?_ ?_ ?_ ?_ ?_) <;> (repeat intro hb) <;> first|exact True.intro|refine Lf.mk ?_)))
        · rw [h] at c2
          have c3 := valid_p p
          rw [decide_eq_false h2] at c3
          (refine TC_of_T Γ_ok Tryd.func10 rfl (by kernel_rfl) ?_;simp only [Tryd.ntmps10,Tryd.results10,List.length_cons,List.length_nil,Nat.reduceSub,Nat.reduceAdd,List.replicate,List.cons_append,List.nil_append])
          (have cl1 := c0;have dl1 := c1;have dl2 := c2;have dl3 := c3;have sx1 := e1;have sx2 : (0 : Nat) + 0 = 0 := rfl;repeat' (first|with_reducible refine T_seq_drawT (id := 7) Γ_ok drawsAny pl10_7 (by kernel_rfl) (fun K hK=>?_)|with_reducible refine T_last_drawT (id := 7) Γ_ok drawsAny pl10_7 (by kernel_rfl) (fun K hK=>?_)|((have sx3 : (0 : Nat) + 0 = 0 := rfl;have sx4 : (0 : Nat) + 0 = 0 := rfl;have sx5 : (0 : Nat) + 0 = 0 := rfl;have sx6 : (0 : Nat) + 0 = 0 := rfl;have sx7 : (0 : Nat) + 0 = 0 := rfl;have sx8 : (0 : Nat) + 0 = 0 := rfl;have sx9 : (0 : Nat) + 0 = 0 := rfl;refine goR9 _ _ _ _ _ _ _ _ ?_ ?_ ?_ ?_ ?_ ?_ ?_ ?_) <;> (repeat intro hb) <;> first|exact True.intro|refine Lf.mk ?_)))
    · rw [tf_f hs] at c1
      (refine TC_of_T Γ_ok Tryd.func10 rfl (by kernel_rfl) ?_;simp only [Tryd.ntmps10,Tryd.results10,List.length_cons,List.length_nil,Nat.reduceSub,Nat.reduceAdd,List.replicate,List.cons_append,List.nil_append])
      (have cl1 := c0;have dl1 := c1;have sx1 := e1;have sx2 : (0 : Nat) + 0 = 0 := rfl;repeat' (first|with_reducible refine T_seq_drawT (id := 7) Γ_ok drawsAny pl10_7 (by kernel_rfl) (fun K hK=>?_)|with_reducible refine T_last_drawT (id := 7) Γ_ok drawsAny pl10_7 (by kernel_rfl) (fun K hK=>?_)|((have sx3 : (0 : Nat) + 0 = 0 := rfl;have sx4 : (0 : Nat) + 0 = 0 := rfl;have sx5 : (0 : Nat) + 0 = 0 := rfl;have sx6 : (0 : Nat) + 0 = 0 := rfl;have sx7 : (0 : Nat) + 0 = 0 := rfl;have sx8 : (0 : Nat) + 0 = 0 := rfl;have sx9 : (0 : Nat) + 0 = 0 := rfl;refine goR9 _ _ _ _ _ _ _ _ ?_ ?_ ?_ ?_ ?_ ?_ ?_ ?_) <;> (repeat intro hb) <;> first|exact True.intro|refine Lf.mk ?_)))
  · have e1 : decide ((s.length : Int) > 16) = true := decide_eq_true (by omega)
    (refine TC_of_T Γ_ok Tryd.func10 rfl (by kernel_rfl) ?_;simp only [Tryd.ntmps10,Tryd.results10,List.length_cons,List.length_nil,Nat.reduceSub,Nat.reduceAdd,List.replicate,List.cons_append,List.nil_append])
    (have cl1 := c0;have sx1 := e1;repeat' (first|with_reducible refine T_seq_drawT (id := 7) Γ_ok drawsAny pl10_7 (by kernel_rfl) (fun K hK=>?_)|with_reducible refine T_last_drawT (id := 7) Γ_ok drawsAny pl10_7 (by kernel_rfl) (fun K hK=>?_)|((have sx2 : (0 : Nat) + 0 = 0 := rfl;refine goB2 _ _ _ _ _ _ _ _ ?_ ?_ ?_ ?_ ?_ ?_ ?_ ?_) <;> (repeat intro hb) <;> first|exact True.intro|refine Lf.mk ?_)))
end Go.Proofs.YtdglbjjenihdlaaDoor
