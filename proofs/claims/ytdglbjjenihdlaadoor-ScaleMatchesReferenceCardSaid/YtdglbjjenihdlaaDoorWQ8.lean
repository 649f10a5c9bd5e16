/-
  The reference's over, quotient, Steps, Mode.
-/
import Derived.Test.YtdglbjjenihdlaaDoorWGo3
import Derived.Test.YtdglbjjenihdlaaDoorWQ7
import Derived.Test.YtdglbjjenihdlaaDoorWN20
set_option linter.unusedSimpArgs false
set_option linter.unusedVariables false
namespace Go.Proofs.YtdglbjjenihdlaaDoor
open Go.Ab
set_option maxRecDepth 100000 in
set_option maxHeartbeats 4000000 in
theorem rover_tc (s : List P6) (h : SclOk s) (d : Nat) (hd : d ≤ 1000) : Look Tryd.prog 48 [pts s,.imm (.int .i64 d)] (p6A (atP s d)) := by
  refine Look.mk (by simp [Pl, PlL]) ?_
  have hn := List.length_pos_iff.2 h.ne
  have hl := h.len
  have e1 : (d : Int).tmod (s.length : Int) = ((d % s.length : Nat) : Int) := rfl
  have e2 : (d : Int).tdiv (s.length : Int) = ((d / s.length : Nat) : Int) := rfl
  have hm := Nat.mod_lt d hn
  have hq : d / s.length ≤ 1000 := Nat.le_trans (Nat.div_le_self _ _) hd
  have hb := h.bd (d % s.length)
  unfold Bd6 at hb
  have hr : atP s d = up12 (gP s (d % s.length)) ((d / s.length : Nat) : Int) := rfl
  rw [hr]
  clear hr
  generalize d / s.length = q at hq e2 ⊢
  generalize d % s.length = m at hm hb e1 ⊢
  have c1 := rup_tc (gP s m) (q : Int) (by omega) (by omega)
  generalize up12 (gP s m) (q : Int) = r at c1 ⊢
  (refine TC_of_T Γ_ok Tryd.func48 rfl (by kernel_rfl) ?_;simp only [Tryd.ntmps48,Tryd.results48,List.length_cons,List.length_nil,Nat.reduceSub,Nat.reduceAdd,List.replicate,List.cons_append,List.nil_append])
  (have dl1 := c1;have sx1 := (And.intro e1 e2);repeat' (first|with_reducible refine T_seq_drawT (id := 1) Γ_ok drawsAny pl48_1 (by kernel_rfl) (fun K hK=>?_)|with_reducible refine T_last_drawT (id := 1) Γ_ok drawsAny pl48_1 (by kernel_rfl) (fun K hK=>?_)|((refine goU1 _ _ _ _ _ _ _ _ _ _ _ _ ?_ ?_ ?_ ?_ ?_ ?_ ?_ ?_ ?_ ?_ ?_ ?_) <;> (repeat intro hb) <;> first|exact True.intro|refine Lf.mk ?_)))
set_option maxRecDepth 100000 in
set_option maxHeartbeats 4000000 in
theorem rquot_tc (p q : P6) (hp : Bd6 12576 p) (hq : Bd6 12576 q) : Look Tryd.prog 47 [p6A p,p6A q] (.tup [p6A (p.sub q),.imm (.bool (decide (Bd6 576 (p.sub q))))]) := by
  refine Look.mk (by simp [Pl, PlL]) ?_
  have c1 := rvalid_p (p.sub q)
  unfold Bd6 at hp hq
  generalize decide (Bd6 576 (p.sub q)) = b at *
  simp only [P6.sub] at c1 ⊢
  (refine TC_of_T Γ_ok Tryd.func47 rfl (by kernel_rfl) ?_;simp only [Tryd.ntmps47,Tryd.results47,List.length_cons,List.length_nil,Nat.reduceSub,Nat.reduceAdd,List.replicate,List.cons_append,List.nil_append])
  (have sx1 : (0 : Nat) + 0 = 0 := rfl;repeat' (first|with_reducible refine T_seq_drawT (id := 4) Γ_ok drawsAny pl47_4 (by kernel_rfl) (fun K hK=>?_)|with_reducible refine T_last_drawT (id := 4) Γ_ok drawsAny pl47_4 (by kernel_rfl) (fun K hK=>?_)|((refine goU1 _ _ _ _ _ _ _ _ _ _ _ _ ?_ ?_ ?_ ?_ ?_ ?_ ?_ ?_ ?_ ?_ ?_ ?_) <;> (repeat intro hb) <;> first|exact True.intro|refine Lf.mk ?_)))
  refine T_rounds 7 ?_
  (have dl1 := c1;have sx1 : (0 : Nat) + 0 = 0 := rfl;repeat' (first|with_reducible refine T_seq_drawT (id := 4) Γ_ok drawsAny pl47_4 (by kernel_rfl) (fun K hK=>?_)|with_reducible refine T_last_drawT (id := 4) Γ_ok drawsAny pl47_4 (by kernel_rfl) (fun K hK=>?_)|((refine goU1 _ _ _ _ _ _ _ _ _ _ _ _ ?_ ?_ ?_ ?_ ?_ ?_ ?_ ?_ ?_ ?_ ?_ ?_) <;> (repeat intro hb) <;> first|exact True.intro|refine Lf.mk ?_)))
theorem at_bdd {s : List P6} (h : SclOk s) {d : Nat} (hd : d ≤ 1000) : Bd6 12576 (atP s d) := by
  have z1 := h.bd (d % s.length)
  have z3 : d / s.length ≤ 1000 := Nat.le_trans (Nat.div_le_self _ _) hd
  unfold atP up12 Bd6 at *
  simp only [] at *
  generalize d / s.length = y at z3 ⊢
  omega
@[go_sem,reducible] def enRS (s : List P6) (n i : Nat) : List AV := [pts s,.top,.top,.top,.top,.own 0 0 n none,.imm (.int .i64 i)] ++ List.replicate 31 .top
@[go_sem,reducible] def enRM (s : List P6) (d n i : Nat) : List AV := [pts s,.imm (.int .i64 d),.top,.top,.top,.top,.top,.own 0 0 n none,.imm (.int .i64 i)] ++ List.replicate 42 .top
set_option maxRecDepth 100000 in
set_option maxHeartbeats 4000000 in
theorem rsteps_mk (s : List P6) (h0 : s.length ≤ 9223372036854775807) : Makes Tryd.prog 20 [pts s] (.tup [.own 0 0 (stepsR s).1.length none,.imm (.int .i64 (stepsR s).2)]) [ptO (stepsR s).1] := by
  refine ptMk ?_
  have c1 := rsvalid_tc s h0
  generalize hR : stepsR s = R
  unfold stepsR at hR
  generalize hQ : (fun (v : AV) (σ' : List AObj)=>(v = .tup [.imm (.slice none 0 0),.imm (.int .i64 R.2)] ∧ R.1.length = 0) ∨ ∃ k E',v = .tup [.own k 0 R.1.length none,.imm (.int .i64 R.2)] ∧ nthO σ' k = .arr 24 6 R.1.length E' ∧ ∀ i j,i < R.1.length → j < 6 → E' i j = ptE R.1 i j) = Q
  by_cases h : SclOk s
  · rw [tf_t h] at c1 hR
    rw [if_pos rfl] at hR
    have hl := h.len
    (refine TC_of_T Γ_ok Tryd.func20 rfl (by kernel_rfl) ?_;simp only [Tryd.ntmps20,Tryd.results20,List.length_cons,List.length_nil,Nat.reduceSub,Nat.reduceAdd,List.replicate,List.cons_append,List.nil_append])
    (have dl1 := c1;have sx1 : (0 : Nat) + 0 = 0 := rfl;repeat' (first|with_reducible refine T_seq_drawT (id := 8) Γ_ok drawsAny pl20_8 (by kernel_rfl) (fun K hK=>?_)|with_reducible refine T_last_drawT (id := 8) Γ_ok drawsAny pl20_8 (by kernel_rfl) (fun K hK=>?_)|((refine goU1 _ _ _ _ _ _ _ _ _ _ _ _ ?_ ?_ ?_ ?_ ?_ ?_ ?_ ?_ ?_ ?_ ?_ ?_) <;> (repeat intro hb) <;> first|exact True.intro|refine Lf.mk ?_)))
    refine T_loopW (fun m st => ∃ (i : Nat) (l : List P6),i ≤ s.length ∧ m + i = s.length ∧ quL s (fun i => i + 1) (fun i => i) i = some l ∧ st = ⟨enRS s l.length i,[ptO l]⟩)
      s.length ⟨_, Wk.trans (Wk.push 24 6 (ptE [])) ?_, 0, [], by omega, rfl, rfl, rfl⟩ ?_
    · ((try simp only [List.length_append,List.length_cons,List.length_nil,Nat.zero_add]);refine Wk.intro [0] (by decide) (by decide) (by intro o ho;simp at ho ⊢ <;> omega) ?_ ?_ <;> repeat' (first|exact WkVL.nil|refine WkVL.cons ?_ ?_|exact WkV.top|exact WkV.imm rfl|exact WkV.imm (by simp)|exact WkV.optr rfl|exact WkV.own rfl (by simp)|exact WkV.nil_own (.inl rfl)|exact WkV.map rfl|(refine WkV.free ?_;simp [Free,FreeL] <;> assumption)|(refine WkV.free (fun _ _=>FreeL_nth ?_ _);simp [Free,FreeL];done)|refine WkV.agg ?_|refine WkV.tup ?_|refine WkV.fn ?_ ?_|exact WkO.dead|exact WkO.raw|refine WkO.ghost ?_|exact WkO.mpE rfl trivial|refine WkO.box ?_ rfl|refine WkO.arr ?_|refine And.intro ?_ (And.intro (by first|exact fun h=>h|exact fun _=>rfl|exact nofun) ?_)|exact trivial|(intro i j hi hj)))
    rintro m st ⟨i, l, k0, k1, k2, rfl⟩
    have hll := quL_len k2
    by_cases hi : i < s.length
    · have c3 := rover_tc s h (i + 1) (by omega)
      have hgi : atP s i = gP s i := by
        unfold atP
        rw [Nat.mod_eq_of_lt hi, Nat.div_eq_of_lt hi]
        apply P6.ext' <;> simp only [up12] <;> omega
      have b1 := at_bdd h (d := i + 1) (by omega)
      have b2 := at_bdd h (d := i) (by omega)
      have c4 := rquot_tc (atP s (i + 1)) (atP s i) b1 b2
      have hstep : quL s (fun i => i + 1) (fun i => i) (i + 1) = if Bd6 576 ((atP s (i + 1)).sub (atP s i)) then some (l ++ [(atP s (i + 1)).sub (atP s i)]) else none := by rw [quL,k2];rfl
      rw [hgi] at c4 hstep
      rw [show ((i + 1 : Nat) : Int) = (i : Int) + 1 by omega] at c3
      generalize atP s (i + 1) = A at *
      clear b1 b2 hgi
      by_cases hv : Bd6 576 (A.sub (gP s i))
      · rw [if_pos hv] at hstep
        rw [decide_eq_true hv] at c4
        generalize A.sub (gP s i) = B at *
        have hsn := fun p q => pt_snoc l B (i := p) (j := q)
        (simp only [go_sem,↓reduceIte,Nat.reduceAdd,Nat.reduceSub,Nat.reduceMul,Nat.reduceLT,Nat.reduceLeDiff,Nat.reduceEqDiff,Nat.reduceGT,Int.reduceToNat,Int.reduceBEq,Int.reduceBNe];try simp (disch := omega) only [wrapI,wrapU,half_sum,toNat_sub1,toNat_add1,Int.toNat_natCast])
        (have dl1 := c3;have dl2 := c4;have sx1 : (0 : Nat) + 0 = 0 := rfl;repeat' (first|with_reducible refine T_seq_drawT (id := 8) Γ_ok drawsAny pl20_8 (by kernel_rfl) (fun K hK=>?_)|with_reducible refine T_last_drawT (id := 8) Γ_ok drawsAny pl20_8 (by kernel_rfl) (fun K hK=>?_)|((refine goU1 _ _ _ _ _ _ _ _ _ _ _ _ ?_ ?_ ?_ ?_ ?_ ?_ ?_ ?_ ?_ ?_ ?_ ?_) <;> (repeat intro hb) <;> first|exact True.intro|refine Lf.mk ?_)))
        refine ⟨s.length - (i + 1),by omega,⟨enRS s (l ++ [B]).length (i + 1),[ptO (l ++ [B])]⟩,?_,i + 1,l ++ [B],by omega,by omega,hstep,rfl⟩
        simp only [ptO]
        ((try simp only [List.length_append,List.length_cons,List.length_nil,Nat.zero_add]);refine Wk.intro [3] (by decide) (by decide) (by intro o ho;simp at ho ⊢ <;> omega) ?_ ?_ <;> repeat' (first|(exact WkV.eqF (hsn _ _ hi hj) (ptE_free _ _ _))|(refine WkV.imm ?_;congr 1;omega)|exact WkVL.nil|refine WkVL.cons ?_ ?_|exact WkV.top|exact WkV.imm rfl|exact WkV.imm (by simp)|exact WkV.optr rfl|exact WkV.own rfl (by simp)|exact WkV.nil_own (.inl rfl)|exact WkV.map rfl|(refine WkV.free ?_;simp [Free,FreeL] <;> assumption)|(refine WkV.free (fun _ _=>FreeL_nth ?_ _);simp [Free,FreeL];done)|refine WkV.agg ?_|refine WkV.tup ?_|refine WkV.fn ?_ ?_|exact WkO.dead|exact WkO.raw|refine WkO.ghost ?_|exact WkO.mpE rfl trivial|refine WkO.box ?_ rfl|refine WkO.arr ?_|refine And.intro ?_ (And.intro (by first|exact fun h=>h|exact fun _=>rfl|exact nofun) ?_)|exact trivial|(intro i j hi hj)))
      · rw [if_neg hv] at hstep
        rw [decide_eq_false hv] at c4
        generalize A.sub (gP s i) = B at *
        have hno : quL s (fun i => i + 1) (fun i => i) s.length = none := by
          have := quL_none hstep (s.length - (i + 1))
          rwa [show i + 1 + (s.length - (i + 1)) = s.length by omega] at this
        unfold quR at hR
        rw [hno] at hR
        (simp only [go_sem,↓reduceIte,Nat.reduceAdd,Nat.reduceSub,Nat.reduceMul,Nat.reduceLT,Nat.reduceLeDiff,Nat.reduceEqDiff,Nat.reduceGT,Int.reduceToNat,Int.reduceBEq,Int.reduceBNe];try simp (disch := omega) only [wrapI,wrapU,half_sum,toNat_sub1,toNat_add1,Int.toNat_natCast])
        (have dl1 := c3;have dl2 := c4;have sx1 : (0 : Nat) + 0 = 0 := rfl;repeat' (first|with_reducible refine T_seq_drawT (id := 8) Γ_ok drawsAny pl20_8 (by kernel_rfl) (fun K hK=>?_)|with_reducible refine T_last_drawT (id := 8) Γ_ok drawsAny pl20_8 (by kernel_rfl) (fun K hK=>?_)|((refine goU1 _ _ _ _ _ _ _ _ _ _ _ _ ?_ ?_ ?_ ?_ ?_ ?_ ?_ ?_ ?_ ?_ ?_ ?_) <;> (repeat intro hb) <;> first|exact True.intro|refine Lf.mk ?_)))
        rw [← hQ, ← hR]
        exact .inl ⟨rfl, rfl⟩
    · obtain rfl : i = s.length := by omega
      unfold quR at hR
      rw [k2] at hR
      (simp only [go_sem,↓reduceIte,Nat.reduceAdd,Nat.reduceSub,Nat.reduceMul,Nat.reduceLT,Nat.reduceLeDiff,Nat.reduceEqDiff,Nat.reduceGT,Int.reduceToNat,Int.reduceBEq,Int.reduceBNe];try simp (disch := omega) only [wrapI,wrapU,half_sum,toNat_sub1,toNat_add1,Int.toNat_natCast])
      (have sx1 : (0 : Nat) + 0 = 0 := rfl;repeat' (first|with_reducible refine T_seq_drawT (id := 8) Γ_ok drawsAny pl20_8 (by kernel_rfl) (fun K hK=>?_)|with_reducible refine T_last_drawT (id := 8) Γ_ok drawsAny pl20_8 (by kernel_rfl) (fun K hK=>?_)|((refine goU1 _ _ _ _ _ _ _ _ _ _ _ _ ?_ ?_ ?_ ?_ ?_ ?_ ?_ ?_ ?_ ?_ ?_ ?_) <;> (repeat intro hb) <;> first|exact True.intro|refine Lf.mk ?_)))
      rw [← hQ, ← hR]
      exact .inr ⟨0, _, rfl, rfl, fun _ _ _ _ => rfl⟩
  · rw [tf_f h] at c1 hR
    rw [if_neg (by simp)] at hR
    (refine TC_of_T Γ_ok Tryd.func20 rfl (by kernel_rfl) ?_;simp only [Tryd.ntmps20,Tryd.results20,List.length_cons,List.length_nil,Nat.reduceSub,Nat.reduceAdd,List.replicate,List.cons_append,List.nil_append])
    (have dl1 := c1;have sx1 : (0 : Nat) + 0 = 0 := rfl;repeat' (first|with_reducible refine T_seq_drawT (id := 8) Γ_ok drawsAny pl20_8 (by kernel_rfl) (fun K hK=>?_)|with_reducible refine T_last_drawT (id := 8) Γ_ok drawsAny pl20_8 (by kernel_rfl) (fun K hK=>?_)|((refine goU1 _ _ _ _ _ _ _ _ _ _ _ _ ?_ ?_ ?_ ?_ ?_ ?_ ?_ ?_ ?_ ?_ ?_ ?_) <;> (repeat intro hb) <;> first|exact True.intro|refine Lf.mk ?_)))
    rw [← hQ, ← hR]
    exact .inl ⟨rfl, rfl⟩
set_option maxRecDepth 100000 in
set_option maxHeartbeats 4000000 in
theorem rmode_mk (s : List P6) (h0 : s.length ≤ 9223372036854775807) (d : Int) : Makes Tryd.prog 22 [pts s,.imm (.int .i64 d)] (.tup [.own 0 0 (modeR s d).1.length none,.imm (.int .i64 (modeR s d).2)]) [ptO (modeR s d).1] := by
  refine ptMk ?_
  have c1 := rsvalid_tc s h0
  generalize hR : modeR s d = R
  unfold modeR at hR
  generalize hQ : (fun (v : AV) (σ' : List AObj)=>(v = .tup [.imm (.slice none 0 0),.imm (.int .i64 R.2)] ∧ R.1.length = 0) ∨ ∃ k E',v = .tup [.own k 0 R.1.length none,.imm (.int .i64 R.2)] ∧ nthO σ' k = .arr 24 6 R.1.length E' ∧ ∀ i j,i < R.1.length → j < 6 → E' i j = ptE R.1 i j) = Q
  by_cases h : SclOk s
  · rw [tf_t h] at c1 hR
    have hl := h.len
    by_cases hd : 0 ≤ d ∧ d < s.length
    · rw [if_pos ⟨rfl, hd⟩] at hR
      obtain ⟨d, rfl⟩ := Int.eq_ofNat_of_zero_le hd.1
      rw [Int.toNat_natCast] at hR
      have f1 : decide ((d : Int) < 0) = false := decide_eq_false (by omega)
      have f2 : decide ((s.length : Int) ≤ (d : Int)) = false := decide_eq_false (by omega)
      (refine TC_of_T Γ_ok Tryd.func22 rfl (by kernel_rfl) ?_;simp only [Tryd.ntmps22,Tryd.results22,List.length_cons,List.length_nil,Nat.reduceSub,Nat.reduceAdd,List.replicate,List.cons_append,List.nil_append])
      (have dl1 := c1;have sx1 := (And.intro f1 f2);repeat' (first|with_reducible refine T_seq_drawT (id := 8) Γ_ok drawsAny pl22_8 (by kernel_rfl) (fun K hK=>?_)|with_reducible refine T_last_drawT (id := 8) Γ_ok drawsAny pl22_8 (by kernel_rfl) (fun K hK=>?_)|((refine goU1 _ _ _ _ _ _ _ _ _ _ _ _ ?_ ?_ ?_ ?_ ?_ ?_ ?_ ?_ ?_ ?_ ?_ ?_) <;> (repeat intro hb) <;> first|exact True.intro|refine Lf.mk ?_)))
      refine T_loopW (fun m st => ∃ (i : Nat) (l : List P6),i ≤ s.length ∧ m + i = s.length ∧ quL s (fun i => d + i) (fun _ => d) i = some l ∧ st = ⟨enRM s d l.length i,[ptO l]⟩)
        s.length ⟨_, Wk.trans (Wk.push 24 6 (ptE [])) ?_, 0, [], by omega, rfl, rfl, rfl⟩ ?_
      · ((try simp only [List.length_append,List.length_cons,List.length_nil,Nat.zero_add]);refine Wk.intro [0] (by decide) (by decide) (by intro o ho;simp at ho ⊢ <;> omega) ?_ ?_ <;> repeat' (first|exact WkVL.nil|refine WkVL.cons ?_ ?_|exact WkV.top|exact WkV.imm rfl|exact WkV.imm (by simp)|exact WkV.optr rfl|exact WkV.own rfl (by simp)|exact WkV.nil_own (.inl rfl)|exact WkV.map rfl|(refine WkV.free ?_;simp [Free,FreeL] <;> assumption)|(refine WkV.free (fun _ _=>FreeL_nth ?_ _);simp [Free,FreeL];done)|refine WkV.agg ?_|refine WkV.tup ?_|refine WkV.fn ?_ ?_|exact WkO.dead|exact WkO.raw|refine WkO.ghost ?_|exact WkO.mpE rfl trivial|refine WkO.box ?_ rfl|refine WkO.arr ?_|refine And.intro ?_ (And.intro (by first|exact fun h=>h|exact fun _=>rfl|exact nofun) ?_)|exact trivial|(intro i j hi hj)))
      rintro m st ⟨i, l, k0, k1, k2, rfl⟩
      have hll := quL_len k2
      by_cases hi : i < s.length
      · have c3 := rover_tc s h (d + i) (by omega)
        have hgi : atP s d = gP s d := by
          unfold atP
          rw [Nat.mod_eq_of_lt (by omega), Nat.div_eq_of_lt (by omega)]
          apply P6.ext' <;> simp only [up12] <;> omega
        have b1 := at_bdd h (d := d + i) (by omega)
        have b2 := at_bdd h (d := d) (by omega)
        have c4 := rquot_tc (atP s (d + i)) (atP s d) b1 b2
        have hstep : quL s (fun i => d + i) (fun _ => d) (i + 1) = if Bd6 576 ((atP s (d + i)).sub (atP s d)) then some (l ++ [(atP s (d + i)).sub (atP s d)]) else none := by rw [quL,k2];rfl
        rw [hgi] at c4 hstep
        rw [show ((d + i : Nat) : Int) = (d : Int) + (i : Int) by omega] at c3
        generalize atP s (d + i) = A at *
        clear b1 b2 hgi
        by_cases hv : Bd6 576 (A.sub (gP s d))
        · rw [if_pos hv] at hstep
          rw [decide_eq_true hv] at c4
          generalize A.sub (gP s d) = B at *
          have hsn := fun p q => pt_snoc l B (i := p) (j := q)
          (simp only [go_sem,↓reduceIte,Nat.reduceAdd,Nat.reduceSub,Nat.reduceMul,Nat.reduceLT,Nat.reduceLeDiff,Nat.reduceEqDiff,Nat.reduceGT,Int.reduceToNat,Int.reduceBEq,Int.reduceBNe];try simp (disch := omega) only [wrapI,wrapU,half_sum,toNat_sub1,toNat_add1,Int.toNat_natCast])
          (have dl1 := c3;have dl2 := c4;have sx1 : (0 : Nat) + 0 = 0 := rfl;repeat' (first|with_reducible refine T_seq_drawT (id := 8) Γ_ok drawsAny pl22_8 (by kernel_rfl) (fun K hK=>?_)|with_reducible refine T_last_drawT (id := 8) Γ_ok drawsAny pl22_8 (by kernel_rfl) (fun K hK=>?_)|((refine goU1 _ _ _ _ _ _ _ _ _ _ _ _ ?_ ?_ ?_ ?_ ?_ ?_ ?_ ?_ ?_ ?_ ?_ ?_) <;> (repeat intro hb) <;> first|exact True.intro|refine Lf.mk ?_)))
          refine ⟨s.length - (i + 1),by omega,⟨enRM s d (l ++ [B]).length (i + 1),[ptO (l ++ [B])]⟩,?_,i + 1,l ++ [B],by omega,by omega,hstep,rfl⟩
          simp only [ptO]
          ((try simp only [List.length_append,List.length_cons,List.length_nil,Nat.zero_add]);refine Wk.intro [3] (by decide) (by decide) (by intro o ho;simp at ho ⊢ <;> omega) ?_ ?_ <;> repeat' (first|(exact WkV.eqF (hsn _ _ hi hj) (ptE_free _ _ _))|(refine WkV.imm ?_;congr 1;omega)|exact WkVL.nil|refine WkVL.cons ?_ ?_|exact WkV.top|exact WkV.imm rfl|exact WkV.imm (by simp)|exact WkV.optr rfl|exact WkV.own rfl (by simp)|exact WkV.nil_own (.inl rfl)|exact WkV.map rfl|(refine WkV.free ?_;simp [Free,FreeL] <;> assumption)|(refine WkV.free (fun _ _=>FreeL_nth ?_ _);simp [Free,FreeL];done)|refine WkV.agg ?_|refine WkV.tup ?_|refine WkV.fn ?_ ?_|exact WkO.dead|exact WkO.raw|refine WkO.ghost ?_|exact WkO.mpE rfl trivial|refine WkO.box ?_ rfl|refine WkO.arr ?_|refine And.intro ?_ (And.intro (by first|exact fun h=>h|exact fun _=>rfl|exact nofun) ?_)|exact trivial|(intro i j hi hj)))
        · rw [if_neg hv] at hstep
          rw [decide_eq_false hv] at c4
          generalize A.sub (gP s d) = B at *
          have hno : quL s (fun i => d + i) (fun _ => d) s.length = none := by
            have := quL_none hstep (s.length - (i + 1))
            rwa [show i + 1 + (s.length - (i + 1)) = s.length by omega] at this
          unfold quR at hR
          rw [hno] at hR
          (simp only [go_sem,↓reduceIte,Nat.reduceAdd,Nat.reduceSub,Nat.reduceMul,Nat.reduceLT,Nat.reduceLeDiff,Nat.reduceEqDiff,Nat.reduceGT,Int.reduceToNat,Int.reduceBEq,Int.reduceBNe];try simp (disch := omega) only [wrapI,wrapU,half_sum,toNat_sub1,toNat_add1,Int.toNat_natCast])
          (have dl1 := c3;have dl2 := c4;have sx1 : (0 : Nat) + 0 = 0 := rfl;repeat' (first|with_reducible refine T_seq_drawT (id := 8) Γ_ok drawsAny pl22_8 (by kernel_rfl) (fun K hK=>?_)|with_reducible refine T_last_drawT (id := 8) Γ_ok drawsAny pl22_8 (by kernel_rfl) (fun K hK=>?_)|((refine goU1 _ _ _ _ _ _ _ _ _ _ _ _ ?_ ?_ ?_ ?_ ?_ ?_ ?_ ?_ ?_ ?_ ?_ ?_) <;> (repeat intro hb) <;> first|exact True.intro|refine Lf.mk ?_)))
          rw [← hQ, ← hR]
          exact .inl ⟨rfl, rfl⟩
      · obtain rfl : i = s.length := by omega
        unfold quR at hR
        rw [k2] at hR
        (simp only [go_sem,↓reduceIte,Nat.reduceAdd,Nat.reduceSub,Nat.reduceMul,Nat.reduceLT,Nat.reduceLeDiff,Nat.reduceEqDiff,Nat.reduceGT,Int.reduceToNat,Int.reduceBEq,Int.reduceBNe];try simp (disch := omega) only [wrapI,wrapU,half_sum,toNat_sub1,toNat_add1,Int.toNat_natCast])
        (have sx1 : (0 : Nat) + 0 = 0 := rfl;repeat' (first|with_reducible refine T_seq_drawT (id := 8) Γ_ok drawsAny pl22_8 (by kernel_rfl) (fun K hK=>?_)|with_reducible refine T_last_drawT (id := 8) Γ_ok drawsAny pl22_8 (by kernel_rfl) (fun K hK=>?_)|((refine goU1 _ _ _ _ _ _ _ _ _ _ _ _ ?_ ?_ ?_ ?_ ?_ ?_ ?_ ?_ ?_ ?_ ?_ ?_) <;> (repeat intro hb) <;> first|exact True.intro|refine Lf.mk ?_)))
        rw [← hQ, ← hR]
        exact .inr ⟨0, _, rfl, rfl, fun _ _ _ _ => rfl⟩
    · rw [if_neg (fun k => hd k.2)] at hR
      (refine TC_of_T Γ_ok Tryd.func22 rfl (by kernel_rfl) ?_;simp only [Tryd.ntmps22,Tryd.results22,List.length_cons,List.length_nil,Nat.reduceSub,Nat.reduceAdd,List.replicate,List.cons_append,List.nil_append])
      (have dl1 := c1;have sx1 : (0 : Nat) + 0 = 0 := rfl;repeat' (first|with_reducible refine T_seq_drawT (id := 8) Γ_ok drawsAny pl22_8 (by kernel_rfl) (fun K hK=>?_)|with_reducible refine T_last_drawT (id := 8) Γ_ok drawsAny pl22_8 (by kernel_rfl) (fun K hK=>?_)|((refine goU1 _ _ _ _ _ _ _ _ _ _ _ _ ?_ ?_ ?_ ?_ ?_ ?_ ?_ ?_ ?_ ?_ ?_ ?_) <;> (repeat intro hb) <;> first|exact True.intro|refine Lf.mk ?_)))
      rw [← hQ, ← hR]
      exact .inl ⟨rfl, rfl⟩
  · rw [tf_f h] at c1 hR
    rw [if_neg (by simp)] at hR
    (refine TC_of_T Γ_ok Tryd.func22 rfl (by kernel_rfl) ?_;simp only [Tryd.ntmps22,Tryd.results22,List.length_cons,List.length_nil,Nat.reduceSub,Nat.reduceAdd,List.replicate,List.cons_append,List.nil_append])
    (have dl1 := c1;have sx1 : (0 : Nat) + 0 = 0 := rfl;repeat' (first|with_reducible refine T_seq_drawT (id := 8) Γ_ok drawsAny pl22_8 (by kernel_rfl) (fun K hK=>?_)|with_reducible refine T_last_drawT (id := 8) Γ_ok drawsAny pl22_8 (by kernel_rfl) (fun K hK=>?_)|((refine goU1 _ _ _ _ _ _ _ _ _ _ _ _ ?_ ?_ ?_ ?_ ?_ ?_ ?_ ?_ ?_ ?_ ?_ ?_) <;> (repeat intro hb) <;> first|exact True.intro|refine Lf.mk ?_)))
    rw [← hQ, ← hR]
    exact .inl ⟨rfl, rfl⟩
end Go.Proofs.YtdglbjjenihdlaaDoor
