/-
 The law of keyboards and singers.
-/
import Derived.Test.YtonmienclploaaaGreatDoorQGo
import Derived.Test.YtonmienclploaaaGreatDoorQLA
set_option linter.unusedSimpArgs false
set_option linter.unusedVariables false
namespace Go.Proofs.YtonmienclploaaaGreatDoor
open Go.Ab
set_option maxRecDepth 100000 in
set_option maxHeartbeats 8000000 in
theorem law_5 (p : Ply) (vs : List P6) (hp : PlOk p) (hf : fewB p vs.length = true) (hv : vs.length ≤ 4) {l : List Int} (hll : l.length = vs.length)
  (hm : ∀ i, i < vs.length → hasR p.vc (gV vs i) = (true, 0) ∧ gL l i = 0)
  (hb' : Makes Tryz.prog 13 [plyA 5 p,vts vs] (.tup [.own 0 0 l.length none,.imm (.int .i64 0)]) [itO l]) : Look Tryz.prog 4 [plyA 5 p,vts vs] (.imm (.bool true)) := by
 have c1 := few_tc 5 p vs hp.w (by omega)
 rw [hf] at c1
 have e1 : ((l.length : Int) != (vs.length : Int)) = false := by rw [hll]; simp
 refine Look.mk trivial ?_
 (refine TC_of_T Γ_ok Tryz.func4 rfl (by kernel_rfl) ?_;simp only [Tryz.ntmps4,Tryz.results4,List.length_cons,List.length_nil,Nat.reduceSub,Nat.reduceAdd,List.replicate,List.cons_append,List.nil_append])
 (have cl1 := head_tc;have cl2 := c1;have cm1 := hb';have sx1 := e1;have sx2:=sx0;repeat' (first|with_reducible refine T_seq_drawT (id := 28) Γ_ok drawsAny pl4_28 (by kernel_rfl) (fun K hK=>?_)|with_reducible refine T_last_drawT (id := 28) Γ_ok drawsAny pl4_28 (by kernel_rfl) (fun K hK=>?_)|((obtain ⟨sx3,sx4,sx5,sx6,sx7,sx8,sx9⟩:=sx0_7;refine goR9 _ _ _ _ _ _ _ _ ?_ ?_ ?_ ?_ ?_ ?_ ?_ ?_)<;>(repeat intro hb)<;>first|exact True.intro|refine Lf.mk ?_)))
 refine T_loopW (fun m st=>∃ i : Nat,i ≤ vs.length ∧ m + i = vs.length ∧ st = ⟨[.top,vts vs,.optr 0 0 0,.top,.top,.imm (.bool true),.own 1 0 l.length none] ++ List.replicate 169 .top ++ [vts vs,.imm (.int .i64 vs.length),.imm (.int .i64 i)] ++ List.replicate 28 .top,[plyO 5 p,itO l]⟩)
  vs.length ⟨_, ?_, 0, by omega, rfl, rfl⟩ ?_
 ·((try refine sgl ?_);exact wkI [0,2])
 rintro m st ⟨i, g0, g1, rfl⟩
 by_cases hi : i < vs.length
 ·obtain ⟨h1, h2⟩ := hm i hi
  have c2 := vhas_tc p.vc (gV vs i)
  rw [h1] at c2
  refine sgo ?_
  (have cl1 := c2;have sx1 := h2;have sx2:=sx0;repeat' (first|with_reducible refine T_seq_drawT (id := 28) Γ_ok drawsAny pl4_28 (by kernel_rfl) (fun K hK=>?_)|with_reducible refine T_last_drawT (id := 28) Γ_ok drawsAny pl4_28 (by kernel_rfl) (fun K hK=>?_)|((obtain ⟨sx3,sx4,sx5,sx6,sx7,sx8,sx9⟩:=sx0_7;refine goR9 _ _ _ _ _ _ _ _ ?_ ?_ ?_ ?_ ?_ ?_ ?_ ?_)<;>(repeat intro hb)<;>first|exact True.intro|refine Lf.mk ?_)))
  refine ⟨vs.length - (i + 1), by omega, _, ?_, i + 1, by omega, by omega, rfl⟩
  ((try refine sgl ?_);exact wkI [0,1])
 ·refine sgo ?_
  (repeat' (first|with_reducible refine T_seq_drawT (id := 28) Γ_ok drawsAny pl4_28 (by kernel_rfl) (fun K hK=>?_)|with_reducible refine T_last_drawT (id := 28) Γ_ok drawsAny pl4_28 (by kernel_rfl) (fun K hK=>?_)|((refine goR0 _ _ _ _ _ _ _ _ ?_ ?_ ?_ ?_ ?_ ?_ ?_ ?_)<;>(repeat intro hb)<;>first|exact True.intro|refine Lf.mk ?_)))
theorem hands_ok {b : Bd} (hb' : bdB b = true) {ids : List Int} (h : playP b ids) : (handsR b ids).2.2 = 0 ∧ (handsR b ids).1.length ≤ 5 ∧ (handsR b ids).2.1.length ≤ 5 ∧ (handsR b ids).1.length + (handsR b ids).2.1.length = ids.length := by
 have hg := bdB_iff.1 hb'
 have hlen := ordK_len hg h.1
 have h0 := h.2
 unfold handsR
 rw [if_pos ⟨hb', h.1⟩, if_neg (by omega)]
 unfold divR at h0 ⊢
 rcases divN_cases b.span (ordK b ids) (ordK b ids).length with ⟨h1, _⟩ | ⟨j, h1, h2, h3, _⟩
 ·omega
 ·rw [h2, Int.toNat_natCast]
  unfold divB at h3
  simp only [Bool.and_eq_true, decide_eq_true_eq] at h3
  refine ⟨rfl, ?_, ?_, ?_⟩
  ·simp only [List.length_map, List.length_take]; omega
  ·simp only [List.length_map, List.length_drop]; omega
  ·simp only [List.length_map, List.length_take, List.length_drop]; omega
theorem chordR_ok {b : Bd} {vs : List P6} (h : (B.chordR b vs).2 = 0) : bdB b = true ∧ (B.chordR b vs).1.length = vs.length ∧ (∀ i,i < vs.length → gL (B.chordR b vs).1 i ∈ findL b (gV vs i)) ∧ playP b (B.chordR b vs).1 := by
 unfold B.chordR at h ⊢
 split at h
 ·rename_i h0
  rw [if_pos h0]
  split at h
  ·rename_i h1
   rw [if_pos h1]
   have hL : (B.optR b vs).1 = B.optL b vs := (B.optL_ok (bdB_iff.1 h0) h1).2.1
   rw [hL] at h ⊢
   cases hq : (B.prodL (B.optL b vs)).find? (B.goodC b) with
   | none => rw [hq] at h; cases h
   | some t =>
    simp only []
    have hm := B.prodL_mem.1 (List.mem_of_find?_eq_some hq)
    have hgc := List.find?_some hq
    have hl : (B.optL b vs).length = vs.length := List.length_map _
    unfold B.goodC at hgc
    refine ⟨h0, by omega, fun i hi => ?_, of_decide_eq_true hgc⟩
    have := hm.2 i (by omega) (by omega)
    rw [show (B.optL b vs)[i]'(by omega) = findL b (gV vs i) by simp [B.optL, gV, hi]] at this
    rwa [show gL t i = t[i]'(by omega) by simp [gL, show i < t.length by omega]]
  ·rename_i h1; exact absurd h h1
 ·cases h
theorem chordR_nil {b : Bd} {vs : List P6} (h : (B.chordR b vs).2 ≠ 0) : (B.chordR b vs).1 = [] := by
 unfold B.chordR at h ⊢
 split
 ·rename_i h0
  rw [if_pos h0] at h
  split
  ·rename_i h1
   rw [if_pos h1] at h
   cases hq : (B.prodL (B.optR b vs).1).find? (B.goodC b) with
   | none => rfl
   | some t => rw [hq] at h; simp at h
  ·rfl
 ·rfl
set_option maxRecDepth 100000 in
set_option maxHeartbeats 8000000 in
theorem law_1 (p : Ply) (vs : List P6) (hp : PlOk p) (hf : fewB p vs.length = true) (hv : vs.length ≤ 4) (hok : ∀ i,i < vs.length → vOk (gV vs i) = true) {l : List Int} (hll : l.length = vs.length) (hbv : bdB p.bd = true)
  (hm : ∀ i, i < vs.length → gL l i ∈ findL p.bd (gV vs i)) (hpl : playP p.bd l)
  (hb' : Makes Tryz.prog 13 [plyA 1 p,vts vs] (.tup [.own 0 0 l.length none,.imm (.int .i64 0)]) [itO l]) : Look Tryz.prog 4 [plyA 1 p,vts vs] (.imm (.bool true)) := by
 have hb1 := hp.b
 have hg := bdB_iff.1 hbv
 have c1 := few_tc 1 p vs hp.w (by omega)
 rw [hf] at c1
 have e1 : ((l.length : Int) != (vs.length : Int)) = false := by rw [hll]; simp
 have c2 : Makes Tryz.prog 14 [B.bdA p.bd,its l] (.tup [.own 0 0 (handsR p.bd l).1.length none,.own 1 0 (handsR p.bd l).2.1.length none,.imm (.int .i64 (handsR p.bd l).2.2)]) [itO (handsR p.bd l).1,itO (handsR p.bd l).2.1] := B.hands_tc p.bd l (by omega) (by omega)
 obtain ⟨k0, k1, k2, k3⟩ := hands_ok hbv hpl
 rw [k0] at c2
 generalize (handsR p.bd l).1 = la at *
 generalize (handsR p.bd l).2.1 = lb at *
 have e2 : decide ((la.length : Int) ≤ 5) = true := decide_eq_true (by omega)
 have e3 : decide ((lb.length : Int) ≤ 5) = true := decide_eq_true (by omega)
 have e4 : ((la.length : Int) + (lb.length : Int) == (l.length : Int)) = true := beq_iff_eq.2 (by omega)
 refine Look.mk trivial ?_
 (refine TC_of_T Γ_ok Tryz.func4 rfl (by kernel_rfl) ?_;simp only [Tryz.ntmps4,Tryz.results4,List.length_cons,List.length_nil,Nat.reduceSub,Nat.reduceAdd,List.replicate,List.cons_append,List.nil_append])
 (have cl1 := head_tc;have cl2 := c1;have dm1 := hb';have cm1 := c2;have sx1 := e1;have sx2 := e2;have sx3 := e3;have sx4 := e4;repeat' (first|with_reducible refine T_seq_drawT (id := 28) Γ_ok drawsAny pl4_28 (by kernel_rfl) (fun K hK=>?_)|with_reducible refine T_last_drawT (id := 28) Γ_ok drawsAny pl4_28 (by kernel_rfl) (fun K hK=>?_)|((obtain ⟨sx5,sx6,sx7,sx8,sx9⟩:=sx0_5;refine goR9 _ _ _ _ _ _ _ _ ?_ ?_ ?_ ?_ ?_ ?_ ?_ ?_)<;>(repeat intro hb)<;>first|exact True.intro|refine Lf.mk ?_)))
 refine T_loopW (fun m st=>∃ i : Nat,i ≤ vs.length ∧ m + i = vs.length ∧ st = ⟨[.top,vts vs,.optr 0 0 0,.top,.top,.imm (.bool true),.own 1 0 l.length none] ++ List.replicate 79 .top ++ [vts vs,.imm (.int .i64 vs.length),.imm (.int .i64 i)] ++ List.replicate 118 .top,[plyO 1 p,itO l]⟩)
  vs.length ⟨_, ?_, 0, by omega, rfl, rfl⟩ ?_
 ·((try refine sgl ?_);exact wkI [0,2])
 rintro m st ⟨i, g0, g1, rfl⟩
 by_cases hi : i < vs.length
 ·have c3 : Makes Tryz.prog 15 [B.bdA p.bd,p6A (gV vs i)] (.tup [.own 0 0 (findR p.bd (gV vs i)).1.length none,.imm (.int .i64 (findR p.bd (gV vs i)).2)]) [itO (findR p.bd (gV vs i)).1] := B.find_tc p.bd (gV vs i) (by omega)
  rw [show findR p.bd (gV vs i) = (findL p.bd (gV vs i), 0) from if_pos ⟨hbv, hok i hi⟩] at c3
  have hmi := hm i hi
  have hfl := B.findL_len hg (gV vs i)
  generalize findL p.bd (gV vs i) = fl at c3 hmi hfl
  have c4 := contains_tc (gL l i) fl (by omega)
  rw [List.contains_iff_mem.2 hmi] at c4
  refine sgo ?_
  (have cm1 := c3;have cl1 := c4;repeat' (first|with_reducible refine T_seq_drawT (id := 28) Γ_ok drawsAny pl4_28 (by kernel_rfl) (fun K hK=>?_)|with_reducible refine T_last_drawT (id := 28) Γ_ok drawsAny pl4_28 (by kernel_rfl) (fun K hK=>?_)|((refine goR0 _ _ _ _ _ _ _ _ ?_ ?_ ?_ ?_ ?_ ?_ ?_ ?_)<;>(repeat intro hb)<;>first|exact True.intro|refine Lf.mk ?_)))
  refine ⟨vs.length - (i + 1), by omega, _, ?_, i + 1, by omega, by omega, rfl⟩
  ((try refine sgl ?_);exact wkI [0,1])
 ·refine sgo ?_
  (repeat' (first|with_reducible refine T_seq_drawT (id := 28) Γ_ok drawsAny pl4_28 (by kernel_rfl) (fun K hK=>?_)|with_reducible refine T_last_drawT (id := 28) Γ_ok drawsAny pl4_28 (by kernel_rfl) (fun K hK=>?_)|((refine goR0 _ _ _ _ _ _ _ _ ?_ ?_ ?_ ?_ ?_ ?_ ?_ ?_)<;>(repeat intro hb)<;>first|exact True.intro|refine Lf.mk ?_)))
end Go.Proofs.YtonmienclploaaaGreatDoor
