/-
 The law of horns.
-/
import Derived.Test.YtonmienclploaaaGreatDoorQGo
import Derived.Test.YtonmienclploaaaGreatDoorQLA
set_option linter.unusedSimpArgs false
set_option linter.unusedVariables false
namespace Go.Proofs.YtonmienclploaaaGreatDoor
open Go.Ab
set_option maxRecDepth 100000 in
set_option maxHeartbeats 8000000 in
theorem law_4 (p : Ply) (vs : List P6) (hp : PlOk p) (hf : fewB p vs.length = true) (hv : vs.length ≤ 4) (hok : ∀ i,i < vs.length → vOk (gV vs i) = true) {l : List Int} (hll : l.length = vs.length) (hh : hnB p.hn = true)
  (hm : ∀ i,i < vs.length → ∃ b : Bw,gL l i = 100 * b.h + b.v ∧ (1 ≤ b.h ∧ b.h ≤ p.hn.most) ∧ (0 ≤ b.v ∧ b.v < ((2 ^ p.hn.vl.length : Nat) : Int)) ∧ okBw p.hn (gV vs i) b = true)
  (hb' : Makes Tryz.prog 13 [plyA 4 p,vts vs] (.tup [.own 0 0 l.length none,.imm (.int .i64 0)]) [itO l]) : Look Tryz.prog 4 [plyA 4 p,vts vs] (.imm (.bool true)) := by
 have hs := hnS_iff.1 (hnB_s hh)
 have hpw := pow_le16 hs.2.1
 have c1 := few_tc 4 p vs hp.w (by omega)
 rw [hf] at c1
 have e1 : ((l.length : Int) != (vs.length : Int)) = false := by rw [hll]; simp
 refine Look.mk trivial ?_
 (refine TC_of_T Γ_ok Tryz.func4 rfl (by kernel_rfl) ?_;simp only [Tryz.ntmps4,Tryz.results4,List.length_cons,List.length_nil,Nat.reduceSub,Nat.reduceAdd,List.replicate,List.cons_append,List.nil_append])
 (have cl1 := head_tc;have cl2 := c1;have cm1 := hb';have sx1 := e1;have sx2:=sx0;repeat' (first|with_reducible refine T_seq_drawT (id := 28) Γ_ok drawsAny pl4_28 (by kernel_rfl) (fun K hK=>?_)|with_reducible refine T_last_drawT (id := 28) Γ_ok drawsAny pl4_28 (by kernel_rfl) (fun K hK=>?_)|((obtain ⟨sx3,sx4,sx5,sx6,sx7,sx8,sx9⟩:=sx0_7;refine goR9 _ _ _ _ _ _ _ _ ?_ ?_ ?_ ?_ ?_ ?_ ?_ ?_)<;>(repeat intro hb)<;>first|exact True.intro|refine Lf.mk ?_)))
 refine T_loopW (fun m st=>∃ i : Nat,i ≤ vs.length ∧ m + i = vs.length ∧ st = ⟨[.top,vts vs,.optr 0 0 0,.top,.top,.imm (.bool true),.own 1 0 l.length none] ++ List.replicate 129 .top ++ [vts vs,.imm (.int .i64 vs.length),.imm (.int .i64 i)] ++ List.replicate 68 .top,[plyO 4 p,itO l]⟩)
  vs.length ⟨_, ?_, 0, by omega, rfl, rfl⟩ ?_
 ·((try refine sgl ?_);exact wkI [0,2])
 rintro m st ⟨i, g0, g1, rfl⟩
 by_cases hi : i < vs.length
 ·obtain ⟨b, h1, h2, h3, h4⟩ := hm i hi
  have c2 := bSound_tc p.hn b hh h2 h3
  have hw := wrapI (x := b.h) (by omega) (by omega)
  have hq1 : (gL l i).tdiv 100 = b.h := by rw [h1, Int.tdiv_eq_ediv_of_nonneg (by omega)]; omega
  have hq2 : (gL l i).tmod 100 = b.v := by rw [h1, Int.tmod_eq_emod_of_nonneg (by omega)]; omega
  unfold okBw at h4
  simp only [Bool.and_eq_true, decide_eq_true_eq] at h4
  have hpk : pOk (sndB p.hn b) = true := by
   have h5 := h4.2
   unfold nearI at h5
   split at h5
   ·rename_i h6; exact h6.2.1
   ·cases h5
  have hbs : bsdR p.hn b = (sndB p.hn b, 0) := if_pos hpk
  have c3 := near15_tc (sndB p.hn b) (gV vs i) p.hn.tol (hok i hi)
  rw [h4.1, h4.2] at c3
  rw [hbs] at c2
  generalize sndB p.hn b = x at c2 c3
  refine sgo ?_
  (have cl1 := c2;have cl2 := c3;have sx1 := hq1;have sx2 := hq2;have sx3 := hw;have sx4:=sx0;repeat' (first|with_reducible refine T_seq_drawT (id := 28) Γ_ok drawsAny pl4_28 (by kernel_rfl) (fun K hK=>?_)|with_reducible refine T_last_drawT (id := 28) Γ_ok drawsAny pl4_28 (by kernel_rfl) (fun K hK=>?_)|((obtain ⟨sx5,sx6,sx7,sx8,sx9⟩:=sx0_5;refine goR9 _ _ _ _ _ _ _ _ ?_ ?_ ?_ ?_ ?_ ?_ ?_ ?_)<;>(repeat intro hb)<;>first|exact True.intro|refine Lf.mk ?_)))
  refine ⟨vs.length - (i + 1), by omega, _, ?_, i + 1, by omega, by omega, rfl⟩
  ((try refine sgl ?_);exact wkI [0,1])
 ·refine sgo ?_
  (repeat' (first|with_reducible refine T_seq_drawT (id := 28) Γ_ok drawsAny pl4_28 (by kernel_rfl) (fun K hK=>?_)|with_reducible refine T_last_drawT (id := 28) Γ_ok drawsAny pl4_28 (by kernel_rfl) (fun K hK=>?_)|((refine goR0 _ _ _ _ _ _ _ _ ?_ ?_ ?_ ?_ ?_ ?_ ?_ ?_)<;>(repeat intro hb)<;>first|exact True.intro|refine Lf.mk ?_)))
end Go.Proofs.YtonmienclploaaaGreatDoor
