/-
 Parts joined: L1 L2.
-/
import Derived.Test.YtonmienclploaaaGreatDoorQGo
import Derived.Test.YtonmienclploaaaGreatDoorQZ1
import Derived.Test.YtonmienclploaaaGreatDoorQZ3
import Derived.Test.YtonmienclploaaaGreatDoorQZ4
set_option linter.unusedSimpArgs false
set_option linter.unusedVariables false
namespace Go.Proofs.YtonmienclploaaaGreatDoor
open Go.Ab
def fewB (p : Ply) (n : Nat) : Bool := decide (p.bd.ks.length ≤ 60 ∧ p.og.ps.length ≤ 60 ∧ p.nk.fr.length ≤ 20 ∧ p.hn.vl.length ≤ 4 ∧ n ≤ 4)
def lsE (vs : List P6) (_i _j : Nat) : AV := vts vs
@[go_sem] theorem lsE_us (vs : List P6) (i j : Nat) : lsE vs i j = .view vs.length 6 (vtE vs) := rfl
@[simp] theorem lsE_free (vs : List P6) (i j : Nat) : Free (lsE vs i j) := by simp [lsE, Free]
set_option maxRecDepth 100000 in
set_option maxHeartbeats 4000000 in
theorem few_tc (k : Int) (p : Ply) (vs : List P6) (hp : PlW p) (hv : vs.length ≤ 9223372036854775807) : Look Tryz.prog 12 [plyA k p,.view 1 1 (lsE vs)] (.imm (.bool (fewB p vs.length))) := by
 have hb1 := hp.b
 have hb2 := hp.o
 have hb3 := hp.n2
 have hb4 := hp.h
 refine Look.mk trivial ?_
 unfold fewB
 by_cases h : p.bd.ks.length ≤ 60 ∧ p.og.ps.length ≤ 60 ∧ p.nk.fr.length ≤ 20 ∧ p.hn.vl.length ≤ 4
 ·have e1 : decide ((p.bd.ks.length : Int) > 60) = false := decide_eq_false (by omega)
  have e2 : decide ((p.og.ps.length : Int) > 60) = false := decide_eq_false (by omega)
  have e3 : decide ((p.nk.fr.length : Int) > 20) = false := decide_eq_false (by omega)
  have e4 : decide ((p.hn.vl.length : Int) > 4) = false := decide_eq_false (by omega)
  (refine TC_of_T Γ_ok Tryz.func12 rfl (by kernel_rfl) ?_;simp only [Tryz.ntmps12,Tryz.results12,List.length_cons,List.length_nil,Nat.reduceSub,Nat.reduceAdd,List.replicate,List.cons_append,List.nil_append])
  (have sx1 := e1;have sx2 := e2;have sx3 := e3;have sx4 := e4;((obtain ⟨sx5,sx6,sx7,sx8,sx9⟩:=sx0_5;refine goR9 _ _ _ _ _ _ _ _ ?_ ?_ ?_ ?_ ?_ ?_ ?_ ?_)<;>(repeat intro hb)<;>first|exact True.intro|refine Lf.mk ?_))
  refine T_loopW (fun m st=>∃ i : Nat,i ≤ 1 ∧ m + i = 1 ∧ (1 ≤ i → vs.length ≤ 4) ∧ st = ⟨[.top,.view 1 1 (lsE vs),.top,.top,.top,.imm (.int .i64 i)] ++ List.replicate 43 .top,[]⟩) 1 ⟨_,?_,0,by omega,rfl,fun h=>by omega,rfl⟩ ?_
  ·((try refine sgl ?_);exact wkI [])
  rintro m st ⟨i, g0, g1, g2, rfl⟩
  by_cases hi : i < 1
  ·obtain rfl : i = 0 := by omega
   refine sgo ?_
   (((refine goR0 _ _ _ _ _ _ _ _ ?_ ?_ ?_ ?_ ?_ ?_ ?_ ?_)<;>(repeat intro hb)<;>first|exact True.intro|refine Lf.mk ?_))
   ·rw [decide_eq_false (by omega)]
   ·refine ⟨0, by omega, _, ?_, 1, by omega, by omega, fun _ => by omega, rfl⟩
    ((try refine sgl ?_);exact wkI [])
  ·obtain rfl : i = 1 := by omega
   have := g2 (Nat.le_refl _)
   rw [decide_eq_true (by omega)]
   refine sgo ?_
   (((refine goR0 _ _ _ _ _ _ _ _ ?_ ?_ ?_ ?_ ?_ ?_ ?_ ?_)<;>(repeat intro hb)<;>first|exact True.intro|refine Lf.mk ?_))
 ·rw [decide_eq_false (by omega)]
  (refine TC_of_T Γ_ok Tryz.func12 rfl (by kernel_rfl) ?_;simp only [Tryz.ntmps12,Tryz.results12,List.length_cons,List.length_nil,Nat.reduceSub,Nat.reduceAdd,List.replicate,List.cons_append,List.nil_append])
  (((refine goR0 _ _ _ _ _ _ _ _ ?_ ?_ ?_ ?_ ?_ ?_ ?_ ?_)<;>(repeat intro hb)<;>first|exact True.intro|refine Lf.mk ?_))
set_option maxRecDepth 100000 in
set_option maxHeartbeats 4000000 in
theorem law_no (k : Int) (p : Ply) (vs : List P6) (hp : PlW p) (hv : vs.length ≤ 9223372036854775807) (hf : fewB p vs.length = false) : Look Tryz.prog 4 [plyA k p,vts vs] (.imm (.bool true)) := by
 have c1 := few_tc k p vs hp hv
 rw [hf] at c1
 refine Look.mk trivial ?_
 (refine TC_of_T Γ_ok Tryz.func4 rfl (by kernel_rfl) ?_;simp only [Tryz.ntmps4,Tryz.results4,List.length_cons,List.length_nil,Nat.reduceSub,Nat.reduceAdd,List.replicate,List.cons_append,List.nil_append])
 (have cl1 := head_tc;have cl2 := c1;repeat' (first|with_reducible refine T_seq_drawT (id := 28) Γ_ok drawsAny pl4_28 (by kernel_rfl) (fun K hK=>?_)|with_reducible refine T_last_drawT (id := 28) Γ_ok drawsAny pl4_28 (by kernel_rfl) (fun K hK=>?_)|((refine goR0 _ _ _ _ _ _ _ _ ?_ ?_ ?_ ?_ ?_ ?_ ?_ ?_)<;>(repeat intro hb)<;>first|exact True.intro|refine Lf.mk ?_)))
set_option maxRecDepth 100000 in
set_option maxHeartbeats 4000000 in
theorem law_err (k : Int) (p : Ply) (vs : List P6) (hp : PlOk p) (hf : fewB p vs.length = true) (hv : vs.length ≤ 4) {e : Int} (he : e ≠ 0) (hb' : Makes Tryz.prog 13 [plyA k p,vts vs] (.tup [.own 0 0 0 none,.imm (.int .i64 e)]) [itO []]) : Look Tryz.prog 4 [plyA k p,vts vs] (.imm (.bool true)) := by
 have c1 := few_tc k p vs hp.w (by omega)
 rw [hf] at c1
 have e1 : (e != 0) = true := by simpa using he
 refine Look.mk trivial ?_
 (refine TC_of_T Γ_ok Tryz.func4 rfl (by kernel_rfl) ?_;simp only [Tryz.ntmps4,Tryz.results4,List.length_cons,List.length_nil,Nat.reduceSub,Nat.reduceAdd,List.replicate,List.cons_append,List.nil_append])
 (have cl1 := head_tc;have cl2 := c1;have cm1 := hb';have sx1 := e1;have sx2:=sx0;repeat' (first|with_reducible refine T_seq_drawT (id := 28) Γ_ok drawsAny pl4_28 (by kernel_rfl) (fun K hK=>?_)|with_reducible refine T_last_drawT (id := 28) Γ_ok drawsAny pl4_28 (by kernel_rfl) (fun K hK=>?_)|((obtain ⟨sx3,sx4,sx5,sx6,sx7,sx8,sx9⟩:=sx0_7;refine goR9 _ _ _ _ _ _ _ _ ?_ ?_ ?_ ?_ ?_ ?_ ?_ ?_)<;>(repeat intro hb)<;>first|exact True.intro|refine Lf.mk ?_)))
end Go.Proofs.YtonmienclploaaaGreatDoor
namespace Go.Proofs.YtonmienclploaaaGreatDoor
open Go.Ab
theorem dfsP_spec {pl : List Int → Bool} : ∀ {L : List (List Int)} {c q : List Int},dfsP pl L c = some q → ∃ t,q = c ++ t ∧ t.length = L.length ∧ (∀ i,i < L.length → gL t i ∈ gl L i) ∧ pl q = true ∧ (c.Nodup → q.Nodup)
 | [], c, q, h => by
  rw [dfsP] at h
  split at h
  ·rename_i h1
   cases h
   exact ⟨[], by simp, rfl, fun i hi => by simp at hi, h1, id⟩
  ·cases h
 | l :: r, c, q, h => by
  rw [dfsP] at h
  obtain ⟨id, hid, h1⟩ := List.exists_of_findSome?_eq_some h
  split at h1
  ·cases h1
  ·rename_i hm
   obtain ⟨t, e, ht, hg, hp, hn⟩ := dfsP_spec h1
   refine ⟨id :: t, by rw [e]; simp, by simp [ht], fun i hi => ?_, hp, fun hc => hn ?_⟩
   ·cases i with
    | zero => exact hid
    | succ i => exact hg i (by simpa using hi)
   ·rw [List.nodup_append]
    exact ⟨hc, by simp, fun a ha d hd e => by rw [List.mem_singleton] at hd; rw [e, hd] at ha; exact hm ha⟩
theorem ofdL_mem {o : Og} {v : P6} {x : Int} : ∀ {k : Nat},x ∈ ofdL o v k → ∃ i : Nat,i < o.ps.length ∧ (gP o.ps i).id = x := fun {k} h => by
 unfold ofdL at h
 obtain ⟨p, hp, rfl⟩ := List.mem_map.1 h
 obtain ⟨i, hi, e⟩ := List.getElem_of_mem (List.mem_of_mem_take (List.mem_filter.1 hp).1)
 exact ⟨i, hi, by rw [← e]; simp [gP, hi]⟩
theorem pipR_yes {o : Og} {x : Int} {i : Nat} (hi : i < o.ps.length) (h : (gP o.ps i).id = x) : (pipR o.ps x).2 = true := by
 unfold pipR
 have q := fstF_spec (f := fun i => (gP o.ps i).id == x) (d := o.ps.length) (i := 0)
 by_cases h1 : ixP o.ps x < o.ps.length
 ·rw [if_pos h1]
 ·have := q.2.2.1 i (by omega) (by unfold ixP at h1; omega)
  rw [h] at this
  simp at this
theorem ochR_ok {o : Og} {vs : List P6} (h : (ochR o vs 0).2 = 0) : ogB o = true ∧ (ochR o vs 0).1.length = vs.length ∧ (ochR o vs 0).1.Nodup ∧ (∀ i,i < (ochR o vs 0).1.length → (pipR o.ps (gL (ochR o vs 0).1 i)).2 = true) ∧ plB o (ochR o vs 0).1 vs 0 = true := by
 unfold ochR at h ⊢
 split at h
 ·rename_i h0
  rw [if_pos h0]
  split at h
  ·cases h
  ·rename_i h1
   rw [if_neg h1]
   split at h
   ·cases h
   ·rename_i h2
    rw [if_neg h2]
    cases hs : oSr (fun c => plB o c vs 0) (olL o vs) [] with
    | none => rw [hs] at h; cases h
    | some q =>
     simp only []
     unfold oSr at hs
     simp only [List.length_nil, List.drop_zero] at hs
     obtain ⟨t, e, ht, hg, hp, hn⟩ := dfsP_spec hs
     simp only [List.nil_append] at e
     subst e
     have hL : (olL o vs).length = vs.length := List.length_map _
     refine ⟨h0.1, by omega, hn List.nodup_nil, fun i hi => ?_, hp⟩
     have := hg i (by omega)
     rw [show gl (olL o vs) i = ofdA o (gV vs i) by simp [gl, olL, gV, show i < vs.length by omega]] at this
     obtain ⟨j, hj, hj2⟩ := ofdL_mem this
     exact pipR_yes hj hj2
 ·cases h
theorem ochR_nil {o : Og} {vs : List P6} (h : (ochR o vs 0).2 ≠ 0) : (ochR o vs 0).1 = [] := by
 unfold ochR at h ⊢
 split
 ·rename_i h0
  rw [if_pos h0] at h
  split
  ·rfl
  ·rename_i h1
   rw [if_neg h1] at h
   split
   ·rfl
   ·rename_i h2
    rw [if_neg h2] at h
    cases hs : oSr (fun c => plB o c vs 0) (olL o vs) [] with
    | none => rfl
    | some q => rw [hs] at h; simp at h
 ·rfl
set_option maxRecDepth 100000 in
set_option maxHeartbeats 4000000 in
theorem law_2 (p : Ply) (vs : List P6) (hp : PlOk p) (hf : fewB p vs.length = true) (hv : vs.length ≤ 4) (hok : ∀ i,i < vs.length → vOk (gV vs i) = true) {l : List Int} (hll : l.length = vs.length) (ho : ogB p.og = true) (hd : l.Nodup) (hfd : ∀ i,i < l.length → (pipR p.og.ps (gL l i)).2 = true) (hpl : plB p.og l vs 0 = true)
  (hb' : Makes Tryz.prog 13 [plyA 2 p,vts vs] (.tup [.own 0 0 l.length none,.imm (.int .i64 0)]) [itO l]) : Look Tryz.prog 4 [plyA 2 p,vts vs] (.imm (.bool true)) := by
 have c1 := few_tc 2 p vs hp.w (by omega)
 rw [hf] at c1
 have c2 := pipes15_tc p.og l vs ho (by omega) hll hok hd hfd hpl
 have e1 : ((l.length : Int) != (vs.length : Int)) = false := by rw [hll]; simp
 refine Look.mk trivial ?_
 (refine TC_of_T Γ_ok Tryz.func4 rfl (by kernel_rfl) ?_;simp only [Tryz.ntmps4,Tryz.results4,List.length_cons,List.length_nil,Nat.reduceSub,Nat.reduceAdd,List.replicate,List.cons_append,List.nil_append])
 (have cl1 := head_tc;have cl2 := c1;have cm1 := hb';have cl3 := c2;have sx1 := e1;have sx2:=sx0;repeat' (first|with_reducible refine T_seq_drawT (id := 28) Γ_ok drawsAny pl4_28 (by kernel_rfl) (fun K hK=>?_)|with_reducible refine T_last_drawT (id := 28) Γ_ok drawsAny pl4_28 (by kernel_rfl) (fun K hK=>?_)|((obtain ⟨sx3,sx4,sx5,sx6,sx7,sx8,sx9⟩:=sx0_7;refine goR9 _ _ _ _ _ _ _ _ ?_ ?_ ?_ ?_ ?_ ?_ ?_ ?_)<;>(repeat intro hb)<;>first|exact True.intro|refine Lf.mk ?_)))
set_option maxRecDepth 100000 in
set_option maxHeartbeats 4000000 in
theorem law_3 (p : Ply) (vs : List P6) (hp : PlOk p) (hf : fewB p vs.length = true) (hv : vs.length ≤ 4) (hok : ∀ i,i < vs.length → vOk (gV vs i) = true) {l : List Ft} (hll : l.length = vs.length) (hn : nkB p.nk = true) (hm : ∀ i,i < vs.length → gF l i ∈ fdA p.nk (gV vs i)) (hh : hldB p.nk.span l = true)
  (hb' : Makes Tryz.prog 13 [plyA 3 p,vts vs] (.tup [.own 0 0 (l.map nbI).length none,.imm (.int .i64 0)]) [itO (l.map nbI)]) : Look Tryz.prog 4 [plyA 3 p,vts vs] (.imm (.bool true)) := by
 have c1 := few_tc 3 p vs hp.w (by omega)
 rw [hf] at c1
 have c2 := strings15_tc p.nk l vs hn (by omega) hll hok hm hh
 have e1 : (((l.map nbI).length : Int) != (vs.length : Int)) = false := by rw [List.length_map, hll]; simp
 generalize l.map nbI = ml at *
 refine Look.mk trivial ?_
 (refine TC_of_T Γ_ok Tryz.func4 rfl (by kernel_rfl) ?_;simp only [Tryz.ntmps4,Tryz.results4,List.length_cons,List.length_nil,Nat.reduceSub,Nat.reduceAdd,List.replicate,List.cons_append,List.nil_append])
 (have cl1 := head_tc;have cl2 := c1;have cm1 := hb';have cl3 := c2;have sx1 := e1;have sx2:=sx0;repeat' (first|with_reducible refine T_seq_drawT (id := 28) Γ_ok drawsAny pl4_28 (by kernel_rfl) (fun K hK=>?_)|with_reducible refine T_last_drawT (id := 28) Γ_ok drawsAny pl4_28 (by kernel_rfl) (fun K hK=>?_)|((obtain ⟨sx3,sx4,sx5,sx6,sx7,sx8,sx9⟩:=sx0_7;refine goR9 _ _ _ _ _ _ _ _ ?_ ?_ ?_ ?_ ?_ ?_ ?_ ?_)<;>(repeat intro hb)<;>first|exact True.intro|refine Lf.mk ?_)))
end Go.Proofs.YtonmienclploaaaGreatDoor
