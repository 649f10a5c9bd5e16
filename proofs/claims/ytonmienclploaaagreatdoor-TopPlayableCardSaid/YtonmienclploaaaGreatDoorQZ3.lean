/-
 Parts joined: O4 F9.
-/
import Derived.Test.YtonmienclploaaaGreatDoorQGo
import Derived.Test.YtonmienclploaaaGreatDoorQZ2
import Derived.Test.YtonmienclploaaaGreatDoorQW3
set_option linter.unusedSimpArgs false
set_option linter.unusedVariables false
namespace Go.Proofs.YtonmienclploaaaGreatDoor
open Go.Ab
def dmI (l : List Pp) (id : Int) : Int := if (pipR l id).2 = true then (pipR l id).1.wind else 0
def demS (l : List Pp) (ids : List Int) : Int := ids.foldr (fun id s => dmI l id + s) 0
theorem demS_snoc (l : List Pp) (ids : List Int) (x : Int) : demS l (ids ++ [x]) = demS l ids + dmI l x := by
 unfold demS
 rw [List.foldr_append]
 induction ids with
 | nil => simp
 | cons a ids ih => simp only [List.foldr_cons, List.foldr_nil] at ih ⊢; rw [ih]; omega
theorem demK_S (l : List Pp) (ids : List Int) : ∀ k, k ≤ ids.length → demK l ids k = demS l (ids.take k)
 | 0, _ => by simp [demK, demS]
 | k + 1, h => by
  rw [demK, demK_S l ids k (by omega), take_gL (by omega), demS_snoc]
  rfl
theorem demS_perm {l : List Pp} {a b : List Int} (h : a.Perm b) : demS l a = demS l b := by
 induction h with
 | nil => rfl
 | cons x _ ih => unfold demS at *; simp only [List.foldr_cons]; rw [ih]
 | swap x y l => unfold demS; simp only [List.foldr_cons]; omega
 | trans _ _ h1 h2 => exact h1.trans h2
theorem lac_perm {o : Og} {a b : List Int} (h : a.Perm b) : lacR o a = lacR o b := by
 unfold lacR
 rw [demK_S _ a _ (Nat.le_refl _), demK_S _ b _ (Nat.le_refl _), List.take_length, List.take_length, demS_perm h]
theorem id_lt {o : Og} (ho : ogB o = true) : ∀ {i j : Nat}, i < j → j < o.ps.length → (gP o.ps i).id < (gP o.ps j).id
 | i, 0, h, _ => by omega
 | i, j + 1, h, hj => by
  have h1 := (ppB_iff.1 ((ogB_iff.1 ho).1 (j + 1) hj)).1
  have e : idP o.ps (j + 1) = (gP o.ps j).id := rfl
  rw [e] at h1
  by_cases hi : i = j
  ·rw [hi]; exact h1
  ·have := id_lt ho (i := i) (j := j) (by omega) (by omega)
   omega
theorem pip_ix {o : Og} {id : Int} (h : (pipR o.ps id).2 = true) : ixP o.ps id < o.ps.length ∧ (pipR o.ps id).1 = gP o.ps (ixP o.ps id) ∧ (gP o.ps (ixP o.ps id)).id = id := by
 unfold pipR at h ⊢
 split at h
 ·rename_i h1
  have q := fstF_spec (f := fun i => (gP o.ps i).id == id) (d := o.ps.length) (i := 0)
  have := q.2.2.2 (by unfold ixP at h1; omega)
  rw [if_pos h1]
  exact ⟨h1, rfl, beq_iff_eq.1 this⟩
 ·cases h
set_option maxRecDepth 100000 in
set_option maxHeartbeats 4000000 in
theorem near15_tc (p v : P6) (t : Int) (hv : vOk v = true) : Look Tryz.prog 19 [p6A p,p6A v,.imm (.int .i64 t)] (.imm (.bool (decide ((nearI (ofR v).1 p t).2 = 0) && decide ((nearI (ofR v).1 p t).1 = 1)))) := by
 have c1 := of_tc v
 have ho : (ofR v).2 = 0 := by unfold ofR; rw [if_pos hv]
 rw [ho] at c1
 have c2 := near_tc (ofR v).1 p t
 generalize (ofR v).1 = q at c1 c2 ⊢
 generalize (nearI q p t).1 = a at c2 ⊢
 generalize (nearI q p t).2 = e at c2 ⊢
 refine Look.mk trivial ?_
 (refine TC_of_T Γ_ok Tryz.func19 rfl (by kernel_rfl) ?_;simp only [Tryz.ntmps19,Tryz.results19,List.length_cons,List.length_nil,Nat.reduceSub,Nat.reduceAdd,List.replicate,List.cons_append,List.nil_append])
 (have cl1 := c1;have cl2 := c2;((refine goR0 _ _ _ _ _ _ _ _ ?_ ?_ ?_ ?_ ?_ ?_ ?_ ?_)<;>(repeat intro hb)<;>first|exact True.intro|refine Lf.mk ?_))
 all_goals (congr 2; try grind)
set_option maxRecDepth 100000 in
set_option maxHeartbeats 8000000 in
theorem pipes15_tc (o : Og) (ids : List Int) (vs : List P6) (ho : ogB o = true) (hl : ids.length ≤ 12) (hlv : ids.length = vs.length) (hv : ∀ i,i < vs.length → vOk (gV vs i) = true) (hd : ids.Nodup) (hf : ∀ i,i < ids.length → (pipR o.ps (gL ids i)).2 = true) (hp : plB o ids vs 0 = true) :
  Look Tryz.prog 16 [ogA o, its ids, vts vs] (.imm (.bool true)) := by
 have hps := (ogB_iff.1 ho).2.1
 have hto := (ogB_iff.1 ho).2.2.2
 have hpm := srt_perm hl
 have hSl : (srtI ids).length = ids.length := hpm.length_eq
 have hris := srt_ris hl hd
 have hlac := lac_perm (o := o) hpm
 have hmS : ∀ i, i < ids.length → (srtI ids).contains (gL ids i) = true := fun i hi => by
  rw [List.contains_iff_mem, hpm.mem_iff]
  exact gL_mem hi
 have hfS : ∀ i, i < (srtI ids).length → (pipR o.ps (gL (srtI ids) i)).2 = true := fun i hi => by
  have h1 := hpm.mem_iff.1 (gL_mem hi)
  obtain ⟨k, hk, e⟩ := List.getElem_of_mem h1
  have := hf k hk
  rwa [show gL ids k = gL (srtI ids) i by rw [← e]; simp [gL, hk]] at this
 have hpk : ∀ k, k < ids.length → (plK o ids vs 0 k).1 = 1 ∧ (plK o ids vs 0 k).2 = 0 := fun k hk => by
  unfold plB at hp
  rw [decide_eq_true_eq] at hp
  have q := (fstF_spec (f := plBad o ids vs 0) (d := ids.length) (i := 0)).2.2.1 k (by omega) (by omega)
  unfold plBad at q
  simp only [Bool.not_eq_false', Bool.and_eq_true, decide_eq_true_eq] at q
  exact ⟨q.2, q.1⟩
 have c1 := clone_tc ids (by omega)
 have c2 := sortL_tu ids hl
 have c3 : ∀ i,i < ids.length → Look Tryz.prog 42 [ogA o,.view ids.length 1 (itE (srtI ids)),.imm (.int .i64 (gL ids i)),.imm (.int .i64 0)] _ := fun i hi => by
  have := oshift_tc o (srtI ids) (gL ids i) ho (by omega) hris hfS (hmS i hi)
  unfold its at this
  rw [hSl, hlac] at this
  exact this
 generalize srtI ids = S at *
 refine Look.mk trivial ?_
 (refine TC_of_T Γ_ok Tryz.func16 rfl (by kernel_rfl) ?_;simp only [Tryz.ntmps16,Tryz.results16,List.length_cons,List.length_nil,Nat.reduceSub,Nat.reduceAdd,List.replicate,List.cons_append,List.nil_append])
 (have cm1 := c1;have ct1 := TurnsAt.mk [1] (c2);((refine goR0 _ _ _ _ _ _ _ _ ?_ ?_ ?_ ?_ ?_ ?_ ?_ ?_)<;>(repeat intro hb)<;>first|exact True.intro|refine Lf.mk ?_))
 refine T_loopW (fun m st=>∃ i : Nat,i ≤ ids.length ∧ m + i = ids.length ∧ st = ⟨[.top,its ids,vts vs,.optr 0 0 0,.top,.top,.top,.own 1 0 ids.length none,.imm (.bool true)] ++ List.replicate 17 .top ++ [its ids,.imm (.int .i64 ids.length),.imm (.int .i64 i)] ++ List.replicate 82 .top,[opO o,.arr 3 1 ids.length (itE S)]⟩)
  ids.length ⟨_, ?_, 0, by omega, rfl, rfl⟩ ?_
 ·((try refine sgl ?_);exact wkI [0,1])
 rintro m st ⟨i, g0, g1, rfl⟩
 by_cases hi : i < ids.length
 ·have c4 := c3 i hi
  have c5 := of_tc (gV vs i)
  have hov : (ofR (gV vs i)).2 = 0 := by unfold ofR; rw [if_pos (hv i (by omega))]
  rw [hov] at c5
  have hqk : pOk (ofR (gV vs i)).1 = true := by unfold ofR;rw [if_pos (hv i (by omega))];exact x12_ok (hv i (by omega))
  obtain ⟨x1, x2, x3⟩ := pip_ix (hf i hi)
  have hpl := hpk i hi
  unfold plK at hpl
  have hsb := sh_bd (w := 0) (pip_ok ho (gL ids i)) (dem_nn ho ids (by omega)) (by omega)
  generalize hix : ixP o.ps (gL ids i) = ix at x1 x2 x3
  rw [x2] at hpl c4 hsb
  generalize hsh : shR (gP o.ps ix) (lacR o ids) 0 = sh at hpl c4 hsb
  generalize (ofR (gV vs i)).1 = q at c5 hpl hqk
  have hne : ∀ k, k < o.ps.length → k ≠ ix → ((gP o.ps k).id == gL ids i) = false := fun k hk hkx => by
   rw [← x3]
   apply beq_eq_false_iff_ne.2
   rcases Nat.lt_or_gt_of_ne hkx with h | h
   ·have := id_lt ho h x1; omega
   ·have := id_lt ho h hk; omega
  generalize hid : gL ids i = id at *
  refine sgo ?_
  (have cl1 := c4;have cl2 := c5;have sx1 := hid;have sx2:=sx0;((obtain ⟨sx3,sx4,sx5,sx6,sx7,sx8,sx9⟩:=sx0_7;refine goR9 _ _ _ _ _ _ _ _ ?_ ?_ ?_ ?_ ?_ ?_ ?_ ?_)<;>(repeat intro hb)<;>first|exact True.intro|refine Lf.mk ?_))
  refine T_loopW (fun m2 st=>∃ k : Nat,k ≤ o.ps.length ∧ m2 + k = o.ps.length ∧ st = ⟨[.top,its ids,vts vs,.optr 0 0 0,.top,.top,.top,.own 1 0 ids.length none,.imm (.bool true),.top,.imm (.int .i64 id),.imm (.int .i64 sh),.imm (.int .i64 0),.optr 2 0 0,.imm (.int .i64 0),.imm (.bool (decide (ix < k)))] ++ List.replicate 10 .top ++ [its ids,.imm (.int .i64 ids.length),.imm (.int .i64 i)] ++ List.replicate 20 .top ++ [pps o.ps,.imm (.int .i64 o.ps.length),.imm (.int .i64 k)] ++ List.replicate 59 .top,[opO o,.arr 3 1 ids.length (itE S),.box 23 (p6L q)]⟩)
   o.ps.length ⟨_, ?_, 0, by omega, rfl, rfl⟩ ?_
  ·((try refine sgl ?_);exact wkI [0,1,2])
  rintro m2 st ⟨k, f0, f1, rfl⟩
  by_cases hk : k < o.ps.length
  ·by_cases hkx : k = ix
   ·have c6 := gap_tc (gP o.ps k).p q
    have hgb := gap_bd (gP o.ps k).p q
    have hg0 : (gapR (gP o.ps k).p q).2 = 0 := by unfold gapR; rw [if_pos ⟨(pp_ok ho hk).1, hqk⟩]
    rw [hg0] at c6
    rw [← hkx] at hpl x3 hsh
    generalize (gapR (gP o.ps k).p q).1.1 = ga at c6 hpl hgb
    generalize (gapR (gP o.ps k).p q).1.2 = gb at c6 hpl hgb
    have c7 := within_sz (ga + sh) (gb + sh) ((0 - o.tol) * 10000) (o.tol * 10000)
    rw [show (0 - o.tol) * 10000 = 0 - o.tol * 10000 by omega] at c7
    rw [hpl.1, hpl.2, show 0 - o.tol * 10000 = (0 - o.tol) * 10000 by omega] at c7
    have e1 : ((gP o.ps k).id == id) = true := beq_iff_eq.2 x3
    have e2 : ((gP o.ps k).id != id) = false := by simp [x3]
    refine sgo ?_
    (have cl1 := c6;have cl2 := c7;have sx1 := e1;have sx2 := e2;((obtain ⟨sx3,sx4,sx5,sx6,sx7,sx8,sx9⟩:=sx0_7;refine goR9 _ _ _ _ _ _ _ _ ?_ ?_ ?_ ?_ ?_ ?_ ?_ ?_)<;>(repeat intro hb)<;>first|exact True.intro|refine Lf.mk ?_))
    refine ⟨o.ps.length - (k + 1), by omega, _, ?_, k + 1, by omega, by omega, rfl⟩
    rw [decide_eq_true (show ix < k + 1 by omega)]
    ((try refine sgl ?_);exact wkI [0,1,2])
   ·have e1 := hne k hk hkx
    have e2 : ((gP o.ps k).id != id) = true := by rw [bne, e1]; rfl
    have hdk : decide (ix < k + 1) = decide (ix < k) := decide_eq_decide.2 (by omega)
    generalize decide (ix < k) = fb at hdk
    refine sgo ?_
    (have sx1 := e1;have sx2 := e2;((obtain ⟨sx3,sx4,sx5,sx6,sx7,sx8,sx9⟩:=sx0_7;refine goR9 _ _ _ _ _ _ _ _ ?_ ?_ ?_ ?_ ?_ ?_ ?_ ?_)<;>(repeat intro hb)<;>first|exact True.intro|refine Lf.mk ?_))
    refine ⟨o.ps.length - (k + 1), by omega, _, ?_, k + 1, by omega, by omega, rfl⟩
    rw [hdk]
    ((try refine sgl ?_);exact wkI [0,1,2])
  ·rw [decide_eq_true (show ix < k by omega)]
   refine sgo ?_
   (((refine goR0 _ _ _ _ _ _ _ _ ?_ ?_ ?_ ?_ ?_ ?_ ?_ ?_)<;>(repeat intro hb)<;>first|exact True.intro|refine Lf.mk ?_))
   refine ⟨ids.length - (i + 1), by omega, _, ?_, i + 1, by omega, by omega, rfl⟩
   ((try refine sgl ?_);exact wkI [0,1])
 ·refine sgo ?_
  (((refine goR0 _ _ _ _ _ _ _ _ ?_ ?_ ?_ ?_ ?_ ?_ ?_ ?_)<;>(repeat intro hb)<;>first|exact True.intro|refine Lf.mk ?_))
end Go.Proofs.YtonmienclploaaaGreatDoor
namespace Go.Proofs.YtonmienclploaaaGreatDoor
open Go.Ab
theorem near_one {p q : P6} {t : Int} (h : (nearI p q t).1 = 1) : (nearI p q t).2 = 0 := by
 unfold nearI at h ⊢
 split
 ·rfl
 ·rename_i h1; rw [if_neg h1] at h; cases h
theorem str_ok {n : Nk} {v : P6} {x : Ft} (hn : nkB n = true) (hx : x ∈ fdA n v) : (0 ≤ x.s ∧ x.s < n.op.length) ∧ (0 ≤ x.f ∧ x.f ≤ n.fr.length) ∧ exB n x.s x.f = true ∧ (sndF n x.s x.f).2 = 0 ∧ (nearI (ofR v).1 (sndF n x.s x.f).1 n.tol).1 = 1 := by
 obtain ⟨s, hs, e, h⟩ := fdS_mem hx
 have hfb := fdS_ok n v _ x hx
 have hex : exB n x.s x.f = true := by
  unfold exB
  simp only [Bool.and_eq_true, decide_eq_true_eq]
  omega
 refine ⟨by omega, hfb, hex, ?_⟩
 unfold sndF
 rw [if_pos ⟨hn, hex⟩, e, Int.toNat_natCast]
 rcases h with ⟨h0, hq⟩ | ⟨q, hq, h0, hnr⟩
 ·rw [if_pos h0]
  unfold nrO at hq
  exact ⟨rfl, of_decide_eq_true hq⟩
 ·rw [if_neg (by omega), show (x.f - 1).toNat = q by omega]
  unfold nrF at hnr
  refine ⟨?_, of_decide_eq_true hnr⟩
  have hop := (nkB_iff.1 hn).2.2 s hs
  unfold opBad at hop
  rw [Bool.or_eq_false_iff] at hop
  have := anyV_no hop.2 hq
  unfold wdB at this
  simpa using this
set_option maxRecDepth 100000 in
set_option maxHeartbeats 8000000 in
theorem strings15_tc (n : Nk) (l : List Ft) (vs : List P6) (hn : nkB n = true) (hl : l.length ≤ 12) (hlv : l.length = vs.length) (hv : ∀ i,i < vs.length → vOk (gV vs i) = true) (hm : ∀ i,i < vs.length → gF l i ∈ fdA n (gV vs i)) (hh : hldB n.span l = true) :
  Look Tryz.prog 17 [nkA n, its (l.map nbI), vts vs] (.imm (.bool true)) := by
 have hs := nkS_iff.1 (nkB_iff.1 hn).1
 have hok := fun i (hi : i < vs.length) => str_ok hn (hm i hi)
 have hft : FtOk l := fun i hi => by have := (hok i (by omega)).2.1; omega
 have hax : anyX n l = false := by
  unfold anyX
  rw [decide_eq_false_iff_not]
  intro hlt
  have q := (fstF_spec (f := fun i => !(exB n (gF l i).s (gF l i).f)) (d := l.length) (i := 0)).2.2.2 (by omega)
  rw [(hok _ (by omega)).2.2.1] at q
  cases q
 have c9 := ffits_tc n l hn (by omega) hax hft
 rw [hh] at c9
 have hgl : ∀ i, i < l.length → gL (l.map nbI) i = nbI (gF l i) := fun i hi => by simp [gL, gF, hi]
 refine Look.mk trivial ?_
 unfold its
 rw [List.length_map]
 (refine TC_of_T Γ_ok Tryz.func17 rfl (by kernel_rfl) ?_;simp only [Tryz.ntmps17,Tryz.results17,List.length_cons,List.length_nil,Nat.reduceSub,Nat.reduceAdd,List.replicate,List.cons_append,List.nil_append])
 (repeat' (first|with_reducible refine T_seq_drawT (id := 8) Γ_ok drawsAny pl17_8 (by kernel_rfl) (fun K hK=>?_)|with_reducible refine T_last_drawT (id := 8) Γ_ok drawsAny pl17_8 (by kernel_rfl) (fun K hK=>?_)|((refine goR0 _ _ _ _ _ _ _ _ ?_ ?_ ?_ ?_ ?_ ?_ ?_ ?_)<;>(repeat intro hb)<;>first|exact True.intro|refine Lf.mk ?_)))
 refine T_loopW (fun m st=>∃ i : Nat,i ≤ l.length ∧ m + i = l.length ∧ st = ⟨[.top,.view l.length 1 (itE (l.map nbI)),vts vs,.optr 0 0 0,.top,.top,.top,.own 1 0 i none,.imm (.bool true)] ++ List.replicate 7 .top ++ [.view l.length 1 (itE (l.map nbI)),.imm (.int .i64 l.length),.imm (.int .i64 i)] ++ List.replicate 49 .top,[.box 52 (nkL n),.arr 114 2 i (ftE (l.take i))]⟩)
  l.length ⟨_, Wk.trans (Wk.push 114 2 (ftE [])) ?_, 0, by omega, rfl, rfl⟩ ?_
 ·((try refine sgl ?_);exact wkI [0,1])
 rintro m st ⟨i, g0, g1, rfl⟩
 by_cases hi : i < l.length
 ·have hx := hok i (by omega)
  have hgi := hgl i hi
  have hnb : nbI (gF l i) = 100 * (gF l i).s + (gF l i).f := rfl
  have hsn := fun p q => ft_snoc (l.take i) (gF l i) (i := p) (j := q)
  rw [← take_gF hi, show (l.take i).length = i by simp; omega] at hsn
  have hq1 : (nbI (gF l i)).tdiv 100 = (gF l i).s := by rw [hnb, Int.tdiv_eq_ediv_of_nonneg (by omega)]; omega
  have hq2 : (nbI (gF l i)).tmod 100 = (gF l i).f := by rw [hnb, Int.tmod_eq_emod_of_nonneg (by omega)]; omega
  have hw1 : IntKind.i64.wrap ((nbI (gF l i)).tdiv 100) = (gF l i).s := by rw [hq1]; exact wrapI (by omega) (by omega)
  have hx1 := hx.1
  have hx2 := hx.2.1
  have c1 := fsound_tc n (gF l i).s (gF l i).f (by omega) (by omega)
  have c2 := near15_tc (sndF n (gF l i).s (gF l i).f).1 (gV vs i) n.tol (hv i (by omega))
  rw [hx.2.2.2.1] at c1
  rw [near_one hx.2.2.2.2, hx.2.2.2.2] at c2
  generalize (sndF n (gF l i).s (gF l i).f).1 = p at c1 c2
  generalize gF l i = x at *
  generalize nbI x = y at *
  refine sgo ?_
  (have cl1 := c1;have cl2 := c2;have sx1 := hgi;have sx2 := hq1;have sx3 := hq2;have sx4 := hw1;repeat' (first|with_reducible refine T_seq_drawT (id := 8) Γ_ok drawsAny pl17_8 (by kernel_rfl) (fun K hK=>?_)|with_reducible refine T_last_drawT (id := 8) Γ_ok drawsAny pl17_8 (by kernel_rfl) (fun K hK=>?_)|((obtain ⟨sx5,sx6,sx7,sx8,sx9⟩:=sx0_5;refine goR9 _ _ _ _ _ _ _ _ ?_ ?_ ?_ ?_ ?_ ?_ ?_ ?_)<;>(repeat intro hb)<;>first|exact True.intro|refine Lf.mk ?_)))
  refine ⟨l.length - (i + 1), by omega, _, ?_, i + 1, by omega, by omega, rfl⟩
  ((try refine sgl ?_);refine Wk.intro [0,5] (by decide) (by decide) wkH ?_ ?_ <;> repeat' (first|(exact WkV.eqF (hsn _ _ hi hj) (by simp))|refine WkVL.cons ?_ ?_|exact wkT|refine WkV.agg ?_|refine WkV.tup ?_|refine WkV.fn ?_ ?_|exact WkO.dead|exact WkO.raw|refine WkO.ghost ?_|exact WkO.mpE rfl trivial|refine WkO.box ?_ rfl|refine WkO.arr ?_|refine And.intro ?_ (And.intro aF ?_)|exact trivial|(intro i j hi hj)))
 ·obtain rfl : i = l.length := by omega
  have hv5 : ∀ i j,i < l.length → j < 2 → ftE (l.take l.length) i j = ftE l i j := fun i j _ _ => by rw [List.take_length]
  refine sgo ?_
  (have cl1 := c9;repeat' (first|with_reducible refine T_seq_drawT (id := 8) Γ_ok drawsAny pl17_8 (by kernel_rfl) (fun K hK=>?_)|with_reducible refine T_last_drawT (id := 8) Γ_ok drawsAny pl17_8 (by kernel_rfl) (fun K hK=>?_)|((refine goR0 _ _ _ _ _ _ _ _ ?_ ?_ ?_ ?_ ?_ ?_ ?_ ?_)<;>(repeat intro hb)<;>first|exact True.intro|refine Lf.mk ?_)))
end Go.Proofs.YtonmienclploaaaGreatDoor
