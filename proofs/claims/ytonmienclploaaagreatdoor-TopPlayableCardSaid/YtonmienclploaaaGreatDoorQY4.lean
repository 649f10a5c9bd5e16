/-
 Parts joined: B9 B13.
-/
import Derived.Test.YtonmienclploaaaGreatDoorQGo
import Derived.Test.YtonmienclploaaaGreatDoorQY2
import Derived.Test.YtonmienclploaaaGreatDoorQB12
import Derived.Test.YtonmienclploaaaGreatDoorQV8j
set_option linter.unusedSimpArgs false
set_option linter.unusedVariables false
namespace Go.Proofs.YtonmienclploaaaGreatDoor.B
open Go.Ab
@[go_sem, reducible] def nilA : AV := .imm (.slice none 0 0)
set_option maxRecDepth 100000 in
set_option maxHeartbeats 4000000 in
theorem hands_raw (b : Bd) (ids : List Int) (hl : b.ks.length ≤ 9223372036854775807) (hi : ids.length ≤ 12) : TC Tryz.prog 14 [bdA b,ints ids] [] (fun v σ' =>
  (v = .tup [nilA,nilA,.imm (.int .i64 (handsR b ids).2.2)] ∧ (handsR b ids).1.length = 0 ∧ (handsR b ids).2.1.length = 0) ∨
  ∃ (p q : Nat) (c1 c2 : Option Nat),p ≠ q ∧ p < σ'.length ∧ q < σ'.length ∧ v = .tup [.own p 0 (handsR b ids).1.length c1,.own q 0 (handsR b ids).2.1.length c2,.imm (.int .i64 (handsR b ids).2.2)] ∧ nthO σ' p = intO (handsR b ids).1 ∧ nthO σ' q = intO (handsR b ids).2.1) := by
 have c2 := valid_tc b hl
 unfold handsR
 by_cases hb : bdB b = true
 ·rw [hb] at c2
  have hbd := hb
  have hg := bdB_iff.1 hb
  have hl2 := hg.len
  have c3 := byID_tc b hb
  (refine TC_of_T Γ_ok Tryz.func14 rfl (by kernel_rfl) ?_;simp only [Tryz.ntmps14,Tryz.results14,List.length_cons,List.length_nil,Nat.reduceSub,Nat.reduceAdd,List.replicate,List.cons_append,List.nil_append])
  (have dl1 := c2;have cm1 := c3;repeat' (first|with_reducible refine T_seq_drawT (id := 18) Γ_ok drawsAny pl14_18 (by kernel_rfl) (fun K hK=>?_)|with_reducible refine T_last_drawT (id := 18) Γ_ok drawsAny pl14_18 (by kernel_rfl) (fun K hK=>?_)|((refine goR0 _ _ _ _ _ _ _ _ ?_ ?_ ?_ ?_ ?_ ?_ ?_ ?_)<;>(repeat intro hb)<;>first|exact True.intro|refine Lf.mk ?_)))
  have hrem : idE b.ks = idE (remK b []) := by unfold remK; congr 1; symm; rw [List.filter_eq_self]; simp
  rw [hrem]
  refine T_loopW (fun m st => ∃ (i : Nat) (o : List Ky),i ≤ ids.length ∧ m + i = ids.length ∧ diffP b (ids.take i) ∧ o = (ids.take i).map (keyD b) ∧ o.length = i ∧ i ≤ 120 ∧
    st = ⟨[.top,ints ids,.optr 0 0 0,.top,nilA,nilA,.imm (.int .i64 0),.map 1,.own 2 0 o.length none] ++ List.replicate 10 .top ++ [ints ids,.imm (.int .i64 ids.length),.imm (.int .i64 i)] ++ List.replicate 34 .top,[.box 46 (bdL b),.mp (.int .i64) (idE (remK b (ids.take i))),elO o.length o.toArray]⟩)
   ids.length ⟨_,Wk.trans (Wk.push 96 9 (elE #[])) ?_,0,[],by omega,rfl,by simp [diffP],rfl,rfl,by omega,rfl⟩ ?_
  ·((try refine sgl ?_);refine Wk.intro [0,1,2] (by decide) (by decide) wkH ?_ ?_ <;> repeat' (first|(exact WkO.mpE rfl (idE_free _))|refine WkVL.cons ?_ ?_|exact wkT|refine WkV.agg ?_|refine WkV.tup ?_|refine WkV.fn ?_ ?_|exact WkO.dead|exact WkO.raw|refine WkO.ghost ?_|exact WkO.mpE rfl trivial|refine WkO.box ?_ rfl|refine WkO.arr ?_|refine And.intro ?_ (And.intro aF ?_)|exact trivial|(intro i j hi hj)))
  rintro m st ⟨i, o, h0, h1, hd, ho, hoi, hi120, rfl⟩
  by_cases hil : i < ids.length
  ·have hk := keyOf_rem b (ids.take i) (gi ids i)
   have hmg := mget_idE (gi ids i) (remK b (ids.take i))
   have hdel := mdel_idE (gi ids i) (remK b (ids.take i)) (remK_rise hg _)
   rw [remK_snoc, ← take_gi hil] at hdel
   cases hko : keyOf (remK b (ids.take i)) (gi ids i) with
   | none =>
    rw [hko] at hmg hk
    have hm : ∀ z,mval (idE (remK b (ids.take i))) z (.int .i64 (gi ids i)) = z := fun z => by unfold mval;rw [hmg];rfl
    have hh : mhas (idE (remK b (ids.take i))) (.int .i64 (gi ids i)) = false := by unfold mhas; rw [hmg]; rfl
    have hnd : ¬ diffP b ids := diff_not hil (by
     by_cases e : gi ids i ∈ ids.take i
     ·exact .inl e
     ·rw [if_neg e] at hk; exact .inr hk.symm)
    rw [if_neg fun h => hnd h.2]
    refine sgo ?_
    (have sx1 := hm;have sx2 := hh;repeat' (first|with_reducible refine T_seq_drawT (id := 18) Γ_ok drawsAny pl14_18 (by kernel_rfl) (fun K hK=>?_)|with_reducible refine T_last_drawT (id := 18) Γ_ok drawsAny pl14_18 (by kernel_rfl) (fun K hK=>?_)|((obtain ⟨sx3,sx4,sx5,sx6,sx7,sx8,sx9⟩:=sx0_7;refine goR9 _ _ _ _ _ _ _ _ ?_ ?_ ?_ ?_ ?_ ?_ ?_ ?_)<;>(repeat intro hb)<;>first|exact True.intro|refine Lf.mk ?_)))
    exact .inl trivial
   | some k =>
    rw [hko] at hmg hk
    have hm : ∀ z,mval (idE (remK b (ids.take i))) z (.int .i64 (gi ids i)) = kyA k := fun z => by unfold mval;rw [hmg];rfl
    have hh : mhas (idE (remK b (ids.take i))) (.int .i64 (gi ids i)) = true := by unfold mhas; rw [hmg]; rfl
    have hsn := fun p q => el_snoc o k (i := p) (j := q)
    refine sgo ?_
    (have sx1 := hm;have sx2 := hh;have sx3 := hdel;have sx4:=sx0;repeat' (first|with_reducible refine T_seq_drawT (id := 18) Γ_ok drawsAny pl14_18 (by kernel_rfl) (fun K hK=>?_)|with_reducible refine T_last_drawT (id := 18) Γ_ok drawsAny pl14_18 (by kernel_rfl) (fun K hK=>?_)|((obtain ⟨sx5,sx6,sx7,sx8,sx9⟩:=sx0_5;refine goR9 _ _ _ _ _ _ _ _ ?_ ?_ ?_ ?_ ?_ ?_ ?_ ?_)<;>(repeat intro hb)<;>first|exact True.intro|refine Lf.mk ?_)))
    have hni : gi ids i ∉ ids.take i := fun e => by rw [if_pos e] at hk; cases hk
    rw [if_neg hni] at hk
    have hd2 : diffP b (ids.take (i + 1)) := diff_snoc hil hd hni (by rw [← hk]; rfl)
    have hlen := diff_len hg hd2
    rw [List.length_take, Nat.min_eq_left (by omega)] at hlen
    refine ⟨ids.length - (i + 1),by omega,_,?_,i + 1,o ++ [k],by omega,by omega,hd2,?_,by simp;omega,by omega,rfl⟩
    ·((try refine sgl ?_);refine Wk.intro [0,1,5] (by decide) (by decide) wkH ?_ ?_ <;> repeat' (first|(exact WkO.mpE rfl (idE_free _))|(refine WkV.imm ?_;congr 1;omega)|(exact WkV.eqF (hsn _ _ (by simpa using hi) hj) (by simp))|refine WkVL.cons ?_ ?_|exact wkT|refine WkV.agg ?_|refine WkV.tup ?_|refine WkV.fn ?_ ?_|exact WkO.dead|exact WkO.raw|refine WkO.ghost ?_|exact WkO.mpE rfl trivial|refine WkO.box ?_ rfl|refine WkO.arr ?_|refine And.intro ?_ (And.intro aF ?_)|exact trivial|(intro i j hi hj)))
    ·rw [take_gi hil, List.map_append, ho]
     congr 1
     simp only [List.map_cons, List.map_nil]
     unfold keyD
     rw [← hk]
     rfl
  ·have hie : i = ids.length := by omega
   rw [hie, List.take_length] at hd ho
   have hol : o.length = ids.length := by omega
   have hS : sortK o = ordK b ids := by rw [ho]; exact sortK_ord hg hd
   have hSl : (ordK b ids).length = o.length := by rw [← hS, sortK_len]
   have hdv := divide_tc (ordK b ids) b.span (by omega) (ordK_x hg ids)
   have hv5 : ∀ i j,i < o.length → j < 9 → elE (Go.Sort.sort ltE o.toArray) i j = kyE (ordK b ids) i j := fun i j _ _ => by rw [elE_sort,hS]
   have hdc := divN_cases b.span (ordK b ids) (ordK b ids).length
   have hst := sortF_tu o.length o.toArray (by simp) (by omega)
   rw [if_pos ⟨hbd, hd⟩]
   unfold divR at *
   generalize ordK b ids = S at *
   generalize divN b.span S S.length = d at *
   generalize Go.Sort.sort ltE o.toArray = A at *
   unfold kys at hdv
   rw [hSl] at hdv hdc
   by_cases hd0 : d < 0
   ·rw [if_pos hd0]
    refine sgo ?_
    (have ct1 := TurnsAt.mk [2] (hst);have dl1 := hdv;repeat' (first|with_reducible refine T_seq_drawT (id := 18) Γ_ok drawsAny pl14_18 (by kernel_rfl) (fun K hK=>?_)|with_reducible refine T_last_drawT (id := 18) Γ_ok drawsAny pl14_18 (by kernel_rfl) (fun K hK=>?_)|((refine goR0 _ _ _ _ _ _ _ _ ?_ ?_ ?_ ?_ ?_ ?_ ?_ ?_)<;>(repeat intro hb)<;>first|exact True.intro|refine Lf.mk ?_)))
    exact .inl trivial
   ·rw [if_neg hd0]
    obtain ⟨n, rfl⟩ := Int.eq_ofNat_of_zero_le (Int.not_lt.1 hd0)
    have hn : n ≤ o.length := by
     rcases hdc with h | ⟨j, h1, h2, _⟩
     ·omega
     ·omega
    have ci1 := ids_tc (S.take n) (by rw [List.length_take]; omega)
    have ci2 := ids_tc (S.drop n) (by rw [List.length_drop]; omega)
    unfold kys at ci1 ci2
    rw [List.length_take, hSl, Nat.min_eq_left hn] at ci1
    rw [List.length_drop, hSl] at ci2
    have hv1 : ∀ i j, i < n → j < 9 → elE A i j = kyE (S.take n) i j := fun i j hi hj => by
     rw [hv5 i j (by omega) hj]
     unfold kyE gk
     simp only [List.getD_eq_getElem?_getD]
     rw [List.getElem?_take_of_lt hi]
    have hv2 : ∀ i j, i < o.length - n → j < 9 → elE A (n + i) j = kyE (S.drop n) i j := fun i j hi hj => by
     rw [hv5 (n + i) j (by omega) hj]
     unfold kyE gk
     simp only [List.getD_eq_getElem?_getD]
     rw [List.getElem?_drop]
    simp only [Int.toNat_natCast]
    refine sgo ?_
    (have ct1 := TurnsAt.mk [2] (hst);have dl1 := hdv;have dm1 := ci1;have dm2 := ci2;repeat' (first|with_reducible refine T_seq_drawT (id := 18) Γ_ok drawsAny pl14_18 (by kernel_rfl) (fun K hK=>?_)|with_reducible refine T_last_drawT (id := 18) Γ_ok drawsAny pl14_18 (by kernel_rfl) (fun K hK=>?_)|((refine goR0 _ _ _ _ _ _ _ _ ?_ ?_ ?_ ?_ ?_ ?_ ?_ ?_)<;>(repeat intro hb)<;>first|exact True.intro|refine Lf.mk ?_)))
    have e1 : ((S.take n).map (·.id)).length = n := by rw [List.length_map,List.length_take,hSl,Nat.min_eq_left hn]
    have e2 : ((S.drop n).map (·.id)).length = o.length - n := by rw [List.length_map, List.length_drop, hSl]
    rw [e1, e2]
    exact .inr ⟨3, 4, some n, some (o.length - n), by omega, by omega, by omega, rfl, rfl, rfl⟩
 ·rw [if_neg fun h => hb h.1]
  rw [Bool.not_eq_true] at hb
  rw [hb] at c2
  (refine TC_of_T Γ_ok Tryz.func14 rfl (by kernel_rfl) ?_;simp only [Tryz.ntmps14,Tryz.results14,List.length_cons,List.length_nil,Nat.reduceSub,Nat.reduceAdd,List.replicate,List.cons_append,List.nil_append])
  (have dl1 := c2;repeat' (first|with_reducible refine T_seq_drawT (id := 18) Γ_ok drawsAny pl14_18 (by kernel_rfl) (fun K hK=>?_)|with_reducible refine T_last_drawT (id := 18) Γ_ok drawsAny pl14_18 (by kernel_rfl) (fun K hK=>?_)|((refine goR0 _ _ _ _ _ _ _ _ ?_ ?_ ?_ ?_ ?_ ?_ ?_ ?_)<;>(repeat intro hb)<;>first|exact True.intro|refine Lf.mk ?_)))
  exact .inl trivial
theorem nthO_left {σ s : List AObj} {o : Nat} (h : o < σ.length) : nthO (σ ++ s) o = nthO σ o := by
 have h1 : σ[o]? = some σ[o] := List.getElem?_eq_getElem h
 rw [nthO_of_get h1]
 exact nthO_of_get (by rw [List.getElem?_append_left h]; exact h1)
theorem intO_wk {π : List Nat} {σ : List AObj} (l : List Int) : WkO π σ (intO l) (intO l) := WkO.arr fun i j _ _ => WkV.free (inE_free _ _ _)
theorem nil_wk {π : List Nat} {σ : List AObj} {l : List Int} (h : l.length = 0) : WkO π σ (.arr 3 1 0 fun _ _ => .top) (intO l) := by
 unfold intO; rw [h]; exact WkO.arr fun i j hi => by omega
theorem hands_tc (b : Bd) (ids : List Int) (hl : b.ks.length ≤ 9223372036854775807) (hi : ids.length ≤ 12) : Makes Tryz.prog 14 [bdA b,ints ids] (.tup [.own 0 0 (handsR b ids).1.length none,.own 1 0 (handsR b ids).2.1.length none,.imm (.int .i64 (handsR b ids).2.2)]) [intO (handsR b ids).1,intO (handsR b ids).2.1] := by
 refine Makes.gen [(3,1),(3,1)] (by simp [VF,VFL]) (fun a ha => ?_) ((hands_raw b ids hl hi).mono fun v σ' hq => ?_)
 ·simp only [List.mem_cons, List.not_mem_nil, or_false] at ha
  rcases ha with rfl | rfl <;> exact fun i j => inE_pl _ i j
 ·rcases hq with ⟨rfl, h1, h2⟩ | ⟨p, q, c1, c2, hpq, hp, hq, rfl, h1, h2⟩
  ·have n0 : nthO (σ' ++ List.map (fun p => AObj.arr p.1 p.2 0 fun _ _ => AV.top) [(3,1),(3,1)]) σ'.length = .arr 3 1 0 fun _ _ => .top := nthO_of_get (by simp)
   have n1 : nthO (σ' ++ List.map (fun p => AObj.arr p.1 p.2 0 fun _ _ => AV.top) [(3,1),(3,1)]) (σ'.length + 1) = .arr 3 1 0 fun _ _ => .top := nthO_of_get (by simp)
   refine ⟨[σ'.length, σ'.length + 1], by simp, by simp, ?_, ?_⟩
   ·rw [h1, h2]
    exact WkV.tup (WkVL.cons (WkV.nil_own (.inl rfl)) (WkVL.cons (WkV.nil_own (.inl rfl)) (WkVL.cons (WkV.imm rfl) WkVL.nil)))
   ·refine ⟨?_, fun _ => by rw [n0]; rfl, ?_, fun _ => by rw [n1]; rfl, trivial⟩
    ·rw [n0]; exact nil_wk h1
    ·rw [n1]; exact nil_wk h2
  ·have n0 : nthO (σ' ++ List.map (fun p => AObj.arr p.1 p.2 0 fun _ _ => AV.top) [(3,1),(3,1)]) p = intO (handsR b ids).1 := by rw [nthO_left hp,h1]
   have n1 : nthO (σ' ++ List.map (fun p => AObj.arr p.1 p.2 0 fun _ _ => AV.top) [(3,1),(3,1)]) q = intO (handsR b ids).2.1 := by rw [nthO_left hq,h2]
   refine ⟨[p, q], by simp [hpq], by simp; omega, ?_, ?_⟩
   ·exact WkV.tup (WkVL.cons (WkV.own rfl (by simp)) (WkVL.cons (WkV.own rfl (by simp)) (WkVL.cons (WkV.imm rfl) WkVL.nil)))
   ·refine ⟨?_, fun _ => by rw [n0]; rfl, ?_, fun _ => by rw [n1]; rfl, trivial⟩
    ·rw [n0]; exact intO_wk _
    ·rw [n1]; exact intO_wk _
end Go.Proofs.YtonmienclploaaaGreatDoor.B
namespace Go.Proofs.YtonmienclploaaaGreatDoor.B
open Go.Ab
theorem optL_ok {b : Bd} (hg : Good b) {vs : List P6} (h : (optR b vs).2 = 0) : SrOk b (optR b vs).1 ∧ (optR b vs).1 = optL b vs ∧ vs.length ≤ 12 := by
 unfold optR at h ⊢
 split at h
 ·cases h
 ·split at h
  ·cases h
  ·split at h
   ·cases h
   ·rename_i h1 h2 h3
    rw [if_neg h1, if_neg h2, if_neg h3]
    refine ⟨⟨hg, ?_, fun l hl => ?_, fun l hl id hid => ?_⟩, rfl, by omega⟩
    ·simp only [optL, List.length_map]; omega
    ·obtain ⟨v, _, rfl⟩ := List.mem_map.1 hl; exact findL_len hg v
    ·obtain ⟨v, _, rfl⟩ := List.mem_map.1 hl; exact findL_ids hg hid
def chO (b : Bd) (L : List (List Int)) : List AObj := [opO b,olO L,.box 250 [.own 1 0 L.length none],.mp (.int .i64) (idE b.ks),.box 93 [.map 3],.box 26 [nilL],
 .box 28 [.fn (.func 158) [] [.optr 5 0 0, .optr 2 0 0, .optr 4 0 0, .optr 0 0 0, .optr 6 0 0]], .arr 3 1 0 (inE [])]
theorem ch_al (b : Bd) (L : List (List Int)) {o : Nat} (h5 : o ≠ 5) (h7 : o ≠ 7) : ∀ q ∈ [5,7],q ≠ o ∧ (nthO (chO b L) q).alive = true := by
 intro q hq
 simp only [List.mem_cons, List.not_mem_nil, or_false] at hq
 rcases hq with rfl | rfl
 ·exact ⟨Ne.symm h5, rfl⟩
 ·exact ⟨Ne.symm h7, rfl⟩
theorem ch_5 (b : Bd) (L : List (List Int)) : WkV [5, 7] (chO b L) (.optr 5 0 0) (.optr 0 0 0) := WkV.optr rfl
theorem ch_2 (b : Bd) (L : List (List Int)) : WkV [5, 7] (chO b L) (.optr 2 0 0) (cA L) :=
 WkV.freezeB (o := 2) (ety := 250) (cells := [.own 1 0 L.length none]) rfl (Nat.le_refl _) (ch_al b L (by decide) (by decide)) fun j hj => by
  obtain rfl : j = 0 := by omega
  exact WkV.freeze (o := 1) (ety := 26) (n := L.length) (e := olE L) rfl (by omega) (ch_al b L (by decide) (by decide)) fun i j hi hj => by rw [Nat.zero_add];exact WkV.free (olE_free _ _ _)
theorem ch_4 (b : Bd) (L : List (List Int)) : WkV [5, 7] (chO b L) (.optr 4 0 0) (cK b) :=
 WkV.freezeB (o := 4) (ety := 93) (cells := [.map 3]) rfl (Nat.le_refl _) (ch_al b L (by decide) (by decide)) fun j hj => by
  obtain rfl : j = 0 := by omega
  exact WkV.freezeM (o := 3) (kd := .int .i64) (es := idE b.ks) rfl (ch_al b L (by decide) (by decide)) rfl (fun ρ w xs _ hx => FreeL.sound (fun _ hb => pull_has hb) _ (idE_free _) hx)
theorem ch_0 (b : Bd) (L : List (List Int)) : WkV [5, 7] (chO b L) (.optr 0 0 0) (cB b) :=
 WkV.freezeB (o := 0) (ety := 46) (cells := bdL b) rfl (Nat.le_refl _) (ch_al b L (by decide) (by decide)) fun j hj => WkV.free (bdE_free b j)
theorem ch_6 (b : Bd) (L : List (List Int)) : ∀ r, WkV [5, 7] (chO b L) (.optr 6 0 0) (cS b L r)
 | 0=>WkV.freezeB (o := 6) (ety := 28) (cells := [.fn (.func 158) [] [.optr 5 0 0,.optr 2 0 0,.optr 4 0 0,.optr 0 0 0,.optr 6 0 0]]) rfl (Nat.le_refl _) (ch_al b L (by decide) (by decide)) fun j hj=>WkV.top
 | r + 1=>WkV.freezeB (o := 6) (ety := 28) (cells := [.fn (.func 158) [] [.optr 5 0 0,.optr 2 0 0,.optr 4 0 0,.optr 0 0 0,.optr 6 0 0]]) rfl (Nat.le_refl _) (ch_al b L (by decide) (by decide)) fun j hj=>by
  obtain rfl : j = 0 := by omega
  exact WkV.fn WkVL.nil (WkVL.cons (ch_5 b L) (WkVL.cons (ch_2 b L) (WkVL.cons (ch_4 b L) (WkVL.cons (ch_0 b L) (WkVL.cons (ch_6 b L r) WkVL.nil)))))
theorem ch_args (b : Bd) (L : List (List Int)) (r : Nat) : WkVL [5,7] (chO b L) [.optr 5 0 0,.optr 2 0 0,.optr 4 0 0,.optr 0 0 0,.optr 6 0 0] [.optr 0 0 0,cA L,cK b,cB b,cS b L r] :=
 WkVL.cons (ch_5 b L) (WkVL.cons (ch_2 b L) (WkVL.cons (ch_4 b L) (WkVL.cons (ch_0 b L) (WkVL.cons (ch_6 b L r) WkVL.nil))))
theorem ch_objs (b : Bd) (L : List (List Int)) : WkOL [5, 7] (chO b L) [5, 7] (srO []) :=
 ⟨WkO.box (WkVL.cons (WkV.nil_own (.inl rfl)) WkVL.nil) rfl,fun _ => rfl,WkO.arr fun i j hi => by omega,fun _ => rfl,trivial⟩
theorem srP_vf (c : List Int) : ∀ a ∈ srP c, VFO a := fun a ha => by
 simp only [srP, List.mem_cons, List.not_mem_nil, or_false] at ha
 rcases ha with rfl | rfl | rfl
 ·exact ⟨trivial, trivial⟩
 ·exact trivial
 ·exact fun i j => inE_pl _ i j
set_option maxRecDepth 100000 in
set_option maxHeartbeats 8000000 in
theorem chord_raw (b : Bd) (vs : List P6) (hl : b.ks.length ≤ 9223372036854775807) (hv : vs.length * 48 ≤ 140737488351232) : TC Tryz.prog 156 [bdA b,vts vs] [] (fun v σ' =>
  (v = .tup [nilL, .imm (.int .i64 (chordR b vs).2)] ∧ (chordR b vs).1.length = 0) ∨
  ∃ k E',v = .tup [.own k 0 (chordR b vs).1.length none,.imm (.int .i64 (chordR b vs).2)] ∧ nthO σ' k = .arr 3 1 (chordR b vs).1.length E' ∧ ∀ i j,i < (chordR b vs).1.length → j < 1 → E' i j = inE (chordR b vs).1 i j) := by
 have c2 := valid_tc b hl
 unfold chordR
 by_cases hb : bdB b = true
 ·have hbd := hb
  rw [if_pos hb]
  rw [hb] at c2
  have hg := bdB_iff.1 hb
  have c3 := byID_tc b hb
  have c4 := options_raw b vs hb hv (opO b) rfl
  by_cases h0 : (optR b vs).2 = 0
  ·obtain ⟨hsr, hLE, hvl⟩ := optL_ok hg h0
   have hsc := search_tc b (optR b vs).1 hsr (optR b vs).1.length [] (by simp) (goodC_nil b hg)
   have hdf : srR b (optR b vs).1 [] = (prodL (optR b vs).1).find? (goodC b) := by
    unfold srR; rw [hLE]; exact dfs_chord hg vs
   rw [hdf] at hsc
   rw [if_pos h0]
   generalize (prodL (optR b vs).1).find? (goodC b) = x at hsc
   have c5 : TC Tryz.prog 157 [bdA b,vts vs] [opO b] (fun v σ' => v = .tup [.own 1 0 (optR b vs).1.length none,.imm (.int .i64 0)] ∧ σ' = [opO b,olO (optR b vs).1]) := by
    refine TC.weak c4 ?_
    rintro _ σ' (⟨_, h, _⟩ | ⟨k, rfl, _, h2, h3, h4, h5⟩)
    ·exact absurd h0 h
    ·refine ⟨[0, k], _, _, rfl, ?_, ?_, ?_, ?_, rfl, rfl⟩
     ·simp; omega
     ·intro o ho
      simp only [List.mem_cons, List.not_mem_nil, or_false] at ho
      rcases ho with rfl | rfl <;> omega
     ·exact WkV.tup (WkVL.cons (WkV.own rfl (by simp)) (WkVL.cons (WkV.imm rfl) WkVL.nil))
     ·refine ⟨?_, fun _ => by rw [h3]; rfl, ?_, fun _ => by rw [h2]; rfl, trivial⟩
      ·rw [h3];(repeat' (first|(exact WkV.free (bdE_free b _))|refine WkVL.cons ?_ ?_|exact wkT|refine WkV.agg ?_|refine WkV.tup ?_|refine WkV.fn ?_ ?_|exact WkO.dead|exact WkO.raw|refine WkO.ghost ?_|exact WkO.mpE rfl trivial|refine WkO.box ?_ rfl|refine WkO.arr ?_|refine And.intro ?_ (And.intro aF ?_)|exact trivial|(intro i j hi hj)))
      ·rw [h2]; exact WkO.arr fun i j _ _ => WkV.free (olE_free _ _ _)
   generalize (optR b vs).1 = L at hsc c5 hsr
   clear c4
   have hT : Turns Tryz.prog 158 _ _ _ _ := ⟨hsc, trivial, srP_vf _⟩
   cases x with
   | none =>
    simp only [Option.isSome_none, Option.getD_none] at hT
    (refine TC_of_T Γ_ok Tryz.func156 rfl (by kernel_rfl) ?_;simp only [Tryz.ntmps156,Tryz.results156,List.length_cons,List.length_nil,Nat.reduceSub,Nat.reduceAdd,List.replicate,List.cons_append,List.nil_append])
    repeat' (first
  | (with_reducible refine hK _ ?_; clear hK K)
  | ((refine callGoal_turns [5,7] trivial hT (by decide) ?_ (ch_args b L _) (ch_objs b L) ?_);(focus (simp [nthO,AObj.alive]));refine sgo ?_)
  | ((with_reducible first|apply gC_lookA (fun hg=>(c2))|apply dCall_lookGA (fun hg=>(c2)));(case hC=>exact hC1);(case hc=>(intro hg;exact cvl)))
  | ((with_reducible first|apply callGoal_lookA (c2)|apply dCall_lookA (c2));(case hC=>exact hC2);(case hc=>exact cvl))
  | ((with_reducible refine callGoal_mk ?_ (c5) ?_);(focus (exact hC2));(rintro _ _ ⟨rfl,rfl⟩;refine sgo ?_))
  | ((with_reducible apply callGoal_makeA (c3));(case hC=>exact hC2);(case hc=>exact cvl);(case' hn=>refine sgo ?_))
  | ((with_reducible apply dCall_makeA (c3));(case hC=>exact hC2);(case hc=>exact cvl);(case' hn=>refine sgo ?_))
  | ((refine T_wkR 10 _ (Wk.push 3 1 (inE [])) ?_);(refine T_seq_region Γ_ok (fun K hK=>?_));refine sgo ?_)
  | ((with_reducible apply DC_call);(focus exact rfl);(focus exact rfl);(focus exact rfl);intro N hN;refine sgo ?_)
  | ((with_reducible first|refine T_seq_region Γ_ok (fun K hK=>?_)|refine T_last_region Γ_ok (fun K hK=>?_)|refine TO_callN rfl (fun N hN=>?_)|refine DCT_fork Γ_ok (fun K2 hK2=>?_)|refine DCT_last Γ_ok ?_|refine DC_ev Γ_ok ?_|refine TO_ev Γ_ok ?_|refine retQ_r ?_|refine retQ_n ?_);refine sgo ?_)
  | (with_reducible refine hK2 _ ?_ ?_ <;> clear hK2 K2)
  | with_reducible first|refine gC_false ?_|refine gC_true ?_|refine dCall_true ?_
  | (with_reducible refine hN _ _ ?_; clear hN N)
  | (with_reducible refine hN _ _ (dInl rfl) ?_; clear hN N)
  | ((with_reducible refine hN _ _ (.inr ?_) ?_);(focus (refine sgo ?_;try exact True.intro));all_goals (try clear hN N))
  | with_reducible first|refine T_seq ?_|refine T_block ?_|refine T_ret ?_|refine T_exit ?_|refine T_skip ?_|refine T_label ?_
  | with_reducible first|refine thenQ_n ?_|refine thenQ_e ?_|refine thenQ_r ?_|refine blockQ_n ?_|refine blockQ_e ?_|refine blockQ_r ?_
  | with_reducible refine blockQ_o (by decide) ?_
  | ((with_reducible refine T_cond _ rfl (fun hb=>?_) (fun hb=>?_)) <;> first|(cases hb;done)|replace hb:=sgh hb|skip)
  | (with_reducible refine And.intro aG ?_)
  | assumption | omega | exact True.intro)
    exact .inl trivial
   | some q =>
    simp only [Option.isSome_some, Option.getD_some] at hT
    (refine TC_of_T Γ_ok Tryz.func156 rfl (by kernel_rfl) ?_;simp only [Tryz.ntmps156,Tryz.results156,List.length_cons,List.length_nil,Nat.reduceSub,Nat.reduceAdd,List.replicate,List.cons_append,List.nil_append])
    repeat' (first
  | (with_reducible refine hK _ ?_; clear hK K)
  | ((refine callGoal_turns [5,7] trivial hT (by decide) ?_ (ch_args b L _) (ch_objs b L) ?_);(focus (simp [nthO,AObj.alive]));refine sgo ?_)
  | ((with_reducible first|apply gC_lookA (fun hg=>(c2))|apply dCall_lookGA (fun hg=>(c2)));(case hC=>exact hC1);(case hc=>(intro hg;exact cvl)))
  | ((with_reducible first|apply callGoal_lookA (c2)|apply dCall_lookA (c2));(case hC=>exact hC2);(case hc=>exact cvl))
  | ((with_reducible refine callGoal_mk ?_ (c5) ?_);(focus (exact hC2));(rintro _ _ ⟨rfl,rfl⟩;refine sgo ?_))
  | ((with_reducible apply callGoal_makeA (c3));(case hC=>exact hC2);(case hc=>exact cvl);(case' hn=>refine sgo ?_))
  | ((with_reducible apply dCall_makeA (c3));(case hC=>exact hC2);(case hc=>exact cvl);(case' hn=>refine sgo ?_))
  | ((refine T_wkR 10 _ (Wk.push 3 1 (inE [])) ?_);(refine T_seq_region Γ_ok (fun K hK=>?_));refine sgo ?_)
  | ((with_reducible apply DC_call);(focus exact rfl);(focus exact rfl);(focus exact rfl);intro N hN;refine sgo ?_)
  | ((with_reducible first|refine T_seq_region Γ_ok (fun K hK=>?_)|refine T_last_region Γ_ok (fun K hK=>?_)|refine TO_callN rfl (fun N hN=>?_)|refine DCT_fork Γ_ok (fun K2 hK2=>?_)|refine DCT_last Γ_ok ?_|refine DC_ev Γ_ok ?_|refine TO_ev Γ_ok ?_|refine retQ_r ?_|refine retQ_n ?_);refine sgo ?_)
  | (with_reducible refine hK2 _ ?_ ?_ <;> clear hK2 K2)
  | with_reducible first|refine gC_false ?_|refine gC_true ?_|refine dCall_true ?_
  | (with_reducible refine hN _ _ ?_; clear hN N)
  | (with_reducible refine hN _ _ (dInl rfl) ?_; clear hN N)
  | ((with_reducible refine hN _ _ (.inr ?_) ?_);(focus (refine sgo ?_;try exact True.intro));all_goals (try clear hN N))
  | with_reducible first|refine T_seq ?_|refine T_block ?_|refine T_ret ?_|refine T_exit ?_|refine T_skip ?_|refine T_label ?_
  | with_reducible first|refine thenQ_n ?_|refine thenQ_e ?_|refine thenQ_r ?_|refine blockQ_n ?_|refine blockQ_e ?_|refine blockQ_r ?_
  | with_reducible refine blockQ_o (by decide) ?_
  | ((with_reducible refine T_cond _ rfl (fun hb=>?_) (fun hb=>?_)) <;> first|(cases hb;done)|replace hb:=sgh hb|skip)
  | (with_reducible refine And.intro aG ?_)
  | assumption | omega | exact True.intro)
    exact .inr ⟨8, _, rfl, rfl, fun _ _ _ _ => rfl⟩
  ·rw [if_neg h0]
   have c5 : TC Tryz.prog 157 [bdA b,vts vs] [opO b] (fun v σ' => v = .tup [nilL,.imm (.int .i64 (optR b vs).2)] ∧ σ' = [opO b]) := by
    refine TC.weak c4 ?_
    rintro _ σ' (⟨rfl, h, h1, h2⟩ | ⟨k, _, h, _⟩)
    ·refine ⟨[0],_,_,rfl,by simp,?_,WkV.tup (WkVL.cons (WkV.imm rfl) (WkVL.cons (WkV.imm rfl) WkVL.nil)),?_,rfl,rfl⟩
     ·intro o ho
      simp only [List.mem_singleton] at ho
      subst ho; exact h2
     ·refine ⟨?_, fun _ => by rw [h1]; rfl, trivial⟩
      rw [h1];(repeat' (first|(exact WkV.free (bdE_free b _))|refine WkVL.cons ?_ ?_|exact wkT|refine WkV.agg ?_|refine WkV.tup ?_|refine WkV.fn ?_ ?_|exact WkO.dead|exact WkO.raw|refine WkO.ghost ?_|exact WkO.mpE rfl trivial|refine WkO.box ?_ rfl|refine WkO.arr ?_|refine And.intro ?_ (And.intro aF ?_)|exact trivial|(intro i j hi hj)))
    ·exact absurd h h0
   generalize (optR b vs).2 = e at c5 h0
   clear c4
   (refine TC_of_T Γ_ok Tryz.func156 rfl (by kernel_rfl) ?_;simp only [Tryz.ntmps156,Tryz.results156,List.length_cons,List.length_nil,Nat.reduceSub,Nat.reduceAdd,List.replicate,List.cons_append,List.nil_append])
   repeat' (first
  | (with_reducible refine hK _ ?_; clear hK K)
  | ((with_reducible first|apply gC_lookA (fun hg=>(c2))|apply dCall_lookGA (fun hg=>(c2)));(case hC=>exact hC1);(case hc=>(intro hg;exact cvl)))
  | ((with_reducible first|apply callGoal_lookA (c2)|apply dCall_lookA (c2));(case hC=>exact hC2);(case hc=>exact cvl))
  | ((with_reducible refine callGoal_mk ?_ (c5) ?_);(focus (exact hC2));(rintro _ _ ⟨rfl,rfl⟩;refine sgo ?_))
  | ((with_reducible apply DC_call);(focus exact rfl);(focus exact rfl);(focus exact rfl);intro N hN;refine sgo ?_)
  | ((with_reducible first|refine T_seq_region Γ_ok (fun K hK=>?_)|refine T_last_region Γ_ok (fun K hK=>?_)|refine TO_callN rfl (fun N hN=>?_)|refine DCT_fork Γ_ok (fun K2 hK2=>?_)|refine DCT_last Γ_ok ?_|refine DC_ev Γ_ok ?_|refine TO_ev Γ_ok ?_|refine retQ_r ?_|refine retQ_n ?_);refine sgo ?_)
  | (with_reducible refine hK2 _ ?_ ?_ <;> clear hK2 K2)
  | with_reducible first|refine gC_false ?_|refine gC_true ?_|refine dCall_true ?_
  | (with_reducible refine hN _ _ ?_; clear hN N)
  | (with_reducible refine hN _ _ (dInl rfl) ?_; clear hN N)
  | ((with_reducible refine hN _ _ (.inr ?_) ?_);(focus (refine sgo ?_;try exact True.intro));all_goals (try clear hN N))
  | with_reducible first|refine T_seq ?_|refine T_block ?_|refine T_ret ?_|refine T_exit ?_|refine T_skip ?_|refine T_label ?_
  | with_reducible first|refine thenQ_n ?_|refine thenQ_e ?_|refine thenQ_r ?_|refine blockQ_n ?_|refine blockQ_e ?_|refine blockQ_r ?_
  | with_reducible refine blockQ_o (by decide) ?_
  | ((with_reducible refine T_cond _ rfl (fun hb=>?_) (fun hb=>?_)) <;> first|(cases hb;done)|replace hb:=sgh hb|skip)
  | (with_reducible refine And.intro aG ?_)
  | assumption | omega | exact True.intro)
   exact .inl trivial
 ·rw [if_neg hb]
  rw [Bool.not_eq_true] at hb
  rw [hb] at c2
  (refine TC_of_T Γ_ok Tryz.func156 rfl (by kernel_rfl) ?_;simp only [Tryz.ntmps156,Tryz.results156,List.length_cons,List.length_nil,Nat.reduceSub,Nat.reduceAdd,List.replicate,List.cons_append,List.nil_append])
  (have dl1 := c2;((refine goR0 _ _ _ _ _ _ _ _ ?_ ?_ ?_ ?_ ?_ ?_ ?_ ?_)<;>(repeat intro hb)<;>first|exact True.intro|refine Lf.mk ?_))
  exact .inl trivial
theorem chord_tc (b : Bd) (vs : List P6) (hl : b.ks.length ≤ 9223372036854775807) (hv : vs.length * 48 ≤ 140737488351232) : Makes Tryz.prog 156 [bdA b,vts vs] (.tup [.own 0 0 (chordR b vs).1.length none,.imm (.int .i64 (chordR b vs).2)]) [intO (chordR b vs).1] :=
 Makes.lstJ (fun i j => inE_pl _ i j) trivial (chord_raw b vs hl hv)
end Go.Proofs.YtonmienclploaaaGreatDoor.B
