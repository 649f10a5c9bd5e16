/-
  board.Hands.
-/
import Derived.Test.YtddcnafocohghaaDoorQGo
import Derived.Test.YtddcnafocohghaaDoorQB8
import Derived.Test.YtddcnafocohghaaDoorQB6
import Derived.Test.YtddcnafocohghaaDoorQB7
set_option linter.unusedSimpArgs false
set_option linter.unusedVariables false
namespace Go.Proofs.YtddcnafocohghaaDoor
open Go.Ab
@[go_sem, reducible] def nilA : AV := .imm (.slice none 0 0)
set_option maxRecDepth 100000 in
set_option maxHeartbeats 4000000 in
theorem hands_raw (b : Bd) (ids : List Int) (hl : b.ks.length ≤ 9223372036854775807) (hi : ids.length ≤ 9223372036854775807) : TC Tryd.prog 17 [bdA b, ints ids] [] (fun v σ' =>
    (v = .tup [nilA, nilA, .imm (.int .i64 (handsR b ids).2.2)] ∧ (handsR b ids).1.length = 0 ∧ (handsR b ids).2.1.length = 0) ∨
    ∃ (p q : Nat) (c1 c2 : Option Nat), p ≠ q ∧ p < σ'.length ∧ q < σ'.length ∧ v = .tup [.own p 0 (handsR b ids).1.length c1, .own q 0 (handsR b ids).2.1.length c2, .imm (.int .i64 (handsR b ids).2.2)] ∧ nthO σ' p = intO (handsR b ids).1 ∧ nthO σ' q = intO (handsR b ids).2.1) := by
  have c2 := valid_tc b hl
  unfold handsR
  by_cases hb : bdB b = true
  · rw [hb] at c2
    have hbd := hb
    have hg := bdB_iff.1 hb
    have hl2 := hg.len
    have c3 := byID_tc b hb
    (refine TC_of_T Γ_ok Tryd.func17 rfl (by kernel_rfl) ?_; simp only [Tryd.ntmps17, Tryd.results17, List.length_cons, List.length_nil, Nat.reduceSub, Nat.reduceAdd, List.replicate, List.cons_append, List.nil_append])
    (have dl1 := c2; have cm1 := c3; repeat' (first | with_reducible refine T_seq_drawT (id := 18) Γ_ok drawsAny pl17_18 (by kernel_rfl) (fun K hK => ?_) | with_reducible refine T_last_drawT (id := 18) Γ_ok drawsAny pl17_18 (by kernel_rfl) (fun K hK => ?_) | ((refine goR0 _ _ _ _ _ _ _ _ ?_ ?_ ?_ ?_ ?_ ?_ ?_ ?_) <;> (repeat intro hb) <;> first | exact True.intro | refine Lf.mk ?_)))
    have hrem : idE b.ks = idE (remK b []) := by unfold remK; congr 1; symm; rw [List.filter_eq_self]; simp
    rw [hrem]
    refine T_loopW (fun m st => ∃ (i : Nat) (o : List Ky), i ≤ ids.length ∧ m + i = ids.length ∧ diffP b (ids.take i) ∧ o = (ids.take i).map (keyD b) ∧ o.length = i ∧ i ≤ 120 ∧
        st = ⟨[.top, ints ids, .optr 0 0 0, .top, nilA, nilA, .imm (.int .i64 0), .map 1, .own 2 0 o.length none] ++ List.replicate 10 .top ++ [ints ids, .imm (.int .i64 ids.length), .imm (.int .i64 i)] ++ List.replicate 34 .top, [.box 24 (bdL b), .mp (.int .i64) (idE (remK b (ids.take i))), elO o.length o.toArray]⟩)
      ids.length ⟨_, Wk.trans (Wk.push 43 9 (elE #[])) ?_, 0, [], by omega, rfl, by simp [diffP], rfl, rfl, by omega, rfl⟩ ?_
    · ((try simp only [List.length_append, List.length_cons, List.length_nil, Nat.zero_add]); refine Wk.intro [0, 1, 2] (by decide) (by decide) (by intro o ho; simp at ho ⊢ <;> omega) ?_ ?_ <;> repeat' (first | (exact WkO.mpE rfl (idE_free _)) | exact WkVL.nil | refine WkVL.cons ?_ ?_ | exact WkV.top | exact WkV.imm rfl | exact WkV.imm (by simp) | exact WkV.optr rfl | exact WkV.own rfl (by simp) | exact WkV.nil_own (.inl rfl) | exact WkV.map rfl | (refine WkV.free ?_; simp [Free, FreeL] <;> assumption) | (refine WkV.free (fun _ _ => FreeL_nth ?_ _); simp [Free, FreeL]; done) | refine WkV.agg ?_ | refine WkV.tup ?_ | refine WkV.fn ?_ ?_ | exact WkO.dead | exact WkO.raw | refine WkO.ghost ?_ | exact WkO.mpE rfl trivial | refine WkO.box ?_ rfl | refine WkO.arr ?_ | refine And.intro ?_ (And.intro (by first | exact fun h => h | exact fun _ => rfl | exact nofun) ?_) | exact trivial | (intro i j hi hj)))
    rintro m st ⟨i, o, h0, h1, hd, ho, hoi, hi120, rfl⟩
    by_cases hil : i < ids.length
    · have hk := keyOf_rem b (ids.take i) (gi ids i)
      have hmg := mget_idE (gi ids i) (remK b (ids.take i))
      have hdel := mdel_idE (gi ids i) (remK b (ids.take i)) (remK_rise hg _)
      rw [remK_snoc, ← take_gi hil] at hdel
      cases hko : keyOf (remK b (ids.take i)) (gi ids i) with
      | none =>
        rw [hko] at hmg hk
        have hm : ∀ z, mval (idE (remK b (ids.take i))) z (.int .i64 (gi ids i)) = z := fun z => by unfold mval; rw [hmg]; rfl
        have hh : mhas (idE (remK b (ids.take i))) (.int .i64 (gi ids i)) = false := by unfold mhas; rw [hmg]; rfl
        have hnd : ¬ diffP b ids := diff_not hil (by
          by_cases e : gi ids i ∈ ids.take i
          · exact .inl e
          · rw [if_neg e] at hk; exact .inr hk.symm)
        rw [if_neg fun h => hnd h.2]
        (simp only [go_sem, ↓reduceIte, Nat.reduceAdd, Nat.reduceSub, Nat.reduceMul, Nat.reduceLT, Nat.reduceLeDiff, Nat.reduceEqDiff, Nat.reduceGT, Int.reduceToNat, Int.reduceBEq, Int.reduceBNe]; try simp (disch := omega) only [wrapI, wrapU, half_sum, toNat_sub1, toNat_add1, Int.toNat_natCast])
        (have sx1 := hm; have sx2 := hh; repeat' (first | with_reducible refine T_seq_drawT (id := 18) Γ_ok drawsAny pl17_18 (by kernel_rfl) (fun K hK => ?_) | with_reducible refine T_last_drawT (id := 18) Γ_ok drawsAny pl17_18 (by kernel_rfl) (fun K hK => ?_) | ((have sx3 : (0 : Nat) + 0 = 0 := rfl; have sx4 : (0 : Nat) + 0 = 0 := rfl; refine goR4 _ _ _ _ _ _ _ _ ?_ ?_ ?_ ?_ ?_ ?_ ?_ ?_) <;> (repeat intro hb) <;> first | exact True.intro | refine Lf.mk ?_)))
        exact .inl trivial
      | some k =>
        rw [hko] at hmg hk
        have hm : ∀ z, mval (idE (remK b (ids.take i))) z (.int .i64 (gi ids i)) = kyA k := fun z => by unfold mval; rw [hmg]; rfl
        have hh : mhas (idE (remK b (ids.take i))) (.int .i64 (gi ids i)) = true := by unfold mhas; rw [hmg]; rfl
        have hsn := fun p q => el_snoc o k (i := p) (j := q)
        (simp only [go_sem, ↓reduceIte, Nat.reduceAdd, Nat.reduceSub, Nat.reduceMul, Nat.reduceLT, Nat.reduceLeDiff, Nat.reduceEqDiff, Nat.reduceGT, Int.reduceToNat, Int.reduceBEq, Int.reduceBNe]; try simp (disch := omega) only [wrapI, wrapU, half_sum, toNat_sub1, toNat_add1, Int.toNat_natCast])
        (have sx1 := hm; have sx2 := hh; have sx3 := hdel; have sx4 : (0 : Nat) + 0 = 0 := rfl; repeat' (first | with_reducible refine T_seq_drawT (id := 18) Γ_ok drawsAny pl17_18 (by kernel_rfl) (fun K hK => ?_) | with_reducible refine T_last_drawT (id := 18) Γ_ok drawsAny pl17_18 (by kernel_rfl) (fun K hK => ?_) | ((refine goR4 _ _ _ _ _ _ _ _ ?_ ?_ ?_ ?_ ?_ ?_ ?_ ?_) <;> (repeat intro hb) <;> first | exact True.intro | refine Lf.mk ?_)))
        have hni : gi ids i ∉ ids.take i := fun e => by rw [if_pos e] at hk; cases hk
        rw [if_neg hni] at hk
        have hd2 : diffP b (ids.take (i + 1)) := diff_snoc hil hd hni (by rw [← hk]; rfl)
        have hlen := diff_len hg hd2
        rw [List.length_take, Nat.min_eq_left (by omega)] at hlen
        refine ⟨ids.length - (i + 1), by omega, _, ?_, i + 1, o ++ [k], by omega, by omega, hd2, ?_, by simp; omega, by omega, rfl⟩
        · ((try simp only [List.length_append, List.length_cons, List.length_nil, Nat.zero_add]); refine Wk.intro [0, 1, 5] (by decide) (by decide) (by intro o ho; simp at ho ⊢ <;> omega) ?_ ?_ <;> repeat' (first | (exact WkO.mpE rfl (idE_free _)) | (refine WkV.imm ?_; congr 1; omega) | (exact WkV.eqF (hsn _ _ (by simpa using hi) hj) (by simp)) | exact WkVL.nil | refine WkVL.cons ?_ ?_ | exact WkV.top | exact WkV.imm rfl | exact WkV.imm (by simp) | exact WkV.optr rfl | exact WkV.own rfl (by simp) | exact WkV.nil_own (.inl rfl) | exact WkV.map rfl | (refine WkV.free ?_; simp [Free, FreeL] <;> assumption) | (refine WkV.free (fun _ _ => FreeL_nth ?_ _); simp [Free, FreeL]; done) | refine WkV.agg ?_ | refine WkV.tup ?_ | refine WkV.fn ?_ ?_ | exact WkO.dead | exact WkO.raw | refine WkO.ghost ?_ | exact WkO.mpE rfl trivial | refine WkO.box ?_ rfl | refine WkO.arr ?_ | refine And.intro ?_ (And.intro (by first | exact fun h => h | exact fun _ => rfl | exact nofun) ?_) | exact trivial | (intro i j hi hj)))
        · rw [take_gi hil, List.map_append, ho]
          congr 1
          simp only [List.map_cons, List.map_nil]
          unfold keyD
          rw [← hk]
          rfl
    · have hie : i = ids.length := by omega
      rw [hie, List.take_length] at hd ho
      have hol : o.length = ids.length := by omega
      have hS : sortK o = ordK b ids := by rw [ho]; exact sortK_ord hg hd
      have hSl : (ordK b ids).length = o.length := by rw [← hS, sortK_len]
      have hdv := divide_tc (ordK b ids) b.span (by omega) (ordK_x hg ids)
      have hv5 : ∀ i j, i < o.length → j < 9 → elE (Go.Sort.sort ltE o.toArray) i j = kyE (ordK b ids) i j := fun i j _ _ => by rw [elE_sort, hS]
      have hdc := divN_cases b.span (ordK b ids) (ordK b ids).length
      have hst := sortF_tu o.length o.toArray (by simp) (by omega)
      rw [if_pos ⟨hbd, hd⟩]
      unfold divR at *
      generalize ordK b ids = S at *
      generalize divN b.span S S.length = d at *
      generalize Go.Sort.sort ltE o.toArray = A at *
      unfold kys at hdv
      rw [hSl] at hdv hdc
      by_cases hd0 : d < 0
      · rw [if_pos hd0]
        (simp only [go_sem, ↓reduceIte, Nat.reduceAdd, Nat.reduceSub, Nat.reduceMul, Nat.reduceLT, Nat.reduceLeDiff, Nat.reduceEqDiff, Nat.reduceGT, Int.reduceToNat, Int.reduceBEq, Int.reduceBNe]; try simp (disch := omega) only [wrapI, wrapU, half_sum, toNat_sub1, toNat_add1, Int.toNat_natCast])
        (have ct1 := TurnsAt.mk [2] (hst); have dl1 := hdv; repeat' (first | with_reducible refine T_seq_drawT (id := 18) Γ_ok drawsAny pl17_18 (by kernel_rfl) (fun K hK => ?_) | with_reducible refine T_last_drawT (id := 18) Γ_ok drawsAny pl17_18 (by kernel_rfl) (fun K hK => ?_) | ((refine goR0 _ _ _ _ _ _ _ _ ?_ ?_ ?_ ?_ ?_ ?_ ?_ ?_) <;> (repeat intro hb) <;> first | exact True.intro | refine Lf.mk ?_)))
        exact .inl trivial
      · rw [if_neg hd0]
        obtain ⟨n, rfl⟩ := Int.eq_ofNat_of_zero_le (Int.not_lt.1 hd0)
        have hn : n ≤ o.length := by
          rcases hdc with h | ⟨j, h1, h2, _⟩
          · omega
          · omega
        have ci1 := ids_tc (S.take n) (by rw [List.length_take]; omega)
        have ci2 := ids_tc (S.drop n) (by rw [List.length_drop]; omega)
        unfold kys at ci1 ci2
        rw [List.length_take, hSl, Nat.min_eq_left hn] at ci1
        rw [List.length_drop, hSl] at ci2
        have hv1 : ∀ i j, i < n → j < 9 → elE A i j = kyE (S.take n) i j := fun i j hi hj => by
          rw [hv5 i j (by omega) hj]
          unfold kyE gk
          simp only [List.getD_eq_getElem?_getD]
          rw [List.getElem?_take_of_lt hi]
        have hv2 : ∀ i j, i < o.length - n → j < 9 → elE A (n + i) j = kyE (S.drop n) i j := fun i j hi hj => by
          rw [hv5 (n + i) j (by omega) hj]
          unfold kyE gk
          simp only [List.getD_eq_getElem?_getD]
          rw [List.getElem?_drop]
        simp only [Int.toNat_natCast]
        (simp only [go_sem, ↓reduceIte, Nat.reduceAdd, Nat.reduceSub, Nat.reduceMul, Nat.reduceLT, Nat.reduceLeDiff, Nat.reduceEqDiff, Nat.reduceGT, Int.reduceToNat, Int.reduceBEq, Int.reduceBNe]; try simp (disch := omega) only [wrapI, wrapU, half_sum, toNat_sub1, toNat_add1, Int.toNat_natCast])
        (have ct1 := TurnsAt.mk [2] (hst); have dl1 := hdv; have dm1 := ci1; have dm2 := ci2; repeat' (first | with_reducible refine T_seq_drawT (id := 18) Γ_ok drawsAny pl17_18 (by kernel_rfl) (fun K hK => ?_) | with_reducible refine T_last_drawT (id := 18) Γ_ok drawsAny pl17_18 (by kernel_rfl) (fun K hK => ?_) | ((refine goR0 _ _ _ _ _ _ _ _ ?_ ?_ ?_ ?_ ?_ ?_ ?_ ?_) <;> (repeat intro hb) <;> first | exact True.intro | refine Lf.mk ?_)))
        have e1 : ((S.take n).map (·.id)).length = n := by rw [List.length_map, List.length_take, hSl, Nat.min_eq_left hn]
        have e2 : ((S.drop n).map (·.id)).length = o.length - n := by rw [List.length_map, List.length_drop, hSl]
        rw [e1, e2]
        exact .inr ⟨3, 4, some n, some (o.length - n), by omega, by omega, by omega, rfl, rfl, rfl⟩
  · rw [if_neg fun h => hb h.1]
    rw [Bool.not_eq_true] at hb
    rw [hb] at c2
    (refine TC_of_T Γ_ok Tryd.func17 rfl (by kernel_rfl) ?_; simp only [Tryd.ntmps17, Tryd.results17, List.length_cons, List.length_nil, Nat.reduceSub, Nat.reduceAdd, List.replicate, List.cons_append, List.nil_append])
    (have dl1 := c2; repeat' (first | with_reducible refine T_seq_drawT (id := 18) Γ_ok drawsAny pl17_18 (by kernel_rfl) (fun K hK => ?_) | with_reducible refine T_last_drawT (id := 18) Γ_ok drawsAny pl17_18 (by kernel_rfl) (fun K hK => ?_) | ((refine goR0 _ _ _ _ _ _ _ _ ?_ ?_ ?_ ?_ ?_ ?_ ?_ ?_) <;> (repeat intro hb) <;> first | exact True.intro | refine Lf.mk ?_)))
    exact .inl trivial
theorem nthO_left {σ s : List AObj} {o : Nat} (h : o < σ.length) : nthO (σ ++ s) o = nthO σ o := by
  have h1 : σ[o]? = some σ[o] := List.getElem?_eq_getElem h
  rw [nthO_of_get h1]
  exact nthO_of_get (by rw [List.getElem?_append_left h]; exact h1)
theorem intO_wk {π : List Nat} {σ : List AObj} (l : List Int) : WkO π σ (intO l) (intO l) := WkO.arr fun i j _ _ => WkV.free (inE_free _ _ _)
theorem nil_wk {π : List Nat} {σ : List AObj} {l : List Int} (h : l.length = 0) : WkO π σ (.arr 3 1 0 fun _ _ => .top) (intO l) := by
  unfold intO; rw [h]; exact WkO.arr fun i j hi => by omega
theorem hands_tc (b : Bd) (ids : List Int) (hl : b.ks.length ≤ 9223372036854775807) (hi : ids.length ≤ 9223372036854775807) : Makes Tryd.prog 17 [bdA b, ints ids] (.tup [.own 0 0 (handsR b ids).1.length none, .own 1 0 (handsR b ids).2.1.length none, .imm (.int .i64 (handsR b ids).2.2)]) [intO (handsR b ids).1, intO (handsR b ids).2.1] := by
  refine Makes.gen [(3, 1), (3, 1)] (by simp [VF, VFL]) (fun a ha => ?_) ((hands_raw b ids hl hi).mono fun v σ' hq => ?_)
  · simp only [List.mem_cons, List.not_mem_nil, or_false] at ha
    rcases ha with rfl | rfl <;> exact fun i j => inE_pl _ i j
  · rcases hq with ⟨rfl, h1, h2⟩ | ⟨p, q, c1, c2, hpq, hp, hq, rfl, h1, h2⟩
    · have n0 : nthO (σ' ++ List.map (fun p => AObj.arr p.1 p.2 0 fun _ _ => AV.top) [(3, 1), (3, 1)]) σ'.length = .arr 3 1 0 fun _ _ => .top := nthO_of_get (by simp)
      have n1 : nthO (σ' ++ List.map (fun p => AObj.arr p.1 p.2 0 fun _ _ => AV.top) [(3, 1), (3, 1)]) (σ'.length + 1) = .arr 3 1 0 fun _ _ => .top := nthO_of_get (by simp)
      refine ⟨[σ'.length, σ'.length + 1], by simp, by simp, ?_, ?_⟩
      · rw [h1, h2]
        exact WkV.tup (WkVL.cons (WkV.nil_own (.inl rfl)) (WkVL.cons (WkV.nil_own (.inl rfl)) (WkVL.cons (WkV.imm rfl) WkVL.nil)))
      · refine ⟨?_, fun _ => by rw [n0]; rfl, ?_, fun _ => by rw [n1]; rfl, trivial⟩
        · rw [n0]; exact nil_wk h1
        · rw [n1]; exact nil_wk h2
    · have n0 : nthO (σ' ++ List.map (fun p => AObj.arr p.1 p.2 0 fun _ _ => AV.top) [(3, 1), (3, 1)]) p = intO (handsR b ids).1 := by rw [nthO_left hp, h1]
      have n1 : nthO (σ' ++ List.map (fun p => AObj.arr p.1 p.2 0 fun _ _ => AV.top) [(3, 1), (3, 1)]) q = intO (handsR b ids).2.1 := by rw [nthO_left hq, h2]
      refine ⟨[p, q], by simp [hpq], by simp; omega, ?_, ?_⟩
      · exact WkV.tup (WkVL.cons (WkV.own rfl (by simp)) (WkVL.cons (WkV.own rfl (by simp)) (WkVL.cons (WkV.imm rfl) WkVL.nil)))
      · refine ⟨?_, fun _ => by rw [n0]; rfl, ?_, fun _ => by rw [n1]; rfl, trivial⟩
        · rw [n0]; exact intO_wk _
        · rw [n1]; exact intO_wk _
end Go.Proofs.YtddcnafocohghaaDoor
