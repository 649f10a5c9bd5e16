/-
  The reference's Records, SameAcceptors, Same, Disks: equality.
-/
import Derived.Test.YtnomenmakhielaaDoorQGo
import Derived.Test.YtnomenmakhielaaDoorQS12
import Derived.Test.YtnomenmakhielaaDoorQK3
set_option linter.unusedSimpArgs false
set_option linter.unusedVariables false
namespace Go.Proofs.YtnomenmakhielaaDoor
open Go.Ab

theorem Rcd.ext_iff' {a b : Rcd} : a = b ↔ a.k = b.k ∧ a.s = b.s ∧ a.b = b.b ∧ a.x.s = b.x.s ∧ a.x.c = b.x.c ∧ a.x.n = b.x.n ∧ a.x.d = b.x.d := by
  obtain ⟨k, s, b1, ⟨s', c, n, d⟩⟩ := a
  obtain ⟨k2, s2, b2, ⟨s'2, c2, n2, d2⟩⟩ := b
  simp
theorem Acc.ext_iff' {a b : Acc} : a = b ↔ a.p = b.p ∧ a.v = b.v ∧ a.x.s = b.x.s ∧ a.x.c = b.x.c ∧ a.x.n = b.x.n ∧ a.x.d = b.x.d := by
  obtain ⟨p, v, ⟨s', c, n, d⟩⟩ := a
  obtain ⟨p2, v2, ⟨s'2, c2, n2, d2⟩⟩ := b
  simp
theorem ext_gR {a b : List Rcd} (h : a.length = b.length) (he : ∀ i, i < a.length → gR a i = gR b i) : a = b := by
  apply List.ext_getElem h
  intro i h1 h2
  have := he i h1
  simpa [gR, h1, h2] using this
theorem ext_gA {a b : List Acc} (h : a.length = b.length) (he : ∀ i, i < a.length → gA' a i = gA' b i) : a = b := by
  apply List.ext_getElem h
  intro i h1 h2
  have := he i h1
  simpa [gA', h1, h2] using this

set_option maxRecDepth 100000 in
set_option maxHeartbeats 400000 in
theorem recs_tc (a b : List Rcd) (ha : a.length ≤ 9223372036854775807) (hbl : b.length ≤ 9223372036854775807) : Look Tryd.prog 20 [rcs a, rcs b] (.imm (.bool (open Classical in decide (a = b)))) := by
  refine Look.mk trivial ?_
  (refine TC_of_T Γ_ok Tryd.func20 rfl (by kernel_rfl) ?_; simp only [Tryd.ntmps20, Tryd.results20, List.length_cons, List.length_nil, Nat.reduceSub, Nat.reduceAdd, List.replicate, List.cons_append, List.nil_append])
  (((refine goR0 _ _ _ _ _ _ _ _ ?_ ?_ ?_ ?_ ?_ ?_ ?_ ?_) <;> (repeat intro hb) <;> first | exact True.intro | refine Lf.mk ?_))
  · exact immD ⟨fun h => Bool.noConfusion h, fun h => by rw [h] at hb; exact absurd rfl hb⟩
  have hlen : a.length = b.length := by (try simp at hb); omega
  refine T_loopW (fun m st => ∃ i : Nat, i ≤ a.length ∧ m + i = a.length ∧ (∀ j, j < i → gR a j = gR b j) ∧ st = ⟨[rcs a, rcs b, .top, .top, .imm (.bool false), .imm (.int .i64 i)] ++ List.replicate 20 .top, []⟩)
    a.length ⟨_, ?_, 0, Nat.zero_le _, rfl, fun j hj => by omega, rfl⟩ ?_
  · ((try simp only [List.length_append, List.length_cons, List.length_nil, Nat.zero_add]); refine Wk.intro [] (by decide) (by decide) (by intro o ho; simp at ho ⊢ <;> omega) ?_ ?_ <;> repeat' (first | exact WkVL.nil | refine WkVL.cons ?_ ?_ | exact WkV.top | exact WkV.imm rfl | exact WkV.imm (by simp) | exact WkV.optr rfl | exact WkV.own rfl (by simp) | exact WkV.nil_own (.inl rfl) | exact WkV.map rfl | (refine WkV.free ?_; simp [Free, FreeL] <;> assumption) | (refine WkV.free (fun _ _ => FreeL_nth ?_ _); simp [Free, FreeL]; done) | refine WkV.agg ?_ | refine WkV.tup ?_ | refine WkV.fn ?_ ?_ | exact WkO.dead | exact WkO.raw | refine WkO.ghost ?_ | exact WkO.mpE rfl trivial | refine WkO.box ?_ rfl | refine WkO.arr ?_ | refine And.intro ?_ (And.intro (by first | exact fun h => h | exact fun _ => rfl | exact nofun) ?_) | exact trivial | (intro i j hi hj)))
  rintro m st ⟨i, h1, h2, h3, rfl⟩
  (simp only [go_sem, ↓reduceIte, Nat.reduceAdd, Nat.reduceSub, Nat.reduceMul, Nat.reduceLT, Nat.reduceLeDiff, Nat.reduceEqDiff, Nat.reduceGT, Int.reduceToNat, Int.reduceBEq, Int.reduceBNe]; try simp (disch := omega) only [wrapI, wrapU, half_sum, toNat_sub1, toNat_add1, Int.toNat_natCast])
  (repeat' (first | with_reducible refine T_seq_drawT (id := 6) Γ_ok drawsAny pl20_6 (by kernel_rfl) (fun K hK => ?_) | with_reducible refine T_last_drawT (id := 6) Γ_ok drawsAny pl20_6 (by kernel_rfl) (fun K hK => ?_) | ((refine goR0 _ _ _ _ _ _ _ _ ?_ ?_ ?_ ?_ ?_ ?_ ?_ ?_) <;> (repeat intro hb) <;> first | exact True.intro | refine Lf.mk ?_)))
  · refine immD ⟨fun h => Bool.noConfusion h, fun h => ?_⟩
    subst h
    simp at hb
  · refine ⟨a.length - (i + 1), by omega, _, ?_, i + 1, by omega, by omega, fun j hj => ?_, rfl⟩
    · ((try simp only [List.length_append, List.length_cons, List.length_nil, Nat.zero_add]); refine Wk.intro [] (by decide) (by decide) (by intro o ho; simp at ho ⊢ <;> omega) ?_ ?_ <;> repeat' (first | exact WkVL.nil | refine WkVL.cons ?_ ?_ | exact WkV.top | exact WkV.imm rfl | exact WkV.imm (by simp) | exact WkV.optr rfl | exact WkV.own rfl (by simp) | exact WkV.nil_own (.inl rfl) | exact WkV.map rfl | (refine WkV.free ?_; simp [Free, FreeL] <;> assumption) | (refine WkV.free (fun _ _ => FreeL_nth ?_ _); simp [Free, FreeL]; done) | refine WkV.agg ?_ | refine WkV.tup ?_ | refine WkV.fn ?_ ?_ | exact WkO.dead | exact WkO.raw | refine WkO.ghost ?_ | exact WkO.mpE rfl trivial | refine WkO.box ?_ rfl | refine WkO.arr ?_ | refine And.intro ?_ (And.intro (by first | exact fun h => h | exact fun _ => rfl | exact nofun) ?_) | exact trivial | (intro i j hi hj)))
    · by_cases hji : j = i
      · rw [hji]; exact Rcd.ext_iff'.2 (by simpa using hb)
      · exact h3 j (by omega)
  · exact immD ⟨fun _ => ext_gR hlen fun j hj => h3 j (by omega), fun _ => rfl⟩

set_option maxRecDepth 100000 in
set_option maxHeartbeats 400000 in
theorem sameA_tc (a b : List Acc) (ha : a.length ≤ 9223372036854775807) (hbl : b.length ≤ 9223372036854775807) : Look Tryd.prog 36 [acs a, acs b] (.imm (.bool (open Classical in decide (a = b)))) := by
  refine Look.mk trivial ?_
  (refine TC_of_T Γ_ok Tryd.func36 rfl (by kernel_rfl) ?_; simp only [Tryd.ntmps36, Tryd.results36, List.length_cons, List.length_nil, Nat.reduceSub, Nat.reduceAdd, List.replicate, List.cons_append, List.nil_append])
  (((refine goR0 _ _ _ _ _ _ _ _ ?_ ?_ ?_ ?_ ?_ ?_ ?_ ?_) <;> (repeat intro hb) <;> first | exact True.intro | refine Lf.mk ?_))
  · exact immD ⟨fun h => Bool.noConfusion h, fun h => by rw [h] at hb; exact absurd rfl hb⟩
  have hlen : a.length = b.length := by (try simp at hb); omega
  refine T_loopW (fun m st => ∃ i : Nat, i ≤ a.length ∧ m + i = a.length ∧ (∀ j, j < i → gA' a j = gA' b j) ∧ st = ⟨[acs a, acs b, .top, .top, .imm (.bool false), .imm (.int .i64 i)] ++ List.replicate 20 .top, []⟩)
    a.length ⟨_, ?_, 0, Nat.zero_le _, rfl, fun j hj => by omega, rfl⟩ ?_
  · ((try simp only [List.length_append, List.length_cons, List.length_nil, Nat.zero_add]); refine Wk.intro [] (by decide) (by decide) (by intro o ho; simp at ho ⊢ <;> omega) ?_ ?_ <;> repeat' (first | exact WkVL.nil | refine WkVL.cons ?_ ?_ | exact WkV.top | exact WkV.imm rfl | exact WkV.imm (by simp) | exact WkV.optr rfl | exact WkV.own rfl (by simp) | exact WkV.nil_own (.inl rfl) | exact WkV.map rfl | (refine WkV.free ?_; simp [Free, FreeL] <;> assumption) | (refine WkV.free (fun _ _ => FreeL_nth ?_ _); simp [Free, FreeL]; done) | refine WkV.agg ?_ | refine WkV.tup ?_ | refine WkV.fn ?_ ?_ | exact WkO.dead | exact WkO.raw | refine WkO.ghost ?_ | exact WkO.mpE rfl trivial | refine WkO.box ?_ rfl | refine WkO.arr ?_ | refine And.intro ?_ (And.intro (by first | exact fun h => h | exact fun _ => rfl | exact nofun) ?_) | exact trivial | (intro i j hi hj)))
  rintro m st ⟨i, h1, h2, h3, rfl⟩
  (simp only [go_sem, ↓reduceIte, Nat.reduceAdd, Nat.reduceSub, Nat.reduceMul, Nat.reduceLT, Nat.reduceLeDiff, Nat.reduceEqDiff, Nat.reduceGT, Int.reduceToNat, Int.reduceBEq, Int.reduceBNe]; try simp (disch := omega) only [wrapI, wrapU, half_sum, toNat_sub1, toNat_add1, Int.toNat_natCast])
  (repeat' (first | with_reducible refine T_seq_drawT (id := 6) Γ_ok drawsAny pl36_6 (by kernel_rfl) (fun K hK => ?_) | with_reducible refine T_last_drawT (id := 6) Γ_ok drawsAny pl36_6 (by kernel_rfl) (fun K hK => ?_) | ((refine goR0 _ _ _ _ _ _ _ _ ?_ ?_ ?_ ?_ ?_ ?_ ?_ ?_) <;> (repeat intro hb) <;> first | exact True.intro | refine Lf.mk ?_)))
  · refine immD ⟨fun h => Bool.noConfusion h, fun h => ?_⟩
    subst h
    simp at hb
  · refine ⟨a.length - (i + 1), by omega, _, ?_, i + 1, by omega, by omega, fun j hj => ?_, rfl⟩
    · ((try simp only [List.length_append, List.length_cons, List.length_nil, Nat.zero_add]); refine Wk.intro [] (by decide) (by decide) (by intro o ho; simp at ho ⊢ <;> omega) ?_ ?_ <;> repeat' (first | exact WkVL.nil | refine WkVL.cons ?_ ?_ | exact WkV.top | exact WkV.imm rfl | exact WkV.imm (by simp) | exact WkV.optr rfl | exact WkV.own rfl (by simp) | exact WkV.nil_own (.inl rfl) | exact WkV.map rfl | (refine WkV.free ?_; simp [Free, FreeL] <;> assumption) | (refine WkV.free (fun _ _ => FreeL_nth ?_ _); simp [Free, FreeL]; done) | refine WkV.agg ?_ | refine WkV.tup ?_ | refine WkV.fn ?_ ?_ | exact WkO.dead | exact WkO.raw | refine WkO.ghost ?_ | exact WkO.mpE rfl trivial | refine WkO.box ?_ rfl | refine WkO.arr ?_ | refine And.intro ?_ (And.intro (by first | exact fun h => h | exact fun _ => rfl | exact nofun) ?_) | exact trivial | (intro i j hi hj)))
    · by_cases hji : j = i
      · rw [hji]; exact Acc.ext_iff'.2 (by simpa using hb)
      · exact h3 j (by omega)
  · exact immD ⟨fun _ => ext_gA hlen fun j hj => h3 j (by omega), fun _ => rfl⟩

@[go_sem, reducible] def memV (m : Mem) : AV := .agg [acs m.A, tks m.L]
set_option maxRecDepth 100000 in
set_option maxHeartbeats 400000 in
theorem sameM_tc (a b : Mem) (h1 : a.A.length ≤ 9223372036854775807) (h2 : b.A.length ≤ 9223372036854775807) (h3 : a.L.length ≤ 9223372036854775807) (h4 : b.L.length ≤ 9223372036854775807) :
    Look Tryd.prog 14 [memV a, memV b] (.imm (.bool (open Classical in decide (a = b)))) := by
  refine Look.mk trivial ?_
  have hA := sameA_tc a.A b.A h1 h2
  have hL := same_tc a.L b.L h3 h4
  (refine TC_of_T Γ_ok Tryd.func14 rfl (by kernel_rfl) ?_; simp only [Tryd.ntmps14, Tryd.results14, List.length_cons, List.length_nil, Nat.reduceSub, Nat.reduceAdd, List.replicate, List.cons_append, List.nil_append])
  (have cl1 := hA; have cl2 := hL; ((refine goR0 _ _ _ _ _ _ _ _ ?_ ?_ ?_ ?_ ?_ ?_ ?_ ?_) <;> (repeat intro hb) <;> first | exact True.intro | refine Lf.mk ?_))
  all_goals (refine immD ?_; obtain ⟨A, L⟩ := a; obtain ⟨A2, L2⟩ := b; simp)

set_option maxRecDepth 100000 in
set_option maxHeartbeats 400000 in
theorem disks_tc (a b : Dsk) (ha : a.b.length ≤ 9223372036854775807) (hbl : b.b.length ≤ 9223372036854775807) : Look Tryd.prog 17 [dsA a, dsA b] (.imm (.bool (decide (a.b = b.b ∧ a.s = b.s)))) := by
  refine Look.mk trivial ?_
  have hA := rbytes_tc a.b b.b ha hbl
  (refine TC_of_T Γ_ok Tryd.func17 rfl (by kernel_rfl) ?_; simp only [Tryd.ntmps17, Tryd.results17, List.length_cons, List.length_nil, Nat.reduceSub, Nat.reduceAdd, List.replicate, List.cons_append, List.nil_append])
  (have cl1 := hA; ((refine goR0 _ _ _ _ _ _ _ _ ?_ ?_ ?_ ?_ ?_ ?_ ?_ ?_) <;> (repeat intro hb) <;> first | exact True.intro | refine Lf.mk ?_))
  all_goals (congr 2; rw [Bool.eq_iff_iff]; simp)
end Go.Proofs.YtnomenmakhielaaDoor
