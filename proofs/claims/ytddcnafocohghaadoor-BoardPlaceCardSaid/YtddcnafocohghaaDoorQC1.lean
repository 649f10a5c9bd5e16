/-
  The law's small functions: Same, has, less, key.
-/
import Derived.Test.YtddcnafocohghaaDoorQGo
import Derived.Test.YtddcnafocohghaaDoorQB11
import Derived.Test.YtddcnafocohghaaDoorQB9
import Derived.Test.YtddcnafocohghaaDoorQP4
set_option linter.unusedSimpArgs false
set_option linter.unusedVariables false
namespace Go.Proofs.YtddcnafocohghaaDoor
open Go.Ab
theorem ext_gi {a b : List Int} (h : a.length = b.length) (hg : ∀ j, j < a.length → gi a j = gi b j) : a = b := by
  refine List.ext_getElem h fun i h1 h2 => ?_
  have := hg i h1
  simpa [gi, h1, h2] using this
set_option maxRecDepth 100000 in
set_option maxHeartbeats 4000000 in
theorem same_tc (a b : List Int) (ha : a.length ≤ 9223372036854775807) (hb' : b.length ≤ 9223372036854775807) : Look Tryd.prog 16 [ints a, ints b] (.imm (.bool (decide (a = b)))) := by
  refine Look.mk trivial ?_
  (refine TC_of_T Γ_ok Tryd.func16 rfl (by kernel_rfl) ?_; simp only [Tryd.ntmps16, Tryd.results16, List.length_cons, List.length_nil, Nat.reduceSub, Nat.reduceAdd, List.replicate, List.cons_append, List.nil_append])
  (repeat' (first | with_reducible refine T_seq_drawT (id := 6) Γ_ok drawsAny pl16_6 (by kernel_rfl) (fun K hK => ?_) | with_reducible refine T_last_drawT (id := 6) Γ_ok drawsAny pl16_6 (by kernel_rfl) (fun K hK => ?_) | ((refine goR0 _ _ _ _ _ _ _ _ ?_ ?_ ?_ ?_ ?_ ?_ ?_ ?_) <;> (repeat intro hb) <;> first | exact True.intro | refine Lf.mk ?_)))
  · rw [decide_eq_false (p := a = b) (fun h => by rw [h] at hb; exact hb rfl)]
  refine T_loopW (fun m st => ∃ i : Nat, i ≤ a.length ∧ m + i = a.length ∧ (∀ j, j < i → gi a j = gi b j) ∧
      st = ⟨[ints a, ints b, .top, .top, .imm (.bool false), .imm (.int .i64 i)] ++ List.replicate 20 .top, []⟩)
      a.length ⟨_, ?_, 0, by omega, rfl, fun j hj => by omega, rfl⟩ ?_
  · ((try simp only [List.length_append, List.length_cons, List.length_nil, Nat.zero_add]); refine Wk.intro [] (by decide) (by decide) (by intro o ho; simp at ho ⊢ <;> omega) ?_ ?_ <;> repeat' (first | exact WkVL.nil | refine WkVL.cons ?_ ?_ | exact WkV.top | exact WkV.imm rfl | exact WkV.imm (by simp) | exact WkV.optr rfl | exact WkV.own rfl (by simp) | exact WkV.nil_own (.inl rfl) | exact WkV.map rfl | (refine WkV.free ?_; simp [Free, FreeL] <;> assumption) | (refine WkV.free (fun _ _ => FreeL_nth ?_ _); simp [Free, FreeL]; done) | refine WkV.agg ?_ | refine WkV.tup ?_ | refine WkV.fn ?_ ?_ | exact WkO.dead | exact WkO.raw | refine WkO.ghost ?_ | exact WkO.mpE rfl trivial | refine WkO.box ?_ rfl | refine WkO.arr ?_ | refine And.intro ?_ (And.intro (by first | exact fun h => h | exact fun _ => rfl | exact nofun) ?_) | exact trivial | (intro i j hi hj)))
  rintro m st ⟨i, h0, h1, h2, rfl⟩
  (simp only [go_sem, ↓reduceIte, Nat.reduceAdd, Nat.reduceSub, Nat.reduceMul, Nat.reduceLT, Nat.reduceLeDiff, Nat.reduceEqDiff, Nat.reduceGT, Int.reduceToNat, Int.reduceBEq, Int.reduceBNe]; try simp (disch := omega) only [wrapI, wrapU, half_sum, toNat_sub1, toNat_add1, Int.toNat_natCast])
  (repeat' (first | with_reducible refine T_seq_drawT (id := 6) Γ_ok drawsAny pl16_6 (by kernel_rfl) (fun K hK => ?_) | with_reducible refine T_last_drawT (id := 6) Γ_ok drawsAny pl16_6 (by kernel_rfl) (fun K hK => ?_) | ((refine goR0 _ _ _ _ _ _ _ _ ?_ ?_ ?_ ?_ ?_ ?_ ?_ ?_) <;> (repeat intro hb) <;> first | exact True.intro | refine Lf.mk ?_)))
  · rw [decide_eq_false (p := a = b) (fun h => by rw [h] at hb; exact hb rfl)]
  · refine ⟨a.length - (i + 1), by omega, _, ?_, i + 1, by omega, by omega, fun j hj => ?_, rfl⟩
    · ((try simp only [List.length_append, List.length_cons, List.length_nil, Nat.zero_add]); refine Wk.intro [] (by decide) (by decide) (by intro o ho; simp at ho ⊢ <;> omega) ?_ ?_ <;> repeat' (first | (refine WkV.imm ?_; congr 1; omega) | exact WkVL.nil | refine WkVL.cons ?_ ?_ | exact WkV.top | exact WkV.imm rfl | exact WkV.imm (by simp) | exact WkV.optr rfl | exact WkV.own rfl (by simp) | exact WkV.nil_own (.inl rfl) | exact WkV.map rfl | (refine WkV.free ?_; simp [Free, FreeL] <;> assumption) | (refine WkV.free (fun _ _ => FreeL_nth ?_ _); simp [Free, FreeL]; done) | refine WkV.agg ?_ | refine WkV.tup ?_ | refine WkV.fn ?_ ?_ | exact WkO.dead | exact WkO.raw | refine WkO.ghost ?_ | exact WkO.mpE rfl trivial | refine WkO.box ?_ rfl | refine WkO.arr ?_ | refine And.intro ?_ (And.intro (by first | exact fun h => h | exact fun _ => rfl | exact nofun) ?_) | exact trivial | (intro i j hi hj)))
    · by_cases e : j = i
      · subst e; exact hb
      · exact h2 j (by omega)
  · rw [decide_eq_true (p := a = b) (ext_gi (by omega) fun j hj => h2 j (by omega))]
set_option maxRecDepth 100000 in
set_option maxHeartbeats 4000000 in
theorem has_tc (l : List Int) (x : Int) (hl : l.length ≤ 9223372036854775807) : Look Tryd.prog 23 [ints l, .imm (.int .i64 x)] (.imm (.bool (hasB l x))) := by
  refine Look.mk trivial ?_
  (refine TC_of_T Γ_ok Tryd.func23 rfl (by kernel_rfl) ?_; simp only [Tryd.ntmps23, Tryd.results23, List.length_cons, List.length_nil, Nat.reduceSub, Nat.reduceAdd, List.replicate, List.cons_append, List.nil_append])
  (((refine goR0 _ _ _ _ _ _ _ _ ?_ ?_ ?_ ?_ ?_ ?_ ?_ ?_) <;> (repeat intro hb) <;> first | exact True.intro | refine Lf.mk ?_))
  refine T_loopW (fun m st => ∃ i : Nat, i ≤ l.length ∧ m + i = l.length ∧ hasB l x = hasB (l.drop i) x ∧
      st = ⟨[ints l, .imm (.int .i64 x), .top, .top, .imm (.bool false), .imm (.int .i64 i)] ++ List.replicate 12 .top, []⟩)
      l.length ⟨_, ?_, 0, by omega, rfl, rfl, rfl⟩ ?_
  · ((try simp only [List.length_append, List.length_cons, List.length_nil, Nat.zero_add]); refine Wk.intro [] (by decide) (by decide) (by intro o ho; simp at ho ⊢ <;> omega) ?_ ?_ <;> repeat' (first | exact WkVL.nil | refine WkVL.cons ?_ ?_ | exact WkV.top | exact WkV.imm rfl | exact WkV.imm (by simp) | exact WkV.optr rfl | exact WkV.own rfl (by simp) | exact WkV.nil_own (.inl rfl) | exact WkV.map rfl | (refine WkV.free ?_; simp [Free, FreeL] <;> assumption) | (refine WkV.free (fun _ _ => FreeL_nth ?_ _); simp [Free, FreeL]; done) | refine WkV.agg ?_ | refine WkV.tup ?_ | refine WkV.fn ?_ ?_ | exact WkO.dead | exact WkO.raw | refine WkO.ghost ?_ | exact WkO.mpE rfl trivial | refine WkO.box ?_ rfl | refine WkO.arr ?_ | refine And.intro ?_ (And.intro (by first | exact fun h => h | exact fun _ => rfl | exact nofun) ?_) | exact trivial | (intro i j hi hj)))
  rintro m st ⟨i, h0, h1, h2, rfl⟩
  (simp only [go_sem, ↓reduceIte, Nat.reduceAdd, Nat.reduceSub, Nat.reduceMul, Nat.reduceLT, Nat.reduceLeDiff, Nat.reduceEqDiff, Nat.reduceGT, Int.reduceToNat, Int.reduceBEq, Int.reduceBNe]; try simp (disch := omega) only [wrapI, wrapU, half_sum, toNat_sub1, toNat_add1, Int.toNat_natCast])
  (((refine goR0 _ _ _ _ _ _ _ _ ?_ ?_ ?_ ?_ ?_ ?_ ?_ ?_) <;> (repeat intro hb) <;> first | exact True.intro | refine Lf.mk ?_))
  · rw [h2, hasB_drop x (by omega)]; simp [hb]
  · refine ⟨l.length - (i + 1), by omega, _, ?_, i + 1, by omega, by omega, ?_, rfl⟩
    · ((try simp only [List.length_append, List.length_cons, List.length_nil, Nat.zero_add]); refine Wk.intro [] (by decide) (by decide) (by intro o ho; simp at ho ⊢ <;> omega) ?_ ?_ <;> repeat' (first | (refine WkV.imm ?_; congr 1; omega) | exact WkVL.nil | refine WkVL.cons ?_ ?_ | exact WkV.top | exact WkV.imm rfl | exact WkV.imm (by simp) | exact WkV.optr rfl | exact WkV.own rfl (by simp) | exact WkV.nil_own (.inl rfl) | exact WkV.map rfl | (refine WkV.free ?_; simp [Free, FreeL] <;> assumption) | (refine WkV.free (fun _ _ => FreeL_nth ?_ _); simp [Free, FreeL]; done) | refine WkV.agg ?_ | refine WkV.tup ?_ | refine WkV.fn ?_ ?_ | exact WkO.dead | exact WkO.raw | refine WkO.ghost ?_ | exact WkO.mpE rfl trivial | refine WkO.box ?_ rfl | refine WkO.arr ?_ | refine And.intro ?_ (And.intro (by first | exact fun h => h | exact fun _ => rfl | exact nofun) ?_) | exact trivial | (intro i j hi hj)))
    · rw [h2, hasB_drop x (by omega)]; simp [hb]
  · congr 2
    rw [h2, List.drop_of_length_le (by omega)]
    rfl
theorem lexB_drop {a b : List Int} {i : Nat} (ha : i < a.length) (hb : i < b.length) : lexB (a.drop i) (b.drop i) = if gi a i ≠ gi b i then decide (gi a i < gi b i) else lexB (a.drop (i + 1)) (b.drop (i + 1)) := by
  rw [List.drop_eq_getElem_cons ha, List.drop_eq_getElem_cons hb, lexB]
  simp only [gi, List.getD_eq_getElem?_getD, List.getElem?_eq_getElem ha, List.getElem?_eq_getElem hb, Option.getD_some]
theorem lexB_end {a b : List Int} {i : Nat} (h : a.length ≤ i ∨ b.length ≤ i) : lexB (a.drop i) (b.drop i) = false := by
  rcases h with h | h
  · rw [List.drop_of_length_le h]; cases b.drop i <;> rfl
  · rw [List.drop_of_length_le h]; cases a.drop i <;> rfl
set_option maxRecDepth 100000 in
set_option maxHeartbeats 4000000 in
theorem less_tc (a b : List Int) (ha : a.length ≤ 9223372036854775807) (hb' : b.length ≤ 9223372036854775807) : Look Tryd.prog 27 [ints a, ints b] (.imm (.bool (lexB a b))) := by
  refine Look.mk trivial ?_
  (refine TC_of_T Γ_ok Tryd.func27 rfl (by kernel_rfl) ?_; simp only [Tryd.ntmps27, Tryd.results27, List.length_cons, List.length_nil, Nat.reduceSub, Nat.reduceAdd, List.replicate, List.cons_append, List.nil_append])
  (repeat' (first | with_reducible refine T_seq_drawT (id := 4) Γ_ok drawsAny pl27_4 (by kernel_rfl) (fun K hK => ?_) | with_reducible refine T_last_drawT (id := 4) Γ_ok drawsAny pl27_4 (by kernel_rfl) (fun K hK => ?_) | with_reducible refine T_seq_drawT (id := 5) Γ_ok drawsAny pl27_5 (by kernel_rfl) (fun K hK => ?_) | with_reducible refine T_last_drawT (id := 5) Γ_ok drawsAny pl27_5 (by kernel_rfl) (fun K hK => ?_) | ((refine goR0 _ _ _ _ _ _ _ _ ?_ ?_ ?_ ?_ ?_ ?_ ?_ ?_) <;> (repeat intro hb) <;> first | exact True.intro | refine Lf.mk ?_)))
  refine T_loopW (fun m st => ∃ i : Nat, i ≤ a.length ∧ m + i = a.length ∧ i ≤ b.length ∧ lexB a b = lexB (a.drop i) (b.drop i) ∧
      st = ⟨[ints a, ints b, .top, .top, .imm (.bool false), .imm (.int .i64 i)] ++ List.replicate 30 .top, []⟩)
      a.length ⟨_, ?_, 0, by omega, rfl, by omega, rfl, rfl⟩ ?_
  · ((try simp only [List.length_append, List.length_cons, List.length_nil, Nat.zero_add]); refine Wk.intro [] (by decide) (by decide) (by intro o ho; simp at ho ⊢ <;> omega) ?_ ?_ <;> repeat' (first | exact WkVL.nil | refine WkVL.cons ?_ ?_ | exact WkV.top | exact WkV.imm rfl | exact WkV.imm (by simp) | exact WkV.optr rfl | exact WkV.own rfl (by simp) | exact WkV.nil_own (.inl rfl) | exact WkV.map rfl | (refine WkV.free ?_; simp [Free, FreeL] <;> assumption) | (refine WkV.free (fun _ _ => FreeL_nth ?_ _); simp [Free, FreeL]; done) | refine WkV.agg ?_ | refine WkV.tup ?_ | refine WkV.fn ?_ ?_ | exact WkO.dead | exact WkO.raw | refine WkO.ghost ?_ | exact WkO.mpE rfl trivial | refine WkO.box ?_ rfl | refine WkO.arr ?_ | refine And.intro ?_ (And.intro (by first | exact fun h => h | exact fun _ => rfl | exact nofun) ?_) | exact trivial | (intro i j hi hj)))
  rintro m st ⟨i, h0, h1, h3, h2, rfl⟩
  (simp only [go_sem, ↓reduceIte, Nat.reduceAdd, Nat.reduceSub, Nat.reduceMul, Nat.reduceLT, Nat.reduceLeDiff, Nat.reduceEqDiff, Nat.reduceGT, Int.reduceToNat, Int.reduceBEq, Int.reduceBNe]; try simp (disch := omega) only [wrapI, wrapU, half_sum, toNat_sub1, toNat_add1, Int.toNat_natCast])
  (repeat' (first | with_reducible refine T_seq_drawT (id := 4) Γ_ok drawsAny pl27_4 (by kernel_rfl) (fun K hK => ?_) | with_reducible refine T_last_drawT (id := 4) Γ_ok drawsAny pl27_4 (by kernel_rfl) (fun K hK => ?_) | with_reducible refine T_seq_drawT (id := 5) Γ_ok drawsAny pl27_5 (by kernel_rfl) (fun K hK => ?_) | with_reducible refine T_last_drawT (id := 5) Γ_ok drawsAny pl27_5 (by kernel_rfl) (fun K hK => ?_) | ((refine goR0 _ _ _ _ _ _ _ _ ?_ ?_ ?_ ?_ ?_ ?_ ?_ ?_) <;> (repeat intro hb) <;> first | exact True.intro | refine Lf.mk ?_)))
  · rw [h2, lexB_drop (by omega) (by omega), if_pos hb]
  · refine ⟨a.length - (i + 1), by omega, _, ?_, i + 1, by omega, by omega, by omega, ?_, rfl⟩
    · ((try simp only [List.length_append, List.length_cons, List.length_nil, Nat.zero_add]); refine Wk.intro [] (by decide) (by decide) (by intro o ho; simp at ho ⊢ <;> omega) ?_ ?_ <;> repeat' (first | (refine WkV.imm ?_; congr 1; omega) | exact WkVL.nil | refine WkVL.cons ?_ ?_ | exact WkV.top | exact WkV.imm rfl | exact WkV.imm (by simp) | exact WkV.optr rfl | exact WkV.own rfl (by simp) | exact WkV.nil_own (.inl rfl) | exact WkV.map rfl | (refine WkV.free ?_; simp [Free, FreeL] <;> assumption) | (refine WkV.free (fun _ _ => FreeL_nth ?_ _); simp [Free, FreeL]; done) | refine WkV.agg ?_ | refine WkV.tup ?_ | refine WkV.fn ?_ ?_ | exact WkO.dead | exact WkO.raw | refine WkO.ghost ?_ | exact WkO.mpE rfl trivial | refine WkO.box ?_ rfl | refine WkO.arr ?_ | refine And.intro ?_ (And.intro (by first | exact fun h => h | exact fun _ => rfl | exact nofun) ?_) | exact trivial | (intro i j hi hj)))
    · rw [h2, lexB_drop (by omega) (by omega), if_neg (by simpa using hb)]
  · rw [h2, lexB_end (by omega)]
theorem idxK_drop {l : List Ky} {id : Int} {i : Nat} (h : i < l.length) : idxK (l.drop i) id i = if (gk l i).id = id then (i : Int) else idxK (l.drop (i + 1)) id (i + 1) := by
  rw [drop_gk h, idxK]
set_option maxRecDepth 100000 in
set_option maxHeartbeats 4000000 in
theorem key_tc (b : Bd) (id : Int) (hl : b.ks.length ≤ 9223372036854775807) : Look Tryd.prog 48 [bdA b, .imm (.int .i64 id)] (.imm (.int .i64 (keyI b id))) := by
  refine Look.mk trivial ?_
  (refine TC_of_T Γ_ok Tryd.func48 rfl (by kernel_rfl) ?_; simp only [Tryd.ntmps48, Tryd.results48, List.length_cons, List.length_nil, Nat.reduceSub, Nat.reduceAdd, List.replicate, List.cons_append, List.nil_append])
  (((refine goR0 _ _ _ _ _ _ _ _ ?_ ?_ ?_ ?_ ?_ ?_ ?_ ?_) <;> (repeat intro hb) <;> first | exact True.intro | refine Lf.mk ?_))
  refine T_loopW (fun m st => ∃ i : Nat, i ≤ b.ks.length ∧ m + i = b.ks.length ∧ keyI b id = idxK (b.ks.drop i) id i ∧
      st = ⟨[bdA b, .imm (.int .i64 id), .optr 0 0 0, .top, .imm (.int .i64 0), .imm (.int .i64 i)] ++ List.replicate 16 .top, [.box 24 (bdL b)]⟩)
      b.ks.length ⟨_, ?_, 0, by omega, rfl, rfl, rfl⟩ ?_
  · ((try simp only [List.length_append, List.length_cons, List.length_nil, Nat.zero_add]); refine Wk.intro [0] (by decide) (by decide) (by intro o ho; simp at ho ⊢ <;> omega) ?_ ?_ <;> repeat' (first | exact WkVL.nil | refine WkVL.cons ?_ ?_ | exact WkV.top | exact WkV.imm rfl | exact WkV.imm (by simp) | exact WkV.optr rfl | exact WkV.own rfl (by simp) | exact WkV.nil_own (.inl rfl) | exact WkV.map rfl | (refine WkV.free ?_; simp [Free, FreeL] <;> assumption) | (refine WkV.free (fun _ _ => FreeL_nth ?_ _); simp [Free, FreeL]; done) | refine WkV.agg ?_ | refine WkV.tup ?_ | refine WkV.fn ?_ ?_ | exact WkO.dead | exact WkO.raw | refine WkO.ghost ?_ | exact WkO.mpE rfl trivial | refine WkO.box ?_ rfl | refine WkO.arr ?_ | refine And.intro ?_ (And.intro (by first | exact fun h => h | exact fun _ => rfl | exact nofun) ?_) | exact trivial | (intro i j hi hj)))
  rintro m st ⟨i, h0, h1, h2, rfl⟩
  (simp only [go_sem, ↓reduceIte, Nat.reduceAdd, Nat.reduceSub, Nat.reduceMul, Nat.reduceLT, Nat.reduceLeDiff, Nat.reduceEqDiff, Nat.reduceGT, Int.reduceToNat, Int.reduceBEq, Int.reduceBNe]; try simp (disch := omega) only [wrapI, wrapU, half_sum, toNat_sub1, toNat_add1, Int.toNat_natCast])
  (((refine goR0 _ _ _ _ _ _ _ _ ?_ ?_ ?_ ?_ ?_ ?_ ?_ ?_) <;> (repeat intro hb) <;> first | exact True.intro | refine Lf.mk ?_))
  · rw [h2, idxK_drop (by omega), if_pos hb]
  · refine ⟨b.ks.length - (i + 1), by omega, _, ?_, i + 1, by omega, by omega, ?_, rfl⟩
    · ((try simp only [List.length_append, List.length_cons, List.length_nil, Nat.zero_add]); refine Wk.intro [0] (by decide) (by decide) (by intro o ho; simp at ho ⊢ <;> omega) ?_ ?_ <;> repeat' (first | (refine WkV.imm ?_; congr 1; omega) | exact WkVL.nil | refine WkVL.cons ?_ ?_ | exact WkV.top | exact WkV.imm rfl | exact WkV.imm (by simp) | exact WkV.optr rfl | exact WkV.own rfl (by simp) | exact WkV.nil_own (.inl rfl) | exact WkV.map rfl | (refine WkV.free ?_; simp [Free, FreeL] <;> assumption) | (refine WkV.free (fun _ _ => FreeL_nth ?_ _); simp [Free, FreeL]; done) | refine WkV.agg ?_ | refine WkV.tup ?_ | refine WkV.fn ?_ ?_ | exact WkO.dead | exact WkO.raw | refine WkO.ghost ?_ | exact WkO.mpE rfl trivial | refine WkO.box ?_ rfl | refine WkO.arr ?_ | refine And.intro ?_ (And.intro (by first | exact fun h => h | exact fun _ => rfl | exact nofun) ?_) | exact trivial | (intro i j hi hj)))
    · rw [h2, idxK_drop (by omega), if_neg hb]
  · congr 2
    rw [h2, List.drop_of_length_le (by omega)]
    rfl
end Go.Proofs.YtddcnafocohghaaDoor
