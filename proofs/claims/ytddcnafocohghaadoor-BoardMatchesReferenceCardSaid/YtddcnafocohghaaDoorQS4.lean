/-
  Parts joined: C1 C2.
-/
import Derived.Test.YtddcnafocohghaaDoorQGo
import Derived.Test.YtddcnafocohghaaDoorQB11
import Derived.Test.YtddcnafocohghaaDoorQB9
import Derived.Test.YtddcnafocohghaaDoorQP4
set_option linter.unusedSimpArgs false
set_option linter.unusedVariables false
namespace Go.Proofs.YtddcnafocohghaaDoor
open Go.Ab
theorem ext_gi {a b : List Int} (h : a.length = b.length) (hg : ∀ j, j < a.length → gi a j = gi b j) : a = b := by
  refine List.ext_getElem h fun i h1 h2 => ?_
  have := hg i h1
  simpa [gi, h1, h2] using this
set_option maxRecDepth 100000 in
set_option maxHeartbeats 4000000 in
theorem same_tc (a b : List Int) (ha : a.length ≤ 9223372036854775807) (hb' : b.length ≤ 9223372036854775807) : Look Tryd.prog 16 [ints a, ints b] (.imm (.bool (decide (a = b)))) := by
  refine Look.mk trivial ?_
  (refine TC_of_T Γ_ok Tryd.func16 rfl (by kernel_rfl) ?_; simp only [Tryd.ntmps16, Tryd.results16, List.length_cons, List.length_nil, Nat.reduceSub, Nat.reduceAdd, List.replicate, List.cons_append, List.nil_append])
  (repeat' (first | with_reducible refine T_seq_drawT (id := 6) Γ_ok drawsAny pl16_6 (by kernel_rfl) (fun K hK => ?_) | with_reducible refine T_last_drawT (id := 6) Γ_ok drawsAny pl16_6 (by kernel_rfl) (fun K hK => ?_) | ((refine goR0 _ _ _ _ _ _ _ _ ?_ ?_ ?_ ?_ ?_ ?_ ?_ ?_) <;> (repeat intro hb) <;> first | exact True.intro | refine Lf.mk ?_)))
  · rw [decide_eq_false (p := a = b) (fun h => by rw [h] at hb; exact hb rfl)]
  refine T_loopW (fun m st => ∃ i : Nat, i ≤ a.length ∧ m + i = a.length ∧ (∀ j, j < i → gi a j = gi b j) ∧
      st = ⟨[ints a, ints b, .top, .top, .imm (.bool false), .imm (.int .i64 i)] ++ List.replicate 20 .top, []⟩)
      a.length ⟨_, ?_, 0, by omega, rfl, fun j hj => by omega, rfl⟩ ?_
  · ((try simp only [List.length_append, List.length_cons, List.length_nil, Nat.zero_add]); refine Wk.intro [] (by decide) (by decide) (by intro o ho; simp at ho ⊢ <;> omega) ?_ ?_ <;> repeat' (first | exact WkVL.nil | refine WkVL.cons ?_ ?_ | exact WkV.top | exact WkV.imm rfl | exact WkV.imm (by simp) | exact WkV.optr rfl | exact WkV.own rfl (by simp) | exact WkV.nil_own (.inl rfl) | exact WkV.map rfl | (refine WkV.free ?_; simp [Free, FreeL] <;> assumption) | (refine WkV.free (fun _ _ => FreeL_nth ?_ _); simp [Free, FreeL]; done) | refine WkV.agg ?_ | refine WkV.tup ?_ | refine WkV.fn ?_ ?_ | exact WkO.dead | exact WkO.raw | refine WkO.ghost ?_ | exact WkO.mpE rfl trivial | refine WkO.box ?_ rfl | refine WkO.arr ?_ | refine And.intro ?_ (And.intro (by first | exact fun h => h | exact fun _ => rfl | exact nofun) ?_) | exact trivial | (intro i j hi hj)))
  rintro m st ⟨i, h0, h1, h2, rfl⟩
  (simp only [go_sem, ↓reduceIte, Nat.reduceAdd, Nat.reduceSub, Nat.reduceMul, Nat.reduceLT, Nat.reduceLeDiff, Nat.reduceEqDiff, Nat.reduceGT, Int.reduceToNat, Int.reduceBEq, Int.reduceBNe]; try simp (disch := omega) only [wrapI, wrapU, half_sum, toNat_sub1, toNat_add1, Int.toNat_natCast])
  (repeat' (first | with_reducible refine T_seq_drawT (id := 6) Γ_ok drawsAny pl16_6 (by kernel_rfl) (fun K hK => ?_) | with_reducible refine T_last_drawT (id := 6) Γ_ok drawsAny pl16_6 (by kernel_rfl) (fun K hK => ?_) | ((refine goR0 _ _ _ _ _ _ _ _ ?_ ?_ ?_ ?_ ?_ ?_ ?_ ?_) <;> (repeat intro hb) <;> first | exact True.intro | refine Lf.mk ?_)))
  · rw [decide_eq_false (p := a = b) (fun h => by rw [h] at hb; exact hb rfl)]
  · refine ⟨a.length - (i + 1), by omega, _, ?_, i + 1, by omega, by omega, fun j hj => ?_, rfl⟩
    · ((try simp only [List.length_append, List.length_cons, List.length_nil, Nat.zero_add]); refine Wk.intro [] (by decide) (by decide) (by intro o ho; simp at ho ⊢ <;> omega) ?_ ?_ <;> repeat' (first | (refine WkV.imm ?_; congr 1; omega) | exact WkVL.nil | refine WkVL.cons ?_ ?_ | exact WkV.top | exact WkV.imm rfl | exact WkV.imm (by simp) | exact WkV.optr rfl | exact WkV.own rfl (by simp) | exact WkV.nil_own (.inl rfl) | exact WkV.map rfl | (refine WkV.free ?_; simp [Free, FreeL] <;> assumption) | (refine WkV.free (fun _ _ => FreeL_nth ?_ _); simp [Free, FreeL]; done) | refine WkV.agg ?_ | refine WkV.tup ?_ | refine WkV.fn ?_ ?_ | exact WkO.dead | exact WkO.raw | refine WkO.ghost ?_ | exact WkO.mpE rfl trivial | refine WkO.box ?_ rfl | refine WkO.arr ?_ | refine And.intro ?_ (And.intro (by first | exact fun h => h | exact fun _ => rfl | exact nofun) ?_) | exact trivial | (intro i j hi hj)))
    · by_cases e : j = i
      · subst e; exact hb
      · exact h2 j (by omega)
  · rw [decide_eq_true (p := a = b) (ext_gi (by omega) fun j hj => h2 j (by omega))]
theorem idxK_drop {l : List Ky} {id : Int} {i : Nat} (h : i < l.length) : idxK (l.drop i) id i = if (gk l i).id = id then (i : Int) else idxK (l.drop (i + 1)) id (i + 1) := by
  rw [drop_gk h, idxK]
end Go.Proofs.YtddcnafocohghaaDoor
namespace Go.Proofs.YtddcnafocohghaaDoor
open Go.Ab
end Go.Proofs.YtddcnafocohghaaDoor
