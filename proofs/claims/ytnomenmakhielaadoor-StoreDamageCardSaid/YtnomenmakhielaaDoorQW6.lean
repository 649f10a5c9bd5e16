/-
  Contracts of the references' Take, Valid, Index and Find.
-/
import Derived.Test.YtnomenmakhielaaDoorQGo
import Derived.Test.YtnomenmakhielaaDoorQK1
set_option linter.unusedSimpArgs false
set_option linter.unusedVariables false
namespace Go.Proofs.YtnomenmakhielaaDoor
open Go.Ab

set_option maxRecDepth 100000 in
set_option maxHeartbeats 400000 in
theorem rtake_tc (s c n d : Int) : Look Tryd.prog 50 [.agg [.imm (.int .i64 s), .imm (.int .i64 c), .imm (.int .i64 n), .imm (.int .i64 d)]] (.imm (.bool (takeB s c n d))) := by
  refine Look.mk trivial ?_
  (refine TC_of_T Γ_ok Tryd.func50 rfl (by kernel_rfl) ?_; simp only [Tryd.ntmps50, Tryd.results50, List.length_cons, List.length_nil, Nat.reduceSub, Nat.reduceAdd, List.replicate, List.cons_append, List.nil_append])
  (((refine goR0 _ _ _ _ _ _ _ _ ?_ ?_ ?_ ?_ ?_ ?_ ?_ ?_) <;> (repeat intro hb) <;> first | exact True.intro | refine Lf.mk ?_))
  all_goals (refine congrArg (fun b => AV.imm (.bool b)) ?_; unfold takeB; grind)

open Classical in
set_option maxRecDepth 100000 in
set_option maxHeartbeats 400000 in
theorem rvalid_tc (l : List Tk) (hl : l.length ≤ 9223372036854775807) : Look Tryd.prog 79 [tks l] (.imm (.bool (decide (Val l)))) := by
  refine Look.mk trivial ?_
  (refine TC_of_T Γ_ok Tryd.func79 rfl (by kernel_rfl) ?_; simp only [Tryd.ntmps79, Tryd.results79, List.length_cons, List.length_nil, Nat.reduceSub, Nat.reduceAdd, List.replicate, List.cons_append, List.nil_append])
  (((refine goR0 _ _ _ _ _ _ _ _ ?_ ?_ ?_ ?_ ?_ ?_ ?_ ?_) <;> (repeat intro hb) <;> first | exact True.intro | refine Lf.mk ?_))
  refine T_loopW (fun m st => ∃ i : Nat, i ≤ l.length ∧ m + i = l.length ∧ (∀ j, j < i → OkT (gt l j)) ∧ (∀ j, j + 1 < i → (gt l j).s < (gt l (j + 1)).s) ∧ st = ⟨[tks l, .top, .imm (.bool false), .imm (.int .i64 i)] ++ List.replicate 30 .top, []⟩)
    l.length ⟨_, Wk.refl _, 0, Nat.zero_le _, rfl, fun j hj => by omega, fun j hj => by omega, rfl⟩ ?_
  rintro m st ⟨i, h1, h2, h3, h4, rfl⟩
  (simp only [go_sem, ↓reduceIte, Nat.reduceAdd, Nat.reduceSub, Nat.reduceMul, Nat.reduceLT, Nat.reduceLeDiff, Nat.reduceEqDiff, Nat.reduceGT, Int.reduceToNat, Int.reduceBEq, Int.reduceBNe]; try simp (disch := omega) only [wrapI, wrapU, half_sum, toNat_sub1, toNat_add1, Int.toNat_natCast])
  (have cl1 := fun u1 u2 u3 u4 => rtake_tc u1 u2 u3 u4; repeat' (first | with_reducible refine T_seq_drawT (id := 4) Γ_ok drawsAny pl79_4 (by kernel_rfl) (fun K hK => ?_) | with_reducible refine T_last_drawT (id := 4) Γ_ok drawsAny pl79_4 (by kernel_rfl) (fun K hK => ?_) | ((refine goR0 _ _ _ _ _ _ _ _ ?_ ?_ ?_ ?_ ?_ ?_ ?_ ?_) <;> (repeat intro hb) <;> first | exact True.intro | refine Lf.mk ?_)))
  · refine immD ⟨fun h => Bool.noConfusion h, fun h => ?_⟩
    rcases hb with hb | ⟨h5, h6⟩
    · have := h.1 i (by omega)
      unfold OkT at this
      rw [this] at hb
      cases hb
    · have := h.2 (i - 1) (by omega)
      rw [show i - 1 + 1 = i by omega] at this
      omega
  · refine ⟨l.length - (i + 1), by omega, _, ?_, i + 1, by omega, by omega, fun j hj => ?_, fun j hj => ?_, rfl⟩
    · ((try simp only [List.length_append, List.length_cons, List.length_nil, Nat.zero_add]); refine Wk.intro [] (by decide) (by decide) (by intro o ho; simp at ho ⊢ <;> omega) ?_ ?_ <;> repeat' (first | exact WkVL.nil | refine WkVL.cons ?_ ?_ | exact WkV.top | exact WkV.imm rfl | exact WkV.imm (by simp) | exact WkV.optr rfl | exact WkV.own rfl (by simp) | exact WkV.nil_own (.inl rfl) | exact WkV.map rfl | (refine WkV.free ?_; simp [Free, FreeL] <;> assumption) | (refine WkV.free (fun _ _ => FreeL_nth ?_ _); simp [Free, FreeL]; done) | refine WkV.agg ?_ | refine WkV.tup ?_ | refine WkV.fn ?_ ?_ | exact WkO.dead | exact WkO.raw | refine WkO.ghost ?_ | exact WkO.mpE rfl trivial | refine WkO.box ?_ rfl | refine WkO.arr ?_ | refine And.intro ?_ (And.intro (by first | exact fun h => h | exact fun _ => rfl | exact nofun) ?_) | exact trivial | (intro i j hi hj)))
    · by_cases e : j = i
      · rw [e]; exact hb.1
      · exact h3 j (by omega)
    · by_cases e : j + 1 = i
      · have := hb.2 (by omega)
        rw [← e] at this
        simpa using this
      · exact h4 j (by omega)
  · exact immD ⟨fun _ => ⟨fun j hj => h3 j (by omega), fun j hj => h4 j (by omega)⟩, fun _ => rfl⟩

/-- The reference's index: where the section is, or -1. -/
def rix (l : List Tk) (k : Int) : Int := if h : ∃ i, i < l.length ∧ (gt l i).s = k then (l.findIdx fun t => decide (t.s = k) : Nat) else -1

theorem rix_first {l : List Tk} {k : Int} {i : Nat} (hi : i < l.length) (he : (gt l i).s = k) (hb : ∀ j, j < i → (gt l j).s ≠ k) : rix l k = i := by
  unfold rix
  rw [dif_pos ⟨i, hi, he⟩]
  congr 1
  rw [List.findIdx_eq hi]
  have hg : ∀ {j} (hj : j < l.length), l[j] = gt l j := fun hj => by simp [gt, hj]
  refine ⟨by rw [hg]; simpa using he, fun j hj => ?_⟩
  rw [hg]
  simpa using hb j hj

theorem rix_none {l : List Tk} {k : Int} (h : ∀ j, j < l.length → (gt l j).s ≠ k) : rix l k = -1 := by
  unfold rix
  rw [dif_neg fun ⟨i, hi, he⟩ => h i hi he]

theorem rix_lt (l : List Tk) (k : Int) : rix l k < l.length := by
  unfold rix
  split
  · rename_i h
    obtain ⟨i, hi, he⟩ := h
    have : (l.findIdx fun t => decide (t.s = k)) < l.length := List.findIdx_lt_length_of_exists ⟨gt l i, by simp [gt, hi], by simpa using he⟩
    omega
  · omega

set_option maxRecDepth 100000 in
set_option maxHeartbeats 400000 in
theorem rix_tc (l : List Tk) (k : Int) (hl : l.length ≤ 9223372036854775807) : Look Tryd.prog 80 [tks l, .imm (.int .i64 k)] (.imm (.int .i64 (rix l k))) := by
  refine Look.mk trivial ?_
  (refine TC_of_T Γ_ok Tryd.func80 rfl (by kernel_rfl) ?_; simp only [Tryd.ntmps80, Tryd.results80, List.length_cons, List.length_nil, Nat.reduceSub, Nat.reduceAdd, List.replicate, List.cons_append, List.nil_append])
  (((refine goR0 _ _ _ _ _ _ _ _ ?_ ?_ ?_ ?_ ?_ ?_ ?_ ?_) <;> (repeat intro hb) <;> first | exact True.intro | refine Lf.mk ?_))
  refine T_loopW (fun m st => ∃ i : Nat, i ≤ l.length ∧ m + i = l.length ∧ (∀ j, j < i → (gt l j).s ≠ k) ∧ st = ⟨[tks l, .imm (.int .i64 k), .top, .top, .imm (.int .i64 0), .imm (.int .i64 i)] ++ List.replicate 14 .top, []⟩)
    l.length ⟨_, Wk.refl _, 0, Nat.zero_le _, rfl, fun j hj => by omega, rfl⟩ ?_
  rintro m st ⟨i, h1, h2, h3, rfl⟩
  (simp only [go_sem, ↓reduceIte, Nat.reduceAdd, Nat.reduceSub, Nat.reduceMul, Nat.reduceLT, Nat.reduceLeDiff, Nat.reduceEqDiff, Nat.reduceGT, Int.reduceToNat, Int.reduceBEq, Int.reduceBNe]; try simp (disch := omega) only [wrapI, wrapU, half_sum, toNat_sub1, toNat_add1, Int.toNat_natCast])
  (((refine goR0 _ _ _ _ _ _ _ _ ?_ ?_ ?_ ?_ ?_ ?_ ?_ ?_) <;> (repeat intro hb) <;> first | exact True.intro | refine Lf.mk ?_))
  · rw [rix_first (by omega) hb h3]
  · refine ⟨l.length - (i + 1), by omega, _, ?_, i + 1, by omega, by omega, fun j hj => ?_, rfl⟩
    · ((try simp only [List.length_append, List.length_cons, List.length_nil, Nat.zero_add]); refine Wk.intro [] (by decide) (by decide) (by intro o ho; simp at ho ⊢ <;> omega) ?_ ?_ <;> repeat' (first | exact WkVL.nil | refine WkVL.cons ?_ ?_ | exact WkV.top | exact WkV.imm rfl | exact WkV.imm (by simp) | exact WkV.optr rfl | exact WkV.own rfl (by simp) | exact WkV.nil_own (.inl rfl) | exact WkV.map rfl | (refine WkV.free ?_; simp [Free, FreeL] <;> assumption) | (refine WkV.free (fun _ _ => FreeL_nth ?_ _); simp [Free, FreeL]; done) | refine WkV.agg ?_ | refine WkV.tup ?_ | refine WkV.fn ?_ ?_ | exact WkO.dead | exact WkO.raw | refine WkO.ghost ?_ | exact WkO.mpE rfl trivial | refine WkO.box ?_ rfl | refine WkO.arr ?_ | refine And.intro ?_ (And.intro (by first | exact fun h => h | exact fun _ => rfl | exact nofun) ?_) | exact trivial | (intro i j hi hj)))
    · by_cases e : j = i
      · rw [e]; exact hb
      · exact h3 j (by omega)
  · rw [rix_none fun j hj => h3 j (by omega)]

theorem low_spec {l : List Tk} (k : Int) (hr : Ris l) : low l k ≤ l.length ∧ (∀ j, j < low l k → (gt l j).s < k) ∧ (∀ j, low l k ≤ j → j < l.length → k ≤ (gt l j).s) := by
  have key : ∃ i, i ≤ l.length ∧ (∀ j, j < i → (gt l j).s < k) ∧ (∀ j, i ≤ j → j < l.length → k ≤ (gt l j).s) := by
    by_cases h : ∃ i, i < l.length ∧ k ≤ (gt l i).s
    · obtain ⟨i, ⟨hi, hk⟩, hmin⟩ := exists_min (p := fun i => i < l.length ∧ k ≤ (gt l i).s) (m := h.choose) h.choose_spec
      refine ⟨i, by omega, fun j hj => ?_, fun j hj hjl => ?_⟩
      · have : ¬ (j < l.length ∧ k ≤ (gt l j).s) := fun q => by have := hmin j q; omega
        have hjl : j < l.length := by omega
        exact Int.not_le.1 fun q => this ⟨hjl, q⟩
      · by_cases e : i = j
        · rw [← e]; exact hk
        · exact Int.le_trans hk (Int.le_of_lt (hr.lt (by omega) hjl))
    · exact ⟨l.length, Nat.le_refl _, fun j hj => Int.not_le.1 fun q => h ⟨j, hj, q⟩, fun j h1 h2 => by omega⟩
  obtain ⟨i, h1, h2, h3⟩ := key
  rw [low_eq h1 h2 h3]
  exact ⟨h1, h2, h3⟩

theorem rix_low {l : List Tk} (k : Int) (hr : Ris l) : rix l k = if low l k < l.length ∧ (gt l (low l k)).s = k then (low l k : Int) else -1 := by
  obtain ⟨h1, h2, h3⟩ := low_spec k hr
  split
  · rename_i h
    exact rix_first h.1 h.2 fun j hj => by have := h2 j hj; omega
  · rename_i h
    refine rix_none fun j hj e => ?_
    by_cases q : j < low l k
    · have := h2 j q; omega
    · have h4 := h3 (low l k) (Nat.le_refl _) (by omega)
      by_cases e2 : low l k = j
      · exact h ⟨by omega, by rw [e2]; exact e⟩
      · have := hr.lt (i := low l k) (j := j) (by omega) hj
        omega

end Go.Proofs.YtnomenmakhielaaDoor
