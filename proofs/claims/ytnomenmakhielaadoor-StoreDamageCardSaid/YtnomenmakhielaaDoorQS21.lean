/-
  The reference's Whole, Disk, Append, Sync, Crash, Recover.
-/
import Derived.Test.YtnomenmakhielaaDoorQGo
import Derived.Test.YtnomenmakhielaaDoorQS20
import Derived.Test.YtnomenmakhielaaDoorQS19b
set_option linter.unusedSimpArgs false
set_option linter.unusedVariables false
namespace Go.Proofs.YtnomenmakhielaaDoor
open Go.Ab

theorem byE_from (b : List Nat) (i n : Nat) : ∀ k j, k < n → j < 1 → AV.imm (.int .u8 ((gb8 b (i + k) : Nat) : Int)) = byE (b.drop i) k j := by
  intro k j _ _
  unfold byE gb8
  simp

set_option maxRecDepth 100000 in
set_option maxHeartbeats 4000000 in
theorem rwhole_raw (b : List Nat) (hb : ByOk b) (hl : b.length ≤ 1000000) : TC Tryd.prog 44 [bys b] [] (fun v σ' => (v = .tup [.imm (.slice none 0 0), .imm (.int .i64 (wholeN b).2)] ∧ (wholeN b).1.length = 0) ∨
    ∃ k E', v = .tup [.own k 0 (wholeN b).1.length none, .imm (.int .i64 (wholeN b).2)] ∧ nthO σ' k = .arr 39 7 (wholeN b).1.length E' ∧ ∀ i j, i < (wholeN b).1.length → j < 7 → E' i j = rcE (wholeN b).1 i j) := by
  (refine TC_of_T Γ_ok Tryd.func44 rfl (by kernel_rfl) ?_; simp only [Tryd.ntmps44, Tryd.results44, List.length_cons, List.length_nil, Nat.reduceSub, Nat.reduceAdd, List.replicate, List.cons_append, List.nil_append])
  (((refine goR0 _ _ _ _ _ _ _ _ ?_ ?_ ?_ ?_ ?_ ?_ ?_ ?_) <;> (repeat intro hb) <;> first | exact True.intro | refine Lf.mk ?_))
  refine T_loopW (fun m st => ∃ (i : Nat) (out : List Rcd), i ≤ b.length ∧ out.length ≤ i ∧ m + i = b.length ∧ wholeN b = (out ++ (wholeN (b.drop i)).1, i + (wholeN (b.drop i)).2) ∧
      st = ⟨[bys b, .top, .imm (.slice none 0 0), .imm (.int .i64 0), .own 0 0 out.length none, .imm (.int .i64 i)] ++ List.replicate 20 .top, [rcO out]⟩)
    b.length ⟨_, Wk.trans (Wk.push 39 7 (rcE [])) ?_, 0, [], by omega, by simp, rfl, by simp, rfl⟩ ?_
  · ((try simp only [List.length_append, List.length_cons, List.length_nil, Nat.zero_add]); refine Wk.intro [0] (by decide) (by decide) (by intro o ho; simp at ho ⊢ <;> omega) ?_ ?_ <;> repeat' (first | exact WkVL.nil | refine WkVL.cons ?_ ?_ | exact WkV.top | exact WkV.imm rfl | exact WkV.imm (by simp) | exact WkV.optr rfl | exact WkV.own rfl (by simp) | exact WkV.nil_own (.inl rfl) | exact WkV.map rfl | (refine WkV.free ?_; simp [Free, FreeL] <;> assumption) | (refine WkV.free (fun _ _ => FreeL_nth ?_ _); simp [Free, FreeL]; done) | refine WkV.agg ?_ | refine WkV.tup ?_ | refine WkV.fn ?_ ?_ | exact WkO.dead | exact WkO.raw | refine WkO.ghost ?_ | exact WkO.mpE rfl trivial | refine WkO.box ?_ rfl | refine WkO.arr ?_ | refine And.intro ?_ (And.intro (by first | exact fun h => h | exact fun _ => rfl | exact nofun) ?_) | exact trivial | (intro i j hi hj)))
  rintro m st ⟨i, out, h1, h2, h3, h4, rfl⟩
  (simp only [go_sem, ↓reduceIte, Nat.reduceAdd, Nat.reduceSub, Nat.reduceMul, Nat.reduceLT, Nat.reduceLeDiff, Nat.reduceEqDiff, Nat.reduceGT, Int.reduceToNat, Int.reduceBEq, Int.reduceBNe]; try simp (disch := omega) only [wrapI, wrapU, half_sum, toNat_sub1, toNat_add1, Int.toNat_natCast])
  have hv1 := byE_from b i (b.length - i)
  have hr := read_tc (b.drop i) (hb.drop i) (by simp; omega)
  rw [show bys (b.drop i) = .view (b.length - i) 1 (byE (b.drop i)) by simp [bys]] at hr
  rcases rec_read (hb.drop i) with ⟨e1, e2⟩ | ⟨r, n, e1, e2⟩
  · have hf : wholeN b = (out, i) := by rw [h4, wholeN_none e1]; simp
    rw [e2] at hr
    generalize b.drop i = t at hr hv1
    (have cl1 := hr; ((refine goR0 _ _ _ _ _ _ _ _ ?_ ?_ ?_ ?_ ?_ ?_ ?_ ?_) <;> (repeat intro hb) <;> first | exact True.intro | refine Lf.mk ?_))
    exact .inr ⟨0, _, by rw [hf], by rw [hf]; rfl, fun _ _ _ _ => by rw [hf]⟩
  · have hn := recN_len e1
    simp only [List.length_drop] at hn
    have hw := wholeN_some e1
    rw [List.drop_drop] at hw
    rw [e2] at hr
    rw [hw] at h4
    generalize b.drop i = t at hr hv1
    (have cl1 := hr; ((refine goR0 _ _ _ _ _ _ _ _ ?_ ?_ ?_ ?_ ?_ ?_ ?_ ?_) <;> (repeat intro hb) <;> first | exact True.intro | refine Lf.mk ?_))
    refine ⟨b.length - (i + n), by omega, _, ?_, i + n, out ++ [r], by omega, by simp; omega, by omega, by rw [h4]; simp [Nat.add_assoc], rfl⟩
    ((try simp only [List.length_append, List.length_cons, List.length_nil, Nat.zero_add]); refine Wk.intro [3] (by decide) (by decide) (by intro o ho; simp at ho ⊢ <;> omega) ?_ ?_ <;> repeat' (first | exact WkV.eqF (rc_snoc out r (by simpa using hi) hj) (rcE_free _ _ _) | exact WkVL.nil | refine WkVL.cons ?_ ?_ | exact WkV.top | exact WkV.imm rfl | exact WkV.imm (by simp) | exact WkV.optr rfl | exact WkV.own rfl (by simp) | exact WkV.nil_own (.inl rfl) | exact WkV.map rfl | (refine WkV.free ?_; simp [Free, FreeL] <;> assumption) | (refine WkV.free (fun _ _ => FreeL_nth ?_ _); simp [Free, FreeL]; done) | refine WkV.agg ?_ | refine WkV.tup ?_ | refine WkV.fn ?_ ?_ | exact WkO.dead | exact WkO.raw | refine WkO.ghost ?_ | exact WkO.mpE rfl trivial | refine WkO.box ?_ rfl | refine WkO.arr ?_ | refine And.intro ?_ (And.intro (by first | exact fun h => h | exact fun _ => rfl | exact nofun) ?_) | exact trivial | (intro i j hi hj)))
theorem rwhole_tc (b : List Nat) (hb : ByOk b) (hl : b.length ≤ 1000000) : Makes Tryd.prog 44 [bys b] (.tup [ownR (wholeN b).1, .imm (.int .i64 (wholeN b).2)]) [rcO (wholeN b).1] := Makes.lstJ (rcE_pl _) trivial (rwhole_raw b hb hl)

set_option maxRecDepth 100000 in
set_option maxHeartbeats 400000 in
theorem rdisk_tc (d : Dsk) (hl : d.b.length ≤ 9223372036854775807) : Look Tryd.prog 43 [dsA d] (.imm (.bool (soundB d))) := by
  refine Look.mk trivial ?_
  (refine TC_of_T Γ_ok Tryd.func43 rfl (by kernel_rfl) ?_; simp only [Tryd.ntmps43, Tryd.results43, List.length_cons, List.length_nil, Nat.reduceSub, Nat.reduceAdd, List.replicate, List.cons_append, List.nil_append])
  (((refine goR0 _ _ _ _ _ _ _ _ ?_ ?_ ?_ ?_ ?_ ?_ ?_ ?_) <;> (repeat intro hb) <;> first | exact True.intro | refine Lf.mk ?_))
  congr 2
  simp [soundB, Bool.and_assoc]
  rw [show decide ((d.b.length : Int) ≤ 100000) = decide (d.b.length ≤ 100000) from decide_eq_decide.2 (by omega)]
end Go.Proofs.YtnomenmakhielaaDoor
