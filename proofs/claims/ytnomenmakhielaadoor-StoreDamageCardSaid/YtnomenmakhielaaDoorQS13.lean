/-
  Bytes put together: slices.Concat of two.
-/
import Derived.Test.YtnomenmakhielaaDoorQGo
import Derived.Test.YtnomenmakhielaaDoorQS12
set_option linter.unusedSimpArgs false
set_option linter.unusedVariables false
namespace Go.Proofs.YtnomenmakhielaaDoor
open Go.Ab

set_option maxRecDepth 100000 in
set_option maxHeartbeats 400000 in
theorem grow_raw (n : Nat) (hn : n ≤ 1000000) : TC Tryd.prog 63 [.imm (.slice none 0 0), .imm (.int .i64 n)] [] (fun v σ' => ∃ k c len E, v = .own k 0 0 c ∧ nthO σ' k = .arr 5 1 len E) := by
  (refine TC_of_T Γ_ok Tryd.func63 rfl (by kernel_rfl) ?_; simp only [Tryd.ntmps63, Tryd.results63, List.length_cons, List.length_nil, Nat.reduceSub, Nat.reduceAdd, List.replicate, List.cons_append, List.nil_append])
  refine T_wk (Wk.trans (Wk.push 5 1 (byE [])) (c := ⟨[.own 0 0 0 (some 0), .imm (.int .i64 n)] ++ List.replicate 25 .top, [.arr 5 1 0 (byE [])]⟩) ?_) ?_
  · ((try simp only [List.length_append, List.length_cons, List.length_nil, Nat.zero_add]); refine Wk.intro [0] (by decide) (by decide) (by intro o ho; simp at ho ⊢ <;> omega) ?_ ?_ <;> repeat' (first | exact WkV.nil_own (.inr rfl) | exact WkVL.nil | refine WkVL.cons ?_ ?_ | exact WkV.top | exact WkV.imm rfl | exact WkV.imm (by simp) | exact WkV.optr rfl | exact WkV.own rfl (by simp) | exact WkV.nil_own (.inl rfl) | exact WkV.map rfl | (refine WkV.free ?_; simp [Free, FreeL] <;> assumption) | (refine WkV.free (fun _ _ => FreeL_nth ?_ _); simp [Free, FreeL]; done) | refine WkV.agg ?_ | refine WkV.tup ?_ | refine WkV.fn ?_ ?_ | exact WkO.dead | exact WkO.raw | refine WkO.ghost ?_ | exact WkO.mpE rfl trivial | refine WkO.box ?_ rfl | refine WkO.arr ?_ | refine And.intro ?_ (And.intro (by first | exact fun h => h | exact fun _ => rfl | exact nofun) ?_) | exact trivial | (intro i j hi hj)))
  (simp only [go_sem, ↓reduceIte, Nat.reduceAdd, Nat.reduceSub, Nat.reduceMul, Nat.reduceLT, Nat.reduceLeDiff, Nat.reduceEqDiff, Nat.reduceGT, Int.reduceToNat, Int.reduceBEq, Int.reduceBNe]; try simp (disch := omega) only [wrapI, wrapU, half_sum, toNat_sub1, toNat_add1, Int.toNat_natCast])
  by_cases h0 : 0 < n
  · (((refine goR0 _ _ _ _ _ _ _ _ ?_ ?_ ?_ ?_ ?_ ?_ ?_ ?_) <;> (repeat intro hb) <;> first | exact True.intro | refine Lf.mk ?_))
    all_goals exact ⟨_, _, _, _, rfl, rfl⟩
  · obtain rfl : n = 0 := by omega
    (((refine goR0 _ _ _ _ _ _ _ _ ?_ ?_ ?_ ?_ ?_ ?_ ?_ ?_) <;> (repeat intro hb) <;> first | exact True.intro | refine Lf.mk ?_))
    all_goals exact ⟨_, _, _, _, rfl, rfl⟩
theorem grow_new (n : Nat) (hn : n ≤ 1000000) : Makes Tryd.prog 63 [.imm (.slice none 0 0), .imm (.int .i64 n)] (.own 0 0 0 none) [.arr 5 1 0 (byE [])] :=
  ⟨(grow_raw n hn).weak fun v σ' ⟨k, c, len, E, hv, hk⟩ => ⟨[k], _, _, by simp, by simp, by have := nthO_lt hk (by simp); simpa using this, by rw [hv]; exact WkV.own rfl (by simp),
    by simp only [WkOL, hk]; exact ⟨WkO.arrLe (Nat.zero_le _) (fun i j hi => by omega), fun _ => rfl, trivial⟩, rfl, rfl⟩, trivial, fun a ha => by simp only [List.mem_singleton] at ha; subst ha; exact byE_pl _⟩

def ctE (a b : List Nat) (i _j : Nat) : AV := nth [bys a, bys b] i
@[go_sem] theorem ctE_0 (a b : List Nat) (j : Nat) : ctE a b 0 j = bys a := rfl
@[go_sem] theorem ctE_1 (a b : List Nat) (j : Nat) : ctE a b 1 j = bys b := rfl
def szN (a b : List Nat) (i : Nat) : Nat := if i = 0 then 0 else if i = 1 then a.length else a.length + b.length
theorem szN0 (a b : List Nat) : szN a b 0 = 0 := rfl
theorem szN1 (a b : List Nat) : szN a b 1 = a.length := rfl
theorem szN2 (a b : List Nat) : szN a b 2 = a.length + b.length := rfl
def ctN (a b : List Nat) (i : Nat) : List Nat := if i = 0 then [] else if i = 1 then a else a ++ b
set_option maxRecDepth 100000 in
set_option maxHeartbeats 1000000 in
theorem concat_raw (a b : List Nat) (ha : a.length ≤ 200000) (hb : b.length ≤ 200000) : TC Tryd.prog 42 [.view 2 1 (ctE a b)] [] (fun v σ' => (v = .imm (.slice none 0 0) ∧ (a ++ b).length = 0) ∨
    ∃ k E', v = .own k 0 (a ++ b).length none ∧ nthO σ' k = .arr 5 1 (a ++ b).length E' ∧ ∀ i j, i < (a ++ b).length → j < 1 → E' i j = byE (a ++ b) i j) := by
  have hgr := grow_new (a.length + b.length) (by omega)
  (refine TC_of_T Γ_ok Tryd.func42 rfl (by kernel_rfl) ?_; simp only [Tryd.ntmps42, Tryd.results42, List.length_cons, List.length_nil, Nat.reduceSub, Nat.reduceAdd, List.replicate, List.cons_append, List.nil_append])
  (((refine goR0 _ _ _ _ _ _ _ _ ?_ ?_ ?_ ?_ ?_ ?_ ?_ ?_) <;> (repeat intro hb) <;> first | exact True.intro | refine Lf.mk ?_))
  refine T_loopW (fun m st => ∃ i : Nat, i ≤ 2 ∧ m + i = 2 ∧ st = ⟨[.view 2 1 (ctE a b), .top, .top, .imm (.int .i64 ((szN a b i : Nat) : Int)), .top, .top, .top, .top, .top, .view 2 1 (ctE a b), .imm (.int .i64 2), .imm (.int .i64 i)] ++ List.replicate 24 .top, []⟩)
    2 ⟨_, ?_, 0, by omega, rfl, rfl⟩ ?_
  · ((try simp only [List.length_append, List.length_cons, List.length_nil, Nat.zero_add]); refine Wk.intro [] (by decide) (by decide) (by intro o ho; simp at ho ⊢ <;> omega) ?_ ?_ <;> repeat' (first | exact WkVL.nil | refine WkVL.cons ?_ ?_ | exact WkV.top | exact WkV.imm rfl | exact WkV.imm (by simp) | exact WkV.optr rfl | exact WkV.own rfl (by simp) | exact WkV.nil_own (.inl rfl) | exact WkV.map rfl | (refine WkV.free ?_; simp [Free, FreeL] <;> assumption) | (refine WkV.free (fun _ _ => FreeL_nth ?_ _); simp [Free, FreeL]; done) | refine WkV.agg ?_ | refine WkV.tup ?_ | refine WkV.fn ?_ ?_ | exact WkO.dead | exact WkO.raw | refine WkO.ghost ?_ | exact WkO.mpE rfl trivial | refine WkO.box ?_ rfl | refine WkO.arr ?_ | refine And.intro ?_ (And.intro (by first | exact fun h => h | exact fun _ => rfl | exact nofun) ?_) | exact trivial | (intro i j hi hj)))
  rintro m st ⟨i, h0, h1, rfl⟩
  rcases i with _ | _ | _ | i
  · (simp only [go_sem, ↓reduceIte, Nat.reduceAdd, Nat.reduceSub, Nat.reduceMul, Nat.reduceLT, Nat.reduceLeDiff, Nat.reduceEqDiff, Nat.reduceGT, Int.reduceToNat, Int.reduceBEq, Int.reduceBNe]; try simp (disch := omega) only [wrapI, wrapU, half_sum, toNat_sub1, toNat_add1, Int.toNat_natCast])
    (have sx1 := szN0; ((refine goR1 _ _ _ _ _ _ _ _ ?_ ?_ ?_ ?_ ?_ ?_ ?_ ?_) <;> (repeat intro hb) <;> first | exact True.intro | refine Lf.mk ?_))
    refine ⟨1, by omega, _, ?_, 1, by omega, rfl, rfl⟩
    ((try simp only [List.length_append, List.length_cons, List.length_nil, Nat.zero_add]); refine Wk.intro [] (by decide) (by decide) (by intro o ho; simp at ho ⊢ <;> omega) ?_ ?_ <;> repeat' (first | (refine WkV.imm ?_; simp [szN]) | exact WkVL.nil | refine WkVL.cons ?_ ?_ | exact WkV.top | exact WkV.imm rfl | exact WkV.imm (by simp) | exact WkV.optr rfl | exact WkV.own rfl (by simp) | exact WkV.nil_own (.inl rfl) | exact WkV.map rfl | (refine WkV.free ?_; simp [Free, FreeL] <;> assumption) | (refine WkV.free (fun _ _ => FreeL_nth ?_ _); simp [Free, FreeL]; done) | refine WkV.agg ?_ | refine WkV.tup ?_ | refine WkV.fn ?_ ?_ | exact WkO.dead | exact WkO.raw | refine WkO.ghost ?_ | exact WkO.mpE rfl trivial | refine WkO.box ?_ rfl | refine WkO.arr ?_ | refine And.intro ?_ (And.intro (by first | exact fun h => h | exact fun _ => rfl | exact nofun) ?_) | exact trivial | (intro i j hi hj)))
  · (simp only [go_sem, ↓reduceIte, Nat.reduceAdd, Nat.reduceSub, Nat.reduceMul, Nat.reduceLT, Nat.reduceLeDiff, Nat.reduceEqDiff, Nat.reduceGT, Int.reduceToNat, Int.reduceBEq, Int.reduceBNe]; try simp (disch := omega) only [wrapI, wrapU, half_sum, toNat_sub1, toNat_add1, Int.toNat_natCast])
    (have sx1 := szN1; ((refine goR1 _ _ _ _ _ _ _ _ ?_ ?_ ?_ ?_ ?_ ?_ ?_ ?_) <;> (repeat intro hb) <;> first | exact True.intro | refine Lf.mk ?_))
    refine ⟨0, by omega, _, ?_, 2, by omega, rfl, rfl⟩
    ((try simp only [List.length_append, List.length_cons, List.length_nil, Nat.zero_add]); refine Wk.intro [] (by decide) (by decide) (by intro o ho; simp at ho ⊢ <;> omega) ?_ ?_ <;> repeat' (first | (refine WkV.imm ?_; simp [szN]) | exact WkVL.nil | refine WkVL.cons ?_ ?_ | exact WkV.top | exact WkV.imm rfl | exact WkV.imm (by simp) | exact WkV.optr rfl | exact WkV.own rfl (by simp) | exact WkV.nil_own (.inl rfl) | exact WkV.map rfl | (refine WkV.free ?_; simp [Free, FreeL] <;> assumption) | (refine WkV.free (fun _ _ => FreeL_nth ?_ _); simp [Free, FreeL]; done) | refine WkV.agg ?_ | refine WkV.tup ?_ | refine WkV.fn ?_ ?_ | exact WkO.dead | exact WkO.raw | refine WkO.ghost ?_ | exact WkO.mpE rfl trivial | refine WkO.box ?_ rfl | refine WkO.arr ?_ | refine And.intro ?_ (And.intro (by first | exact fun h => h | exact fun _ => rfl | exact nofun) ?_) | exact trivial | (intro i j hi hj)))
  · (simp only [go_sem, ↓reduceIte, Nat.reduceAdd, Nat.reduceSub, Nat.reduceMul, Nat.reduceLT, Nat.reduceLeDiff, Nat.reduceEqDiff, Nat.reduceGT, Int.reduceToNat, Int.reduceBEq, Int.reduceBNe]; try simp (disch := omega) only [wrapI, wrapU, half_sum, toNat_sub1, toNat_add1, Int.toNat_natCast])
    have hgr' : Makes Tryd.prog 63 [.imm (.slice none 0 0), .imm (.int .i64 ((szN a b 2 : Nat) : Int))] (.own 0 0 0 none) [.arr 5 1 0 (byE [])] := hgr
    (have cm1 := hgr'; ((refine goR0 _ _ _ _ _ _ _ _ ?_ ?_ ?_ ?_ ?_ ?_ ?_ ?_) <;> (repeat intro hb) <;> first | exact True.intro | refine Lf.mk ?_))
    refine T_loopW (fun m st => ∃ i : Nat, i ≤ 2 ∧ m + i = 2 ∧ st = ⟨[.view 2 1 (ctE a b), .top, .top, .top, .top, .top, .own 0 0 (ctN a b i).length none] ++ List.replicate 18 .top ++ [.view 2 1 (ctE a b), .imm (.int .i64 2), .imm (.int .i64 i)] ++ List.replicate 8 .top, [byO (ctN a b i)]⟩)
      2 ⟨_, ?_, 0, by omega, rfl, rfl⟩ ?_
    · ((try simp only [List.length_append, List.length_cons, List.length_nil, Nat.zero_add]); refine Wk.intro [0] (by decide) (by decide) (by intro o ho; simp at ho ⊢ <;> omega) ?_ ?_ <;> repeat' (first | exact WkVL.nil | refine WkVL.cons ?_ ?_ | exact WkV.top | exact WkV.imm rfl | exact WkV.imm (by simp) | exact WkV.optr rfl | exact WkV.own rfl (by simp) | exact WkV.nil_own (.inl rfl) | exact WkV.map rfl | (refine WkV.free ?_; simp [Free, FreeL] <;> assumption) | (refine WkV.free (fun _ _ => FreeL_nth ?_ _); simp [Free, FreeL]; done) | refine WkV.agg ?_ | refine WkV.tup ?_ | refine WkV.fn ?_ ?_ | exact WkO.dead | exact WkO.raw | refine WkO.ghost ?_ | exact WkO.mpE rfl trivial | refine WkO.box ?_ rfl | refine WkO.arr ?_ | refine And.intro ?_ (And.intro (by first | exact fun h => h | exact fun _ => rfl | exact nofun) ?_) | exact trivial | (intro i j hi hj)))
    rintro m st ⟨i, h0, h1, rfl⟩
    rcases i with _ | _ | _ | i
    · rw [show ctN a b 0 = [] from rfl]
      (simp only [go_sem, ↓reduceIte, Nat.reduceAdd, Nat.reduceSub, Nat.reduceMul, Nat.reduceLT, Nat.reduceLeDiff, Nat.reduceEqDiff, Nat.reduceGT, Int.reduceToNat, Int.reduceBEq, Int.reduceBNe]; try simp (disch := omega) only [wrapI, wrapU, half_sum, toNat_sub1, toNat_add1, Int.toNat_natCast])
      (((refine goR0 _ _ _ _ _ _ _ _ ?_ ?_ ?_ ?_ ?_ ?_ ?_ ?_) <;> (repeat intro hb) <;> first | exact True.intro | refine Lf.mk ?_))
      refine ⟨1, by omega, _, ?_, 1, by omega, rfl, rfl⟩
      rw [show ctN a b 1 = a from rfl]
      ((try simp only [List.length_append, List.length_cons, List.length_nil, Nat.zero_add]); refine Wk.intro [1] (by decide) (by decide) (by intro o ho; simp at ho ⊢ <;> omega) ?_ ?_ <;> repeat' (first | exact WkV.own rfl (by simp) | (refine WkO.arr ?_; intro i j hi hj; exact WkV.eqF (byE_app (a := []) (b := a) (fun i j hi => by simp at hi) (fun _ _ _ _ => rfl) rfl i j (by simpa using hi) hj) trivial) | exact WkVL.nil | refine WkVL.cons ?_ ?_ | exact WkV.top | exact WkV.imm rfl | exact WkV.imm (by simp) | exact WkV.optr rfl | exact WkV.own rfl (by simp) | exact WkV.nil_own (.inl rfl) | exact WkV.map rfl | (refine WkV.free ?_; simp [Free, FreeL] <;> assumption) | (refine WkV.free (fun _ _ => FreeL_nth ?_ _); simp [Free, FreeL]; done) | refine WkV.agg ?_ | refine WkV.tup ?_ | refine WkV.fn ?_ ?_ | exact WkO.dead | exact WkO.raw | refine WkO.ghost ?_ | exact WkO.mpE rfl trivial | refine WkO.box ?_ rfl | refine WkO.arr ?_ | refine And.intro ?_ (And.intro (by first | exact fun h => h | exact fun _ => rfl | exact nofun) ?_) | exact trivial | (intro i j hi hj)))
    · rw [show ctN a b 1 = a from rfl]
      (simp only [go_sem, ↓reduceIte, Nat.reduceAdd, Nat.reduceSub, Nat.reduceMul, Nat.reduceLT, Nat.reduceLeDiff, Nat.reduceEqDiff, Nat.reduceGT, Int.reduceToNat, Int.reduceBEq, Int.reduceBNe]; try simp (disch := omega) only [wrapI, wrapU, half_sum, toNat_sub1, toNat_add1, Int.toNat_natCast])
      (((refine goR0 _ _ _ _ _ _ _ _ ?_ ?_ ?_ ?_ ?_ ?_ ?_ ?_) <;> (repeat intro hb) <;> first | exact True.intro | refine Lf.mk ?_))
      refine ⟨0, by omega, _, ?_, 2, by omega, rfl, rfl⟩
      rw [show ctN a b 2 = a ++ b from rfl]
      ((try simp only [List.length_append, List.length_cons, List.length_nil, Nat.zero_add]); refine Wk.intro [1] (by decide) (by decide) (by intro o ho; simp at ho ⊢ <;> omega) ?_ ?_ <;> repeat' (first | (refine WkO.arr ?_; intro i j hi hj; exact WkV.eqF (byE_app (a := a) (b := b) (fun _ _ _ _ => rfl) (fun _ _ _ _ => rfl) rfl i j (by simpa using hi) hj) trivial) | exact WkVL.nil | refine WkVL.cons ?_ ?_ | exact WkV.top | exact WkV.imm rfl | exact WkV.imm (by simp) | exact WkV.optr rfl | exact WkV.own rfl (by simp) | exact WkV.nil_own (.inl rfl) | exact WkV.map rfl | (refine WkV.free ?_; simp [Free, FreeL] <;> assumption) | (refine WkV.free (fun _ _ => FreeL_nth ?_ _); simp [Free, FreeL]; done) | refine WkV.agg ?_ | refine WkV.tup ?_ | refine WkV.fn ?_ ?_ | exact WkO.dead | exact WkO.raw | refine WkO.ghost ?_ | exact WkO.mpE rfl trivial | refine WkO.box ?_ rfl | refine WkO.arr ?_ | refine And.intro ?_ (And.intro (by first | exact fun h => h | exact fun _ => rfl | exact nofun) ?_) | exact trivial | (intro i j hi hj)))
    · rw [show ctN a b 2 = a ++ b from rfl]
      (simp only [go_sem, ↓reduceIte, Nat.reduceAdd, Nat.reduceSub, Nat.reduceMul, Nat.reduceLT, Nat.reduceLeDiff, Nat.reduceEqDiff, Nat.reduceGT, Int.reduceToNat, Int.reduceBEq, Int.reduceBNe]; try simp (disch := omega) only [wrapI, wrapU, half_sum, toNat_sub1, toNat_add1, Int.toNat_natCast])
      (((refine goR0 _ _ _ _ _ _ _ _ ?_ ?_ ?_ ?_ ?_ ?_ ?_ ?_) <;> (repeat intro hb) <;> first | exact True.intro | refine Lf.mk ?_))
      exact .inr ⟨0, _, rfl, rfl, fun _ _ _ _ => rfl⟩
    · omega
  · omega
theorem concat_tc (a b : List Nat) (ha : a.length ≤ 200000) (hb : b.length ≤ 200000) : Makes Tryd.prog 42 [.view 2 1 (ctE a b)] (ownB (a ++ b)) [byO (a ++ b)] := Makes.lst1J (byE_pl _) (concat_raw a b ha hb)
end Go.Proofs.YtnomenmakhielaaDoor
