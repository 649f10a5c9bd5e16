/-
  The reference's Merge.
-/
import Derived.Test.YthikkiacgmgdhaaQGo
import Derived.Test.YthikkiacgmgdhaaQM21
set_option linter.unusedSimpArgs false
set_option linter.unusedVariables false
namespace Go.Proofs.Ythikkiacgmgdhaa
open Go.Ab

def fstN (js : List Jn) (s : Int) : Nat → Option Tk
  | 0 => none
  | a + 1 => match fstN js s a with | some t => some t | none => (lookE js s a).map En.t
def optL : Option Tk → List Tk
  | some t => [t]
  | none => []
def rmN (js : List Jn) : Nat → List Tk
  | 0 => []
  | k + 1 => rmN js k ++ optL (fstN js (k + 1 : Nat) js.length)
theorem rmN_len (js : List Jn) : ∀ k, (rmN js k).length ≤ k
  | 0 => Nat.le_refl _
  | k + 1 => by
    have := rmN_len js k
    rw [rmN, List.length_append]
    cases fstN js (k + 1 : Nat) js.length <;> simp [optL] <;> omega
def rmrgR (n : Int) (js : List Jn) : List Tk × Int :=
  if jsB n js = true then (if rcA js 15 = [] then (rmN js 15, 0) else ([], 23)) else ([], 1)

@[go_sem, reducible] def rmE (js : List Jn) (o : List Tk) (k : Nat) (tl : List AV) : List AV := [.top, jns js, .top, .top, .top, .top, .top, .top, .own k 0 o.length none] ++ tl

set_option maxRecDepth 100000 in
set_option maxHeartbeats 4000000 in
theorem rmerge_raw (n : Int) (js : List Jn) (h : JsOk js) : TC Try.prog 18 [.imm (.int .i64 n), jns js] [] (fun v σ' =>
    (v = .tup [.imm (.slice none 0 0), .imm (.int .i64 (rmrgR n js).2)] ∧ (rmrgR n js).1.length = 0) ∨
    ∃ k E', v = .tup [.own k 0 (rmrgR n js).1.length none, .imm (.int .i64 (rmrgR n js).2)] ∧ nthO σ' k = .arr 24 4 (rmrgR n js).1.length E' ∧ ∀ i j, i < (rmrgR n js).1.length → j < 4 → E' i j = tkE (rmrgR n js).1 i j) := by
  have hl := h.1
  have hc := rclashes_tc n js h
  unfold rclsR at hc
  unfold rmrgR
  by_cases hv : jsB n js = true
  · rw [if_pos hv] at hc ⊢
    have hl8 : js.length ≤ 8 := by unfold jsB at hv; simp at hv; exact hv.1.2
    by_cases hn : rcA js 15 = []
    · rw [hn] at hc
      rw [if_pos hn]
      (refine TC_of_T Γ_ok Try.func18 rfl (by kernel_rfl) ?_; simp only [Try.ntmps18, Try.results18, List.length_cons, List.length_nil, Nat.reduceSub, Nat.reduceAdd, List.replicate, List.cons_append, List.nil_append])
      (have cm1 := hc; ((refine goR0 _ _ _ _ _ _ _ _ ?_ ?_ ?_ ?_ ?_ ?_ ?_ ?_) <;> (repeat intro hb) <;> first | exact True.intro | refine Lf.mk ?_))
      refine T_loopW (fun m st => ∃ (s : Nat) (o : List Tk), s ≤ 15 ∧ m + s = 15 ∧ o = rmN js s ∧
          st = ⟨rmE js o 0 ([.imm (.int .i64 (s + 1 : Nat))] ++ List.replicate 46 .top), [tkO o]⟩)
        15 ⟨_, Wk.trans (Wk.push 24 4 (tkE [])) ?_, 0, [], by omega, rfl, rfl, rfl⟩ ?_
      · ((try simp only [List.length_append, List.length_cons, List.length_nil, Nat.zero_add]); refine Wk.intro [1] (by decide) (by decide) (by intro o ho; simp at ho ⊢ <;> omega) ?_ ?_ <;> repeat' (first | exact WkVL.nil | refine WkVL.cons ?_ ?_ | exact WkV.top | exact WkV.imm rfl | exact WkV.imm (by simp) | exact WkV.optr rfl | exact WkV.own rfl (by simp) | exact WkV.nil_own (.inl rfl) | exact WkV.map rfl | (refine WkV.free ?_; simp [Free, FreeL] <;> assumption) | (refine WkV.free (fun _ _ => FreeL_nth ?_ _); simp [Free, FreeL]; done) | refine WkV.agg ?_ | refine WkV.tup ?_ | refine WkV.fn ?_ ?_ | exact WkO.dead | exact WkO.raw | refine WkO.ghost ?_ | exact WkO.mpE rfl trivial | refine WkO.box ?_ rfl | refine WkO.arr ?_ | refine And.intro ?_ (And.intro (by first | exact fun h => h | exact fun _ => rfl | exact nofun) ?_) | exact trivial | (intro i j hi hj)))
      rintro m st ⟨s, o, s0, s1, s2, rfl⟩
      have hol := rmN_len js s
      rw [← s2] at hol
      (simp only [go_sem, ↓reduceIte, Nat.reduceAdd, Nat.reduceSub, Nat.reduceMul, Nat.reduceLT, Nat.reduceLeDiff, Nat.reduceEqDiff, Nat.reduceGT, Int.reduceToNat, Int.reduceBEq, Int.reduceBNe]; try simp (disch := omega) only [wrapI, wrapU, half_sum, toNat_sub1, toNat_add1, Int.toNat_natCast])
      (((refine goR0 _ _ _ _ _ _ _ _ ?_ ?_ ?_ ?_ ?_ ?_ ?_ ?_) <;> (repeat intro hb) <;> first | exact True.intro | refine Lf.mk ?_))
      · refine T_loopW (fun m st => ∃ (a : Nat) (o2 : List Tk), a ≤ js.length ∧ m + a = js.length ∧ o2 = o ++ optL (fstN js (s + 1 : Nat) a) ∧
            st = ⟨rmE js o2 0 ([.imm (.int .i64 (s + 1 : Nat)), .imm (.bool (fstN js (s + 1 : Nat) a).isSome), .imm (.int .i64 a)] ++ List.replicate 44 .top), [tkO o2]⟩)
          js.length ⟨_, ?_, 0, o, by omega, by omega, by simp [fstN, optL], rfl⟩ ?_
        · ((try simp only [List.length_append, List.length_cons, List.length_nil, Nat.zero_add]); refine Wk.intro [0] (by decide) (by decide) (by intro o ho; simp at ho ⊢ <;> omega) ?_ ?_ <;> repeat' (first | exact WkVL.nil | refine WkVL.cons ?_ ?_ | exact WkV.top | exact WkV.imm rfl | exact WkV.imm (by simp) | exact WkV.optr rfl | exact WkV.own rfl (by simp) | exact WkV.nil_own (.inl rfl) | exact WkV.map rfl | (refine WkV.free ?_; simp [Free, FreeL] <;> assumption) | (refine WkV.free (fun _ _ => FreeL_nth ?_ _); simp [Free, FreeL]; done) | refine WkV.agg ?_ | refine WkV.tup ?_ | refine WkV.fn ?_ ?_ | exact WkO.dead | exact WkO.raw | refine WkO.ghost ?_ | exact WkO.mpE rfl trivial | refine WkO.box ?_ rfl | refine WkO.arr ?_ | refine And.intro ?_ (And.intro (by first | exact fun h => h | exact fun _ => rfl | exact nofun) ?_) | exact trivial | (intro i j hi hj)))
        rintro m st ⟨a, o2, a0, a1, a2, rfl⟩
        have hN : fstN js (s + 1 : Nat) (a + 1) = match fstN js (s + 1 : Nat) a with | some t => some t | none => (lookE js (s + 1 : Nat) a).map En.t := rfl
        have hol2 : o2.length ≤ s + 1 := by rw [a2, List.length_append]; cases fstN js (s + 1 : Nat) a <;> simp [optL] <;> omega
        have hsn := fun t p q => tk_snoc o2 t (i := p) (j := q)
        cases hf : fstN js (s + 1 : Nat) a with
        | some t =>
          rw [hf] at hN a2
          cases hx : lookE js (s + 1 : Nat) a with
          | none =>
            rw [hx] at hN
            have p1 := at_no (h.2 a) hx
            simp only [Option.isSome_some]
            (simp only [go_sem, ↓reduceIte, Nat.reduceAdd, Nat.reduceSub, Nat.reduceMul, Nat.reduceLT, Nat.reduceLeDiff, Nat.reduceEqDiff, Nat.reduceGT, Int.reduceToNat, Int.reduceBEq, Int.reduceBNe]; try simp (disch := omega) only [wrapI, wrapU, half_sum, toNat_sub1, toNat_add1, Int.toNat_natCast])
            (have cp1 := p1; ((refine goR0 _ _ _ _ _ _ _ _ ?_ ?_ ?_ ?_ ?_ ?_ ?_ ?_) <;> (repeat intro hb) <;> first | exact True.intro | refine Lf.mk ?_))
            · refine ⟨js.length - (a + 1), by omega, _, ?_, a + 1, o2, by omega, by omega, by rw [hN]; exact a2, rfl⟩
              ((try simp only [List.length_append, List.length_cons, List.length_nil, Nat.zero_add]); refine Wk.intro [0] (by decide) (by decide) (by intro o ho; simp at ho ⊢ <;> omega) ?_ ?_ <;> repeat' (first | (refine WkV.imm ?_; congr 1; omega) | (exact WkV.imm (by rw [hN]; rfl)) | (exact WkV.eqF (hsn _ _ _ (by simpa using hi) hj) (by simp)) | exact WkVL.nil | refine WkVL.cons ?_ ?_ | exact WkV.top | exact WkV.imm rfl | exact WkV.imm (by simp) | exact WkV.optr rfl | exact WkV.own rfl (by simp) | exact WkV.nil_own (.inl rfl) | exact WkV.map rfl | (refine WkV.free ?_; simp [Free, FreeL] <;> assumption) | (refine WkV.free (fun _ _ => FreeL_nth ?_ _); simp [Free, FreeL]; done) | refine WkV.agg ?_ | refine WkV.tup ?_ | refine WkV.fn ?_ ?_ | exact WkO.dead | exact WkO.raw | refine WkO.ghost ?_ | exact WkO.mpE rfl trivial | refine WkO.box ?_ rfl | refine WkO.arr ?_ | refine And.intro ?_ (And.intro (by first | exact fun h => h | exact fun _ => rfl | exact nofun) ?_) | exact trivial | (intro i j hi hj)))
            · obtain rfl : a = js.length := by omega
              refine ⟨15 - (s + 1), by omega, _, ?_, s + 1, o2, by omega, by omega, by rw [rmN, ← s2, hf]; exact a2, rfl⟩
              ((try simp only [List.length_append, List.length_cons, List.length_nil, Nat.zero_add]); refine Wk.intro [0] (by decide) (by decide) (by intro o ho; simp at ho ⊢ <;> omega) ?_ ?_ <;> repeat' (first | (refine WkV.imm ?_; congr 1; omega) | (exact WkV.imm (by rw [hN]; rfl)) | (exact WkV.eqF (hsn _ _ _ (by simpa using hi) hj) (by simp)) | exact WkVL.nil | refine WkVL.cons ?_ ?_ | exact WkV.top | exact WkV.imm rfl | exact WkV.imm (by simp) | exact WkV.optr rfl | exact WkV.own rfl (by simp) | exact WkV.nil_own (.inl rfl) | exact WkV.map rfl | (refine WkV.free ?_; simp [Free, FreeL] <;> assumption) | (refine WkV.free (fun _ _ => FreeL_nth ?_ _); simp [Free, FreeL]; done) | refine WkV.agg ?_ | refine WkV.tup ?_ | refine WkV.fn ?_ ?_ | exact WkO.dead | exact WkO.raw | refine WkO.ghost ?_ | exact WkO.mpE rfl trivial | refine WkO.box ?_ rfl | refine WkO.arr ?_ | refine And.intro ?_ (And.intro (by first | exact fun h => h | exact fun _ => rfl | exact nofun) ?_) | exact trivial | (intro i j hi hj)))
          | some x =>
            rw [hx] at hN
            have p1 := at_yes (h.2 a) hx
            simp only [Option.isSome_some]
            (simp only [go_sem, ↓reduceIte, Nat.reduceAdd, Nat.reduceSub, Nat.reduceMul, Nat.reduceLT, Nat.reduceLeDiff, Nat.reduceEqDiff, Nat.reduceGT, Int.reduceToNat, Int.reduceBEq, Int.reduceBNe]; try simp (disch := omega) only [wrapI, wrapU, half_sum, toNat_sub1, toNat_add1, Int.toNat_natCast])
            (have cp1 := p1; ((refine goR0 _ _ _ _ _ _ _ _ ?_ ?_ ?_ ?_ ?_ ?_ ?_ ?_) <;> (repeat intro hb) <;> first | exact True.intro | refine Lf.mk ?_))
            · refine ⟨js.length - (a + 1), by omega, _, ?_, a + 1, o2, by omega, by omega, by rw [hN]; exact a2, rfl⟩
              ((try simp only [List.length_append, List.length_cons, List.length_nil, Nat.zero_add]); refine Wk.intro [0] (by decide) (by decide) (by intro o ho; simp at ho ⊢ <;> omega) ?_ ?_ <;> repeat' (first | (refine WkV.imm ?_; congr 1; omega) | (exact WkV.imm (by rw [hN]; rfl)) | (exact WkV.eqF (hsn _ _ _ (by simpa using hi) hj) (by simp)) | exact WkVL.nil | refine WkVL.cons ?_ ?_ | exact WkV.top | exact WkV.imm rfl | exact WkV.imm (by simp) | exact WkV.optr rfl | exact WkV.own rfl (by simp) | exact WkV.nil_own (.inl rfl) | exact WkV.map rfl | (refine WkV.free ?_; simp [Free, FreeL] <;> assumption) | (refine WkV.free (fun _ _ => FreeL_nth ?_ _); simp [Free, FreeL]; done) | refine WkV.agg ?_ | refine WkV.tup ?_ | refine WkV.fn ?_ ?_ | exact WkO.dead | exact WkO.raw | refine WkO.ghost ?_ | exact WkO.mpE rfl trivial | refine WkO.box ?_ rfl | refine WkO.arr ?_ | refine And.intro ?_ (And.intro (by first | exact fun h => h | exact fun _ => rfl | exact nofun) ?_) | exact trivial | (intro i j hi hj)))
            · obtain rfl : a = js.length := by omega
              refine ⟨15 - (s + 1), by omega, _, ?_, s + 1, o2, by omega, by omega, by rw [rmN, ← s2, hf]; exact a2, rfl⟩
              ((try simp only [List.length_append, List.length_cons, List.length_nil, Nat.zero_add]); refine Wk.intro [0] (by decide) (by decide) (by intro o ho; simp at ho ⊢ <;> omega) ?_ ?_ <;> repeat' (first | (refine WkV.imm ?_; congr 1; omega) | (exact WkV.imm (by rw [hN]; rfl)) | (exact WkV.eqF (hsn _ _ _ (by simpa using hi) hj) (by simp)) | exact WkVL.nil | refine WkVL.cons ?_ ?_ | exact WkV.top | exact WkV.imm rfl | exact WkV.imm (by simp) | exact WkV.optr rfl | exact WkV.own rfl (by simp) | exact WkV.nil_own (.inl rfl) | exact WkV.map rfl | (refine WkV.free ?_; simp [Free, FreeL] <;> assumption) | (refine WkV.free (fun _ _ => FreeL_nth ?_ _); simp [Free, FreeL]; done) | refine WkV.agg ?_ | refine WkV.tup ?_ | refine WkV.fn ?_ ?_ | exact WkO.dead | exact WkO.raw | refine WkO.ghost ?_ | exact WkO.mpE rfl trivial | refine WkO.box ?_ rfl | refine WkO.arr ?_ | refine And.intro ?_ (And.intro (by first | exact fun h => h | exact fun _ => rfl | exact nofun) ?_) | exact trivial | (intro i j hi hj)))
        | none =>
          rw [hf] at hN a2
          cases hx : lookE js (s + 1 : Nat) a with
          | none =>
            rw [hx] at hN
            have p1 := at_no (h.2 a) hx
            simp only [Option.isSome_none]
            (simp only [go_sem, ↓reduceIte, Nat.reduceAdd, Nat.reduceSub, Nat.reduceMul, Nat.reduceLT, Nat.reduceLeDiff, Nat.reduceEqDiff, Nat.reduceGT, Int.reduceToNat, Int.reduceBEq, Int.reduceBNe]; try simp (disch := omega) only [wrapI, wrapU, half_sum, toNat_sub1, toNat_add1, Int.toNat_natCast])
            (have cp1 := p1; ((refine goR0 _ _ _ _ _ _ _ _ ?_ ?_ ?_ ?_ ?_ ?_ ?_ ?_) <;> (repeat intro hb) <;> first | exact True.intro | refine Lf.mk ?_))
            · refine ⟨js.length - (a + 1), by omega, _, ?_, a + 1, o2, by omega, by omega, by rw [hN]; exact a2, rfl⟩
              ((try simp only [List.length_append, List.length_cons, List.length_nil, Nat.zero_add]); refine Wk.intro [0] (by decide) (by decide) (by intro o ho; simp at ho ⊢ <;> omega) ?_ ?_ <;> repeat' (first | (refine WkV.imm ?_; congr 1; omega) | (exact WkV.imm (by rw [hN]; rfl)) | (exact WkV.eqF (hsn _ _ _ (by simpa using hi) hj) (by simp)) | exact WkVL.nil | refine WkVL.cons ?_ ?_ | exact WkV.top | exact WkV.imm rfl | exact WkV.imm (by simp) | exact WkV.optr rfl | exact WkV.own rfl (by simp) | exact WkV.nil_own (.inl rfl) | exact WkV.map rfl | (refine WkV.free ?_; simp [Free, FreeL] <;> assumption) | (refine WkV.free (fun _ _ => FreeL_nth ?_ _); simp [Free, FreeL]; done) | refine WkV.agg ?_ | refine WkV.tup ?_ | refine WkV.fn ?_ ?_ | exact WkO.dead | exact WkO.raw | refine WkO.ghost ?_ | exact WkO.mpE rfl trivial | refine WkO.box ?_ rfl | refine WkO.arr ?_ | refine And.intro ?_ (And.intro (by first | exact fun h => h | exact fun _ => rfl | exact nofun) ?_) | exact trivial | (intro i j hi hj)))
            · obtain rfl : a = js.length := by omega
              refine ⟨15 - (s + 1), by omega, _, ?_, s + 1, o2, by omega, by omega, by rw [rmN, ← s2, hf]; exact a2, rfl⟩
              ((try simp only [List.length_append, List.length_cons, List.length_nil, Nat.zero_add]); refine Wk.intro [0] (by decide) (by decide) (by intro o ho; simp at ho ⊢ <;> omega) ?_ ?_ <;> repeat' (first | (refine WkV.imm ?_; congr 1; omega) | (exact WkV.imm (by rw [hN]; rfl)) | (exact WkV.eqF (hsn _ _ _ (by simpa using hi) hj) (by simp)) | exact WkVL.nil | refine WkVL.cons ?_ ?_ | exact WkV.top | exact WkV.imm rfl | exact WkV.imm (by simp) | exact WkV.optr rfl | exact WkV.own rfl (by simp) | exact WkV.nil_own (.inl rfl) | exact WkV.map rfl | (refine WkV.free ?_; simp [Free, FreeL] <;> assumption) | (refine WkV.free (fun _ _ => FreeL_nth ?_ _); simp [Free, FreeL]; done) | refine WkV.agg ?_ | refine WkV.tup ?_ | refine WkV.fn ?_ ?_ | exact WkO.dead | exact WkO.raw | refine WkO.ghost ?_ | exact WkO.mpE rfl trivial | refine WkO.box ?_ rfl | refine WkO.arr ?_ | refine And.intro ?_ (And.intro (by first | exact fun h => h | exact fun _ => rfl | exact nofun) ?_) | exact trivial | (intro i j hi hj)))
          | some x =>
            rw [hx] at hN
            have p1 := at_yes (h.2 a) hx
            simp only [Option.isSome_none]
            (simp only [go_sem, ↓reduceIte, Nat.reduceAdd, Nat.reduceSub, Nat.reduceMul, Nat.reduceLT, Nat.reduceLeDiff, Nat.reduceEqDiff, Nat.reduceGT, Int.reduceToNat, Int.reduceBEq, Int.reduceBNe]; try simp (disch := omega) only [wrapI, wrapU, half_sum, toNat_sub1, toNat_add1, Int.toNat_natCast])
            (have cp1 := p1; ((refine goR0 _ _ _ _ _ _ _ _ ?_ ?_ ?_ ?_ ?_ ?_ ?_ ?_) <;> (repeat intro hb) <;> first | exact True.intro | refine Lf.mk ?_))
            · refine ⟨js.length - (a + 1), by omega, _, ?_, a + 1, o2 ++ [x.t], by omega, by omega, by rw [hN, a2]; simp [optL], rfl⟩
              ((try simp only [List.length_append, List.length_cons, List.length_nil, Nat.zero_add]); refine Wk.intro [3] (by decide) (by decide) (by intro o ho; simp at ho ⊢ <;> omega) ?_ ?_ <;> repeat' (first | (refine WkV.imm ?_; congr 1; omega) | (exact WkV.imm (by rw [hN]; rfl)) | (exact WkV.eqF (hsn x.t _ _ (by simpa using hi) hj) (by simp)) | exact WkVL.nil | refine WkVL.cons ?_ ?_ | exact WkV.top | exact WkV.imm rfl | exact WkV.imm (by simp) | exact WkV.optr rfl | exact WkV.own rfl (by simp) | exact WkV.nil_own (.inl rfl) | exact WkV.map rfl | (refine WkV.free ?_; simp [Free, FreeL] <;> assumption) | (refine WkV.free (fun _ _ => FreeL_nth ?_ _); simp [Free, FreeL]; done) | refine WkV.agg ?_ | refine WkV.tup ?_ | refine WkV.fn ?_ ?_ | exact WkO.dead | exact WkO.raw | refine WkO.ghost ?_ | exact WkO.mpE rfl trivial | refine WkO.box ?_ rfl | refine WkO.arr ?_ | refine And.intro ?_ (And.intro (by first | exact fun h => h | exact fun _ => rfl | exact nofun) ?_) | exact trivial | (intro i j hi hj)))
            · obtain rfl : a = js.length := by omega
              refine ⟨15 - (s + 1), by omega, _, ?_, s + 1, o2, by omega, by omega, by rw [rmN, ← s2, hf]; exact a2, rfl⟩
              ((try simp only [List.length_append, List.length_cons, List.length_nil, Nat.zero_add]); refine Wk.intro [0] (by decide) (by decide) (by intro o ho; simp at ho ⊢ <;> omega) ?_ ?_ <;> repeat' (first | (refine WkV.imm ?_; congr 1; omega) | (exact WkV.imm (by rw [hN]; rfl)) | (exact WkV.eqF (hsn _ _ _ (by simpa using hi) hj) (by simp)) | exact WkVL.nil | refine WkVL.cons ?_ ?_ | exact WkV.top | exact WkV.imm rfl | exact WkV.imm (by simp) | exact WkV.optr rfl | exact WkV.own rfl (by simp) | exact WkV.nil_own (.inl rfl) | exact WkV.map rfl | (refine WkV.free ?_; simp [Free, FreeL] <;> assumption) | (refine WkV.free (fun _ _ => FreeL_nth ?_ _); simp [Free, FreeL]; done) | refine WkV.agg ?_ | refine WkV.tup ?_ | refine WkV.fn ?_ ?_ | exact WkO.dead | exact WkO.raw | refine WkO.ghost ?_ | exact WkO.mpE rfl trivial | refine WkO.box ?_ rfl | refine WkO.arr ?_ | refine And.intro ?_ (And.intro (by first | exact fun h => h | exact fun _ => rfl | exact nofun) ?_) | exact trivial | (intro i j hi hj)))
      · obtain rfl : s = 15 := by omega
        subst s2
        exact .inr ⟨0, _, rfl, rfl, fun _ _ _ _ => rfl⟩
    · rw [if_neg hn]
      have hp : 0 < (rcA js 15).length := List.length_pos_iff.2 hn
      simp only [] at hc
      generalize rcA js 15 = c at hc hp hn
      (refine TC_of_T Γ_ok Try.func18 rfl (by kernel_rfl) ?_; simp only [Try.ntmps18, Try.results18, List.length_cons, List.length_nil, Nat.reduceSub, Nat.reduceAdd, List.replicate, List.cons_append, List.nil_append])
      (have cm1 := hc; ((refine goR0 _ _ _ _ _ _ _ _ ?_ ?_ ?_ ?_ ?_ ?_ ?_ ?_) <;> (repeat intro hb) <;> first | exact True.intro | refine Lf.mk ?_))
      exact .inl trivial
  · rw [if_neg hv] at hc ⊢
    (refine TC_of_T Γ_ok Try.func18 rfl (by kernel_rfl) ?_; simp only [Try.ntmps18, Try.results18, List.length_cons, List.length_nil, Nat.reduceSub, Nat.reduceAdd, List.replicate, List.cons_append, List.nil_append])
    (have cm1 := hc; ((refine goR0 _ _ _ _ _ _ _ _ ?_ ?_ ?_ ?_ ?_ ?_ ?_ ?_) <;> (repeat intro hb) <;> first | exact True.intro | refine Lf.mk ?_))
    exact .inl trivial

theorem rmerge_tc (n : Int) (js : List Jn) (h : JsOk js) : Makes Try.prog 18 [.imm (.int .i64 n), jns js] (.tup [.own 0 0 (rmrgR n js).1.length none, .imm (.int .i64 (rmrgR n js).2)]) [tkO (rmrgR n js).1] :=
  Makes.lstJ (fun i j => tkE_pl _ i j) trivial (rmerge_raw n js h)
end Go.Proofs.Ythikkiacgmgdhaa
