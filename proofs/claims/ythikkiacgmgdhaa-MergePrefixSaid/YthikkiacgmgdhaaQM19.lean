/-
  The reference's Clashes.
-/
import Derived.Test.YthikkiacgmgdhaaQGo
import Derived.Test.YthikkiacgmgdhaaQM18
set_option linter.unusedSimpArgs false
set_option linter.unusedVariables false
namespace Go.Proofs.Ythikkiacgmgdhaa
open Go.Ab

def hitAB (js : List Jn) (s : Int) (a b : Nat) : Bool :=
  match lookE js s a, lookE js s b with
  | some x, some y => !tkEq x y
  | _, _ => false
def rcI (js : List Jn) (s : Int) (a : Nat) : Nat → List Cl
  | 0 => []
  | k + 1 => if hitAB js s a (a + 1 + k) = true then rcI js s a k ++ [⟨s, a, (a + 1 + k : Nat)⟩] else rcI js s a k
def rcJ (js : List Jn) (s : Int) : Nat → List Cl
  | 0 => []
  | a + 1 => rcJ js s a ++ rcI js s a (js.length - (a + 1))
def rcA (js : List Jn) : Nat → List Cl
  | 0 => []
  | k + 1 => rcA js k ++ rcJ js (k + 1 : Nat) js.length
theorem rcI_len (js : List Jn) (s : Int) (a : Nat) : ∀ k, (rcI js s a k).length ≤ k
  | 0 => Nat.le_refl _
  | k + 1 => by
    have := rcI_len js s a k
    rw [rcI]; split <;> simp <;> omega
theorem rcJ_len (js : List Jn) (s : Int) (h : js.length ≤ 8) : ∀ a, (rcJ js s a).length ≤ 8 * a
  | 0 => Nat.le_refl _
  | a + 1 => by
    have := rcJ_len js s h a
    have := rcI_len js s a (js.length - (a + 1))
    rw [rcJ, List.length_append]; omega
theorem rcA_len (js : List Jn) (h : js.length ≤ 8) : ∀ k, (rcA js k).length ≤ 64 * k
  | 0 => Nat.le_refl _
  | k + 1 => by
    have := rcA_len js h k
    have := rcJ_len js (k + 1 : Nat) h js.length
    rw [rcA, List.length_append]; omega
def rclsR (n : Int) (js : List Jn) : List Cl × Int := if jsB n js = true then (rcA js 15, 0) else ([], 1)

@[go_sem, reducible] def rcE (js : List Jn) (o : List Cl) (tl : List AV) : List AV := [.top, jns js, .top, .top, .top, .top, .top, .own 0 0 o.length none] ++ tl

set_option maxRecDepth 100000 in
set_option maxHeartbeats 8000000 in
theorem rclashes_raw (n : Int) (js : List Jn) (h : JsOk js) (hv : jsB n js = true) : TC Try.prog 15 [.imm (.int .i64 n), jns js] [] (fun v σ' => ∃ k E', v = .tup [.own k 0 (rcA js 15).length none, .imm (.int .i64 0)] ∧
    nthO σ' k = .arr 51 3 (rcA js 15).length E' ∧ ∀ i j, i < (rcA js 15).length → j < 3 → E' i j = elE (rcA js 15).toArray i j) := by
  have hl := h.1
  have hva := rjs_tc n js h
  rw [hv] at hva
  have hl8 : js.length ≤ 8 := by unfold jsB at hv; simp at hv; exact hv.1.2
  (refine TC_of_T Γ_ok Try.func15 rfl (by kernel_rfl) ?_; simp only [Try.ntmps15, Try.results15, List.length_cons, List.length_nil, Nat.reduceSub, Nat.reduceAdd, List.replicate, List.cons_append, List.nil_append])
  (have cl1 := hva; ((refine goR0 _ _ _ _ _ _ _ _ ?_ ?_ ?_ ?_ ?_ ?_ ?_ ?_) <;> (repeat intro hb) <;> first | exact True.intro | refine Lf.mk ?_))
  refine T_loopW (fun m st => ∃ (s : Nat) (o : List Cl), s ≤ 15 ∧ m + s = 15 ∧ o = rcA js s ∧
      st = ⟨rcE js o ([.imm (.int .i64 (s + 1 : Nat))] ++ List.replicate 66 .top), [elO o.length o.toArray]⟩)
    15 ⟨_, Wk.trans (Wk.push 51 3 (elE #[])) ?_, 0, [], by omega, rfl, rfl, rfl⟩ ?_
  · ((try simp only [List.length_append, List.length_cons, List.length_nil, Nat.zero_add]); refine Wk.intro [0] (by decide) (by decide) (by intro o ho; simp at ho ⊢ <;> omega) ?_ ?_ <;> repeat' (first | exact WkVL.nil | refine WkVL.cons ?_ ?_ | exact WkV.top | exact WkV.imm rfl | exact WkV.imm (by simp) | exact WkV.optr rfl | exact WkV.own rfl (by simp) | exact WkV.nil_own (.inl rfl) | exact WkV.map rfl | (refine WkV.free ?_; simp [Free, FreeL] <;> assumption) | (refine WkV.free (fun _ _ => FreeL_nth ?_ _); simp [Free, FreeL]; done) | refine WkV.agg ?_ | refine WkV.tup ?_ | refine WkV.fn ?_ ?_ | exact WkO.dead | exact WkO.raw | refine WkO.ghost ?_ | exact WkO.mpE rfl trivial | refine WkO.box ?_ rfl | refine WkO.arr ?_ | refine And.intro ?_ (And.intro (by first | exact fun h => h | exact fun _ => rfl | exact nofun) ?_) | exact trivial | (intro i j hi hj)))
  rintro m st ⟨s, o, s0, s1, s2, rfl⟩
  have hol := rcA_len js hl8 s
  (simp only [go_sem, ↓reduceIte, Nat.reduceAdd, Nat.reduceSub, Nat.reduceMul, Nat.reduceLT, Nat.reduceLeDiff, Nat.reduceEqDiff, Nat.reduceGT, Int.reduceToNat, Int.reduceBEq, Int.reduceBNe]; try simp (disch := omega) only [wrapI, wrapU, half_sum, toNat_sub1, toNat_add1, Int.toNat_natCast])
  (((refine goR0 _ _ _ _ _ _ _ _ ?_ ?_ ?_ ?_ ?_ ?_ ?_ ?_) <;> (repeat intro hb) <;> first | exact True.intro | refine Lf.mk ?_))
  · refine T_loopW (fun m st => ∃ (a : Nat) (o2 : List Cl), a ≤ js.length ∧ m + a = js.length ∧ o2 = o ++ rcJ js (s + 1 : Nat) a ∧
        st = ⟨rcE js o2 ([.imm (.int .i64 (s + 1 : Nat)), .imm (.int .i64 a)] ++ List.replicate 65 .top), [elO o2.length o2.toArray]⟩)
      js.length ⟨_, ?_, 0, o, by omega, by omega, by simp [rcJ], rfl⟩ ?_
    · ((try simp only [List.length_append, List.length_cons, List.length_nil, Nat.zero_add]); refine Wk.intro [0] (by decide) (by decide) (by intro o ho; simp at ho ⊢ <;> omega) ?_ ?_ <;> repeat' (first | exact WkVL.nil | refine WkVL.cons ?_ ?_ | exact WkV.top | exact WkV.imm rfl | exact WkV.imm (by simp) | exact WkV.optr rfl | exact WkV.own rfl (by simp) | exact WkV.nil_own (.inl rfl) | exact WkV.map rfl | (refine WkV.free ?_; simp [Free, FreeL] <;> assumption) | (refine WkV.free (fun _ _ => FreeL_nth ?_ _); simp [Free, FreeL]; done) | refine WkV.agg ?_ | refine WkV.tup ?_ | refine WkV.fn ?_ ?_ | exact WkO.dead | exact WkO.raw | refine WkO.ghost ?_ | exact WkO.mpE rfl trivial | refine WkO.box ?_ rfl | refine WkO.arr ?_ | refine And.intro ?_ (And.intro (by first | exact fun h => h | exact fun _ => rfl | exact nofun) ?_) | exact trivial | (intro i j hi hj)))
    rintro m st ⟨a, o2, a0, a1, a2, rfl⟩
    have hol2 := rcJ_len js (s + 1 : Nat) hl8 a
    (simp only [go_sem, ↓reduceIte, Nat.reduceAdd, Nat.reduceSub, Nat.reduceMul, Nat.reduceLT, Nat.reduceLeDiff, Nat.reduceEqDiff, Nat.reduceGT, Int.reduceToNat, Int.reduceBEq, Int.reduceBNe]; try simp (disch := omega) only [wrapI, wrapU, half_sum, toNat_sub1, toNat_add1, Int.toNat_natCast])
    (((refine goR0 _ _ _ _ _ _ _ _ ?_ ?_ ?_ ?_ ?_ ?_ ?_ ?_) <;> (repeat intro hb) <;> first | exact True.intro | refine Lf.mk ?_))
    · refine T_loopW (fun m st => ∃ (c : Nat) (o3 : List Cl), c ≤ js.length - (a + 1) ∧ m + c = js.length - (a + 1) ∧ o3 = o2 ++ rcI js (s + 1 : Nat) a c ∧
          st = ⟨rcE js o3 ([.imm (.int .i64 (s + 1 : Nat)), .imm (.int .i64 a), .imm (.int .i64 (a + 1 + c : Nat))] ++ List.replicate 64 .top), [elO o3.length o3.toArray]⟩)
        (js.length - (a + 1)) ⟨_, ?_, 0, o2, by omega, by omega, by simp [rcI], rfl⟩ ?_
      · ((try simp only [List.length_append, List.length_cons, List.length_nil, Nat.zero_add]); refine Wk.intro [0] (by decide) (by decide) (by intro o ho; simp at ho ⊢ <;> omega) ?_ ?_ <;> repeat' (first | (refine WkV.imm ?_; congr 1; omega) | exact WkVL.nil | refine WkVL.cons ?_ ?_ | exact WkV.top | exact WkV.imm rfl | exact WkV.imm (by simp) | exact WkV.optr rfl | exact WkV.own rfl (by simp) | exact WkV.nil_own (.inl rfl) | exact WkV.map rfl | (refine WkV.free ?_; simp [Free, FreeL] <;> assumption) | (refine WkV.free (fun _ _ => FreeL_nth ?_ _); simp [Free, FreeL]; done) | refine WkV.agg ?_ | refine WkV.tup ?_ | refine WkV.fn ?_ ?_ | exact WkO.dead | exact WkO.raw | refine WkO.ghost ?_ | exact WkO.mpE rfl trivial | refine WkO.box ?_ rfl | refine WkO.arr ?_ | refine And.intro ?_ (And.intro (by first | exact fun h => h | exact fun _ => rfl | exact nofun) ?_) | exact trivial | (intro i j hi hj)))
      rintro m st ⟨c, o3, c0, c1, c2, rfl⟩
      have hol3 := rcI_len js (s + 1 : Nat) a c
      have holl : o3.length ≤ 64 * s + 8 * a + c := by rw [c2, a2, s2]; simp only [List.length_append]; omega
      have hsn := fun p q => elE_snoc o3 ⟨(s + 1 : Nat), a, (a + 1 + c : Nat)⟩ (i := p) (j := q)
      have hN : rcI js (s + 1 : Nat) a (c + 1) = if hitAB js (s + 1 : Nat) a (a + 1 + c) = true then rcI js (s + 1 : Nat) a c ++ [⟨(s + 1 : Nat), a, (a + 1 + c : Nat)⟩] else rcI js (s + 1 : Nat) a c := rfl
      unfold hitAB at hN
      cases hx : lookE js (s + 1 : Nat) a with
      | none =>
        rw [hx] at hN
        cases hy : lookE js (s + 1 : Nat) (a + 1 + c) with
        | none =>
          rw [hy] at hN
          have p1 := at_no (h.2 a) hx
          have p2 := at_no (h.2 (a + 1 + c)) hy
          (simp only [go_sem, ↓reduceIte, Nat.reduceAdd, Nat.reduceSub, Nat.reduceMul, Nat.reduceLT, Nat.reduceLeDiff, Nat.reduceEqDiff, Nat.reduceGT, Int.reduceToNat, Int.reduceBEq, Int.reduceBNe]; try simp (disch := omega) only [wrapI, wrapU, half_sum, toNat_sub1, toNat_add1, Int.toNat_natCast])
          (have cp1 := p1; have cp2 := p2; ((refine goR0 _ _ _ _ _ _ _ _ ?_ ?_ ?_ ?_ ?_ ?_ ?_ ?_) <;> (repeat intro hb) <;> first | exact True.intro | refine Lf.mk ?_))
          · refine ⟨js.length - (a + 1) - (c + 1), by omega, _, ?_, c + 1, o3, by omega, by omega, by rw [hN]; exact c2, rfl⟩
            ((try simp only [List.length_append, List.length_cons, List.length_nil, Nat.zero_add]); refine Wk.intro [0] (by decide) (by decide) (by intro o ho; simp at ho ⊢ <;> omega) ?_ ?_ <;> repeat' (first | (refine WkV.imm ?_; congr 1; omega) | (exact WkV.eqF (hsn _ _ (by simpa using hi) hj) (by simp)) | exact WkVL.nil | refine WkVL.cons ?_ ?_ | exact WkV.top | exact WkV.imm rfl | exact WkV.imm (by simp) | exact WkV.optr rfl | exact WkV.own rfl (by simp) | exact WkV.nil_own (.inl rfl) | exact WkV.map rfl | (refine WkV.free ?_; simp [Free, FreeL] <;> assumption) | (refine WkV.free (fun _ _ => FreeL_nth ?_ _); simp [Free, FreeL]; done) | refine WkV.agg ?_ | refine WkV.tup ?_ | refine WkV.fn ?_ ?_ | exact WkO.dead | exact WkO.raw | refine WkO.ghost ?_ | exact WkO.mpE rfl trivial | refine WkO.box ?_ rfl | refine WkO.arr ?_ | refine And.intro ?_ (And.intro (by first | exact fun h => h | exact fun _ => rfl | exact nofun) ?_) | exact trivial | (intro i j hi hj)))
          · have hcc : c = js.length - (a + 1) := by omega
            refine ⟨js.length - (a + 1), by omega, _, ?_, a + 1, o3, by omega, by omega, by rw [c2, a2, rcJ, ← hcc, List.append_assoc], rfl⟩
            ((try simp only [List.length_append, List.length_cons, List.length_nil, Nat.zero_add]); refine Wk.intro [0] (by decide) (by decide) (by intro o ho; simp at ho ⊢ <;> omega) ?_ ?_ <;> repeat' (first | (refine WkV.imm ?_; congr 1; omega) | (exact WkV.eqF (hsn _ _ (by simpa using hi) hj) (by simp)) | exact WkVL.nil | refine WkVL.cons ?_ ?_ | exact WkV.top | exact WkV.imm rfl | exact WkV.imm (by simp) | exact WkV.optr rfl | exact WkV.own rfl (by simp) | exact WkV.nil_own (.inl rfl) | exact WkV.map rfl | (refine WkV.free ?_; simp [Free, FreeL] <;> assumption) | (refine WkV.free (fun _ _ => FreeL_nth ?_ _); simp [Free, FreeL]; done) | refine WkV.agg ?_ | refine WkV.tup ?_ | refine WkV.fn ?_ ?_ | exact WkO.dead | exact WkO.raw | refine WkO.ghost ?_ | exact WkO.mpE rfl trivial | refine WkO.box ?_ rfl | refine WkO.arr ?_ | refine And.intro ?_ (And.intro (by first | exact fun h => h | exact fun _ => rfl | exact nofun) ?_) | exact trivial | (intro i j hi hj)))
        | some y =>
          rw [hy] at hN
          have p1 := at_no (h.2 a) hx
          have p2 := at_yes (h.2 (a + 1 + c)) hy
          (simp only [go_sem, ↓reduceIte, Nat.reduceAdd, Nat.reduceSub, Nat.reduceMul, Nat.reduceLT, Nat.reduceLeDiff, Nat.reduceEqDiff, Nat.reduceGT, Int.reduceToNat, Int.reduceBEq, Int.reduceBNe]; try simp (disch := omega) only [wrapI, wrapU, half_sum, toNat_sub1, toNat_add1, Int.toNat_natCast])
          (have cp1 := p1; have cp2 := p2; ((refine goR0 _ _ _ _ _ _ _ _ ?_ ?_ ?_ ?_ ?_ ?_ ?_ ?_) <;> (repeat intro hb) <;> first | exact True.intro | refine Lf.mk ?_))
          · refine ⟨js.length - (a + 1) - (c + 1), by omega, _, ?_, c + 1, o3, by omega, by omega, by rw [hN]; exact c2, rfl⟩
            ((try simp only [List.length_append, List.length_cons, List.length_nil, Nat.zero_add]); refine Wk.intro [0] (by decide) (by decide) (by intro o ho; simp at ho ⊢ <;> omega) ?_ ?_ <;> repeat' (first | (refine WkV.imm ?_; congr 1; omega) | (exact WkV.eqF (hsn _ _ (by simpa using hi) hj) (by simp)) | exact WkVL.nil | refine WkVL.cons ?_ ?_ | exact WkV.top | exact WkV.imm rfl | exact WkV.imm (by simp) | exact WkV.optr rfl | exact WkV.own rfl (by simp) | exact WkV.nil_own (.inl rfl) | exact WkV.map rfl | (refine WkV.free ?_; simp [Free, FreeL] <;> assumption) | (refine WkV.free (fun _ _ => FreeL_nth ?_ _); simp [Free, FreeL]; done) | refine WkV.agg ?_ | refine WkV.tup ?_ | refine WkV.fn ?_ ?_ | exact WkO.dead | exact WkO.raw | refine WkO.ghost ?_ | exact WkO.mpE rfl trivial | refine WkO.box ?_ rfl | refine WkO.arr ?_ | refine And.intro ?_ (And.intro (by first | exact fun h => h | exact fun _ => rfl | exact nofun) ?_) | exact trivial | (intro i j hi hj)))
          · have hcc : c = js.length - (a + 1) := by omega
            refine ⟨js.length - (a + 1), by omega, _, ?_, a + 1, o3, by omega, by omega, by rw [c2, a2, rcJ, ← hcc, List.append_assoc], rfl⟩
            ((try simp only [List.length_append, List.length_cons, List.length_nil, Nat.zero_add]); refine Wk.intro [0] (by decide) (by decide) (by intro o ho; simp at ho ⊢ <;> omega) ?_ ?_ <;> repeat' (first | (refine WkV.imm ?_; congr 1; omega) | (exact WkV.eqF (hsn _ _ (by simpa using hi) hj) (by simp)) | exact WkVL.nil | refine WkVL.cons ?_ ?_ | exact WkV.top | exact WkV.imm rfl | exact WkV.imm (by simp) | exact WkV.optr rfl | exact WkV.own rfl (by simp) | exact WkV.nil_own (.inl rfl) | exact WkV.map rfl | (refine WkV.free ?_; simp [Free, FreeL] <;> assumption) | (refine WkV.free (fun _ _ => FreeL_nth ?_ _); simp [Free, FreeL]; done) | refine WkV.agg ?_ | refine WkV.tup ?_ | refine WkV.fn ?_ ?_ | exact WkO.dead | exact WkO.raw | refine WkO.ghost ?_ | exact WkO.mpE rfl trivial | refine WkO.box ?_ rfl | refine WkO.arr ?_ | refine And.intro ?_ (And.intro (by first | exact fun h => h | exact fun _ => rfl | exact nofun) ?_) | exact trivial | (intro i j hi hj)))
      | some x =>
        rw [hx] at hN
        cases hy : lookE js (s + 1 : Nat) (a + 1 + c) with
        | none =>
          rw [hy] at hN
          have p1 := at_yes (h.2 a) hx
          have p2 := at_no (h.2 (a + 1 + c)) hy
          (simp only [go_sem, ↓reduceIte, Nat.reduceAdd, Nat.reduceSub, Nat.reduceMul, Nat.reduceLT, Nat.reduceLeDiff, Nat.reduceEqDiff, Nat.reduceGT, Int.reduceToNat, Int.reduceBEq, Int.reduceBNe]; try simp (disch := omega) only [wrapI, wrapU, half_sum, toNat_sub1, toNat_add1, Int.toNat_natCast])
          (have cp1 := p1; have cp2 := p2; ((refine goR0 _ _ _ _ _ _ _ _ ?_ ?_ ?_ ?_ ?_ ?_ ?_ ?_) <;> (repeat intro hb) <;> first | exact True.intro | refine Lf.mk ?_))
          · refine ⟨js.length - (a + 1) - (c + 1), by omega, _, ?_, c + 1, o3, by omega, by omega, by rw [hN]; exact c2, rfl⟩
            ((try simp only [List.length_append, List.length_cons, List.length_nil, Nat.zero_add]); refine Wk.intro [0] (by decide) (by decide) (by intro o ho; simp at ho ⊢ <;> omega) ?_ ?_ <;> repeat' (first | (refine WkV.imm ?_; congr 1; omega) | (exact WkV.eqF (hsn _ _ (by simpa using hi) hj) (by simp)) | exact WkVL.nil | refine WkVL.cons ?_ ?_ | exact WkV.top | exact WkV.imm rfl | exact WkV.imm (by simp) | exact WkV.optr rfl | exact WkV.own rfl (by simp) | exact WkV.nil_own (.inl rfl) | exact WkV.map rfl | (refine WkV.free ?_; simp [Free, FreeL] <;> assumption) | (refine WkV.free (fun _ _ => FreeL_nth ?_ _); simp [Free, FreeL]; done) | refine WkV.agg ?_ | refine WkV.tup ?_ | refine WkV.fn ?_ ?_ | exact WkO.dead | exact WkO.raw | refine WkO.ghost ?_ | exact WkO.mpE rfl trivial | refine WkO.box ?_ rfl | refine WkO.arr ?_ | refine And.intro ?_ (And.intro (by first | exact fun h => h | exact fun _ => rfl | exact nofun) ?_) | exact trivial | (intro i j hi hj)))
          · have hcc : c = js.length - (a + 1) := by omega
            refine ⟨js.length - (a + 1), by omega, _, ?_, a + 1, o3, by omega, by omega, by rw [c2, a2, rcJ, ← hcc, List.append_assoc], rfl⟩
            ((try simp only [List.length_append, List.length_cons, List.length_nil, Nat.zero_add]); refine Wk.intro [0] (by decide) (by decide) (by intro o ho; simp at ho ⊢ <;> omega) ?_ ?_ <;> repeat' (first | (refine WkV.imm ?_; congr 1; omega) | (exact WkV.eqF (hsn _ _ (by simpa using hi) hj) (by simp)) | exact WkVL.nil | refine WkVL.cons ?_ ?_ | exact WkV.top | exact WkV.imm rfl | exact WkV.imm (by simp) | exact WkV.optr rfl | exact WkV.own rfl (by simp) | exact WkV.nil_own (.inl rfl) | exact WkV.map rfl | (refine WkV.free ?_; simp [Free, FreeL] <;> assumption) | (refine WkV.free (fun _ _ => FreeL_nth ?_ _); simp [Free, FreeL]; done) | refine WkV.agg ?_ | refine WkV.tup ?_ | refine WkV.fn ?_ ?_ | exact WkO.dead | exact WkO.raw | refine WkO.ghost ?_ | exact WkO.mpE rfl trivial | refine WkO.box ?_ rfl | refine WkO.arr ?_ | refine And.intro ?_ (And.intro (by first | exact fun h => h | exact fun _ => rfl | exact nofun) ?_) | exact trivial | (intro i j hi hj)))
        | some y =>
          rw [hy] at hN
          have p1 := at_yes (h.2 a) hx
          have p2 := at_yes (h.2 (a + 1 + c)) hy
          (simp only [go_sem, ↓reduceIte, Nat.reduceAdd, Nat.reduceSub, Nat.reduceMul, Nat.reduceLT, Nat.reduceLeDiff, Nat.reduceEqDiff, Nat.reduceGT, Int.reduceToNat, Int.reduceBEq, Int.reduceBNe]; try simp (disch := omega) only [wrapI, wrapU, half_sum, toNat_sub1, toNat_add1, Int.toNat_natCast])
          (have cp1 := p1; have cp2 := p2; ((refine goR0 _ _ _ _ _ _ _ _ ?_ ?_ ?_ ?_ ?_ ?_ ?_ ?_) <;> (repeat intro hb) <;> first | exact True.intro | refine Lf.mk ?_))
          · have hd : tkEq x y = false := by
              cases ht : tkEq x y with
              | false => rfl
              | true =>
                unfold tkEq at ht
                simp only [Bool.and_eq_true, decide_eq_true_eq] at ht
                exact absurd ht.2 (hb ht.1.1.1 ht.1.1.2 ht.1.2)
            refine ⟨js.length - (a + 1) - (c + 1), by omega, _, ?_, c + 1, o3 ++ [⟨(s + 1 : Nat), a, (a + 1 + c : Nat)⟩], by omega, by omega, by rw [hN]; simp only [hd, Bool.not_false, if_true]; rw [c2, List.append_assoc], rfl⟩
            ((try simp only [List.length_append, List.length_cons, List.length_nil, Nat.zero_add]); refine Wk.intro [4] (by decide) (by decide) (by intro o ho; simp at ho ⊢ <;> omega) ?_ ?_ <;> repeat' (first | (refine WkV.imm ?_; congr 1; omega) | (exact WkV.eqF (hsn _ _ (by simpa using hi) hj) (by simp)) | exact WkVL.nil | refine WkVL.cons ?_ ?_ | exact WkV.top | exact WkV.imm rfl | exact WkV.imm (by simp) | exact WkV.optr rfl | exact WkV.own rfl (by simp) | exact WkV.nil_own (.inl rfl) | exact WkV.map rfl | (refine WkV.free ?_; simp [Free, FreeL] <;> assumption) | (refine WkV.free (fun _ _ => FreeL_nth ?_ _); simp [Free, FreeL]; done) | refine WkV.agg ?_ | refine WkV.tup ?_ | refine WkV.fn ?_ ?_ | exact WkO.dead | exact WkO.raw | refine WkO.ghost ?_ | exact WkO.mpE rfl trivial | refine WkO.box ?_ rfl | refine WkO.arr ?_ | refine And.intro ?_ (And.intro (by first | exact fun h => h | exact fun _ => rfl | exact nofun) ?_) | exact trivial | (intro i j hi hj)))
          · have hd : tkEq x y = true := by
              unfold tkEq
              simp [hb.1, hb.2.1, hb.2.2.1, hb.2.2.2]
            refine ⟨js.length - (a + 1) - (c + 1), by omega, _, ?_, c + 1, o3, by omega, by omega, by rw [hN]; simp only [hd, Bool.not_true, Bool.false_eq_true, if_false]; exact c2, rfl⟩
            ((try simp only [List.length_append, List.length_cons, List.length_nil, Nat.zero_add]); refine Wk.intro [0] (by decide) (by decide) (by intro o ho; simp at ho ⊢ <;> omega) ?_ ?_ <;> repeat' (first | (refine WkV.imm ?_; congr 1; omega) | (exact WkV.eqF (hsn _ _ (by simpa using hi) hj) (by simp)) | exact WkVL.nil | refine WkVL.cons ?_ ?_ | exact WkV.top | exact WkV.imm rfl | exact WkV.imm (by simp) | exact WkV.optr rfl | exact WkV.own rfl (by simp) | exact WkV.nil_own (.inl rfl) | exact WkV.map rfl | (refine WkV.free ?_; simp [Free, FreeL] <;> assumption) | (refine WkV.free (fun _ _ => FreeL_nth ?_ _); simp [Free, FreeL]; done) | refine WkV.agg ?_ | refine WkV.tup ?_ | refine WkV.fn ?_ ?_ | exact WkO.dead | exact WkO.raw | refine WkO.ghost ?_ | exact WkO.mpE rfl trivial | refine WkO.box ?_ rfl | refine WkO.arr ?_ | refine And.intro ?_ (And.intro (by first | exact fun h => h | exact fun _ => rfl | exact nofun) ?_) | exact trivial | (intro i j hi hj)))
          · have hcc : c = js.length - (a + 1) := by omega
            refine ⟨js.length - (a + 1), by omega, _, ?_, a + 1, o3, by omega, by omega, by rw [c2, a2, rcJ, ← hcc, List.append_assoc], rfl⟩
            ((try simp only [List.length_append, List.length_cons, List.length_nil, Nat.zero_add]); refine Wk.intro [0] (by decide) (by decide) (by intro o ho; simp at ho ⊢ <;> omega) ?_ ?_ <;> repeat' (first | (refine WkV.imm ?_; congr 1; omega) | (exact WkV.eqF (hsn _ _ (by simpa using hi) hj) (by simp)) | exact WkVL.nil | refine WkVL.cons ?_ ?_ | exact WkV.top | exact WkV.imm rfl | exact WkV.imm (by simp) | exact WkV.optr rfl | exact WkV.own rfl (by simp) | exact WkV.nil_own (.inl rfl) | exact WkV.map rfl | (refine WkV.free ?_; simp [Free, FreeL] <;> assumption) | (refine WkV.free (fun _ _ => FreeL_nth ?_ _); simp [Free, FreeL]; done) | refine WkV.agg ?_ | refine WkV.tup ?_ | refine WkV.fn ?_ ?_ | exact WkO.dead | exact WkO.raw | refine WkO.ghost ?_ | exact WkO.mpE rfl trivial | refine WkO.box ?_ rfl | refine WkO.arr ?_ | refine And.intro ?_ (And.intro (by first | exact fun h => h | exact fun _ => rfl | exact nofun) ?_) | exact trivial | (intro i j hi hj)))
    · obtain rfl : a = js.length := by omega
      refine ⟨15 - (s + 1), by omega, _, ?_, s + 1, o2, by omega, by omega, by rw [a2, s2]; rfl, rfl⟩
      ((try simp only [List.length_append, List.length_cons, List.length_nil, Nat.zero_add]); refine Wk.intro [0] (by decide) (by decide) (by intro o ho; simp at ho ⊢ <;> omega) ?_ ?_ <;> repeat' (first | (refine WkV.imm ?_; congr 1; omega) | exact WkVL.nil | refine WkVL.cons ?_ ?_ | exact WkV.top | exact WkV.imm rfl | exact WkV.imm (by simp) | exact WkV.optr rfl | exact WkV.own rfl (by simp) | exact WkV.nil_own (.inl rfl) | exact WkV.map rfl | (refine WkV.free ?_; simp [Free, FreeL] <;> assumption) | (refine WkV.free (fun _ _ => FreeL_nth ?_ _); simp [Free, FreeL]; done) | refine WkV.agg ?_ | refine WkV.tup ?_ | refine WkV.fn ?_ ?_ | exact WkO.dead | exact WkO.raw | refine WkO.ghost ?_ | exact WkO.mpE rfl trivial | refine WkO.box ?_ rfl | refine WkO.arr ?_ | refine And.intro ?_ (And.intro (by first | exact fun h => h | exact fun _ => rfl | exact nofun) ?_) | exact trivial | (intro i j hi hj)))
  · obtain rfl : s = 15 := by omega
    subst s2
    exact ⟨0, _, rfl, rfl, fun _ _ _ _ => rfl⟩

set_option maxRecDepth 100000 in
set_option maxHeartbeats 4000000 in
theorem rclashes_no (n : Int) (js : List Jn) (h : JsOk js) (hv : jsB n js = false) : TC Try.prog 15 [.imm (.int .i64 n), jns js] [] (fun v _ => ∃ x : Int, x = 1 ∧ v = .tup [.imm (.slice none 0 0), .imm (.int .i64 x)]) := by
  have hva := rjs_tc n js h
  rw [hv] at hva
  (refine TC_of_T Γ_ok Try.func15 rfl (by kernel_rfl) ?_; simp only [Try.ntmps15, Try.results15, List.length_cons, List.length_nil, Nat.reduceSub, Nat.reduceAdd, List.replicate, List.cons_append, List.nil_append])
  (have cl1 := hva; ((refine goR0 _ _ _ _ _ _ _ _ ?_ ?_ ?_ ?_ ?_ ?_ ?_ ?_) <;> (repeat intro hb) <;> first | exact True.intro | refine Lf.mk ?_))
  exact ⟨1, rfl, rfl⟩
theorem rclashes_tc (n : Int) (js : List Jn) (h : JsOk js) : Makes Try.prog 15 [.imm (.int .i64 n), jns js] (.tup [.own 0 0 (rclsR n js).1.length none, .imm (.int .i64 (rclsR n js).2)]) [elO (rclsR n js).1.length (rclsR n js).1.toArray] := by
  refine Makes.lstJ (fun i j => elE_pl _ i j) trivial ?_
  cases hv : jsB n js with
  | true =>
    have e : rclsR n js = (rcA js 15, 0) := if_pos hv
    rw [e]
    exact (rclashes_raw n js h hv).mono fun v σ' hq => .inr hq
  | false =>
    have e : rclsR n js = ([], 1) := if_neg (by simp [hv])
    rw [e]
    refine (rclashes_no n js h hv).mono fun v σ' ⟨x, hx, h1⟩ => .inl ⟨?_, rfl⟩
    subst hx
    exact h1
end Go.Proofs.Ythikkiacgmgdhaa
