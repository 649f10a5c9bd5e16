/-
  The memory that records lead to: what store.acceptor and the deeds do to it.
-/
import Derived.Test.YtnomenmakhielaaDoorQGo
import Derived.Test.YtnomenmakhielaaDoorQS3
import Derived.Test.YtnomenmakhielaaDoorQS6
import Derived.Test.YtnomenmakhielaaDoorQL5
set_option linter.unusedSimpArgs false
set_option linter.unusedVariables false
namespace Go.Proofs.YtnomenmakhielaaDoor
open Go.Ab

def gA' (l : List Acc) (i : Nat) : Acc := l.getD i ⟨0, 0, tk0⟩
def acE (l : List Acc) (i j : Nat) : AV := nth (accL (gA' l i)) j
@[go_sem] theorem acE_0 (l : List Acc) (i : Nat) : acE l i 0 = .imm (.int .i64 (gA' l i).p) := rfl
@[go_sem] theorem acE_1 (l : List Acc) (i : Nat) : acE l i 1 = .imm (.int .i64 (gA' l i).v) := rfl
@[go_sem] theorem acE_2 (l : List Acc) (i : Nat) : acE l i 2 = .imm (.int .i64 (gA' l i).x.s) := rfl
@[go_sem] theorem acE_3 (l : List Acc) (i : Nat) : acE l i 3 = .imm (.int .i64 (gA' l i).x.c) := rfl
@[go_sem] theorem acE_4 (l : List Acc) (i : Nat) : acE l i 4 = .imm (.int .i64 (gA' l i).x.n) := rfl
@[go_sem] theorem acE_5 (l : List Acc) (i : Nat) : acE l i 5 = .imm (.int .i64 (gA' l i).x.d) := rfl
theorem acE_cases (l : List Acc) (i j : Nat) (Q : AV → Prop) (h0 : ∀ v, Q (.imm v)) (ht : Q .top) : Q (acE l i j) := by
  match j with
  | 0 | 1 | 2 | 3 | 4 | 5 => exact h0 _
  | j + 6 => exact ht
@[simp] theorem acE_free (l : List Acc) (i j : Nat) : Free (acE l i j) := acE_cases l i j Free (fun _ => trivial) trivial
@[simp] theorem acE_pl (l : List Acc) (i j : Nat) : Pl (acE l i j) := acE_cases l i j Pl (fun _ => trivial) trivial
@[go_sem, reducible] def acs (l : List Acc) : AV := .view l.length 6 (acE l)
@[go_sem, reducible] def acO (l : List Acc) : AObj := .arr 35 6 l.length (acE l)
theorem ac_snoc (l : List Acc) (x : Acc) {i j : Nat} (h : i < l.length + 1) (hj : j < 6) : catE l.length (acE l) (fun i j => nth (accL x) (i * 6 + j)) i j = acE (l ++ [x]) i j := by
  unfold catE acE gA'
  split
  · rename_i h1; simp [List.getElem?_append_left h1]
  · rename_i h1
    have e : i = l.length := by omega
    subst e
    simp

/-- The memory's acceptors, as many as a section wants. -/
def ac0 : Acc := ⟨0, 0, tk0⟩
def grow (A : List Acc) (s : Nat) : List Acc := A ++ List.replicate (s - A.length) ac0
theorem grow_len (A : List Acc) (s : Nat) : (grow A s).length = max A.length s := by simp [grow]; omega
@[go_sem, reducible] def memO (o1 o2 : Nat) (A : List Acc) (L : List Tk) : AObj := .box 28 [.own o1 0 A.length none, .own o2 0 L.length none]

set_option maxRecDepth 100000 in
set_option maxHeartbeats 1000000 in
theorem acceptor_tc (A : List Acc) (L : List Tk) (s : Nat) (h1 : 1 ≤ s) (h2 : s < 16) (hA : A.length ≤ 1000) :
    TC Tryd.prog 54 [.optr 0 0 0, .imm (.int .i64 s)] [memO 1 2 A L, acO A, tkO L] (fun v σ' => v = .optr 3 (s - 1) 0 ∧ σ' = [memO 3 2 (grow A s) L, .dead, tkO L, acO (grow A s)]) := by
  (refine TC_of_T Γ_ok Tryd.func54 rfl (by kernel_rfl) ?_; simp only [Tryd.ntmps54, Tryd.results54, List.length_cons, List.length_nil, Nat.reduceSub, Nat.reduceAdd, List.replicate, List.cons_append, List.nil_append])
  (((refine goR0 _ _ _ _ _ _ _ _ ?_ ?_ ?_ ?_ ?_ ?_ ?_ ?_) <;> (repeat intro hb) <;> first | exact True.intro | refine Lf.mk ?_))
  refine T_loopW (fun m st => ∃ k : Nat, k ≤ s - A.length ∧ m + k = s - A.length ∧ st = ⟨[.optr 0 0 0, .imm (.int .i64 s), .top, .top, .imm (.pointer none)] ++ List.replicate 24 .top, [memO 3 2 (grow A (A.length + k)) L, .dead, tkO L, acO (grow A (A.length + k))]⟩)
    (s - A.length) ⟨_, ?_, 0, by omega, by omega, rfl⟩ ?_
  · rw [Nat.add_zero, show grow A A.length = A by simp [grow]]
    ((try simp only [List.length_append, List.length_cons, List.length_nil, Nat.zero_add]); refine Wk.introM [0, 1, 2, 1] (by decide) (rfl) (by intro o ho; simp at ho ⊢ <;> omega) ?_ ?_ <;> repeat' (first | exact WkVL.nil | refine WkVL.cons ?_ ?_ | exact WkV.top | exact WkV.imm rfl | exact WkV.imm (by simp) | exact WkV.optr rfl | exact WkV.own rfl (by simp) | exact WkV.nil_own (.inl rfl) | exact WkV.map rfl | (refine WkV.free ?_; simp [Free, FreeL] <;> assumption) | (refine WkV.free (fun _ _ => FreeL_nth ?_ _); simp [Free, FreeL]; done) | refine WkV.agg ?_ | refine WkV.tup ?_ | refine WkV.fn ?_ ?_ | exact WkO.dead | exact WkO.raw | refine WkO.ghost ?_ | exact WkO.mpE rfl trivial | refine WkO.box ?_ rfl | refine WkO.arr ?_ | refine And.intro ?_ (And.intro (by first | exact fun h => h | exact fun _ => rfl | exact nofun) ?_) | exact trivial | (intro i j hi hj)))
  rintro m st ⟨k, g1, g2, rfl⟩
  have hlen : (grow A (A.length + k)).length = A.length + k := by rw [grow_len]; omega
  (simp only [go_sem, ↓reduceIte, Nat.reduceAdd, Nat.reduceSub, Nat.reduceMul, Nat.reduceLT, Nat.reduceLeDiff, Nat.reduceEqDiff, Nat.reduceGT, Int.reduceToNat, Int.reduceBEq, Int.reduceBNe]; try simp (disch := omega) only [wrapI, wrapU, half_sum, toNat_sub1, toNat_add1, Int.toNat_natCast])
  by_cases hk : k < s - A.length
  · (((refine goR0 _ _ _ _ _ _ _ _ ?_ ?_ ?_ ?_ ?_ ?_ ?_ ?_) <;> (repeat intro hb) <;> first | exact True.intro | refine Lf.mk ?_))
    · refine ⟨s - A.length - (k + 1), by omega, _, ?_, k + 1, by omega, by omega, rfl⟩
      have e : grow A (A.length + (k + 1)) = grow A (A.length + k) ++ [ac0] := by
        unfold grow
        rw [show A.length + (k + 1) - A.length = k + 1 by omega, show A.length + k - A.length = k by omega, List.replicate_succ', List.append_assoc]
      rw [e]
      generalize grow A (A.length + k) = B
      ((try simp only [List.length_append, List.length_cons, List.length_nil, Nat.zero_add]); refine Wk.intro [0, 1, 2, 5] (by decide) (by decide) (by intro o ho; simp at ho ⊢ <;> omega) ?_ ?_ <;> repeat' (first | exact WkV.eqF (ac_snoc B ac0 (by simpa using hi) hj) (acE_free _ _ _) | exact WkVL.nil | refine WkVL.cons ?_ ?_ | exact WkV.top | exact WkV.imm rfl | exact WkV.imm (by simp) | exact WkV.optr rfl | exact WkV.own rfl (by simp) | exact WkV.nil_own (.inl rfl) | exact WkV.map rfl | (refine WkV.free ?_; simp [Free, FreeL] <;> assumption) | (refine WkV.free (fun _ _ => FreeL_nth ?_ _); simp [Free, FreeL]; done) | refine WkV.agg ?_ | refine WkV.tup ?_ | refine WkV.fn ?_ ?_ | exact WkO.dead | exact WkO.raw | refine WkO.ghost ?_ | exact WkO.mpE rfl trivial | refine WkO.box ?_ rfl | refine WkO.arr ?_ | refine And.intro ?_ (And.intro (by first | exact fun h => h | exact fun _ => rfl | exact nofun) ?_) | exact trivial | (intro i j hi hj)))
  · have e : grow A (A.length + k) = grow A s := by unfold grow; rw [show A.length + k - A.length = s - A.length by omega]
    rw [e] at hlen ⊢
    have hge : s ≤ (grow A s).length := by rw [grow_len]; omega
    (((refine goR0 _ _ _ _ _ _ _ _ ?_ ?_ ?_ ?_ ?_ ?_ ?_ ?_) <;> (repeat intro hb) <;> first | exact True.intro | refine Lf.mk ?_))
theorem acceptor_turns (A : List Acc) (L : List Tk) (s : Nat) (h1 : 1 ≤ s) (h2 : s < 16) (hA : A.length ≤ 1000) :
    Turns Tryd.prog 54 [.optr 0 0 0, .imm (.int .i64 s)] [memO 1 2 A L, acO A, tkO L] (.optr 3 (s - 1) 0) [memO 3 2 (grow A s) L, .dead, tkO L, acO (grow A s)] :=
  ⟨acceptor_tc A L s h1 h2 hA, trivial, fun a ha => by simp at ha; rcases ha with rfl | rfl | rfl | rfl <;> simp [VFO, VFL, VF]⟩
theorem prepare_e (p v s c n e d b : Int) : Look Tryd.prog 55 [.agg [.imm (.int .i64 p), .imm (.int .i64 v), .imm (.int .i64 s), .imm (.int .i64 c), .imm (.int .i64 n), .imm (.int .i64 e)], .imm (.int .i64 d), .imm (.int .i64 b)]
    (.tup [accA (prepR ⟨p, v, ⟨s, c, n, e⟩⟩ d b).1, proA (prepR ⟨p, v, ⟨s, c, n, e⟩⟩ d b).2.1, .imm (.int .i64 (prepR ⟨p, v, ⟨s, c, n, e⟩⟩ d b).2.2)]) := prepare_tc ⟨p, v, ⟨s, c, n, e⟩⟩ d b
theorem accept_e (p v s c n e d b s' c' n' e' : Int) : Look Tryd.prog 57 [.agg [.imm (.int .i64 p), .imm (.int .i64 v), .imm (.int .i64 s), .imm (.int .i64 c), .imm (.int .i64 n), .imm (.int .i64 e)], .imm (.int .i64 d), .imm (.int .i64 b), .agg [.imm (.int .i64 s'), .imm (.int .i64 c'), .imm (.int .i64 n'), .imm (.int .i64 e')]]
    (.tup [accA (accR ⟨p, v, ⟨s, c, n, e⟩⟩ d b ⟨s', c', n', e'⟩).1, votA (accR ⟨p, v, ⟨s, c, n, e⟩⟩ d b ⟨s', c', n', e'⟩).2.1, .imm (.int .i64 (accR ⟨p, v, ⟨s, c, n, e⟩⟩ d b ⟨s', c', n', e'⟩).2.2)]) := accept_tc ⟨p, v, ⟨s, c, n, e⟩⟩ d b ⟨s', c', n', e'⟩

end Go.Proofs.YtnomenmakhielaaDoor
