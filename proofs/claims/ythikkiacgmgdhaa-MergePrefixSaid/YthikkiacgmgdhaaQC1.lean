/-
  Parts joined: M1 M2 M3 M4 M5.
-/
import Derived.Test.YthikkiacgmgdhaaQGo
import Derived.Test.YthikkiacgmgdhaaQW1
import Derived.Test.YthikkiacgmgdhaaQA5
set_option linter.unusedSimpArgs false
set_option linter.unusedVariables false
namespace Go.Proofs.Ythikkiacgmgdhaa
open Go.Ab

set_option maxRecDepth 100000 in
set_option maxHeartbeats 4000000 in
theorem isCount_tc (n : Int) : Look Try.prog 32 [.imm (.int .i64 n)] (.imm (.bool (decide (1 ≤ n) && decide (n ≤ 8)))) := by
  refine Look.mk trivial ?_
  (refine TC_of_T Γ_ok Try.func32 rfl (by kernel_rfl) ?_; simp only [Try.ntmps32, Try.results32, List.length_cons, List.length_nil, Nat.reduceSub, Nat.reduceAdd, List.replicate, List.cons_append, List.nil_append])
  (((refine goR0 _ _ _ _ _ _ _ _ ?_ ?_ ?_ ?_ ?_ ?_ ?_ ?_) <;> (repeat intro hb) <;> first | exact True.intro | refine Lf.mk ?_))

/-- An entry. -/
structure En where
  s : Int
  c : Int
  n : Int
  d : Int
  b : Int
  v : List Int
def gi (l : List Int) (i : Nat) : Int := l.getD i 0
def inE (l : List Int) (i : Nat) (_ : Nat) : AV := .imm (.int .i64 (gi l i))
@[simp] theorem inE_free (l : List Int) (i j : Nat) : Free (inE l i j) := trivial
@[simp] theorem inE_pl (l : List Int) (i j : Nat) : Pl (inE l i j) := trivial
@[go_sem] theorem inE_us (l : List Int) (i j : Nat) : inE l i j = .imm (.int .i64 (gi l i)) := rfl
@[go_sem, reducible] def ints (l : List Int) : AV := .view l.length 1 (inE l)
@[go_sem, reducible] def enL (x : En) : List AV := [.imm (.int .i64 x.s), .imm (.int .i64 x.c), .imm (.int .i64 x.n), .imm (.int .i64 x.d), .imm (.int .i64 x.b), ints x.v]
@[go_sem, reducible] def enA (x : En) : AV := .agg (enL x)

/-- Desks that rise, behind 'last' and below n. -/
def risB (n : Int) : Int → List Int → Bool
  | _, [] => true
  | l, d :: r => if d ≤ l ∨ d ≥ n then false else risB n d r
def enB (n : Int) (x : En) : Bool := takeB x.s x.c x.n x.d && decide (1 ≤ x.b) && decide (x.b ≤ 1000000) && decide (n < IntKind.i64.wrap (2 * x.v.length)) && risB n (-1) x.v
theorem risB_drop (n l : Int) {v : List Int} {i : Nat} (h : i < v.length) : risB n l (v.drop i) = if gi v i ≤ l ∨ gi v i ≥ n then false else risB n (gi v i) (v.drop (i + 1)) := by
  rw [List.drop_eq_getElem_cons h, risB]
  simp only [gi, List.getD_eq_getElem?_getD, List.getElem?_eq_getElem h, Option.getD_some]

set_option maxRecDepth 100000 in
set_option maxHeartbeats 4000000 in
theorem isEntry_tc (n : Int) (x : En) (hl : x.v.length ≤ 9223372036854775807) : Look Try.prog 33 [.imm (.int .i64 n), enA x] (.imm (.bool (enB n x))) := by
  refine Look.mk trivial ?_
  (refine TC_of_T Γ_ok Try.func33 rfl (by kernel_rfl) ?_; simp only [Try.ntmps33, Try.results33, List.length_cons, List.length_nil, Nat.reduceSub, Nat.reduceAdd, List.replicate, List.cons_append, List.nil_append])
  (have cl1 := fun u1 u2 u3 u4 => take_tc u1 u2 u3 u4; ((refine goR0 _ _ _ _ _ _ _ _ ?_ ?_ ?_ ?_ ?_ ?_ ?_ ?_) <;> (repeat intro hb) <;> first | exact True.intro | refine Lf.mk ?_))
  · congr 2
    unfold enB
    rcases hb with ((h | h) | h) | h
    · simp [h]
    · simp [show ¬ 1 ≤ x.b by omega]
    · simp [show ¬ x.b ≤ 1000000 by omega]
    · simp [show ¬ n < IntKind.i64.wrap (2 * x.v.length) by omega]
  · have he : enB n x = risB n (-1) x.v := by
      unfold enB
      simp [hb.1.1.1, hb.1.1.2, hb.1.2, hb.2]
    rw [he]
    refine T_loopW (fun m st => ∃ (i : Nat) (last : Int), i ≤ x.v.length ∧ m + i = x.v.length ∧ risB n (-1) x.v = risB n last (x.v.drop i) ∧
      st = ⟨[.imm (.int .i64 n), enA x, .top, .optr 0 0 0, .imm (.bool false), .imm (.int .i64 last)] ++ List.replicate 25 .top ++ [ints x.v, .imm (.int .i64 x.v.length), .imm (.int .i64 i)] ++ List.replicate 13 .top, [.box 27 (enL x)]⟩)
      x.v.length ⟨_, ?_, 0, -1, by omega, rfl, rfl, rfl⟩ ?_
    · ((try simp only [List.length_append, List.length_cons, List.length_nil, Nat.zero_add]); refine Wk.intro [0] (by decide) (by decide) (by intro o ho; simp at ho ⊢ <;> omega) ?_ ?_ <;> repeat' (first | exact WkVL.nil | refine WkVL.cons ?_ ?_ | exact WkV.top | exact WkV.imm rfl | exact WkV.imm (by simp) | exact WkV.optr rfl | exact WkV.own rfl (by simp) | exact WkV.nil_own (.inl rfl) | exact WkV.map rfl | (refine WkV.free ?_; simp [Free, FreeL] <;> assumption) | (refine WkV.free (fun _ _ => FreeL_nth ?_ _); simp [Free, FreeL]; done) | refine WkV.agg ?_ | refine WkV.tup ?_ | refine WkV.fn ?_ ?_ | exact WkO.dead | exact WkO.raw | refine WkO.ghost ?_ | exact WkO.mpE rfl trivial | refine WkO.box ?_ rfl | refine WkO.arr ?_ | refine And.intro ?_ (And.intro (by first | exact fun h => h | exact fun _ => rfl | exact nofun) ?_) | exact trivial | (intro i j hi hj)))
    rintro m st ⟨i, last, h0, h1, h2, rfl⟩
    (simp only [go_sem, ↓reduceIte, Nat.reduceAdd, Nat.reduceSub, Nat.reduceMul, Nat.reduceLT, Nat.reduceLeDiff, Nat.reduceEqDiff, Nat.reduceGT, Int.reduceToNat, Int.reduceBEq, Int.reduceBNe]; try simp (disch := omega) only [wrapI, wrapU, half_sum, toNat_sub1, toNat_add1, Int.toNat_natCast])
    (((refine goR0 _ _ _ _ _ _ _ _ ?_ ?_ ?_ ?_ ?_ ?_ ?_ ?_) <;> (repeat intro hb) <;> first | exact True.intro | refine Lf.mk ?_))
    · rw [h2, risB_drop n last (by omega), if_pos hb]
    · refine ⟨x.v.length - (i + 1), by omega, _, ?_, i + 1, gi x.v i, by omega, by omega, ?_, rfl⟩
      · ((try simp only [List.length_append, List.length_cons, List.length_nil, Nat.zero_add]); refine Wk.intro [0] (by decide) (by decide) (by intro o ho; simp at ho ⊢ <;> omega) ?_ ?_ <;> repeat' (first | (refine WkV.imm ?_; congr 1; omega) | exact WkVL.nil | refine WkVL.cons ?_ ?_ | exact WkV.top | exact WkV.imm rfl | exact WkV.imm (by simp) | exact WkV.optr rfl | exact WkV.own rfl (by simp) | exact WkV.nil_own (.inl rfl) | exact WkV.map rfl | (refine WkV.free ?_; simp [Free, FreeL] <;> assumption) | (refine WkV.free (fun _ _ => FreeL_nth ?_ _); simp [Free, FreeL]; done) | refine WkV.agg ?_ | refine WkV.tup ?_ | refine WkV.fn ?_ ?_ | exact WkO.dead | exact WkO.raw | refine WkO.ghost ?_ | exact WkO.mpE rfl trivial | refine WkO.box ?_ rfl | refine WkO.arr ?_ | refine And.intro ?_ (And.intro (by first | exact fun h => h | exact fun _ => rfl | exact nofun) ?_) | exact trivial | (intro i j hi hj)))
      · rw [h2, risB_drop n last (by omega), if_neg (by omega)]
    · congr 2
      rw [h2, List.drop_of_length_le (by omega)]
      rfl
end Go.Proofs.Ythikkiacgmgdhaa
namespace Go.Proofs.Ythikkiacgmgdhaa
open Go.Ab

/-- A journal. -/
structure Jn where
  d : Int
  e : List En
def en0 : En := ⟨0, 0, 0, 0, 0, []⟩
def ge (l : List En) (i : Nat) : En := l.getD i en0
def enE (l : List En) (i j : Nat) : AV := nth (enL (ge l i)) j
@[go_sem] theorem enE_0 (l : List En) (i : Nat) : enE l i 0 = .imm (.int .i64 (ge l i).s) := rfl
@[go_sem] theorem enE_1 (l : List En) (i : Nat) : enE l i 1 = .imm (.int .i64 (ge l i).c) := rfl
@[go_sem] theorem enE_2 (l : List En) (i : Nat) : enE l i 2 = .imm (.int .i64 (ge l i).n) := rfl
@[go_sem] theorem enE_3 (l : List En) (i : Nat) : enE l i 3 = .imm (.int .i64 (ge l i).d) := rfl
@[go_sem] theorem enE_4 (l : List En) (i : Nat) : enE l i 4 = .imm (.int .i64 (ge l i).b) := rfl
@[go_sem] theorem enE_5 (l : List En) (i : Nat) : enE l i 5 = ints (ge l i).v := rfl
@[simp] theorem enE_free (l : List En) (i j : Nat) : Free (enE l i j) := FreeL_nth (by simp [enL, ints, FreeL, Free]) _
@[go_sem, reducible] def ens (l : List En) : AV := .view l.length 6 (enE l)
@[go_sem, reducible] def jnL (j : Jn) : List AV := [.imm (.int .i64 j.d), ens j.e]
@[go_sem, reducible] def jnA (j : Jn) : AV := .agg (jnL j)
/-- Sections that rise behind 'last'. -/
def secB (n : Int) : Int → List En → Bool
  | _, [] => true
  | l, x :: r => if enB n x = false ∨ x.s ≤ l then false else secB n x.s r
def cntB (n : Int) : Bool := decide (1 ≤ n) && decide (n ≤ 8)
def jnB (n : Int) (j : Jn) : Bool := cntB n && decide (0 ≤ j.d) && decide (j.d < n) && secB n 0 j.e
theorem secB_drop (n l : Int) {v : List En} {i : Nat} (h : i < v.length) : secB n l (v.drop i) = if enB n (ge v i) = false ∨ (ge v i).s ≤ l then false else secB n (ge v i).s (v.drop (i + 1)) := by
  rw [List.drop_eq_getElem_cons h, secB]
  simp only [ge, List.getD_eq_getElem?_getD, List.getElem?_eq_getElem h, Option.getD_some]

set_option maxRecDepth 100000 in
set_option maxHeartbeats 4000000 in
theorem valid_tc (n : Int) (j : Jn) (hl : j.e.length ≤ 9223372036854775807) (hv : ∀ i, (ge j.e i).v.length ≤ 9223372036854775807) : Look Try.prog 12 [.imm (.int .i64 n), jnA j] (.imm (.bool (jnB n j))) := by
  refine Look.mk trivial ?_
  (refine TC_of_T Γ_ok Try.func12 rfl (by kernel_rfl) ?_; simp only [Try.ntmps12, Try.results12, List.length_cons, List.length_nil, Nat.reduceSub, Nat.reduceAdd, List.replicate, List.cons_append, List.nil_append])
  (have cl1 := fun u1 => isCount_tc u1; ((refine goR0 _ _ _ _ _ _ _ _ ?_ ?_ ?_ ?_ ?_ ?_ ?_ ?_) <;> (repeat intro hb) <;> first | exact True.intro | refine Lf.mk ?_))
  · congr 2
    unfold jnB cntB
    grind
  · have he : jnB n j = secB n 0 j.e := by
      unfold jnB cntB
      grind
    rw [he]
    refine T_loopW (fun m st => ∃ (i : Nat) (last : Int), i ≤ j.e.length ∧ m + i = j.e.length ∧ secB n 0 j.e = secB n last (j.e.drop i) ∧
      st = ⟨[.imm (.int .i64 n), jnA j, .top, .optr 0 0 0, .imm (.bool false), .imm (.int .i64 last)] ++ List.replicate 17 .top ++ [ens j.e, .imm (.int .i64 j.e.length), .imm (.int .i64 i)] ++ List.replicate 18 .top, [.box 31 (jnL j)]⟩)
      j.e.length ⟨_, ?_, 0, 0, by omega, rfl, rfl, rfl⟩ ?_
    · ((try simp only [List.length_append, List.length_cons, List.length_nil, Nat.zero_add]); refine Wk.intro [0] (by decide) (by decide) (by intro o ho; simp at ho ⊢ <;> omega) ?_ ?_ <;> repeat' (first | exact WkVL.nil | refine WkVL.cons ?_ ?_ | exact WkV.top | exact WkV.imm rfl | exact WkV.imm (by simp) | exact WkV.optr rfl | exact WkV.own rfl (by simp) | exact WkV.nil_own (.inl rfl) | exact WkV.map rfl | (refine WkV.free ?_; simp [Free, FreeL] <;> assumption) | (refine WkV.free (fun _ _ => FreeL_nth ?_ _); simp [Free, FreeL]; done) | refine WkV.agg ?_ | refine WkV.tup ?_ | refine WkV.fn ?_ ?_ | exact WkO.dead | exact WkO.raw | refine WkO.ghost ?_ | exact WkO.mpE rfl trivial | refine WkO.box ?_ rfl | refine WkO.arr ?_ | refine And.intro ?_ (And.intro (by first | exact fun h => h | exact fun _ => rfl | exact nofun) ?_) | exact trivial | (intro i j hi hj)))
    rintro m st ⟨i, last, h0, h1, h2, rfl⟩
    (simp only [go_sem, ↓reduceIte, Nat.reduceAdd, Nat.reduceSub, Nat.reduceMul, Nat.reduceLT, Nat.reduceLeDiff, Nat.reduceEqDiff, Nat.reduceGT, Int.reduceToNat, Int.reduceBEq, Int.reduceBNe]; try simp (disch := omega) only [wrapI, wrapU, half_sum, toNat_sub1, toNat_add1, Int.toNat_natCast])
    (have cl1 := isEntry_tc n (ge j.e i) (hv i); ((refine goR0 _ _ _ _ _ _ _ _ ?_ ?_ ?_ ?_ ?_ ?_ ?_ ?_) <;> (repeat intro hb) <;> first | exact True.intro | refine Lf.mk ?_))
    · rw [h2, secB_drop n last (by omega), if_pos hb]
    · refine ⟨j.e.length - (i + 1), by omega, _, ?_, i + 1, (ge j.e i).s, by omega, by omega, ?_, rfl⟩
      · ((try simp only [List.length_append, List.length_cons, List.length_nil, Nat.zero_add]); refine Wk.intro [0] (by decide) (by decide) (by intro o ho; simp at ho ⊢ <;> omega) ?_ ?_ <;> repeat' (first | (refine WkV.imm ?_; congr 1; omega) | exact WkVL.nil | refine WkVL.cons ?_ ?_ | exact WkV.top | exact WkV.imm rfl | exact WkV.imm (by simp) | exact WkV.optr rfl | exact WkV.own rfl (by simp) | exact WkV.nil_own (.inl rfl) | exact WkV.map rfl | (refine WkV.free ?_; simp [Free, FreeL] <;> assumption) | (refine WkV.free (fun _ _ => FreeL_nth ?_ _); simp [Free, FreeL]; done) | refine WkV.agg ?_ | refine WkV.tup ?_ | refine WkV.fn ?_ ?_ | exact WkO.dead | exact WkO.raw | refine WkO.ghost ?_ | exact WkO.mpE rfl trivial | refine WkO.box ?_ rfl | refine WkO.arr ?_ | refine And.intro ?_ (And.intro (by first | exact fun h => h | exact fun _ => rfl | exact nofun) ?_) | exact trivial | (intro i j hi hj)))
      · rw [h2, secB_drop n last (by omega), if_neg (by simpa using hb)]
    · congr 2
      rw [h2, List.drop_of_length_le (by omega)]
      rfl
end Go.Proofs.Ythikkiacgmgdhaa
namespace Go.Proofs.Ythikkiacgmgdhaa
open Go.Ab

set_option maxRecDepth 100000 in
set_option maxHeartbeats 4000000 in
theorem rtake_tc (s c n d : Int) : Look Try.prog 46 [.agg [.imm (.int .i64 s), .imm (.int .i64 c), .imm (.int .i64 n), .imm (.int .i64 d)]] (.imm (.bool (takeB s c n d))) := by
  refine Look.mk trivial ?_
  (refine TC_of_T Γ_ok Try.func46 rfl (by kernel_rfl) ?_; simp only [Try.ntmps46, Try.results46, List.length_cons, List.length_nil, Nat.reduceSub, Nat.reduceAdd, List.replicate, List.cons_append, List.nil_append])
  (((refine goR0 _ _ _ _ _ _ _ _ ?_ ?_ ?_ ?_ ?_ ?_ ?_ ?_) <;> (repeat intro hb) <;> first | exact True.intro | refine Lf.mk ?_))
  all_goals (refine congrArg (fun b => AV.imm (.bool b)) ?_; unfold takeB; grind)
set_option maxRecDepth 100000 in
set_option maxHeartbeats 4000000 in
theorem rballot_tc (b : Int) : Look Try.prog 47 [.imm (.int .i64 b)] (.imm (.bool (decide (1 ≤ b) && decide (b ≤ 1000000)))) := by
  refine Look.mk trivial ?_
  (refine TC_of_T Γ_ok Try.func47 rfl (by kernel_rfl) ?_; simp only [Try.ntmps47, Try.results47, List.length_cons, List.length_nil, Nat.reduceSub, Nat.reduceAdd, List.replicate, List.cons_append, List.nil_append])
  (((refine goR0 _ _ _ _ _ _ _ _ ?_ ?_ ?_ ?_ ?_ ?_ ?_ ?_) <;> (repeat intro hb) <;> first | exact True.intro | refine Lf.mk ?_))
set_option maxRecDepth 100000 in
set_option maxHeartbeats 4000000 in
theorem rdesks_tc (n : Int) : Look Try.prog 34 [.imm (.int .i64 n)] (.imm (.bool (cntB n))) := by
  refine Look.mk trivial ?_
  (refine TC_of_T Γ_ok Try.func34 rfl (by kernel_rfl) ?_; simp only [Try.ntmps34, Try.results34, List.length_cons, List.length_nil, Nat.reduceSub, Nat.reduceAdd, List.replicate, List.cons_append, List.nil_append])
  (((refine goR0 _ _ _ _ _ _ _ _ ?_ ?_ ?_ ?_ ?_ ?_ ?_ ?_) <;> (repeat intro hb) <;> first | exact True.intro | refine Lf.mk ?_))
  all_goals rfl

set_option maxRecDepth 100000 in
set_option maxHeartbeats 4000000 in
theorem rentry_tc (n : Int) (x : En) (hl : x.v.length ≤ 9223372036854775807) : Look Try.prog 27 [.imm (.int .i64 n), enA x] (.imm (.bool (enB n x))) := by
  refine Look.mk trivial ?_
  (refine TC_of_T Γ_ok Try.func27 rfl (by kernel_rfl) ?_; simp only [Try.ntmps27, Try.results27, List.length_cons, List.length_nil, Nat.reduceSub, Nat.reduceAdd, List.replicate, List.cons_append, List.nil_append])
  (have cl1 := fun u1 u2 u3 u4 => rtake_tc u1 u2 u3 u4; have cl2 := fun u1 => rballot_tc u1; ((refine goR0 _ _ _ _ _ _ _ _ ?_ ?_ ?_ ?_ ?_ ?_ ?_ ?_) <;> (repeat intro hb) <;> first | exact True.intro | refine Lf.mk ?_))
  · congr 2
    unfold enB
    grind
  · have he : enB n x = risB n (-1) x.v := by
      unfold enB
      grind
    rw [he]
    refine T_loopW (fun m st => ∃ (i : Nat) (last : Int), i ≤ x.v.length ∧ m + i = x.v.length ∧ risB n (-1) x.v = risB n last (x.v.drop i) ∧
      st = ⟨[.imm (.int .i64 n), enA x, .top, .optr 0 0 0, .imm (.bool false), .top, .top, .imm (.int .i64 last), .imm (.int .i64 i)] ++ List.replicate 48 .top, [.box 27 (enL x)]⟩)
      x.v.length ⟨_, ?_, 0, -1, by omega, rfl, rfl, rfl⟩ ?_
    · ((try simp only [List.length_append, List.length_cons, List.length_nil, Nat.zero_add]); refine Wk.intro [0] (by decide) (by decide) (by intro o ho; simp at ho ⊢ <;> omega) ?_ ?_ <;> repeat' (first | exact WkVL.nil | refine WkVL.cons ?_ ?_ | exact WkV.top | exact WkV.imm rfl | exact WkV.imm (by simp) | exact WkV.optr rfl | exact WkV.own rfl (by simp) | exact WkV.nil_own (.inl rfl) | exact WkV.map rfl | (refine WkV.free ?_; simp [Free, FreeL] <;> assumption) | (refine WkV.free (fun _ _ => FreeL_nth ?_ _); simp [Free, FreeL]; done) | refine WkV.agg ?_ | refine WkV.tup ?_ | refine WkV.fn ?_ ?_ | exact WkO.dead | exact WkO.raw | refine WkO.ghost ?_ | exact WkO.mpE rfl trivial | refine WkO.box ?_ rfl | refine WkO.arr ?_ | refine And.intro ?_ (And.intro (by first | exact fun h => h | exact fun _ => rfl | exact nofun) ?_) | exact trivial | (intro i j hi hj)))
    rintro m st ⟨i, last, h0, h1, h2, rfl⟩
    (simp only [go_sem, ↓reduceIte, Nat.reduceAdd, Nat.reduceSub, Nat.reduceMul, Nat.reduceLT, Nat.reduceLeDiff, Nat.reduceEqDiff, Nat.reduceGT, Int.reduceToNat, Int.reduceBEq, Int.reduceBNe]; try simp (disch := omega) only [wrapI, wrapU, half_sum, toNat_sub1, toNat_add1, Int.toNat_natCast])
    (((refine goR0 _ _ _ _ _ _ _ _ ?_ ?_ ?_ ?_ ?_ ?_ ?_ ?_) <;> (repeat intro hb) <;> first | exact True.intro | refine Lf.mk ?_))
    · rw [h2, risB_drop n last (by omega), if_pos hb]
    · refine ⟨x.v.length - (i + 1), by omega, _, ?_, i + 1, gi x.v i, by omega, by omega, ?_, rfl⟩
      · ((try simp only [List.length_append, List.length_cons, List.length_nil, Nat.zero_add]); refine Wk.intro [0] (by decide) (by decide) (by intro o ho; simp at ho ⊢ <;> omega) ?_ ?_ <;> repeat' (first | (refine WkV.imm ?_; congr 1; omega) | exact WkVL.nil | refine WkVL.cons ?_ ?_ | exact WkV.top | exact WkV.imm rfl | exact WkV.imm (by simp) | exact WkV.optr rfl | exact WkV.own rfl (by simp) | exact WkV.nil_own (.inl rfl) | exact WkV.map rfl | (refine WkV.free ?_; simp [Free, FreeL] <;> assumption) | (refine WkV.free (fun _ _ => FreeL_nth ?_ _); simp [Free, FreeL]; done) | refine WkV.agg ?_ | refine WkV.tup ?_ | refine WkV.fn ?_ ?_ | exact WkO.dead | exact WkO.raw | refine WkO.ghost ?_ | exact WkO.mpE rfl trivial | refine WkO.box ?_ rfl | refine WkO.arr ?_ | refine And.intro ?_ (And.intro (by first | exact fun h => h | exact fun _ => rfl | exact nofun) ?_) | exact trivial | (intro i j hi hj)))
      · rw [h2, risB_drop n last (by omega), if_neg (by omega)]
    · congr 2
      rw [h2, List.drop_of_length_le (by omega)]
      rfl
end Go.Proofs.Ythikkiacgmgdhaa
namespace Go.Proofs.Ythikkiacgmgdhaa
open Go.Ab

set_option maxRecDepth 100000 in
set_option maxHeartbeats 4000000 in
theorem rvalid_tc (n : Int) (j : Jn) (hl : j.e.length ≤ 9223372036854775807) (hv : ∀ i, (ge j.e i).v.length ≤ 9223372036854775807) : Look Try.prog 13 [.imm (.int .i64 n), jnA j] (.imm (.bool (jnB n j))) := by
  refine Look.mk trivial ?_
  (refine TC_of_T Γ_ok Try.func13 rfl (by kernel_rfl) ?_; simp only [Try.ntmps13, Try.results13, List.length_cons, List.length_nil, Nat.reduceSub, Nat.reduceAdd, List.replicate, List.cons_append, List.nil_append])
  (have cl1 := fun u1 => rdesks_tc u1; ((refine goR0 _ _ _ _ _ _ _ _ ?_ ?_ ?_ ?_ ?_ ?_ ?_ ?_) <;> (repeat intro hb) <;> first | exact True.intro | refine Lf.mk ?_))
  · congr 2
    unfold jnB
    grind
  · have he : jnB n j = secB n 0 j.e := by
      unfold jnB
      grind
    rw [he]
    refine T_loopW (fun m st => ∃ (i : Nat) (last : Int), i ≤ j.e.length ∧ m + i = j.e.length ∧ secB n 0 j.e = secB n last (j.e.drop i) ∧
      st = ⟨[.imm (.int .i64 n), jnA j, .top, .optr 0 0 0, .imm (.bool false), .top, .imm (.int .i64 last), .imm (.int .i64 i)] ++ List.replicate 50 .top, [.box 31 (jnL j)]⟩)
      j.e.length ⟨_, ?_, 0, 0, by omega, rfl, rfl, rfl⟩ ?_
    · ((try simp only [List.length_append, List.length_cons, List.length_nil, Nat.zero_add]); refine Wk.intro [0] (by decide) (by decide) (by intro o ho; simp at ho ⊢ <;> omega) ?_ ?_ <;> repeat' (first | exact WkVL.nil | refine WkVL.cons ?_ ?_ | exact WkV.top | exact WkV.imm rfl | exact WkV.imm (by simp) | exact WkV.optr rfl | exact WkV.own rfl (by simp) | exact WkV.nil_own (.inl rfl) | exact WkV.map rfl | (refine WkV.free ?_; simp [Free, FreeL] <;> assumption) | (refine WkV.free (fun _ _ => FreeL_nth ?_ _); simp [Free, FreeL]; done) | refine WkV.agg ?_ | refine WkV.tup ?_ | refine WkV.fn ?_ ?_ | exact WkO.dead | exact WkO.raw | refine WkO.ghost ?_ | exact WkO.mpE rfl trivial | refine WkO.box ?_ rfl | refine WkO.arr ?_ | refine And.intro ?_ (And.intro (by first | exact fun h => h | exact fun _ => rfl | exact nofun) ?_) | exact trivial | (intro i j hi hj)))
    rintro m st ⟨i, last, h0, h1, h2, rfl⟩
    (simp only [go_sem, ↓reduceIte, Nat.reduceAdd, Nat.reduceSub, Nat.reduceMul, Nat.reduceLT, Nat.reduceLeDiff, Nat.reduceEqDiff, Nat.reduceGT, Int.reduceToNat, Int.reduceBEq, Int.reduceBNe]; try simp (disch := omega) only [wrapI, wrapU, half_sum, toNat_sub1, toNat_add1, Int.toNat_natCast])
    (have cl1 := rentry_tc n (ge j.e i) (hv i); ((refine goR0 _ _ _ _ _ _ _ _ ?_ ?_ ?_ ?_ ?_ ?_ ?_ ?_) <;> (repeat intro hb) <;> first | exact True.intro | refine Lf.mk ?_))
    · rw [h2, secB_drop n last (by omega), if_pos hb]
    · refine ⟨j.e.length - (i + 1), by omega, _, ?_, i + 1, (ge j.e i).s, by omega, by omega, ?_, rfl⟩
      · ((try simp only [List.length_append, List.length_cons, List.length_nil, Nat.zero_add]); refine Wk.intro [0] (by decide) (by decide) (by intro o ho; simp at ho ⊢ <;> omega) ?_ ?_ <;> repeat' (first | (refine WkV.imm ?_; congr 1; omega) | exact WkVL.nil | refine WkVL.cons ?_ ?_ | exact WkV.top | exact WkV.imm rfl | exact WkV.imm (by simp) | exact WkV.optr rfl | exact WkV.own rfl (by simp) | exact WkV.nil_own (.inl rfl) | exact WkV.map rfl | (refine WkV.free ?_; simp [Free, FreeL] <;> assumption) | (refine WkV.free (fun _ _ => FreeL_nth ?_ _); simp [Free, FreeL]; done) | refine WkV.agg ?_ | refine WkV.tup ?_ | refine WkV.fn ?_ ?_ | exact WkO.dead | exact WkO.raw | refine WkO.ghost ?_ | exact WkO.mpE rfl trivial | refine WkO.box ?_ rfl | refine WkO.arr ?_ | refine And.intro ?_ (And.intro (by first | exact fun h => h | exact fun _ => rfl | exact nofun) ?_) | exact trivial | (intro i j hi hj)))
      · rw [h2, secB_drop n last (by omega), if_neg (by simpa using hb)]
    · congr 2
      rw [h2, List.drop_of_length_le (by omega)]
      rfl
end Go.Proofs.Ythikkiacgmgdhaa
namespace Go.Proofs.Ythikkiacgmgdhaa
open Go.Ab

def hasB (l : List Int) (x : Int) : Bool := l.any (fun y => decide (y = x))
theorem hasB_drop {l : List Int} (x : Int) {i : Nat} (h : i < l.length) : hasB (l.drop i) x = (decide (gi l i = x) || hasB (l.drop (i + 1)) x) := by
  rw [List.drop_eq_getElem_cons h, hasB, List.any_cons]
  simp only [gi, List.getD_eq_getElem?_getD, List.getElem?_eq_getElem h, Option.getD_some, hasB]

set_option maxRecDepth 100000 in
set_option maxHeartbeats 4000000 in
theorem rhas_tc (l : List Int) (x : Int) (hl : l.length ≤ 9223372036854775807) : Look Try.prog 28 [ints l, .imm (.int .i64 x)] (.imm (.bool (hasB l x))) := by
  refine Look.mk trivial ?_
  (refine TC_of_T Γ_ok Try.func28 rfl (by kernel_rfl) ?_; simp only [Try.ntmps28, Try.results28, List.length_cons, List.length_nil, Nat.reduceSub, Nat.reduceAdd, List.replicate, List.cons_append, List.nil_append])
  (((refine goR0 _ _ _ _ _ _ _ _ ?_ ?_ ?_ ?_ ?_ ?_ ?_ ?_) <;> (repeat intro hb) <;> first | exact True.intro | refine Lf.mk ?_))
  refine T_loopW (fun m st => ∃ i : Nat, i ≤ l.length ∧ m + i = l.length ∧ hasB l x = hasB (l.drop i) x ∧
      st = ⟨[ints l, .imm (.int .i64 x), .top, .top, .imm (.bool false), .imm (.int .i64 i)] ++ List.replicate 12 .top, []⟩)
      l.length ⟨_, ?_, 0, by omega, rfl, rfl, rfl⟩ ?_
  · ((try simp only [List.length_append, List.length_cons, List.length_nil, Nat.zero_add]); refine Wk.intro [] (by decide) (by decide) (by intro o ho; simp at ho ⊢ <;> omega) ?_ ?_ <;> repeat' (first | exact WkVL.nil | refine WkVL.cons ?_ ?_ | exact WkV.top | exact WkV.imm rfl | exact WkV.imm (by simp) | exact WkV.optr rfl | exact WkV.own rfl (by simp) | exact WkV.nil_own (.inl rfl) | exact WkV.map rfl | (refine WkV.free ?_; simp [Free, FreeL] <;> assumption) | (refine WkV.free (fun _ _ => FreeL_nth ?_ _); simp [Free, FreeL]; done) | refine WkV.agg ?_ | refine WkV.tup ?_ | refine WkV.fn ?_ ?_ | exact WkO.dead | exact WkO.raw | refine WkO.ghost ?_ | exact WkO.mpE rfl trivial | refine WkO.box ?_ rfl | refine WkO.arr ?_ | refine And.intro ?_ (And.intro (by first | exact fun h => h | exact fun _ => rfl | exact nofun) ?_) | exact trivial | (intro i j hi hj)))
  rintro m st ⟨i, h0, h1, h2, rfl⟩
  (simp only [go_sem, ↓reduceIte, Nat.reduceAdd, Nat.reduceSub, Nat.reduceMul, Nat.reduceLT, Nat.reduceLeDiff, Nat.reduceEqDiff, Nat.reduceGT, Int.reduceToNat, Int.reduceBEq, Int.reduceBNe]; try simp (disch := omega) only [wrapI, wrapU, half_sum, toNat_sub1, toNat_add1, Int.toNat_natCast])
  (((refine goR0 _ _ _ _ _ _ _ _ ?_ ?_ ?_ ?_ ?_ ?_ ?_ ?_) <;> (repeat intro hb) <;> first | exact True.intro | refine Lf.mk ?_))
  · rw [h2, hasB_drop x (by omega)]; simp [hb]
  · refine ⟨l.length - (i + 1), by omega, _, ?_, i + 1, by omega, by omega, ?_, rfl⟩
    · ((try simp only [List.length_append, List.length_cons, List.length_nil, Nat.zero_add]); refine Wk.intro [] (by decide) (by decide) (by intro o ho; simp at ho ⊢ <;> omega) ?_ ?_ <;> repeat' (first | (refine WkV.imm ?_; congr 1; omega) | exact WkVL.nil | refine WkVL.cons ?_ ?_ | exact WkV.top | exact WkV.imm rfl | exact WkV.imm (by simp) | exact WkV.optr rfl | exact WkV.own rfl (by simp) | exact WkV.nil_own (.inl rfl) | exact WkV.map rfl | (refine WkV.free ?_; simp [Free, FreeL] <;> assumption) | (refine WkV.free (fun _ _ => FreeL_nth ?_ _); simp [Free, FreeL]; done) | refine WkV.agg ?_ | refine WkV.tup ?_ | refine WkV.fn ?_ ?_ | exact WkO.dead | exact WkO.raw | refine WkO.ghost ?_ | exact WkO.mpE rfl trivial | refine WkO.box ?_ rfl | refine WkO.arr ?_ | refine And.intro ?_ (And.intro (by first | exact fun h => h | exact fun _ => rfl | exact nofun) ?_) | exact trivial | (intro i j hi hj)))
    · rw [h2, hasB_drop x (by omega)]; simp [hb]
  · congr 2
    rw [h2, List.drop_of_length_le (by omega)]
    rfl
end Go.Proofs.Ythikkiacgmgdhaa
