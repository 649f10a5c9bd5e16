/-
  The reference's At.
-/
import Derived.Test.YthikkiacgmgdhaaQGo
import Derived.Test.YthikkiacgmgdhaaQM17
set_option linter.unusedSimpArgs false
set_option linter.unusedVariables false
namespace Go.Proofs.Ythikkiacgmgdhaa
open Go.Ab

def EV (v v2 : AV) : Prop := ∀ ρ w x, Rv ρ w v x → Rv ρ w v2 x
theorem EV.refl {v : AV} : EV v v := fun _ _ _ h => h
theorem EV.top {v : AV} : EV v .top := fun _ _ _ _ => by simp [Rv]
theorem EV.imm {a b : Value} (h : a = b) : EV (.imm a) (.imm b) := h ▸ EV.refl
def EVL (vs us : List AV) : Prop := ∀ ρ w xs, RvL ρ w vs xs → RvL ρ w us xs
theorem EVL.nil : EVL [] [] := fun _ _ _ h => h
theorem EVL.cons {v u : AV} {vs us : List AV} (h : EV v u) (hs : EVL vs us) : EVL (v :: vs) (u :: us) := fun ρ w xs hx => by
  cases xs with
  | nil => simp [RvL] at hx
  | cons x xs => simp only [RvL] at hx ⊢; exact ⟨h _ _ _ hx.1, hs _ _ _ hx.2⟩
/-- To say less of the frame alone. -/
theorem Wk.env {n : Nat} {e e2 : List AV} {σ : List AObj} (h : EVL e e2) : Wk n ⟨e, σ⟩ ⟨e2, σ⟩ := fun rd ρ0 W0 a w _ ⟨ρ, h1, h2, h3, h4⟩ => ⟨ρ, h1, h2, h _ _ _ h3, h4⟩

def zeroEn : AV := .agg [.imm (.int .i64 0), .imm (.int .i64 0), .imm (.int .i64 0), .imm (.int .i64 0), .imm (.int .i64 0), .imm (.slice none 0 0)]
def atV (j : Jn) (s : Int) : AV := match atE j.e s with | some x => enA x | none => zeroEn
theorem atE_drop {es : List En} {s : Int} {i : Nat} (h : i < es.length) : atE (es.drop i) s = if (ge es i).s = s then some (ge es i) else atE (es.drop (i + 1)) s := by
  rw [List.drop_eq_getElem_cons h, atE, List.find?_cons]
  simp only [ge, List.getD_eq_getElem?_getD, List.getElem?_eq_getElem h, Option.getD_some, atE]
  split <;> simp_all

attribute [local go_sem] List.append_assoc nthO_pre0 nthO_pre set_pre set_pre0 List.length_append Nat.add_assoc

set_option maxRecDepth 100000 in
set_option maxHeartbeats 4000000 in
theorem at_raw (j : Jn) (s : Int) (h : JnOk j) (σ0 : List AObj) : TC Try.prog 26 [jnA j, .imm (.int .i64 s)] σ0 (fun u σ' => ∃ s', u = .tup [atV j s, .imm (.bool (atE j.e s).isSome)] ∧ σ' = σ0 ++ s') := by
  have hl := h.1
  unfold atV
  (refine TC_of_T Γ_ok Try.func26 rfl (by kernel_rfl) ?_; simp only [Try.ntmps26, Try.results26, List.length_cons, List.length_nil, Nat.reduceSub, Nat.reduceAdd, List.replicate, List.cons_append, List.nil_append])
  (((refine goR0 _ _ _ _ _ _ _ _ ?_ ?_ ?_ ?_ ?_ ?_ ?_ ?_) <;> (repeat intro hb) <;> first | exact True.intro | refine Lf.mk ?_))
  refine T_loopW (fun m st => ∃ (i : Nat), i ≤ j.e.length ∧ m + i = j.e.length ∧ atE j.e s = atE (j.e.drop i) s ∧
      st = ⟨[.top, .imm (.int .i64 s), .optr σ0.length 0 0, .top, .optr (σ0.length + 1) 0 0, .imm (.bool false), .imm (.int .i64 i)] ++ List.replicate 22 .top, σ0 ++ [.box 31 (jnL j), .box 27 [.imm (.int .i64 0), .imm (.int .i64 0), .imm (.int .i64 0), .imm (.int .i64 0), .imm (.int .i64 0), .imm (.slice none 0 0)]]⟩)
    j.e.length ⟨_, Wk.env ?_, 0, by omega, rfl, rfl, rfl⟩ ?_
  · repeat' (first | exact EVL.nil | refine EVL.cons ?_ ?_ | exact EV.top | exact EV.refl)
  rintro m st ⟨i, h0, h1, h2, rfl⟩
  (simp only [go_sem, ↓reduceIte, Nat.reduceAdd, Nat.reduceSub, Nat.reduceMul, Nat.reduceLT, Nat.reduceLeDiff, Nat.reduceEqDiff, Nat.reduceGT, Int.reduceToNat, Int.reduceBEq, Int.reduceBNe]; try simp (disch := omega) only [wrapI, wrapU, half_sum, toNat_sub1, toNat_add1, Int.toNat_natCast])
  (((refine goR0 _ _ _ _ _ _ _ _ ?_ ?_ ?_ ?_ ?_ ?_ ?_ ?_) <;> (repeat intro hb) <;> first | exact True.intro | refine Lf.mk ?_))
  · rw [h2, atE_drop (by omega), if_pos hb]
    exact ⟨_, rfl, rfl⟩
  · refine ⟨j.e.length - (i + 1), by omega, _, Wk.env ?_, i + 1, by omega, by omega, by rw [h2, atE_drop (by omega), if_neg hb], rfl⟩
    repeat' (first | exact EVL.nil | refine EVL.cons ?_ ?_ | exact EV.top | exact EV.refl | (refine EV.imm ?_; congr 1; omega))
  · rw [h2, List.drop_of_length_le (by omega)]
    exact ⟨_, rfl, rfl⟩
theorem at_peek (j : Jn) (s : Int) (h : JnOk j) : Peek Try.prog 26 [jnA j, .imm (.int .i64 s)] (.tup [atV j s, .imm (.bool (atE j.e s).isSome)]) := by
  refine ⟨fun σ0 _ => (at_raw j s h σ0).mono fun v σ' ⟨s', h1, h2⟩ => ⟨h1, s', h2⟩, ?_⟩
  unfold atV
  cases atE j.e s with
  | none => simp [zeroEn, Free, FreeL]
  | some x => simp [enA, enL, ints, Free, FreeL]
theorem at_yes {j : Jn} {s : Int} {x : En} (h : JnOk j) (hx : atE j.e s = some x) : Peek Try.prog 26 [jnA j, .imm (.int .i64 s)] (.tup [enA x, .imm (.bool true)]) := by
  have := at_peek j s h
  unfold atV at this
  rwa [hx] at this
theorem at_no {j : Jn} {s : Int} (h : JnOk j) (hx : atE j.e s = none) : Peek Try.prog 26 [jnA j, .imm (.int .i64 s)] (.tup [.agg [.imm (.int .i64 0), .imm (.int .i64 0), .imm (.int .i64 0), .imm (.int .i64 0), .imm (.int .i64 0), .imm (.slice none 0 0)], .imm (.bool false)]) := by
  have := at_peek j s h
  unfold atV at this
  rwa [hx] at this
end Go.Proofs.Ythikkiacgmgdhaa
