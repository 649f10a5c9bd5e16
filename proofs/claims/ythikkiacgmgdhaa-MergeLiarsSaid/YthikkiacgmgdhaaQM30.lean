/-
  MergeLiars: the walk of the law.
-/
import Derived.Test.YthikkiacgmgdhaaQGo
import Derived.Test.YthikkiacgmgdhaaQM28
set_option linter.unusedSimpArgs false
set_option linter.unusedVariables false
namespace Go.Proofs.Ythikkiacgmgdhaa
open Go.Ab

theorem mkR_nil {M : Nat → Bool} (h : ∀ k, M k = false) (n : Nat) : mkR M n = [] := by
  rw [List.eq_nil_iff_forall_not_mem]
  intro x hx
  obtain ⟨k, _, h2, _⟩ := mkR_mem.1 hx
  rw [h] at h2; cases h2

set_option maxRecDepth 100000 in
set_option maxHeartbeats 16000000 in
theorem liars_law (n : Int) (js : List Jn) (h : JsOk js) : Look Try.prog 8 [.imm (.int .i64 n), jns js] (.imm (.bool true)) := by
  have hl := h.1
  have c1 := clashes_tc n js h
  rw [cls_eq] at c1
  unfold rclsR at c1
  have c2 := liars_tc n js h
  rw [lia_eq] at c2
  unfold rliR at c2
  refine Look.mk trivial ?_
  by_cases hv : jsB n js = true
  · rw [if_pos hv] at c1 c2
    have hok := clsL_ok hv
    rw [clsL_rcA hv] at hok
    have hcl := clsL_le hv
    rw [clsL_rcA hv] at hcl
    have hl8 : js.length ≤ 8 := by unfold jsB at hv; simp at hv; exact hv.1.2
    have hn8 : 1 ≤ n ∧ n ≤ 8 := by unfold jsB cntB at hv; simp at hv; omega
    have hcn : cntB n = true := by unfold jsB at hv; simp at hv; exact hv.1.1
    have hjv : ∀ i, i < js.length → jnB n (gj js i) = true := fun i hi => allJ_gj (n := n) (l := js) (by unfold jsB at hv; simp at hv; exact hv.2) hi
    generalize rcA js 15 = cs at c1 c2 hok hcl
    simp only [] at c1 c2
    have hL : ∀ d : Int, 0 ≤ d → d < n → liesB js cs d = true → hasB (mkR (fun d => liesB js cs d) n.toNat) d = true := fun d h1 h2 h3 => hasB_iff.2 (mkR_mem.2 ⟨d.toNat, by omega, by rw [Int.toNat_of_nonneg h1]; exact h3, by omega⟩)
    have h0 : cs.length = 0 → (mkR (fun d => liesB js cs d) n.toNat).length = 0 := fun e => by
      rw [List.length_eq_zero_iff] at e
      subst e
      rw [mkR_nil (M := fun d : Nat => liesB js [] (d : Int)) (fun k => rfl)]; rfl
    have hll := mkR_len (fun d => liesB js cs d) n.toNat
    have hlie := fun d => liesB_iff (js := js) (cs := cs) (d := d)
    generalize mkR (fun d => liesB js cs d) n.toNat = L at c2 hL h0 hll
    have e0 : (decide ((cs.length : Int) > 0) || decide ((L.length : Int) = 0)) = true := by
      by_cases hz : cs.length = 0
      · rw [decide_eq_true (p := (L.length : Int) = 0) (by have := h0 hz; omega)]; simp
      · rw [decide_eq_true (p := (cs.length : Int) > 0) (by omega)]; simp
    (refine TC_of_T Γ_ok Try.func8 rfl (by kernel_rfl) ?_; simp only [Try.ntmps8, Try.results8, List.length_cons, List.length_nil, Nat.reduceSub, Nat.reduceAdd, List.replicate, List.cons_append, List.nil_append])
    (have cl1 := head_tc; have cm1 := c1; have cm2 := c2; repeat' (first | with_reducible refine T_seq_drawT (id := 12) Γ_ok drawsAny pl8_12 (by kernel_rfl) (fun K hK => ?_) | with_reducible refine T_last_drawT (id := 12) Γ_ok drawsAny pl8_12 (by kernel_rfl) (fun K hK => ?_) | with_reducible refine T_seq_drawT (id := 13) Γ_ok drawsAny pl8_13 (by kernel_rfl) (fun K hK => ?_) | with_reducible refine T_last_drawT (id := 13) Γ_ok drawsAny pl8_13 (by kernel_rfl) (fun K hK => ?_) | ((refine goL0 _ _ _ _ _ _ _ _ ?_ ?_ ?_ ?_ ?_ ?_ ?_ ?_) <;> (repeat intro hb) <;> first | exact True.intro | refine Lf.mk ?_)))
    refine T_loopW (fun m st => ∃ i : Nat, i ≤ cs.length ∧ m + i = cs.length ∧ st = ⟨[.imm (.int .i64 n), jns js, .top, .top, .top, .imm (.bool true), .own 0 0 L.length none] ++ List.replicate 49 .top ++ [.own 1 0 cs.length none, .imm (.int .i64 cs.length), .imm (.int .i64 i)] ++ List.replicate 84 .top, [intO L, elO cs.length cs.toArray]⟩)
      cs.length ⟨_, ?_, 0, by omega, by omega, rfl⟩ ?_
    · ((try simp only [List.length_append, List.length_cons, List.length_nil, Nat.zero_add]); refine Wk.intro [0, 1] (by decide) (by decide) (by intro o ho; simp at ho ⊢ <;> omega) ?_ ?_ <;> repeat' (first | (exact WkV.imm (by rw [show ((L.length : Int) == 0) = decide ((L.length : Int) = 0) from rfl, e0])) | exact WkVL.nil | refine WkVL.cons ?_ ?_ | exact WkV.top | exact WkV.imm rfl | exact WkV.imm (by simp) | exact WkV.optr rfl | exact WkV.own rfl (by simp) | exact WkV.nil_own (.inl rfl) | exact WkV.map rfl | (refine WkV.free ?_; simp [Free, FreeL] <;> assumption) | (refine WkV.free (fun _ _ => FreeL_nth ?_ _); simp [Free, FreeL]; done) | refine WkV.agg ?_ | refine WkV.tup ?_ | refine WkV.fn ?_ ?_ | exact WkO.dead | exact WkO.raw | refine WkO.ghost ?_ | exact WkO.mpE rfl trivial | refine WkO.box ?_ rfl | refine WkO.arr ?_ | refine And.intro ?_ (And.intro (by first | exact fun h => h | exact fun _ => rfl | exact nofun) ?_) | exact trivial | (intro i j hi hj)))
    rintro m st ⟨i, g0, g1, rfl⟩
    by_cases hlt : i < cs.length
    · have hci := hok cs[i] (List.getElem_mem hlt)
      have hce : cs.toArray[i]! = cs[i] := by simp [hlt]
      have hmem : cs.toArray[i]! ∈ cs := by rw [hce]; exact List.getElem_mem hlt
      rw [← hce] at hci
      obtain ⟨iB, iA, x, y, hcx, hik, hil, hx, hy, ht⟩ := hci
      have hs1 : (cs.toArray[i]!).s = x.s := by rw [hcx]
      have hs2 : (cs.toArray[i]!).a = (iA : Int) := by rw [hcx]
      have hs3 : (cs.toArray[i]!).b = (iB : Int) := by rw [hcx]
      have p1 := at_yes (h.2 iA) hy
      have p2 := at_yes (h.2 iB) hx
      have e1 : decide ((iA : Int) < 0) = false := decide_eq_false (by omega)
      have e2 : decide ((iA : Int) ≥ (js.length : Int)) = false := decide_eq_false (by omega)
      have e3 : decide ((iB : Int) < 0) = false := decide_eq_false (by omega)
      have e4 : decide ((iB : Int) ≥ (js.length : Int)) = false := decide_eq_false (by omega)
      have hxv := (jnB_facts (hjv iB hil)).1 x (lookE_mem hx).1
      have hyv := (jnB_facts (hjv iA (by omega))).1 y (lookE_mem hy).1
      have hxl := enB_len hxv.2 hn8.2
      have hyl := enB_len hyv.2 hn8.2
      have c3 := common_tc n y x (by omega) (by omega)
      rw [com_eq] at c3
      unfold rcomR at c3
      rw [if_pos ⟨hcn, hyv.2, hxv.2⟩] at c3
      have hp := com_pos ⟨hcn, hyv.2, hxv.2⟩
      have hbl := botL_len y.v x.v y.v.length
      have hB : y.b = x.b → ∀ d ∈ botL y.v x.v y.v.length, hasB L d = true := fun hb d hd => by
        have h1 := com_has y.v x.v d
        rw [hasB_iff.2 hd] at h1
        have h2 : hasB y.v d = true ∧ hasB x.v d = true := by
          have := h1.symm
          simpa using this
        have h3 := (enB_ris hyv.2).2 d (hasB_iff.1 h2.1)
        refine hL d h3.1 h3.2 ((hlie d).2 ⟨_, hmem, ?_⟩)
        unfold lie1
        rw [hs1, hs2, hs3]
        simp only [entOf, Int.toNat_natCast, hx, hy, Option.getD_some]
        rw [h2.1, h2.2, decide_eq_true hb]; rfl
      generalize botL y.v x.v y.v.length = B at c3 hp hbl hB
      simp only [] at c3
      have e5 : decide ((B.length : Int) > 0) = true := decide_eq_true (by omega)
      (simp only [go_sem, ↓reduceIte, Nat.reduceAdd, Nat.reduceSub, Nat.reduceMul, Nat.reduceLT, Nat.reduceLeDiff, Nat.reduceEqDiff, Nat.reduceGT, Int.reduceToNat, Int.reduceBEq, Int.reduceBNe]; try simp (disch := omega) only [wrapI, wrapU, half_sum, toNat_sub1, toNat_add1, Int.toNat_natCast])
      (have cp1 := p1; have cp2 := p2; have cm1 := c3; have sx1 := (And.intro hs1 (And.intro hs2 (And.intro hs3 (And.intro e1 (And.intro e2 (And.intro e3 (And.intro e4 e5))))))); repeat' (first | with_reducible refine T_seq_drawT (id := 12) Γ_ok drawsAny pl8_12 (by kernel_rfl) (fun K hK => ?_) | with_reducible refine T_last_drawT (id := 12) Γ_ok drawsAny pl8_12 (by kernel_rfl) (fun K hK => ?_) | with_reducible refine T_seq_drawT (id := 13) Γ_ok drawsAny pl8_13 (by kernel_rfl) (fun K hK => ?_) | with_reducible refine T_last_drawT (id := 13) Γ_ok drawsAny pl8_13 (by kernel_rfl) (fun K hK => ?_) | ((refine goL1 _ _ _ _ _ _ _ _ ?_ ?_ ?_ ?_ ?_ ?_ ?_ ?_) <;> (repeat intro hb) <;> first | exact True.intro | refine Lf.mk ?_)))
      · refine ⟨m - 1, by omega, _, ?_, i + 1, by omega, by omega, rfl⟩
        ((try simp only [List.length_append, List.length_cons, List.length_nil, Nat.zero_add]); refine Wk.intro [0, 1] (by decide) (by decide) (by intro o ho; simp at ho ⊢ <;> omega) ?_ ?_ <;> repeat' (first | (exact WkV.imm (by simp)) | exact WkVL.nil | refine WkVL.cons ?_ ?_ | exact WkV.top | exact WkV.imm rfl | exact WkV.imm (by simp) | exact WkV.optr rfl | exact WkV.own rfl (by simp) | exact WkV.nil_own (.inl rfl) | exact WkV.map rfl | (refine WkV.free ?_; simp [Free, FreeL] <;> assumption) | (refine WkV.free (fun _ _ => FreeL_nth ?_ _); simp [Free, FreeL]; done) | refine WkV.agg ?_ | refine WkV.tup ?_ | refine WkV.fn ?_ ?_ | exact WkO.dead | exact WkO.raw | refine WkO.ghost ?_ | exact WkO.mpE rfl trivial | refine WkO.box ?_ rfl | refine WkO.arr ?_ | refine And.intro ?_ (And.intro (by first | exact fun h => h | exact fun _ => rfl | exact nofun) ?_) | exact trivial | (intro i j hi hj)))
      have hbb : y.b = x.b := by assumption
      have hBB := hB hbb
      refine T_loopW (fun r st => ∃ k : Nat, k ≤ B.length ∧ r + k = B.length ∧ st = ⟨[.imm (.int .i64 n), jns js, .top, .top, .top, .imm (.bool true), .own 0 0 L.length none] ++ List.replicate 49 .top ++ [.own 1 0 cs.length none, .imm (.int .i64 cs.length), .imm (.int .i64 i)] ++ List.replicate 69 .top ++ [.own 2 0 B.length none, .imm (.int .i64 B.length), .imm (.int .i64 k)] ++ List.replicate 12 .top, [intO L, elO cs.length cs.toArray, intO B]⟩)
        B.length ⟨_, ?_, 0, by omega, by omega, rfl⟩ ?_
      · ((try simp only [List.length_append, List.length_cons, List.length_nil, Nat.zero_add]); refine Wk.intro [0, 1, 5] (by decide) (by decide) (by intro o ho; simp at ho ⊢ <;> omega) ?_ ?_ <;> repeat' (first | exact WkVL.nil | refine WkVL.cons ?_ ?_ | exact WkV.top | exact WkV.imm rfl | exact WkV.imm (by simp) | exact WkV.optr rfl | exact WkV.own rfl (by simp) | exact WkV.nil_own (.inl rfl) | exact WkV.map rfl | (refine WkV.free ?_; simp [Free, FreeL] <;> assumption) | (refine WkV.free (fun _ _ => FreeL_nth ?_ _); simp [Free, FreeL]; done) | refine WkV.agg ?_ | refine WkV.tup ?_ | refine WkV.fn ?_ ?_ | exact WkO.dead | exact WkO.raw | refine WkO.ghost ?_ | exact WkO.mpE rfl trivial | refine WkO.box ?_ rfl | refine WkO.arr ?_ | refine And.intro ?_ (And.intro (by first | exact fun h => h | exact fun _ => rfl | exact nofun) ?_) | exact trivial | (intro i j hi hj)))
      rintro r st ⟨k, k0, k1, rfl⟩
      by_cases hk : k < B.length
      · have hh := hBB (gi B k) (gi_mem hk)
        have p4 := rhas_tc L (gi B k) (by omega)
        rw [hh] at p4
        (simp only [go_sem, ↓reduceIte, Nat.reduceAdd, Nat.reduceSub, Nat.reduceMul, Nat.reduceLT, Nat.reduceLeDiff, Nat.reduceEqDiff, Nat.reduceGT, Int.reduceToNat, Int.reduceBEq, Int.reduceBNe]; try simp (disch := omega) only [wrapI, wrapU, half_sum, toNat_sub1, toNat_add1, Int.toNat_natCast])
        (have dl1 := p4; repeat' (first | with_reducible refine T_seq_drawT (id := 12) Γ_ok drawsAny pl8_12 (by kernel_rfl) (fun K hK => ?_) | with_reducible refine T_last_drawT (id := 12) Γ_ok drawsAny pl8_12 (by kernel_rfl) (fun K hK => ?_) | with_reducible refine T_seq_drawT (id := 13) Γ_ok drawsAny pl8_13 (by kernel_rfl) (fun K hK => ?_) | with_reducible refine T_last_drawT (id := 13) Γ_ok drawsAny pl8_13 (by kernel_rfl) (fun K hK => ?_) | ((refine goL0 _ _ _ _ _ _ _ _ ?_ ?_ ?_ ?_ ?_ ?_ ?_ ?_) <;> (repeat intro hb) <;> first | exact True.intro | refine Lf.mk ?_)))
        refine ⟨r - 1, by omega, _, ?_, k + 1, by omega, by omega, rfl⟩
        ((try simp only [List.length_append, List.length_cons, List.length_nil, Nat.zero_add]); refine Wk.intro [0, 1, 2] (by decide) (by decide) (by intro o ho; simp at ho ⊢ <;> omega) ?_ ?_ <;> repeat' (first | (exact WkV.imm (by simp)) | exact WkVL.nil | refine WkVL.cons ?_ ?_ | exact WkV.top | exact WkV.imm rfl | exact WkV.imm (by simp) | exact WkV.optr rfl | exact WkV.own rfl (by simp) | exact WkV.nil_own (.inl rfl) | exact WkV.map rfl | (refine WkV.free ?_; simp [Free, FreeL] <;> assumption) | (refine WkV.free (fun _ _ => FreeL_nth ?_ _); simp [Free, FreeL]; done) | refine WkV.agg ?_ | refine WkV.tup ?_ | refine WkV.fn ?_ ?_ | exact WkO.dead | exact WkO.raw | refine WkO.ghost ?_ | exact WkO.mpE rfl trivial | refine WkO.box ?_ rfl | refine WkO.arr ?_ | refine And.intro ?_ (And.intro (by first | exact fun h => h | exact fun _ => rfl | exact nofun) ?_) | exact trivial | (intro i j hi hj)))
      · (simp only [go_sem, ↓reduceIte, Nat.reduceAdd, Nat.reduceSub, Nat.reduceMul, Nat.reduceLT, Nat.reduceLeDiff, Nat.reduceEqDiff, Nat.reduceGT, Int.reduceToNat, Int.reduceBEq, Int.reduceBNe]; try simp (disch := omega) only [wrapI, wrapU, half_sum, toNat_sub1, toNat_add1, Int.toNat_natCast])
        (repeat' (first | with_reducible refine T_seq_drawT (id := 12) Γ_ok drawsAny pl8_12 (by kernel_rfl) (fun K hK => ?_) | with_reducible refine T_last_drawT (id := 12) Γ_ok drawsAny pl8_12 (by kernel_rfl) (fun K hK => ?_) | with_reducible refine T_seq_drawT (id := 13) Γ_ok drawsAny pl8_13 (by kernel_rfl) (fun K hK => ?_) | with_reducible refine T_last_drawT (id := 13) Γ_ok drawsAny pl8_13 (by kernel_rfl) (fun K hK => ?_) | ((refine goL0 _ _ _ _ _ _ _ _ ?_ ?_ ?_ ?_ ?_ ?_ ?_ ?_) <;> (repeat intro hb) <;> first | exact True.intro | refine Lf.mk ?_)))
        refine ⟨m - 1, by omega, _, ?_, i + 1, by omega, by omega, rfl⟩
        ((try simp only [List.length_append, List.length_cons, List.length_nil, Nat.zero_add]); refine Wk.intro [0, 1] (by decide) (by decide) (by intro o ho; simp at ho ⊢ <;> omega) ?_ ?_ <;> repeat' (first | (exact WkV.imm (by simp)) | exact WkVL.nil | refine WkVL.cons ?_ ?_ | exact WkV.top | exact WkV.imm rfl | exact WkV.imm (by simp) | exact WkV.optr rfl | exact WkV.own rfl (by simp) | exact WkV.nil_own (.inl rfl) | exact WkV.map rfl | (refine WkV.free ?_; simp [Free, FreeL] <;> assumption) | (refine WkV.free (fun _ _ => FreeL_nth ?_ _); simp [Free, FreeL]; done) | refine WkV.agg ?_ | refine WkV.tup ?_ | refine WkV.fn ?_ ?_ | exact WkO.dead | exact WkO.raw | refine WkO.ghost ?_ | exact WkO.mpE rfl trivial | refine WkO.box ?_ rfl | refine WkO.arr ?_ | refine And.intro ?_ (And.intro (by first | exact fun h => h | exact fun _ => rfl | exact nofun) ?_) | exact trivial | (intro i j hi hj)))
    · (simp only [go_sem, ↓reduceIte, Nat.reduceAdd, Nat.reduceSub, Nat.reduceMul, Nat.reduceLT, Nat.reduceLeDiff, Nat.reduceEqDiff, Nat.reduceGT, Int.reduceToNat, Int.reduceBEq, Int.reduceBNe]; try simp (disch := omega) only [wrapI, wrapU, half_sum, toNat_sub1, toNat_add1, Int.toNat_natCast])
      (repeat' (first | with_reducible refine T_seq_drawT (id := 12) Γ_ok drawsAny pl8_12 (by kernel_rfl) (fun K hK => ?_) | with_reducible refine T_last_drawT (id := 12) Γ_ok drawsAny pl8_12 (by kernel_rfl) (fun K hK => ?_) | with_reducible refine T_seq_drawT (id := 13) Γ_ok drawsAny pl8_13 (by kernel_rfl) (fun K hK => ?_) | with_reducible refine T_last_drawT (id := 13) Γ_ok drawsAny pl8_13 (by kernel_rfl) (fun K hK => ?_) | ((refine goL0 _ _ _ _ _ _ _ _ ?_ ?_ ?_ ?_ ?_ ?_ ?_ ?_) <;> (repeat intro hb) <;> first | exact True.intro | refine Lf.mk ?_)))
  · rw [if_neg hv] at c1 c2
    simp only [] at c1 c2
    (refine TC_of_T Γ_ok Try.func8 rfl (by kernel_rfl) ?_; simp only [Try.ntmps8, Try.results8, List.length_cons, List.length_nil, Nat.reduceSub, Nat.reduceAdd, List.replicate, List.cons_append, List.nil_append])
    (have cl1 := head_tc; have cm1 := c1; have cm2 := c2; repeat' (first | with_reducible refine T_seq_drawT (id := 12) Γ_ok drawsAny pl8_12 (by kernel_rfl) (fun K hK => ?_) | with_reducible refine T_last_drawT (id := 12) Γ_ok drawsAny pl8_12 (by kernel_rfl) (fun K hK => ?_) | with_reducible refine T_seq_drawT (id := 13) Γ_ok drawsAny pl8_13 (by kernel_rfl) (fun K hK => ?_) | with_reducible refine T_last_drawT (id := 13) Γ_ok drawsAny pl8_13 (by kernel_rfl) (fun K hK => ?_) | ((refine goL0 _ _ _ _ _ _ _ _ ?_ ?_ ?_ ?_ ?_ ?_ ?_ ?_) <;> (repeat intro hb) <;> first | exact True.intro | refine Lf.mk ?_)))
end Go.Proofs.Ythikkiacgmgdhaa
