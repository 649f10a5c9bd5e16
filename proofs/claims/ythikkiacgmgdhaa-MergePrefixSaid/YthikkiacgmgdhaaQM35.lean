/-
  MergePrefix: the walk of the law.
-/
import Derived.Test.YthikkiacgmgdhaaQGo
import Derived.Test.YthikkiacgmgdhaaQM34
set_option linter.unusedSimpArgs false
set_option linter.unusedVariables false
namespace Go.Proofs.Ythikkiacgmgdhaa
open Go.Ab

@[go_sem, reducible] def jnO (l : List Jn) : AObj := .arr 31 2 l.length (jnE l)
@[go_sem, reducible] def enO (l : List En) : AObj := .arr 27 6 l.length (enE l)
theorem gj_at (a b : List Jn) (x : Nat) : gj (a ++ b) x = if x < a.length then gj a x else gj b (x - a.length) := by
  simp only [gj, List.getD_eq_getElem?_getD, List.getElem?_append]
  split <;> rfl
theorem ge_app (a b : List En) (x : Nat) : ge (a ++ b) x = if x < a.length then ge a x else ge b (x - a.length) := by
  simp only [ge, List.getD_eq_getElem?_getD, List.getElem?_append]
  split <;> rfl
theorem en_snoc (l : List En) (x : En) {i j : Nat} (h : i < l.length + 1) : catE l.length (fun i j => enE l i j) (fun i j => nth (enL x) (i * 6 + j)) i j = enE (l ++ [x]) i j := by
  unfold catE
  by_cases h1 : i < l.length
  · simp only [if_pos h1]
    unfold enE
    rw [ge_app, if_pos h1]
  · simp only [if_neg h1]
    unfold enE
    obtain rfl : i = l.length := by omega
    rw [ge_app, if_neg h1, Nat.sub_self, Nat.zero_mul, Nat.zero_add]
    rfl
theorem wkCut {π : List Nat} {σ : List AObj} {c : List Jn} {d : Int} {q : List En} {o : Nat} (hob : nthO σ o = .arr 27 6 q.length (enE q)) (ho : ∀ p ∈ π, p ≠ o ∧ (nthO σ p).alive = true) {x j : Nat} (hx : x < c.length + 1) (hj : j < 2) : WkV π σ (catE c.length (fun i j => jnE c i j) (fun i j => nth [.imm (.int .i64 d), .own o 0 q.length none] (i * 2 + j)) x j) (jnE (c ++ [⟨d, q⟩]) x j) := by
  unfold catE
  by_cases h : x < c.length
  · simp only [if_pos h]
    rw [show jnE (c ++ [⟨d, q⟩]) x j = jnE c x j from by unfold jnE; rw [gj_at, if_pos h]]
    exact WkV.free (jnE_free _ _ _)
  · simp only [if_neg h]
    obtain rfl : x = c.length := by omega
    rw [Nat.sub_self, Nat.zero_mul, Nat.zero_add]
    rw [show jnE (c ++ [⟨d, q⟩]) c.length j = nth (jnL ⟨d, q⟩) j from by unfold jnE; rw [gj_at, if_neg h, Nat.sub_self]; rfl]
    match j, hj with
    | 0, _ => exact WkV.imm rfl
    | 1, _ => exact WkV.freeze hob (by omega) ho fun i j hi hj => by rw [Nat.zero_add]; exact WkV.free (enE_free _ _ _)
theorem filt_succ {e : List En} (p : En → Bool) {i : Nat} (h : i < e.length) : (e.take (i + 1)).filter p = if p (ge e i) = true then (e.take i).filter p ++ [ge e i] else (e.take i).filter p := by
  rw [List.take_succ_eq_append_getElem h, List.filter_append]
  have : ge e i = e[i] := by simp [ge, List.getD_eq_getElem?_getD, List.getElem?_eq_getElem h]
  rw [this]
  by_cases h : p e[i] = true <;> simp [h, List.filter_cons]
theorem filt_tk {e : List Tk} (p : Tk → Bool) {i : Nat} (h : i < e.length) : (e.take (i + 1)).filter p = if p (gt e i) = true then (e.take i).filter p ++ [gt e i] else (e.take i).filter p := by
  rw [List.take_succ_eq_append_getElem h, List.filter_append]
  have : gt e i = e[i] := by simp [gt, List.getD_eq_getElem?_getD, List.getElem?_eq_getElem h]
  rw [this]
  by_cases h : p e[i] = true <;> simp [h, List.filter_cons]
@[go_sem, reducible] def pE (n : Int) (js : List Jn) (s : Int) (m : List Tk) (c : List Jn) (k : Nat) (a b : List AV) : List AV := [.imm (.int .i64 n), jns js, .imm (.int .i64 s), .top, .top, .top, .top, .imm (.bool true), .own 0 0 m.length none, .top, .own 1 0 c.length none, .top, .top] ++ a ++ List.replicate (27 - a.length) .top ++ [jns js, .imm (.int .i64 js.length), .imm (.int .i64 k)] ++ b

set_option maxRecDepth 100000 in
set_option maxHeartbeats 16000000 in
theorem prefix_law (n : Int) (js : List Jn) (s : Int) (h : JsOk js) : Look Try.prog 9 [.imm (.int .i64 n), jns js, .imm (.int .i64 s)] (.imm (.bool true)) := by
  have hl := h.1
  have c1 := merge_tc n js h
  rw [mrg_eq] at c1
  unfold rmrgR at c1
  refine Look.mk trivial ?_
  by_cases hv : jsB n js = true
  · rw [if_pos hv] at c1
    by_cases hc : rcA js 15 = []
    · rw [if_pos hc] at c1
      have hl8 : js.length ≤ 8 := by unfold jsB at hv; simp at hv; exact hv.1.2
      have hm1 := rmN_len js 15
      have c2 := merge_tc n _ (jsOk_cut s h)
      rw [mrg_eq, rmrg_cut hv hc] at c2
      generalize rmN js 15 = m at c1 c2 hm1
      simp only [] at c1 c2
      (refine TC_of_T Γ_ok Try.func9 rfl (by kernel_rfl) ?_; simp only [Try.ntmps9, Try.results9, List.length_cons, List.length_nil, Nat.reduceSub, Nat.reduceAdd, List.replicate, List.cons_append, List.nil_append])
      (have cl1 := head_tc; have cm1 := c1; ((refine goL0 _ _ _ _ _ _ _ _ ?_ ?_ ?_ ?_ ?_ ?_ ?_ ?_) <;> (repeat intro hb) <;> first | exact True.intro | refine Lf.mk ?_))
      refine T_loopW (fun r st => ∃ (k : Nat) (c : List Jn), k ≤ js.length ∧ r + k = js.length ∧ c = (js.take k).map (cutJ s) ∧ st = ⟨pE n js s m c k [.top] (List.replicate 61 .top), [tkO m, jnO c]⟩)
        js.length ⟨_, Wk.trans (Wk.push 31 2 (jnE [])) ?_, 0, [], by omega, by omega, rfl, rfl⟩ ?_
      · ((try simp only [List.length_append, List.length_cons, List.length_nil, Nat.zero_add]); refine Wk.intro [0, 1] (by decide) (by decide) (by intro o ho; simp at ho ⊢ <;> omega) ?_ ?_ <;> repeat' (first | exact WkVL.nil | refine WkVL.cons ?_ ?_ | exact WkV.top | exact WkV.imm rfl | exact WkV.imm (by simp) | exact WkV.optr rfl | exact WkV.own rfl (by simp) | exact WkV.nil_own (.inl rfl) | exact WkV.map rfl | (refine WkV.free ?_; simp [Free, FreeL] <;> assumption) | (refine WkV.free (fun _ _ => FreeL_nth ?_ _); simp [Free, FreeL]; done) | refine WkV.agg ?_ | refine WkV.tup ?_ | refine WkV.fn ?_ ?_ | exact WkO.dead | exact WkO.raw | refine WkO.ghost ?_ | exact WkO.mpE rfl trivial | refine WkO.box ?_ rfl | refine WkO.arr ?_ | refine And.intro ?_ (And.intro (by first | exact fun h => h | exact fun _ => rfl | exact nofun) ?_) | exact trivial | (intro i j hi hj)))
      rintro r st ⟨k, c, k0, k1, hcc, rfl⟩
      by_cases hk : k < js.length
      · (simp only [go_sem, ↓reduceIte, Nat.reduceAdd, Nat.reduceSub, Nat.reduceMul, Nat.reduceLT, Nat.reduceLeDiff, Nat.reduceEqDiff, Nat.reduceGT, Int.reduceToNat, Int.reduceBEq, Int.reduceBNe]; try simp (disch := omega) only [wrapI, wrapU, half_sum, toNat_sub1, toNat_add1, Int.toNat_natCast])
        (((refine goL0 _ _ _ _ _ _ _ _ ?_ ?_ ?_ ?_ ?_ ?_ ?_ ?_) <;> (repeat intro hb) <;> first | exact True.intro | refine Lf.mk ?_))
        have hjk := h.2 k
        generalize he : (gj js k).e = e
        have hel : e.length ≤ 15 := by
          have hf := jnB_facts (allJ_gj (n := n) (l := js) (by unfold jsB at hv; simp at hv; exact hv.2) hk)
          rw [← he]; exact rise_len hf.1 hf.2.1
        have hcl : c.length ≤ 8 := by rw [hcc, List.length_map, List.length_take]; omega
        refine T_loopW (fun r st => ∃ (k2 : Nat) (q : List En), k2 ≤ e.length ∧ r + k2 = e.length ∧ q = (e.take k2).filter (fun x => decide (x.s < s)) ∧ st = ⟨pE n js s m c k [.optr 2 0 0] ([.top, .top, .top, .top, .top, .top, .top, ens e, .imm (.int .i64 e.length), .imm (.int .i64 k2)] ++ List.replicate 51 .top), [tkO m, jnO c, .box 31 [.imm (.int .i64 (gj js k).d), .own 3 0 q.length none], enO q]⟩)
          e.length ⟨_, Wk.trans (Wk.push 27 6 (enE [])) ?_, 0, [], by omega, by omega, rfl, rfl⟩ ?_
        · ((try simp only [List.length_append, List.length_cons, List.length_nil, Nat.zero_add]); refine Wk.intro [0, 1, 3, 4] (by decide) (by decide) (by intro o ho; simp at ho ⊢ <;> omega) ?_ ?_ <;> repeat' (first | exact WkVL.nil | refine WkVL.cons ?_ ?_ | exact WkV.top | exact WkV.imm rfl | exact WkV.imm (by simp) | exact WkV.optr rfl | exact WkV.own rfl (by simp) | exact WkV.nil_own (.inl rfl) | exact WkV.map rfl | (refine WkV.free ?_; simp [Free, FreeL] <;> assumption) | (refine WkV.free (fun _ _ => FreeL_nth ?_ _); simp [Free, FreeL]; done) | refine WkV.agg ?_ | refine WkV.tup ?_ | refine WkV.fn ?_ ?_ | exact WkO.dead | exact WkO.raw | refine WkO.ghost ?_ | exact WkO.mpE rfl trivial | refine WkO.box ?_ rfl | refine WkO.arr ?_ | refine And.intro ?_ (And.intro (by first | exact fun h => h | exact fun _ => rfl | exact nofun) ?_) | exact trivial | (intro i j hi hj)))
        rintro r2 st ⟨k2, q, k20, k21, hq, rfl⟩
        have hql : q.length ≤ 15 := by
          have := List.length_filter_le (fun x : En => decide (x.s < s)) (e.take k2)
          rw [List.length_take] at this
          rw [hq]; omega
        by_cases hk2 : k2 < e.length
        · (simp only [go_sem, ↓reduceIte, Nat.reduceAdd, Nat.reduceSub, Nat.reduceMul, Nat.reduceLT, Nat.reduceLeDiff, Nat.reduceEqDiff, Nat.reduceGT, Int.reduceToNat, Int.reduceBEq, Int.reduceBNe]; try simp (disch := omega) only [wrapI, wrapU, half_sum, toNat_sub1, toNat_add1, Int.toNat_natCast])
          (((refine goL0 _ _ _ _ _ _ _ _ ?_ ?_ ?_ ?_ ?_ ?_ ?_ ?_) <;> (repeat intro hb) <;> first | exact True.intro | refine Lf.mk ?_))
          · refine ⟨r2 - 1, by omega, _, ?_, k2 + 1, q ++ [ge e k2], by omega, by omega, ?_, rfl⟩
            · ((try simp only [List.length_append, List.length_cons, List.length_nil, Nat.zero_add]); refine Wk.intro [0, 1, 2, 6] (by decide) (by decide) (by intro o ho; simp at ho ⊢ <;> omega) ?_ ?_ <;> repeat' (first | (exact WkV.eqF (en_snoc _ _ (by simpa using hi)) (by simp)) | (exact WkV.imm (by simp)) | exact WkVL.nil | refine WkVL.cons ?_ ?_ | exact WkV.top | exact WkV.imm rfl | exact WkV.imm (by simp) | exact WkV.optr rfl | exact WkV.own rfl (by simp) | exact WkV.nil_own (.inl rfl) | exact WkV.map rfl | (refine WkV.free ?_; simp [Free, FreeL] <;> assumption) | (refine WkV.free (fun _ _ => FreeL_nth ?_ _); simp [Free, FreeL]; done) | refine WkV.agg ?_ | refine WkV.tup ?_ | refine WkV.fn ?_ ?_ | exact WkO.dead | exact WkO.raw | refine WkO.ghost ?_ | exact WkO.mpE rfl trivial | refine WkO.box ?_ rfl | refine WkO.arr ?_ | refine And.intro ?_ (And.intro (by first | exact fun h => h | exact fun _ => rfl | exact nofun) ?_) | exact trivial | (intro i j hi hj)))
            · rw [filt_succ _ hk2, if_pos (decide_eq_true hb), hq]
          · refine ⟨r2 - 1, by omega, _, ?_, k2 + 1, q, by omega, by omega, ?_, rfl⟩
            · ((try simp only [List.length_append, List.length_cons, List.length_nil, Nat.zero_add]); refine Wk.intro [0, 1, 2, 3] (by decide) (by decide) (by intro o ho; simp at ho ⊢ <;> omega) ?_ ?_ <;> repeat' (first | (exact WkV.imm (by simp)) | exact WkVL.nil | refine WkVL.cons ?_ ?_ | exact WkV.top | exact WkV.imm rfl | exact WkV.imm (by simp) | exact WkV.optr rfl | exact WkV.own rfl (by simp) | exact WkV.nil_own (.inl rfl) | exact WkV.map rfl | (refine WkV.free ?_; simp [Free, FreeL] <;> assumption) | (refine WkV.free (fun _ _ => FreeL_nth ?_ _); simp [Free, FreeL]; done) | refine WkV.agg ?_ | refine WkV.tup ?_ | refine WkV.fn ?_ ?_ | exact WkO.dead | exact WkO.raw | refine WkO.ghost ?_ | exact WkO.mpE rfl trivial | refine WkO.box ?_ rfl | refine WkO.arr ?_ | refine And.intro ?_ (And.intro (by first | exact fun h => h | exact fun _ => rfl | exact nofun) ?_) | exact trivial | (intro i j hi hj)))
            · rw [filt_succ _ hk2, if_neg (by simp; omega), hq]
        · (simp only [go_sem, ↓reduceIte, Nat.reduceAdd, Nat.reduceSub, Nat.reduceMul, Nat.reduceLT, Nat.reduceLeDiff, Nat.reduceEqDiff, Nat.reduceGT, Int.reduceToNat, Int.reduceBEq, Int.reduceBNe]; try simp (disch := omega) only [wrapI, wrapU, half_sum, toNat_sub1, toNat_add1, Int.toNat_natCast])
          (((refine goL0 _ _ _ _ _ _ _ _ ?_ ?_ ?_ ?_ ?_ ?_ ?_ ?_) <;> (repeat intro hb) <;> first | exact True.intro | refine Lf.mk ?_))
          refine ⟨r - 1, by omega, _, ?_, k + 1, c ++ [⟨(gj js k).d, q⟩], by omega, by omega, ?_, rfl⟩
          · ((try simp only [List.length_append, List.length_cons, List.length_nil, Nat.zero_add]); refine Wk.intro [0, 5] (by decide) (by decide) (by intro o ho; simp at ho ⊢ <;> omega) ?_ ?_ <;> repeat' (first | (exact wkCut rfl (by intro p hp; simp only [List.mem_cons, List.not_mem_nil, or_false] at hp; rcases hp with rfl | rfl <;> exact ⟨by decide, rfl⟩) (by simpa using hi) hj) | (exact WkV.imm (by simp)) | exact WkVL.nil | refine WkVL.cons ?_ ?_ | exact WkV.top | exact WkV.imm rfl | exact WkV.imm (by simp) | exact WkV.optr rfl | exact WkV.own rfl (by simp) | exact WkV.nil_own (.inl rfl) | exact WkV.map rfl | (refine WkV.free ?_; simp [Free, FreeL] <;> assumption) | (refine WkV.free (fun _ _ => FreeL_nth ?_ _); simp [Free, FreeL]; done) | refine WkV.agg ?_ | refine WkV.tup ?_ | refine WkV.fn ?_ ?_ | exact WkO.dead | exact WkO.raw | refine WkO.ghost ?_ | exact WkO.mpE rfl trivial | refine WkO.box ?_ rfl | refine WkO.arr ?_ | refine And.intro ?_ (And.intro (by first | exact fun h => h | exact fun _ => rfl | exact nofun) ?_) | exact trivial | (intro i j hi hj)))
          · have hgj : gj js k = js[k] := by simp [gj, hk]
            rw [List.take_succ_eq_append_getElem hk, List.map_append, ← hcc, hq, List.take_of_length_le (by omega), ← he, hgj]
            rfl
      · (simp only [go_sem, ↓reduceIte, Nat.reduceAdd, Nat.reduceSub, Nat.reduceMul, Nat.reduceLT, Nat.reduceLeDiff, Nat.reduceEqDiff, Nat.reduceGT, Int.reduceToNat, Int.reduceBEq, Int.reduceBNe]; try simp (disch := omega) only [wrapI, wrapU, half_sum, toNat_sub1, toNat_add1, Int.toNat_natCast])
        (((refine goL0 _ _ _ _ _ _ _ _ ?_ ?_ ?_ ?_ ?_ ?_ ?_ ?_) <;> (repeat intro hb) <;> first | exact True.intro | refine Lf.mk ?_))
        have hce : c = js.map (cutJ s) := by rw [hcc, List.take_of_length_le (by omega)]
        refine T_loopW (fun r st => ∃ (i : Nat) (w : List Tk), i ≤ m.length ∧ r + i = m.length ∧ w = (m.take i).filter (fun t => decide (t.s < s)) ∧ st = ⟨pE n js s m c k [.top, .top, .top, .own 2 0 w.length none] (List.replicate 30 .top ++ [.own 0 0 m.length none, .imm (.int .i64 m.length), .imm (.int .i64 i)] ++ List.replicate 28 .top), [tkO m, jnO c, tkO w]⟩)
          m.length ⟨_, Wk.trans (Wk.push 24 4 (tkE [])) ?_, 0, [], by omega, by omega, rfl, rfl⟩ ?_
        · ((try simp only [List.length_append, List.length_cons, List.length_nil, Nat.zero_add]); refine Wk.intro [0, 1, 2] (by decide) (by decide) (by intro o ho; simp at ho ⊢ <;> omega) ?_ ?_ <;> repeat' (first | exact WkVL.nil | refine WkVL.cons ?_ ?_ | exact WkV.top | exact WkV.imm rfl | exact WkV.imm (by simp) | exact WkV.optr rfl | exact WkV.own rfl (by simp) | exact WkV.nil_own (.inl rfl) | exact WkV.map rfl | (refine WkV.free ?_; simp [Free, FreeL] <;> assumption) | (refine WkV.free (fun _ _ => FreeL_nth ?_ _); simp [Free, FreeL]; done) | refine WkV.agg ?_ | refine WkV.tup ?_ | refine WkV.fn ?_ ?_ | exact WkO.dead | exact WkO.raw | refine WkO.ghost ?_ | exact WkO.mpE rfl trivial | refine WkO.box ?_ rfl | refine WkO.arr ?_ | refine And.intro ?_ (And.intro (by first | exact fun h => h | exact fun _ => rfl | exact nofun) ?_) | exact trivial | (intro i j hi hj)))
        rintro r2 st ⟨i, w, i0, i1, hw, rfl⟩
        have hwl : w.length ≤ 15 := by
          have := List.length_filter_le (fun t : Tk => decide (t.s < s)) (m.take i)
          rw [List.length_take] at this
          rw [hw]; omega
        have hcl : c.length ≤ 8 := by rw [hcc, List.length_map, List.length_take]; omega
        by_cases hi : i < m.length
        · (simp only [go_sem, ↓reduceIte, Nat.reduceAdd, Nat.reduceSub, Nat.reduceMul, Nat.reduceLT, Nat.reduceLeDiff, Nat.reduceEqDiff, Nat.reduceGT, Int.reduceToNat, Int.reduceBEq, Int.reduceBNe]; try simp (disch := omega) only [wrapI, wrapU, half_sum, toNat_sub1, toNat_add1, Int.toNat_natCast])
          (((refine goL0 _ _ _ _ _ _ _ _ ?_ ?_ ?_ ?_ ?_ ?_ ?_ ?_) <;> (repeat intro hb) <;> first | exact True.intro | refine Lf.mk ?_))
          · refine ⟨r2 - 1, by omega, _, ?_, i + 1, w ++ [gt m i], by omega, by omega, ?_, rfl⟩
            · ((try simp only [List.length_append, List.length_cons, List.length_nil, Nat.zero_add]); refine Wk.intro [0, 1, 5] (by decide) (by decide) (by intro o ho; simp at ho ⊢ <;> omega) ?_ ?_ <;> repeat' (first | (exact WkV.eqF (tk_snoc _ _ (by simpa using hi) hj) (by simp)) | (exact WkV.imm (by simp)) | exact WkVL.nil | refine WkVL.cons ?_ ?_ | exact WkV.top | exact WkV.imm rfl | exact WkV.imm (by simp) | exact WkV.optr rfl | exact WkV.own rfl (by simp) | exact WkV.nil_own (.inl rfl) | exact WkV.map rfl | (refine WkV.free ?_; simp [Free, FreeL] <;> assumption) | (refine WkV.free (fun _ _ => FreeL_nth ?_ _); simp [Free, FreeL]; done) | refine WkV.agg ?_ | refine WkV.tup ?_ | refine WkV.fn ?_ ?_ | exact WkO.dead | exact WkO.raw | refine WkO.ghost ?_ | exact WkO.mpE rfl trivial | refine WkO.box ?_ rfl | refine WkO.arr ?_ | refine And.intro ?_ (And.intro (by first | exact fun h => h | exact fun _ => rfl | exact nofun) ?_) | exact trivial | (intro i j hi hj)))
            · rw [filt_tk _ hi, if_pos (decide_eq_true hb), hw]
          · refine ⟨r2 - 1, by omega, _, ?_, i + 1, w, by omega, by omega, ?_, rfl⟩
            · ((try simp only [List.length_append, List.length_cons, List.length_nil, Nat.zero_add]); refine Wk.intro [0, 1, 2] (by decide) (by decide) (by intro o ho; simp at ho ⊢ <;> omega) ?_ ?_ <;> repeat' (first | (exact WkV.imm (by simp)) | exact WkVL.nil | refine WkVL.cons ?_ ?_ | exact WkV.top | exact WkV.imm rfl | exact WkV.imm (by simp) | exact WkV.optr rfl | exact WkV.own rfl (by simp) | exact WkV.nil_own (.inl rfl) | exact WkV.map rfl | (refine WkV.free ?_; simp [Free, FreeL] <;> assumption) | (refine WkV.free (fun _ _ => FreeL_nth ?_ _); simp [Free, FreeL]; done) | refine WkV.agg ?_ | refine WkV.tup ?_ | refine WkV.fn ?_ ?_ | exact WkO.dead | exact WkO.raw | refine WkO.ghost ?_ | exact WkO.mpE rfl trivial | refine WkO.box ?_ rfl | refine WkO.arr ?_ | refine And.intro ?_ (And.intro (by first | exact fun h => h | exact fun _ => rfl | exact nofun) ?_) | exact trivial | (intro i j hi hj)))
            · rw [filt_tk _ hi, if_neg (by simp; omega), hw]
        · have hwe : w = m.filter (fun t => decide (t.s < s)) := by rw [hw, List.take_of_length_le (by omega)]
          rw [← hce, ← hwe] at c2
          have s1 := sameT_tc w w (by omega) (by omega)
          rw [decide_eq_true rfl] at s1
          (simp only [go_sem, ↓reduceIte, Nat.reduceAdd, Nat.reduceSub, Nat.reduceMul, Nat.reduceLT, Nat.reduceLeDiff, Nat.reduceEqDiff, Nat.reduceGT, Int.reduceToNat, Int.reduceBEq, Int.reduceBNe]; try simp (disch := omega) only [wrapI, wrapU, half_sum, toNat_sub1, toNat_add1, Int.toNat_natCast])
          (have cm1 := c2; have dl1 := s1; ((refine goL0 _ _ _ _ _ _ _ _ ?_ ?_ ?_ ?_ ?_ ?_ ?_ ?_) <;> (repeat intro hb) <;> first | exact True.intro | refine Lf.mk ?_))
    · rw [if_neg hc] at c1
      simp only [] at c1
      (refine TC_of_T Γ_ok Try.func9 rfl (by kernel_rfl) ?_; simp only [Try.ntmps9, Try.results9, List.length_cons, List.length_nil, Nat.reduceSub, Nat.reduceAdd, List.replicate, List.cons_append, List.nil_append])
      (have cl1 := head_tc; have cm1 := c1; ((refine goL0 _ _ _ _ _ _ _ _ ?_ ?_ ?_ ?_ ?_ ?_ ?_ ?_) <;> (repeat intro hb) <;> first | exact True.intro | refine Lf.mk ?_))
  · rw [if_neg hv] at c1
    simp only [] at c1
    (refine TC_of_T Γ_ok Try.func9 rfl (by kernel_rfl) ?_; simp only [Try.ntmps9, Try.results9, List.length_cons, List.length_nil, Nat.reduceSub, Nat.reduceAdd, List.replicate, List.cons_append, List.nil_append])
    (have cl1 := head_tc; have cm1 := c1; ((refine goL0 _ _ _ _ _ _ _ _ ?_ ?_ ?_ ?_ ?_ ?_ ?_ ?_) <;> (repeat intro hb) <;> first | exact True.intro | refine Lf.mk ?_))
end Go.Proofs.Ythikkiacgmgdhaa
