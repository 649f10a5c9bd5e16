/-
  MergeUnion: the walk of the law.
-/
import Derived.Test.YthikkiacgmgdhaaQGo
import Derived.Test.YthikkiacgmgdhaaQM27
set_option linter.unusedSimpArgs false
set_option linter.unusedVariables false
namespace Go.Proofs.Ythikkiacgmgdhaa
open Go.Ab

theorem optL_mem {o : Option Tk} {t : Tk} : t ∈ optL o ↔ o = some t := by
  cases o with
  | none => simp [optL]
  | some u => simp [optL, eq_comm]
theorem fstN_sec {js : List Jn} {s : Int} {a : Nat} {t : Tk} (h : fstN js s a = some t) : t.s = s := by
  obtain ⟨b, x, _, h2, rfl⟩ := fstN_some h
  exact (lookE_mem h2).2
theorem rmN_mem {js : List Jn} {t : Tk} : ∀ {k : Nat}, t ∈ rmN js k ↔ ∃ s : Nat, 1 ≤ s ∧ s ≤ k ∧ fstN js s js.length = some t
  | 0 => by
    simp only [rmN, List.not_mem_nil, false_iff]
    rintro ⟨s, h1, h2, _⟩
    omega
  | k + 1 => by
    rw [rmN, List.mem_append, rmN_mem, optL_mem]
    constructor
    · rintro (⟨s, h1, h2, h3⟩ | h)
      · exact ⟨s, h1, by omega, h3⟩
      · exact ⟨k + 1, by omega, by omega, h⟩
    · rintro ⟨s, h1, h2, h3⟩
      by_cases e : s = k + 1
      · subst e; exact .inr h3
      · exact .inl ⟨s, h1, by omega, h3⟩
theorem rmN_sorted (js : List Jn) : ∀ k, (rmN js k).Pairwise fun x y => x.s < y.s
  | 0 => List.Pairwise.nil
  | k + 1 => by
    rw [rmN, List.pairwise_append]
    refine ⟨rmN_sorted js k, ?_, fun x hx y hy => ?_⟩
    · cases fstN js (k + 1 : Nat) js.length <;> simp [optL]
    · obtain ⟨s, h1, h2, h3⟩ := rmN_mem.1 hx
      have h4 := fstN_sec h3
      have h5 := fstN_sec (optL_mem.1 hy)
      omega
theorem gt_mem {l : List Tk} {i : Nat} (h : i < l.length) : gt l i ∈ l := by
  simp [gt, h]
theorem mem_gt {l : List Tk} {t : Tk} (h : t ∈ l) : ∃ i, i < l.length ∧ gt l i = t := by
  obtain ⟨i, hi, rfl⟩ := List.getElem_of_mem h
  exact ⟨i, hi, by simp [gt, hi]⟩
theorem rmN_has {n : Int} {js : List Jn} (hv : jsB n js = true) (hc : rcA js 15 = []) {i : Nat} {x : En} (hi : i < js.length) (hx : x ∈ (gj js i).e) : x.t ∈ rmN js 15 := by
  have hall : allJ n js = true := by unfold jsB at hv; simp at hv; exact hv.2
  have hs := tk_secs ((jnB_facts (allJ_gj hall hi)).1 x hx).2
  have hl : lookE js x.s i = some x := atE_some (allJ_rise hall i) hx
  refine rmN_mem.2 ⟨x.s.toNat, by omega, by omega, ?_⟩
  rw [Int.toNat_of_nonneg (by omega)]
  cases hf : fstN js x.s js.length with
  | none => rw [fstN_none hf i hi] at hl; cases hl
  | some t =>
    obtain ⟨b, y, _, h2, h3⟩ := fstN_some hf
    rw [← h3, no_clash hv hc h2 hl]
theorem rmN_of {js : List Jn} {t : Tk} (h : t ∈ rmN js 15) : ∃ i x, i < js.length ∧ x ∈ (gj js i).e ∧ x.t = t := by
  obtain ⟨s, _, _, h3⟩ := rmN_mem.1 h
  obtain ⟨b, x, h4, h5, h6⟩ := fstN_some h3
  exact ⟨b, x, h4, (lookE_mem h5).1, h6⟩

def boE (F : Nat → Bool) (i : Nat) (_ : Nat) : AV := .imm (.bool (F i))
@[simp] theorem boE_free (F : Nat → Bool) (i j : Nat) : Free (boE F i j) := trivial
@[go_sem] theorem boE_us (F : Nat → Bool) (i j : Nat) : boE F i j = .imm (.bool (F i)) := rfl
@[go_sem, reducible] def boO (n : Nat) (F : Nat → Bool) : AObj := .arr 4 1 n (boE F)
theorem boE_upd (F : Nat → Bool) (c : Nat) (i j : Nat) (hj : j < 1) : updE (boE F) c 0 [.imm (.bool true)] i j = boE (fun k => if k = c then true else F k) i j := by
  unfold updE boE
  by_cases h : i = c
  · subst h
    obtain rfl : j = 0 := by omega
    simp [nth]
  · simp [h]
theorem boW {π : List Nat} {σ : List AObj} {F : Nat → Bool} {i j : Nat} (hj : j < 1) (h : F i = false) : WkV π σ (nth [.imm (.bool false)] j) (boE F i j) := by
  obtain rfl : j = 0 := by omega
  exact WkV.imm (by rw [h])
theorem boW2 {π : List Nat} {σ : List AObj} {F : Nat → Bool} {c i j : Nat} (hj : j < 1) : WkV π σ (updE (boE F) c 0 [.imm (.bool true)] i j) (boE (fun k => if k = c then true else F k) i j) := by
  rw [boE_upd F c i j hj]
  exact WkV.imm rfl
def Cv (m : List Tk) (js : List Jn) (k : Nat) (F : Nat → Bool) : Prop := ∀ q, q < m.length → ∀ k', k' < k → ∀ x ∈ (gj js k').e, x.t = gt m q → F q = true
def Cv2 (m : List Tk) (e : List En) (k : Nat) (F : Nat → Bool) : Prop := ∀ q, q < m.length → ∀ k', k' < k → (ge e k').t = gt m q → F q = true
theorem Cv.mono {m : List Tk} {js : List Jn} {k : Nat} {F G : Nat → Bool} (h : Cv m js k F) (hg : ∀ q, F q = true → G q = true) : Cv m js k G := fun q hq k' hk x hx e => hg q (h q hq k' hk x hx e)
theorem Cv2.mono {m : List Tk} {l : List En} {k : Nat} {F G : Nat → Bool} (h : Cv2 m l k F) (hg : ∀ q, F q = true → G q = true) : Cv2 m l k G := fun q hq k' hk e => hg q (h q hq k' hk e)
@[go_sem, reducible] def uE (m : List Tk) (js : List Jn) (i : Nat) (a b : List AV) : List AV := [.top, .top, .top, .top, .top, .imm (.bool true), .own 0 0 m.length none, .top, .top, .own 1 0 m.length (some m.length), .top, .top, .top] ++ a ++ List.replicate 55 .top ++ [jns js, .imm (.int .i64 js.length), .imm (.int .i64 i)] ++ b

set_option maxRecDepth 100000 in
set_option maxHeartbeats 16000000 in
theorem union_law (n : Int) (js : List Jn) (h : JsOk js) : Look Try.prog 4 [.imm (.int .i64 n), jns js] (.imm (.bool true)) := by
  have hl := h.1
  have c2 := merge_tc n js h
  rw [mrg_eq] at c2
  unfold rmrgR at c2
  have q1 := rjs_tc n js h
  refine Look.mk trivial ?_
  by_cases hv : jsB n js = true
  · rw [if_pos hv] at c2
    by_cases hc : rcA js 15 = []
    · rw [if_pos hc] at c2
      have hl8 : js.length ≤ 8 := by unfold jsB at hv; simp at hv; exact hv.1.2
      have hm1 := rmN_len js 15
      have hm2 := rmN_sorted js 15
      have hm3 := fun {i x} (hi : i < js.length) (hx : x ∈ (gj js i).e) => rmN_has hv hc hi hx
      have hm4 := fun t (ht : t ∈ rmN js 15) => rmN_of ht
      generalize rmN js 15 = m at c2 hm1 hm2 hm3 hm4
      simp only [] at c2
      (refine TC_of_T Γ_ok Try.func4 rfl (by kernel_rfl) ?_; simp only [Try.ntmps4, Try.results4, List.length_cons, List.length_nil, Nat.reduceSub, Nat.reduceAdd, List.replicate, List.cons_append, List.nil_append])
      (have cl1 := head_tc; have cm1 := c2; repeat' (first | with_reducible refine T_seq_drawT (id := 10) Γ_ok drawsAny pl4_10 (by kernel_rfl) (fun K hK => ?_) | with_reducible refine T_last_drawT (id := 10) Γ_ok drawsAny pl4_10 (by kernel_rfl) (fun K hK => ?_) | ((refine goL0 _ _ _ _ _ _ _ _ ?_ ?_ ?_ ?_ ?_ ?_ ?_ ?_) <;> (repeat intro hb) <;> first | exact True.intro | refine Lf.mk ?_)))
      refine T_loopW (fun r st => ∃ i : Nat, 1 ≤ i ∧ i ≤ 16 ∧ r = 16 - i ∧ st = ⟨[.imm (.int .i64 n), jns js, .top, .top, .top, .imm (.bool true), .own 0 0 m.length none, .top, .imm (.int .i64 i)] ++ List.replicate 107 .top, [tkO m]⟩)
        15 ⟨_, ?_, 1, by omega, by omega, rfl, rfl⟩ ?_
      · ((try simp only [List.length_append, List.length_cons, List.length_nil, Nat.zero_add]); refine Wk.intro [0] (by decide) (by decide) (by intro o ho; simp at ho ⊢ <;> omega) ?_ ?_ <;> repeat' (first | exact WkVL.nil | refine WkVL.cons ?_ ?_ | exact WkV.top | exact WkV.imm rfl | exact WkV.imm (by simp) | exact WkV.optr rfl | exact WkV.own rfl (by simp) | exact WkV.nil_own (.inl rfl) | exact WkV.map rfl | (refine WkV.free ?_; simp [Free, FreeL] <;> assumption) | (refine WkV.free (fun _ _ => FreeL_nth ?_ _); simp [Free, FreeL]; done) | refine WkV.agg ?_ | refine WkV.tup ?_ | refine WkV.fn ?_ ?_ | exact WkO.dead | exact WkO.raw | refine WkO.ghost ?_ | exact WkO.mpE rfl trivial | refine WkO.box ?_ rfl | refine WkO.arr ?_ | refine And.intro ?_ (And.intro (by first | exact fun h => h | exact fun _ => rfl | exact nofun) ?_) | exact trivial | (intro i j hi hj)))
      rintro r st ⟨i, i0, i1, i2, rfl⟩
      have hlt : i < m.length → decide ((gt m (i - 1)).s < (gt m i).s) = true := fun hi => by
        refine decide_eq_true ?_
        have := List.pairwise_iff_getElem.1 hm2 (i - 1) i (by omega) hi (by omega)
        simpa [gt, hi, show i - 1 < m.length by omega] using this
      (simp only [go_sem, ↓reduceIte, Nat.reduceAdd, Nat.reduceSub, Nat.reduceMul, Nat.reduceLT, Nat.reduceLeDiff, Nat.reduceEqDiff, Nat.reduceGT, Int.reduceToNat, Int.reduceBEq, Int.reduceBNe]; try simp (disch := omega) only [wrapI, wrapU, half_sum, toNat_sub1, toNat_add1, Int.toNat_natCast])
      (repeat' (first | with_reducible refine T_seq_drawT (id := 10) Γ_ok drawsAny pl4_10 (by kernel_rfl) (fun K hK => ?_) | with_reducible refine T_last_drawT (id := 10) Γ_ok drawsAny pl4_10 (by kernel_rfl) (fun K hK => ?_) | ((refine goL0 _ _ _ _ _ _ _ _ ?_ ?_ ?_ ?_ ?_ ?_ ?_ ?_) <;> (repeat intro hb) <;> first | exact True.intro | refine Lf.mk ?_)))
      · rw [hlt (by omega)]
        refine ⟨16 - (i + 1), by omega, _, ?_, i + 1, by omega, by omega, rfl, rfl⟩
        ((try simp only [List.length_append, List.length_cons, List.length_nil, Nat.zero_add]); refine Wk.intro [0] (by decide) (by decide) (by intro o ho; simp at ho ⊢ <;> omega) ?_ ?_ <;> repeat' (first | (exact WkV.imm (by simp)) | exact WkVL.nil | refine WkVL.cons ?_ ?_ | exact WkV.top | exact WkV.imm rfl | exact WkV.imm (by simp) | exact WkV.optr rfl | exact WkV.own rfl (by simp) | exact WkV.nil_own (.inl rfl) | exact WkV.map rfl | (refine WkV.free ?_; simp [Free, FreeL] <;> assumption) | (refine WkV.free (fun _ _ => FreeL_nth ?_ _); simp [Free, FreeL]; done) | refine WkV.agg ?_ | refine WkV.tup ?_ | refine WkV.fn ?_ ?_ | exact WkO.dead | exact WkO.raw | refine WkO.ghost ?_ | exact WkO.mpE rfl trivial | refine WkO.box ?_ rfl | refine WkO.arr ?_ | refine And.intro ?_ (And.intro (by first | exact fun h => h | exact fun _ => rfl | exact nofun) ?_) | exact trivial | (intro i j hi hj)))
      clear hlt
      refine T_loopW (fun r st => ∃ (k : Nat) (F : Nat → Bool), k ≤ js.length ∧ r + k = js.length ∧ Cv m js k F ∧ st = ⟨uE m js k [.top, .top] (List.replicate 43 .top), [tkO m, boO m.length F]⟩)
        js.length ⟨_, ?_, 0, fun _ => false, by omega, by omega, fun _ _ _ h => by omega, rfl⟩ ?_
      · ((try simp only [List.length_append, List.length_cons, List.length_nil, Nat.zero_add]); refine Wk.intro [0, 1] (by decide) (by decide) (by intro o ho; simp at ho ⊢ <;> omega) ?_ ?_ <;> repeat' (first | (exact boW (by assumption) rfl) | exact WkVL.nil | refine WkVL.cons ?_ ?_ | exact WkV.top | exact WkV.imm rfl | exact WkV.imm (by simp) | exact WkV.optr rfl | exact WkV.own rfl (by simp) | exact WkV.nil_own (.inl rfl) | exact WkV.map rfl | (refine WkV.free ?_; simp [Free, FreeL] <;> assumption) | (refine WkV.free (fun _ _ => FreeL_nth ?_ _); simp [Free, FreeL]; done) | refine WkV.agg ?_ | refine WkV.tup ?_ | refine WkV.fn ?_ ?_ | exact WkO.dead | exact WkO.raw | refine WkO.ghost ?_ | exact WkO.mpE rfl trivial | refine WkO.box ?_ rfl | refine WkO.arr ?_ | refine And.intro ?_ (And.intro (by first | exact fun h => h | exact fun _ => rfl | exact nofun) ?_) | exact trivial | (intro i j hi hj)))
      rintro r st ⟨k, F, k0, k1, hF, rfl⟩
      by_cases hk : k < js.length
      · have hjk := h.2 k
        (simp only [go_sem, ↓reduceIte, Nat.reduceAdd, Nat.reduceSub, Nat.reduceMul, Nat.reduceLT, Nat.reduceLeDiff, Nat.reduceEqDiff, Nat.reduceGT, Int.reduceToNat, Int.reduceBEq, Int.reduceBNe]; try simp (disch := omega) only [wrapI, wrapU, half_sum, toNat_sub1, toNat_add1, Int.toNat_natCast])
        (repeat' (first | with_reducible refine T_seq_drawT (id := 10) Γ_ok drawsAny pl4_10 (by kernel_rfl) (fun K hK => ?_) | with_reducible refine T_last_drawT (id := 10) Γ_ok drawsAny pl4_10 (by kernel_rfl) (fun K hK => ?_) | ((refine goL0 _ _ _ _ _ _ _ _ ?_ ?_ ?_ ?_ ?_ ?_ ?_ ?_) <;> (repeat intro hb) <;> first | exact True.intro | refine Lf.mk ?_)))
        generalize he : (gj js k).e = e
        have hel : e.length ≤ 9223372036854775807 := by rw [← he]; exact hjk.1
        refine T_loopW (fun r st => ∃ (k2 : Nat) (F : Nat → Bool), k2 ≤ e.length ∧ r + k2 = e.length ∧ Cv m js k F ∧ Cv2 m e k2 F ∧ st = ⟨uE m js k [.top, .top] ([.top, .top, .top, .top, ens e, .imm (.int .i64 e.length), .imm (.int .i64 k2)] ++ List.replicate 36 .top), [tkO m, boO m.length F]⟩)
          e.length ⟨_, ?_, 0, F, by omega, by omega, hF, fun _ _ _ h => by omega, rfl⟩ ?_
        · ((try simp only [List.length_append, List.length_cons, List.length_nil, Nat.zero_add]); refine Wk.intro [0, 1] (by decide) (by decide) (by intro o ho; simp at ho ⊢ <;> omega) ?_ ?_ <;> repeat' (first | exact WkVL.nil | refine WkVL.cons ?_ ?_ | exact WkV.top | exact WkV.imm rfl | exact WkV.imm (by simp) | exact WkV.optr rfl | exact WkV.own rfl (by simp) | exact WkV.nil_own (.inl rfl) | exact WkV.map rfl | (refine WkV.free ?_; simp [Free, FreeL] <;> assumption) | (refine WkV.free (fun _ _ => FreeL_nth ?_ _); simp [Free, FreeL]; done) | refine WkV.agg ?_ | refine WkV.tup ?_ | refine WkV.fn ?_ ?_ | exact WkO.dead | exact WkO.raw | refine WkO.ghost ?_ | exact WkO.mpE rfl trivial | refine WkO.box ?_ rfl | refine WkO.arr ?_ | refine And.intro ?_ (And.intro (by first | exact fun h => h | exact fun _ => rfl | exact nofun) ?_) | exact trivial | (intro i j hi hj)))
        clear hF F
        rintro r2 st ⟨k2, F, k20, k21, hF, hF2, rfl⟩
        by_cases hk2 : k2 < e.length
        · (simp only [go_sem, ↓reduceIte, Nat.reduceAdd, Nat.reduceSub, Nat.reduceMul, Nat.reduceLT, Nat.reduceLeDiff, Nat.reduceEqDiff, Nat.reduceGT, Int.reduceToNat, Int.reduceBEq, Int.reduceBNe]; try simp (disch := omega) only [wrapI, wrapU, half_sum, toNat_sub1, toNat_add1, Int.toNat_natCast])
          (repeat' (first | with_reducible refine T_seq_drawT (id := 10) Γ_ok drawsAny pl4_10 (by kernel_rfl) (fun K hK => ?_) | with_reducible refine T_last_drawT (id := 10) Γ_ok drawsAny pl4_10 (by kernel_rfl) (fun K hK => ?_) | ((refine goL0 _ _ _ _ _ _ _ _ ?_ ?_ ?_ ?_ ?_ ?_ ?_ ?_) <;> (repeat intro hb) <;> first | exact True.intro | refine Lf.mk ?_)))
          generalize hx : ge e k2 = x
          refine T_loopW (fun r st => ∃ (c : Nat) (F : Nat → Bool) (b : Bool), c ≤ m.length ∧ r + c = m.length ∧ Cv m js k F ∧ Cv2 m e k2 F ∧ (∀ q, q < c → x.t = gt m q → F q = true) ∧ (∀ q, q < c → x.t = gt m q → b = true) ∧ st = ⟨uE m js k [.optr 2 0 0, .imm (.bool b)] ([.top, .top, .top, .top, ens e, .imm (.int .i64 e.length), .imm (.int .i64 k2), .top, .top, .top, .own 0 0 m.length none, .imm (.int .i64 m.length), .imm (.int .i64 c)] ++ List.replicate 30 .top), [tkO m, boO m.length F, .box 27 (enL x)]⟩)
            m.length ⟨_, ?_, 0, F, false, by omega, by omega, hF, hF2, fun _ h => by omega, fun _ h => by omega, rfl⟩ ?_
          · skip
            ((try simp only [List.length_append, List.length_cons, List.length_nil, Nat.zero_add]); refine Wk.intro [0, 1, 2] (by decide) (by decide) (by intro o ho; simp at ho ⊢ <;> omega) ?_ ?_ <;> repeat' (first | exact WkVL.nil | refine WkVL.cons ?_ ?_ | exact WkV.top | exact WkV.imm rfl | exact WkV.imm (by simp) | exact WkV.optr rfl | exact WkV.own rfl (by simp) | exact WkV.nil_own (.inl rfl) | exact WkV.map rfl | (refine WkV.free ?_; simp [Free, FreeL] <;> assumption) | (refine WkV.free (fun _ _ => FreeL_nth ?_ _); simp [Free, FreeL]; done) | refine WkV.agg ?_ | refine WkV.tup ?_ | refine WkV.fn ?_ ?_ | exact WkO.dead | exact WkO.raw | refine WkO.ghost ?_ | exact WkO.mpE rfl trivial | refine WkO.box ?_ rfl | refine WkO.arr ?_ | refine And.intro ?_ (And.intro (by first | exact fun h => h | exact fun _ => rfl | exact nofun) ?_) | exact trivial | (intro i j hi hj)))
          clear hF hF2 F
          rintro r3 st ⟨c, F, b, c0, c1, hF, hF2, hF3, hb3, rfl⟩
          by_cases hc : c < m.length
          · (simp only [go_sem, ↓reduceIte, Nat.reduceAdd, Nat.reduceSub, Nat.reduceMul, Nat.reduceLT, Nat.reduceLeDiff, Nat.reduceEqDiff, Nat.reduceGT, Int.reduceToNat, Int.reduceBEq, Int.reduceBNe]; try simp (disch := omega) only [wrapI, wrapU, half_sum, toNat_sub1, toNat_add1, Int.toNat_natCast])
            (repeat' (first | with_reducible refine T_seq_drawT (id := 10) Γ_ok drawsAny pl4_10 (by kernel_rfl) (fun K hK => ?_) | with_reducible refine T_last_drawT (id := 10) Γ_ok drawsAny pl4_10 (by kernel_rfl) (fun K hK => ?_) | ((refine goL0 _ _ _ _ _ _ _ _ ?_ ?_ ?_ ?_ ?_ ?_ ?_ ?_) <;> (repeat intro hb) <;> first | exact True.intro | refine Lf.mk ?_)))
            · refine ⟨r3 - 1, by omega, _, ?_, c + 1, fun q => if q = c then true else F q, true, by omega, by omega, hF.mono fun q h => by simp [h], hF2.mono fun q h => by simp [h], fun q hq he' => ?_, fun _ _ _ => rfl, rfl⟩
              · ((try simp only [List.length_append, List.length_cons, List.length_nil, Nat.zero_add]); refine Wk.intro [0, 1, 2] (by decide) (by decide) (by intro o ho; simp at ho ⊢ <;> omega) ?_ ?_ <;> repeat' (first | (exact boW2 (by assumption)) | (exact WkV.imm (by simp)) | exact WkVL.nil | refine WkVL.cons ?_ ?_ | exact WkV.top | exact WkV.imm rfl | exact WkV.imm (by simp) | exact WkV.optr rfl | exact WkV.own rfl (by simp) | exact WkV.nil_own (.inl rfl) | exact WkV.map rfl | (refine WkV.free ?_; simp [Free, FreeL] <;> assumption) | (refine WkV.free (fun _ _ => FreeL_nth ?_ _); simp [Free, FreeL]; done) | refine WkV.agg ?_ | refine WkV.tup ?_ | refine WkV.fn ?_ ?_ | exact WkO.dead | exact WkO.raw | refine WkO.ghost ?_ | exact WkO.mpE rfl trivial | refine WkO.box ?_ rfl | refine WkO.arr ?_ | refine And.intro ?_ (And.intro (by first | exact fun h => h | exact fun _ => rfl | exact nofun) ?_) | exact trivial | (intro i j hi hj)))
              · by_cases h5 : q = c
                · simp [h5]
                · simp only [if_neg h5]
                  exact hF3 q (by omega) he'
            · have hne : x.t ≠ gt m c := fun e' => by
                have h6 : (gt m c).s = x.s := by rw [← e']; rfl
                have h7 : (gt m c).c = x.c := by rw [← e']; rfl
                have h8 : (gt m c).n = x.n := by rw [← e']; rfl
                have h9 : (gt m c).d = x.d := by rw [← e']; rfl
                exact hb h6 h7 h8 h9
              refine ⟨r3 - 1, by omega, _, ?_, c + 1, F, b, by omega, by omega, hF, hF2, fun q hq he' => ?_, fun q hq he' => ?_, rfl⟩
              · ((try simp only [List.length_append, List.length_cons, List.length_nil, Nat.zero_add]); refine Wk.intro [0, 1, 2] (by decide) (by decide) (by intro o ho; simp at ho ⊢ <;> omega) ?_ ?_ <;> repeat' (first | (exact WkV.imm (by simp)) | exact WkVL.nil | refine WkVL.cons ?_ ?_ | exact WkV.top | exact WkV.imm rfl | exact WkV.imm (by simp) | exact WkV.optr rfl | exact WkV.own rfl (by simp) | exact WkV.nil_own (.inl rfl) | exact WkV.map rfl | (refine WkV.free ?_; simp [Free, FreeL] <;> assumption) | (refine WkV.free (fun _ _ => FreeL_nth ?_ _); simp [Free, FreeL]; done) | refine WkV.agg ?_ | refine WkV.tup ?_ | refine WkV.fn ?_ ?_ | exact WkO.dead | exact WkO.raw | refine WkO.ghost ?_ | exact WkO.mpE rfl trivial | refine WkO.box ?_ rfl | refine WkO.arr ?_ | refine And.intro ?_ (And.intro (by first | exact fun h => h | exact fun _ => rfl | exact nofun) ?_) | exact trivial | (intro i j hi hj)))
              · by_cases h5 : q = c
                · subst h5; exact absurd he' hne
                · exact hF3 q (by omega) he'
              · by_cases h5 : q = c
                · subst h5; exact absurd he' hne
                · exact hb3 q (by omega) he'
          · (simp only [go_sem, ↓reduceIte, Nat.reduceAdd, Nat.reduceSub, Nat.reduceMul, Nat.reduceLT, Nat.reduceLeDiff, Nat.reduceEqDiff, Nat.reduceGT, Int.reduceToNat, Int.reduceBEq, Int.reduceBNe]; try simp (disch := omega) only [wrapI, wrapU, half_sum, toNat_sub1, toNat_add1, Int.toNat_natCast])
            (repeat' (first | with_reducible refine T_seq_drawT (id := 10) Γ_ok drawsAny pl4_10 (by kernel_rfl) (fun K hK => ?_) | with_reducible refine T_last_drawT (id := 10) Γ_ok drawsAny pl4_10 (by kernel_rfl) (fun K hK => ?_) | ((refine goL0 _ _ _ _ _ _ _ _ ?_ ?_ ?_ ?_ ?_ ?_ ?_ ?_) <;> (repeat intro hb) <;> first | exact True.intro | refine Lf.mk ?_)))
            have hxe : x ∈ e := by rw [← hx]; simp [ge, hk2]
            obtain ⟨q0, hq0, hq1⟩ := mem_gt (hm3 hk (by rw [he]; exact hxe))
            have hbt : b = true := hb3 q0 (by omega) hq1.symm
            rw [hbt]
            refine ⟨r2 - 1, by omega, _, ?_, k2 + 1, F, by omega, by omega, hF, fun q hq k' hk' he' => ?_, rfl⟩
            · ((try simp only [List.length_append, List.length_cons, List.length_nil, Nat.zero_add]); refine Wk.intro [0, 1] (by decide) (by decide) (by intro o ho; simp at ho ⊢ <;> omega) ?_ ?_ <;> repeat' (first | (exact WkV.imm (by simp)) | exact WkVL.nil | refine WkVL.cons ?_ ?_ | exact WkV.top | exact WkV.imm rfl | exact WkV.imm (by simp) | exact WkV.optr rfl | exact WkV.own rfl (by simp) | exact WkV.nil_own (.inl rfl) | exact WkV.map rfl | (refine WkV.free ?_; simp [Free, FreeL] <;> assumption) | (refine WkV.free (fun _ _ => FreeL_nth ?_ _); simp [Free, FreeL]; done) | refine WkV.agg ?_ | refine WkV.tup ?_ | refine WkV.fn ?_ ?_ | exact WkO.dead | exact WkO.raw | refine WkO.ghost ?_ | exact WkO.mpE rfl trivial | refine WkO.box ?_ rfl | refine WkO.arr ?_ | refine And.intro ?_ (And.intro (by first | exact fun h => h | exact fun _ => rfl | exact nofun) ?_) | exact trivial | (intro i j hi hj)))
            · by_cases h5 : k' = k2
              · subst h5
                rw [hx] at he'
                exact hF3 q (by omega) he'
              · exact hF2 q hq k' (by omega) he'
        · (simp only [go_sem, ↓reduceIte, Nat.reduceAdd, Nat.reduceSub, Nat.reduceMul, Nat.reduceLT, Nat.reduceLeDiff, Nat.reduceEqDiff, Nat.reduceGT, Int.reduceToNat, Int.reduceBEq, Int.reduceBNe]; try simp (disch := omega) only [wrapI, wrapU, half_sum, toNat_sub1, toNat_add1, Int.toNat_natCast])
          (repeat' (first | with_reducible refine T_seq_drawT (id := 10) Γ_ok drawsAny pl4_10 (by kernel_rfl) (fun K hK => ?_) | with_reducible refine T_last_drawT (id := 10) Γ_ok drawsAny pl4_10 (by kernel_rfl) (fun K hK => ?_) | ((refine goL0 _ _ _ _ _ _ _ _ ?_ ?_ ?_ ?_ ?_ ?_ ?_ ?_) <;> (repeat intro hb) <;> first | exact True.intro | refine Lf.mk ?_)))
          refine ⟨r - 1, by omega, _, ?_, k + 1, F, by omega, by omega, ?_, rfl⟩
          · ((try simp only [List.length_append, List.length_cons, List.length_nil, Nat.zero_add]); refine Wk.intro [0, 1] (by decide) (by decide) (by intro o ho; simp at ho ⊢ <;> omega) ?_ ?_ <;> repeat' (first | (exact WkV.imm (by simp)) | exact WkVL.nil | refine WkVL.cons ?_ ?_ | exact WkV.top | exact WkV.imm rfl | exact WkV.imm (by simp) | exact WkV.optr rfl | exact WkV.own rfl (by simp) | exact WkV.nil_own (.inl rfl) | exact WkV.map rfl | (refine WkV.free ?_; simp [Free, FreeL] <;> assumption) | (refine WkV.free (fun _ _ => FreeL_nth ?_ _); simp [Free, FreeL]; done) | refine WkV.agg ?_ | refine WkV.tup ?_ | refine WkV.fn ?_ ?_ | exact WkO.dead | exact WkO.raw | refine WkO.ghost ?_ | exact WkO.mpE rfl trivial | refine WkO.box ?_ rfl | refine WkO.arr ?_ | refine And.intro ?_ (And.intro (by first | exact fun h => h | exact fun _ => rfl | exact nofun) ?_) | exact trivial | (intro i j hi hj)))
          · intro q hq k' hk' x hx e'
            by_cases h4 : k' = k
            · subst h4
              rw [he] at hx
              obtain ⟨z, hz, rfl⟩ := List.getElem_of_mem hx
              exact hF2 q hq z (by omega) (by rw [← e']; simp [ge, hz])
            · exact hF q hq k' (by omega) x hx e'
      · (simp only [go_sem, ↓reduceIte, Nat.reduceAdd, Nat.reduceSub, Nat.reduceMul, Nat.reduceLT, Nat.reduceLeDiff, Nat.reduceEqDiff, Nat.reduceGT, Int.reduceToNat, Int.reduceBEq, Int.reduceBNe]; try simp (disch := omega) only [wrapI, wrapU, half_sum, toNat_sub1, toNat_add1, Int.toNat_natCast])
        (repeat' (first | with_reducible refine T_seq_drawT (id := 10) Γ_ok drawsAny pl4_10 (by kernel_rfl) (fun K hK => ?_) | with_reducible refine T_last_drawT (id := 10) Γ_ok drawsAny pl4_10 (by kernel_rfl) (fun K hK => ?_) | ((refine goL0 _ _ _ _ _ _ _ _ ?_ ?_ ?_ ?_ ?_ ?_ ?_ ?_) <;> (repeat intro hb) <;> first | exact True.intro | refine Lf.mk ?_)))
        have hall : ∀ q, q < m.length → F q = true := fun q hq => by
          obtain ⟨k', x, h1, h2, h3⟩ := hm4 (gt m q) (gt_mem hq)
          exact hF q hq k' (by omega) x h2 h3
        refine T_loopW (fun r st => ∃ c : Nat, c ≤ m.length ∧ r + c = m.length ∧ st = ⟨uE m js k [.top, .top] (List.replicate 31 .top ++ [.own 1 0 m.length (some m.length), .imm (.int .i64 m.length), .imm (.int .i64 c)] ++ List.replicate 9 .top), [tkO m, boO m.length F]⟩)
          m.length ⟨_, ?_, 0, by omega, by omega, rfl⟩ ?_
        · ((try simp only [List.length_append, List.length_cons, List.length_nil, Nat.zero_add]); refine Wk.intro [0, 1] (by decide) (by decide) (by intro o ho; simp at ho ⊢ <;> omega) ?_ ?_ <;> repeat' (first | exact WkVL.nil | refine WkVL.cons ?_ ?_ | exact WkV.top | exact WkV.imm rfl | exact WkV.imm (by simp) | exact WkV.optr rfl | exact WkV.own rfl (by simp) | exact WkV.nil_own (.inl rfl) | exact WkV.map rfl | (refine WkV.free ?_; simp [Free, FreeL] <;> assumption) | (refine WkV.free (fun _ _ => FreeL_nth ?_ _); simp [Free, FreeL]; done) | refine WkV.agg ?_ | refine WkV.tup ?_ | refine WkV.fn ?_ ?_ | exact WkO.dead | exact WkO.raw | refine WkO.ghost ?_ | exact WkO.mpE rfl trivial | refine WkO.box ?_ rfl | refine WkO.arr ?_ | refine And.intro ?_ (And.intro (by first | exact fun h => h | exact fun _ => rfl | exact nofun) ?_) | exact trivial | (intro i j hi hj)))
        rintro r st ⟨c, c0, c1, rfl⟩
        have hFc := hall c
        by_cases hc : c < m.length
        · have hFc := hFc hc
          (simp only [go_sem, ↓reduceIte, Nat.reduceAdd, Nat.reduceSub, Nat.reduceMul, Nat.reduceLT, Nat.reduceLeDiff, Nat.reduceEqDiff, Nat.reduceGT, Int.reduceToNat, Int.reduceBEq, Int.reduceBNe]; try simp (disch := omega) only [wrapI, wrapU, half_sum, toNat_sub1, toNat_add1, Int.toNat_natCast])
          (repeat' (first | with_reducible refine T_seq_drawT (id := 10) Γ_ok drawsAny pl4_10 (by kernel_rfl) (fun K hK => ?_) | with_reducible refine T_last_drawT (id := 10) Γ_ok drawsAny pl4_10 (by kernel_rfl) (fun K hK => ?_) | ((refine goL0 _ _ _ _ _ _ _ _ ?_ ?_ ?_ ?_ ?_ ?_ ?_ ?_) <;> (repeat intro hb) <;> first | exact True.intro | refine Lf.mk ?_)))
          rw [hFc]
          refine ⟨r - 1, by omega, _, ?_, c + 1, by omega, by omega, rfl⟩
          ((try simp only [List.length_append, List.length_cons, List.length_nil, Nat.zero_add]); refine Wk.intro [0, 1] (by decide) (by decide) (by intro o ho; simp at ho ⊢ <;> omega) ?_ ?_ <;> repeat' (first | (exact WkV.imm (by simp)) | exact WkVL.nil | refine WkVL.cons ?_ ?_ | exact WkV.top | exact WkV.imm rfl | exact WkV.imm (by simp) | exact WkV.optr rfl | exact WkV.own rfl (by simp) | exact WkV.nil_own (.inl rfl) | exact WkV.map rfl | (refine WkV.free ?_; simp [Free, FreeL] <;> assumption) | (refine WkV.free (fun _ _ => FreeL_nth ?_ _); simp [Free, FreeL]; done) | refine WkV.agg ?_ | refine WkV.tup ?_ | refine WkV.fn ?_ ?_ | exact WkO.dead | exact WkO.raw | refine WkO.ghost ?_ | exact WkO.mpE rfl trivial | refine WkO.box ?_ rfl | refine WkO.arr ?_ | refine And.intro ?_ (And.intro (by first | exact fun h => h | exact fun _ => rfl | exact nofun) ?_) | exact trivial | (intro i j hi hj)))
        · (simp only [go_sem, ↓reduceIte, Nat.reduceAdd, Nat.reduceSub, Nat.reduceMul, Nat.reduceLT, Nat.reduceLeDiff, Nat.reduceEqDiff, Nat.reduceGT, Int.reduceToNat, Int.reduceBEq, Int.reduceBNe]; try simp (disch := omega) only [wrapI, wrapU, half_sum, toNat_sub1, toNat_add1, Int.toNat_natCast])
          (repeat' (first | with_reducible refine T_seq_drawT (id := 10) Γ_ok drawsAny pl4_10 (by kernel_rfl) (fun K hK => ?_) | with_reducible refine T_last_drawT (id := 10) Γ_ok drawsAny pl4_10 (by kernel_rfl) (fun K hK => ?_) | ((refine goL0 _ _ _ _ _ _ _ _ ?_ ?_ ?_ ?_ ?_ ?_ ?_ ?_) <;> (repeat intro hb) <;> first | exact True.intro | refine Lf.mk ?_)))
    · rw [if_neg hc] at c2
      simp only [] at c2
      obtain ⟨f, hf, c3⟩ : ∃ f : Int, f = 23 ∧ Makes Try.prog 17 [.imm (.int .i64 n), jns js] (.tup [.own 0 0 ([] : List Tk).length none, .imm (.int .i64 f)]) [tkO []] := ⟨_, rfl, c2⟩
      clear c2
      (refine TC_of_T Γ_ok Try.func4 rfl (by kernel_rfl) ?_; simp only [Try.ntmps4, Try.results4, List.length_cons, List.length_nil, Nat.reduceSub, Nat.reduceAdd, List.replicate, List.cons_append, List.nil_append])
      (have cl1 := head_tc; have cm1 := c3; have cl2 := q1; repeat' (first | with_reducible refine T_seq_drawT (id := 10) Γ_ok drawsAny pl4_10 (by kernel_rfl) (fun K hK => ?_) | with_reducible refine T_last_drawT (id := 10) Γ_ok drawsAny pl4_10 (by kernel_rfl) (fun K hK => ?_) | ((refine goL0 _ _ _ _ _ _ _ _ ?_ ?_ ?_ ?_ ?_ ?_ ?_ ?_) <;> (repeat intro hb) <;> first | exact True.intro | refine Lf.mk ?_)))
      subst hf
      rfl
  · rw [if_neg hv] at c2
    simp only [] at c2
    rw [show jsB n js = false by simpa using hv] at q1
    (refine TC_of_T Γ_ok Try.func4 rfl (by kernel_rfl) ?_; simp only [Try.ntmps4, Try.results4, List.length_cons, List.length_nil, Nat.reduceSub, Nat.reduceAdd, List.replicate, List.cons_append, List.nil_append])
    (have cl1 := head_tc; have cm1 := c2; have cl2 := q1; repeat' (first | with_reducible refine T_seq_drawT (id := 10) Γ_ok drawsAny pl4_10 (by kernel_rfl) (fun K hK => ?_) | with_reducible refine T_last_drawT (id := 10) Γ_ok drawsAny pl4_10 (by kernel_rfl) (fun K hK => ?_) | ((refine goL0 _ _ _ _ _ _ _ _ ?_ ?_ ?_ ?_ ?_ ?_ ?_ ?_) <;> (repeat intro hb) <;> first | exact True.intro | refine Lf.mk ?_)))
end Go.Proofs.Ythikkiacgmgdhaa
