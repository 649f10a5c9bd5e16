/-
  The walk of store.Fold.
-/
import Derived.Test.YtnomenmakhielaaDoorQGo
import Derived.Test.YtnomenmakhielaaDoorQS10
set_option linter.unusedSimpArgs false
set_option linter.unusedVariables false
namespace Go.Proofs.YtnomenmakhielaaDoor
open Go.Ab

theorem gR_take {l : List Rcd} {i : Nat} (h : i < l.length) : l.take (i + 1) = l.take i ++ [gR l i] := by
  rw [List.take_add_one, List.getElem?_eq_getElem h]; simp [gR, h]
theorem runM_drop {l : List Rcd} {i : Nat} (h : i < l.length) (m : Mem) : runM (l.drop i) m = if (doR m (gR l i)).2 = 0 then runM (l.drop (i + 1)) (doR m (gR l i)).1 else (⟨[], []⟩, (doR m (gR l i)).2) := by
  rw [List.drop_eq_getElem_cons h, runM]
  simp [gR, h]
theorem doR_len {m : Mem} {r : Rcd} (hr : r.ok = true) (hA : m.A.length ≤ 15) (hL : m.L.length ≤ 15) : (doR m r).1.A.length ≤ 15 ∧ (doR m r).1.L.length ≤ 15 := by
  obtain ⟨⟨h1, h2⟩, hk⟩ := Rcd.ok_spec hr
  unfold doR
  split
  · simp only [List.length_set, grow_len]; omega
  · split
    · simp only [List.length_set, grow_len]; omega
    · split
      · exact ⟨hA, hL⟩
      · exact ⟨hA, learnR_len _ _⟩

@[go_sem] theorem mval_1 : mval [(.int .i64 1, .fn (.func 53) [] []), (.int .i64 2, .fn (.func 56) [] []), (.int .i64 3, .fn (.func 58) [] [])] (.imm .nilFunc) (.int .i64 1) = .fn (.func 53) [] [] := rfl
@[go_sem] theorem mval_2 : mval [(.int .i64 1, .fn (.func 53) [] []), (.int .i64 2, .fn (.func 56) [] []), (.int .i64 3, .fn (.func 58) [] [])] (.imm .nilFunc) (.int .i64 2) = .fn (.func 56) [] [] := rfl
@[go_sem] theorem mval_3 : mval [(.int .i64 1, .fn (.func 53) [] []), (.int .i64 2, .fn (.func 56) [] []), (.int .i64 3, .fn (.func 58) [] [])] (.imm .nilFunc) (.int .i64 3) = .fn (.func 58) [] [] := rfl
def FoldQ (q : Mem × Int) (v : AV) (σ' : List AObj) : Prop :=
  (v = .tup [.agg [.imm (.slice none 0 0), .imm (.slice none 0 0)], .imm (.int .i64 q.2)] ∧ q.1 = ⟨[], []⟩) ∨
  (∃ a b, a ≠ b ∧ v = .tup [.agg [.own a 0 q.1.A.length none, .own b 0 q.1.L.length none], .imm (.int .i64 q.2)] ∧ nthO σ' a = acO q.1.A ∧ nthO σ' b = tkO q.1.L)

theorem deed1_turns (A : List Acc) (L : List Tk) (r : Rcd) (hk : r.k = 1) (hs : 1 ≤ r.s ∧ r.s < 16) (hA : A.length ≤ 1000) :
    Turns Tryd.prog 53 [.optr 0 0 0, rcA r] [memO 1 2 A L, acO A, tkO L] (.imm (.int .i64 (doR ⟨A, L⟩ r).2)) [memO 3 4 (doR ⟨A, L⟩ r).1.A (doR ⟨A, L⟩ r).1.L, .dead, .dead, acO (doR ⟨A, L⟩ r).1.A, tkO (doR ⟨A, L⟩ r).1.L] :=
  ⟨deed1_tc A L r hk hs hA, trivial, fun a ha => by simp at ha; rcases ha with rfl | rfl | rfl | rfl | rfl <;> simp [VFO, VFL, VF]⟩
theorem deed2_turns (A : List Acc) (L : List Tk) (r : Rcd) (hk : r.k = 2) (hs : 1 ≤ r.s ∧ r.s < 16) (hA : A.length ≤ 1000) :
    Turns Tryd.prog 56 [.optr 0 0 0, rcA r] [memO 1 2 A L, acO A, tkO L] (.imm (.int .i64 (doR ⟨A, L⟩ r).2)) [memO 3 4 (doR ⟨A, L⟩ r).1.A (doR ⟨A, L⟩ r).1.L, .dead, .dead, acO (doR ⟨A, L⟩ r).1.A, tkO (doR ⟨A, L⟩ r).1.L] :=
  ⟨deed2_tc A L r hk hs hA, trivial, fun a ha => by simp at ha; rcases ha with rfl | rfl | rfl | rfl | rfl <;> simp [VFO, VFL, VF]⟩
theorem deed3_turns (A : List Acc) (L : List Tk) (r : Rcd) (hk : r.k = 3) (hL : L.length ≤ 9223372036854775807) :
    Turns Tryd.prog 58 [.optr 0 0 0, rcA r] [memO 1 2 A L, acO A, tkO L] (.imm (.int .i64 (doR ⟨A, L⟩ r).2)) [memO 3 4 (doR ⟨A, L⟩ r).1.A (doR ⟨A, L⟩ r).1.L, .dead, .dead, acO (doR ⟨A, L⟩ r).1.A, tkO (doR ⟨A, L⟩ r).1.L] :=
  ⟨deed3_tc A L r hk hL, trivial, fun a ha => by simp at ha; rcases ha with rfl | rfl | rfl | rfl | rfl <;> simp [VFO, VFL, VF]⟩

set_option maxRecDepth 100000 in
set_option maxHeartbeats 4000000 in
theorem fold_raw (l : List Rcd) (hl : l.length ≤ 9223372036854775807) : TC Tryd.prog 12 [rcs l] [] (FoldQ (foldR l)) := by
  have hcon := contains_tc l hl
  (refine TC_of_T Γ_ok Tryd.func12 rfl (by kernel_rfl) ?_; simp only [Tryd.ntmps12, Tryd.results12, List.length_cons, List.length_nil, Nat.reduceSub, Nat.reduceAdd, List.replicate, List.cons_append, List.nil_append])
  by_cases hok : l.length ≤ 500 ∧ allOk l = true
  · have hf : foldR l = runM l ⟨[], []⟩ := if_pos hok
    rw [hok.2] at hcon
    (have cl1 := hcon; have cm1 := deeds_tc; ((refine goR0 _ _ _ _ _ _ _ _ ?_ ?_ ?_ ?_ ?_ ?_ ?_ ?_) <;> (repeat intro hb) <;> first | exact True.intro | refine Lf.mk ?_))
    refine T_loopW (fun m st => ∃ (i : Nat) (A : List Acc) (L : List Tk), i ≤ l.length ∧ m + i = l.length ∧ A.length ≤ 15 ∧ L.length ≤ 15 ∧ foldR l = runM (l.drop i) ⟨A, L⟩ ∧
        st = ⟨[rcs l, .top, .optr 0 0 0, .imm (.int .i64 0), .optr 1 0 0, .map 2, .top, .top, .top, .top, .top, .top, .top, .top, .top, .top, .top, .top, rcs l, .imm (.int .i64 l.length), .imm (.int .i64 i)] ++ List.replicate 15 .top,
          [.box 28 [.imm (.slice none 0 0), .imm (.slice none 0 0)], memO 3 4 A L, deedM, acO A, tkO L]⟩)
      l.length ⟨_, Wk.trans (Wk.push 35 6 (acE [])) (Wk.trans (Wk.push 33 4 (tkE [])) ?_), 0, [], [], by omega, rfl, by simp, by simp, hf, rfl⟩ ?_
    · ((try simp only [List.length_append, List.length_cons, List.length_nil, Nat.zero_add]); refine Wk.intro [0, 1, 2, 3, 4] (by decide) (by decide) (by intro o ho; simp at ho ⊢ <;> omega) ?_ ?_ <;> repeat' (first | exact WkO.mpE rfl (by simp [Free, FreeL]) | exact WkVL.nil | refine WkVL.cons ?_ ?_ | exact WkV.top | exact WkV.imm rfl | exact WkV.imm (by simp) | exact WkV.optr rfl | exact WkV.own rfl (by simp) | exact WkV.nil_own (.inl rfl) | exact WkV.map rfl | (refine WkV.free ?_; simp [Free, FreeL] <;> assumption) | (refine WkV.free (fun _ _ => FreeL_nth ?_ _); simp [Free, FreeL]; done) | refine WkV.agg ?_ | refine WkV.tup ?_ | refine WkV.fn ?_ ?_ | exact WkO.dead | exact WkO.raw | refine WkO.ghost ?_ | exact WkO.mpE rfl trivial | refine WkO.box ?_ rfl | refine WkO.arr ?_ | refine And.intro ?_ (And.intro (by first | exact fun h => h | exact fun _ => rfl | exact nofun) ?_) | exact trivial | (intro i j hi hj)))
    rintro m st ⟨i, A, L, h0, h1, h2, h3, h4, rfl⟩
    (simp only [go_sem, ↓reduceIte, Nat.reduceAdd, Nat.reduceSub, Nat.reduceMul, Nat.reduceLT, Nat.reduceLeDiff, Nat.reduceEqDiff, Nat.reduceGT, Int.reduceToNat, Int.reduceBEq, Int.reduceBNe]; try simp (disch := omega) only [wrapI, wrapU, half_sum, toNat_sub1, toNat_add1, Int.toNat_natCast])
    by_cases hlt : i < l.length
    rotate_left
    · rw [List.drop_eq_nil_of_le (by omega)] at h4
      (((refine goR0 _ _ _ _ _ _ _ _ ?_ ?_ ?_ ?_ ?_ ?_ ?_ ?_) <;> (repeat intro hb) <;> first | exact True.intro | refine Lf.mk ?_))
      exact .inr ⟨3, 4, by decide, by rw [h4]; rfl, by rw [h4]; rfl, by rw [h4]; rfl⟩
    have hro := allOk_gR hok.2 hlt
    have hbd := doR_len (m := ⟨A, L⟩) hro h2 h3
    obtain ⟨hs, hk⟩ := Rcd.ok_spec hro
    rcases hk with ⟨hk, _⟩ | ⟨hk, _⟩ | ⟨hk, _⟩
    · have hd := deed1_turns A L (gR l i) hk hs (by omega)
      simp only [rcA, rcL, hk] at hd
      have hdr := runM_drop hlt ⟨A, L⟩
      by_cases he : (doR ⟨A, L⟩ (gR l i)).2 = 0
      · rw [he] at hd
        rw [if_pos he] at hdr
        (have ct1 := TurnsAt.mk [1, 3, 4] (hd); have sx1 := hk; ((refine goR1 _ _ _ _ _ _ _ _ ?_ ?_ ?_ ?_ ?_ ?_ ?_ ?_) <;> (repeat intro hb) <;> first | exact True.intro | refine Lf.mk ?_))
        refine ⟨l.length - (i + 1), by omega, _, ?_, i + 1, (doR ⟨A, L⟩ (gR l i)).1.A, (doR ⟨A, L⟩ (gR l i)).1.L, by omega, by omega, hbd.1, hbd.2, by rw [h4, hdr], rfl⟩
        ((try simp only [List.length_append, List.length_cons, List.length_nil, Nat.zero_add]); refine Wk.intro [0, 1, 2, 6, 7] (by decide) (by decide) (by intro o ho; simp at ho ⊢ <;> omega) ?_ ?_ <;> repeat' (first | (refine WkV.imm ?_; congr 1; omega) | exact WkO.mpE rfl (by simp [Free, FreeL]) | exact WkVL.nil | refine WkVL.cons ?_ ?_ | exact WkV.top | exact WkV.imm rfl | exact WkV.imm (by simp) | exact WkV.optr rfl | exact WkV.own rfl (by simp) | exact WkV.nil_own (.inl rfl) | exact WkV.map rfl | (refine WkV.free ?_; simp [Free, FreeL] <;> assumption) | (refine WkV.free (fun _ _ => FreeL_nth ?_ _); simp [Free, FreeL]; done) | refine WkV.agg ?_ | refine WkV.tup ?_ | refine WkV.fn ?_ ?_ | exact WkO.dead | exact WkO.raw | refine WkO.ghost ?_ | exact WkO.mpE rfl trivial | refine WkO.box ?_ rfl | refine WkO.arr ?_ | refine And.intro ?_ (And.intro (by first | exact fun h => h | exact fun _ => rfl | exact nofun) ?_) | exact trivial | (intro i j hi hj)))
      · rw [if_neg he] at hdr
        have he' : ((doR ⟨A, L⟩ (gR l i)).2 != 0) = true := by simpa using he
        (have ct1 := TurnsAt.mk [1, 3, 4] (hd); have sx1 := hk; have sx2 := he'; ((refine goR2 _ _ _ _ _ _ _ _ ?_ ?_ ?_ ?_ ?_ ?_ ?_ ?_) <;> (repeat intro hb) <;> first | exact True.intro | refine Lf.mk ?_))
        exact .inl ⟨by rw [h4, hdr], by rw [h4, hdr]⟩
    · have hd := deed2_turns A L (gR l i) hk hs (by omega)
      simp only [rcA, rcL, hk] at hd
      have hdr := runM_drop hlt ⟨A, L⟩
      by_cases he : (doR ⟨A, L⟩ (gR l i)).2 = 0
      · rw [he] at hd
        rw [if_pos he] at hdr
        (have ct1 := TurnsAt.mk [1, 3, 4] (hd); have sx1 := hk; ((refine goR1 _ _ _ _ _ _ _ _ ?_ ?_ ?_ ?_ ?_ ?_ ?_ ?_) <;> (repeat intro hb) <;> first | exact True.intro | refine Lf.mk ?_))
        refine ⟨l.length - (i + 1), by omega, _, ?_, i + 1, (doR ⟨A, L⟩ (gR l i)).1.A, (doR ⟨A, L⟩ (gR l i)).1.L, by omega, by omega, hbd.1, hbd.2, by rw [h4, hdr], rfl⟩
        ((try simp only [List.length_append, List.length_cons, List.length_nil, Nat.zero_add]); refine Wk.intro [0, 1, 2, 6, 7] (by decide) (by decide) (by intro o ho; simp at ho ⊢ <;> omega) ?_ ?_ <;> repeat' (first | (refine WkV.imm ?_; congr 1; omega) | exact WkO.mpE rfl (by simp [Free, FreeL]) | exact WkVL.nil | refine WkVL.cons ?_ ?_ | exact WkV.top | exact WkV.imm rfl | exact WkV.imm (by simp) | exact WkV.optr rfl | exact WkV.own rfl (by simp) | exact WkV.nil_own (.inl rfl) | exact WkV.map rfl | (refine WkV.free ?_; simp [Free, FreeL] <;> assumption) | (refine WkV.free (fun _ _ => FreeL_nth ?_ _); simp [Free, FreeL]; done) | refine WkV.agg ?_ | refine WkV.tup ?_ | refine WkV.fn ?_ ?_ | exact WkO.dead | exact WkO.raw | refine WkO.ghost ?_ | exact WkO.mpE rfl trivial | refine WkO.box ?_ rfl | refine WkO.arr ?_ | refine And.intro ?_ (And.intro (by first | exact fun h => h | exact fun _ => rfl | exact nofun) ?_) | exact trivial | (intro i j hi hj)))
      · rw [if_neg he] at hdr
        have he' : ((doR ⟨A, L⟩ (gR l i)).2 != 0) = true := by simpa using he
        (have ct1 := TurnsAt.mk [1, 3, 4] (hd); have sx1 := hk; have sx2 := he'; ((refine goR2 _ _ _ _ _ _ _ _ ?_ ?_ ?_ ?_ ?_ ?_ ?_ ?_) <;> (repeat intro hb) <;> first | exact True.intro | refine Lf.mk ?_))
        exact .inl ⟨by rw [h4, hdr], by rw [h4, hdr]⟩
    · have hd := deed3_turns A L (gR l i) hk (by omega)
      simp only [rcA, rcL, hk] at hd
      have hdr := runM_drop hlt ⟨A, L⟩
      by_cases he : (doR ⟨A, L⟩ (gR l i)).2 = 0
      · rw [he] at hd
        rw [if_pos he] at hdr
        (have ct1 := TurnsAt.mk [1, 3, 4] (hd); have sx1 := hk; ((refine goR1 _ _ _ _ _ _ _ _ ?_ ?_ ?_ ?_ ?_ ?_ ?_ ?_) <;> (repeat intro hb) <;> first | exact True.intro | refine Lf.mk ?_))
        refine ⟨l.length - (i + 1), by omega, _, ?_, i + 1, (doR ⟨A, L⟩ (gR l i)).1.A, (doR ⟨A, L⟩ (gR l i)).1.L, by omega, by omega, hbd.1, hbd.2, by rw [h4, hdr], rfl⟩
        ((try simp only [List.length_append, List.length_cons, List.length_nil, Nat.zero_add]); refine Wk.intro [0, 1, 2, 6, 7] (by decide) (by decide) (by intro o ho; simp at ho ⊢ <;> omega) ?_ ?_ <;> repeat' (first | (refine WkV.imm ?_; congr 1; omega) | exact WkO.mpE rfl (by simp [Free, FreeL]) | exact WkVL.nil | refine WkVL.cons ?_ ?_ | exact WkV.top | exact WkV.imm rfl | exact WkV.imm (by simp) | exact WkV.optr rfl | exact WkV.own rfl (by simp) | exact WkV.nil_own (.inl rfl) | exact WkV.map rfl | (refine WkV.free ?_; simp [Free, FreeL] <;> assumption) | (refine WkV.free (fun _ _ => FreeL_nth ?_ _); simp [Free, FreeL]; done) | refine WkV.agg ?_ | refine WkV.tup ?_ | refine WkV.fn ?_ ?_ | exact WkO.dead | exact WkO.raw | refine WkO.ghost ?_ | exact WkO.mpE rfl trivial | refine WkO.box ?_ rfl | refine WkO.arr ?_ | refine And.intro ?_ (And.intro (by first | exact fun h => h | exact fun _ => rfl | exact nofun) ?_) | exact trivial | (intro i j hi hj)))
      · rw [if_neg he] at hdr
        have he' : ((doR ⟨A, L⟩ (gR l i)).2 != 0) = true := by simpa using he
        (have ct1 := TurnsAt.mk [1, 3, 4] (hd); have sx1 := hk; have sx2 := he'; ((refine goR2 _ _ _ _ _ _ _ _ ?_ ?_ ?_ ?_ ?_ ?_ ?_ ?_) <;> (repeat intro hb) <;> first | exact True.intro | refine Lf.mk ?_))
        exact .inl ⟨by rw [h4, hdr], by rw [h4, hdr]⟩
  · have hf : foldR l = (⟨[], []⟩, 1) := if_neg hok
    by_cases h5 : l.length ≤ 500
    · have hn : allOk l = false := by
        cases hq : allOk l with
        | false => rfl
        | true => exact absurd ⟨h5, hq⟩ hok
      rw [hn] at hcon
      (have cl1 := hcon; ((refine goR0 _ _ _ _ _ _ _ _ ?_ ?_ ?_ ?_ ?_ ?_ ?_ ?_) <;> (repeat intro hb) <;> first | exact True.intro | refine Lf.mk ?_))
      all_goals exact .inl ⟨by rw [hf], by rw [hf]⟩
    · (have cl1 := hcon; ((refine goR0 _ _ _ _ _ _ _ _ ?_ ?_ ?_ ?_ ?_ ?_ ?_ ?_) <;> (repeat intro hb) <;> first | exact True.intro | refine Lf.mk ?_))
      all_goals exact .inl ⟨by rw [hf], by rw [hf]⟩
end Go.Proofs.YtnomenmakhielaaDoor
