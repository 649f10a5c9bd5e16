/-
  Contracts of the references' Learn and Merge.
-/
import Derived.Test.YtnomenmakhielaaDoorQGo
import Derived.Test.YtnomenmakhielaaDoorQK3
set_option linter.unusedSimpArgs false
set_option linter.unusedVariables false
namespace Go.Proofs.YtnomenmakhielaaDoor
open Go.Ab

def el (l : List Tk) (k : Int) : Tk := gt l (low l k)
open Classical in
noncomputable def rlL (l : List Tk) (t : Tk) : Nat → List Tk
  | 0 => []
  | k + 1 => (if knows l ((k : Int) + 1) then rlL l t k ++ [el l ((k : Int) + 1)] else rlL l t k) ++ (if t.s = (k : Int) + 1 then [t] else [])
theorem rlL_len (l : List Tk) (t : Tk) : ∀ k, (rlL l t k).length ≤ 2 * k
  | 0 => by simp [rlL]
  | k + 1 => by
    have := rlL_len l t k
    simp only [rlL, List.length_append]
    split <;> split <;> simp <;> omega
open Classical in
noncomputable def rmL (a b : List Tk) : Nat → List Tk
  | 0 => []
  | k + 1 => if knows a ((k : Int) + 1) then rmL a b k ++ [el a ((k : Int) + 1)] else if knows b ((k : Int) + 1) then rmL a b k ++ [el b ((k : Int) + 1)] else rmL a b k
theorem rmL_len (a b : List Tk) : ∀ k, (rmL a b k).length ≤ k
  | 0 => by simp [rmL]
  | k + 1 => by
    have := rmL_len a b k
    simp only [rmL]
    split
    · simp; omega
    · split
      · simp; omega
      · omega
def conf (a b : List Tk) (k : Int) : Prop := knows a k ∧ knows b k ∧ el a k ≠ el b k

theorem tk_snoc2 (l : List Tk) (x y : Tk) {i j : Nat} (h : i < l.length + 1 + 1) : catE (l.length + 1) (catE l.length (tkE l) (fun i j => nth (tkL x) (i * 4 + j))) (fun i j => nth (tkL y) (i * 4 + j)) i j = tkE (l ++ [x] ++ [y]) i j := by
  rw [← tk_snoc (l ++ [x]) y (by simpa using h)]
  unfold catE
  simp only [List.length_append, List.length_cons, List.length_nil, Nat.zero_add]
  split
  · rename_i h1
    rw [← tk_snoc l x h1]
    rfl
  · rfl

noncomputable def rlearnR (l : List Tk) (t : Tk) : List Tk × Int :=
  open Classical in if OkT t ∧ Val l then (if knows l t.s then (if gt l (low l t.s) = t then ([], 5) else ([], 23)) else (rlL l t 15, 0)) else ([], 1)
noncomputable def rmergeR (a b : List Tk) : List Tk × Int :=
  open Classical in if Val a ∧ Val b then (if ∃ k : Int, 1 ≤ k ∧ k ≤ 15 ∧ conf a b k then ([], 23) else (rmL a b 15, 0)) else ([], 1)

open Classical in
set_option maxRecDepth 100000 in
set_option maxHeartbeats 400000 in
theorem rlearn_raw (l : List Tk) (t : Tk) (hl : l.length ≤ 9223372036854775807) : TC Tryd.prog 66 [tks l, tkA t] [] (fun v σ' =>
    (v = .tup [.imm (.slice none 0 0), .imm (.int .i64 (rlearnR l t).2)] ∧ (rlearnR l t).1.length = 0) ∨ ∃ k E', v = .tup [.own k 0 (rlearnR l t).1.length none, .imm (.int .i64 (rlearnR l t).2)] ∧ nthO σ' k = .arr 33 4 (rlearnR l t).1.length E' ∧ ∀ i j, i < (rlearnR l t).1.length → E' i j = tkE (rlearnR l t).1 i j) := by
  (refine TC_of_T Γ_ok Tryd.func66 rfl (by kernel_rfl) ?_; simp only [Tryd.ntmps66, Tryd.results66, List.length_cons, List.length_nil, Nat.reduceSub, Nat.reduceAdd, List.replicate, List.cons_append, List.nil_append])
  have hq := rix_lt l t.s
  (have cl1 := rvalid_tc l hl; have cl2 := fun u1 u2 u3 u4 => rtake_tc u1 u2 u3 u4; have cl3 := fun u1 => rix_tc l u1 hl; repeat' (first | with_reducible refine T_seq_drawT (id := 4) Γ_ok drawsAny pl66_4 (by kernel_rfl) (fun K hK => ?_) | with_reducible refine T_last_drawT (id := 4) Γ_ok drawsAny pl66_4 (by kernel_rfl) (fun K hK => ?_) | ((refine goR0 _ _ _ _ _ _ _ _ ?_ ?_ ?_ ?_ ?_ ?_ ?_ ?_) <;> (repeat intro hb) <;> first | exact True.intro | refine Lf.mk ?_)))
  · left
    have e : rlearnR l t = ([], 1) := by
      unfold rlearnR; rw [if_neg]; rintro ⟨h1, h2⟩
      rcases hb with h | h
      · exact h h2
      · unfold OkT at h1; rw [h] at h1; cases h1
    simp [e]
  all_goals have hv : Val l := And.left ‹Val l ∧ takeB t.s t.c t.n t.d = true›
  all_goals have hok : OkT t := And.right ‹Val l ∧ takeB t.s t.c t.n t.d = true›
  · left
    have hk := knows_of_rix hv.ris hb.1
    have e0 := rix_knows hv.ris hk
    have e : rlearnR l t = ([], 5) := by unfold rlearnR; rw [if_pos ⟨hok, hv⟩, if_pos hk, if_pos]; rw [e0] at hb; exact Tk.ext_iff'.2 (by simpa using hb.2)
    simp [e]
  · left
    have hk := knows_of_rix hv.ris hb
    have e0 := rix_knows hv.ris hk
    have e : rlearnR l t = ([], 23) := by
      unfold rlearnR; rw [if_pos ⟨hok, hv⟩, if_pos hk, if_neg]; intro h
      have h2 : 0 ≤ rix l t.s → (gt l (rix l t.s).toNat).s = t.s → (gt l (rix l t.s).toNat).c = t.c → (gt l (rix l t.s).toNat).n = t.n → ¬(gt l (rix l t.s).toNat).d = t.d := by assumption
      rw [Tk.ext_iff'] at h
      rw [e0, Int.toNat_natCast] at h2
      exact h2 (by omega) h.1 h.2.1 h.2.2.1 h.2.2.2
    simp [e]
  have hk : ¬ knows l t.s := fun hk => by rw [rix_knows hv.ris hk] at hb; omega
  have hlen := hv.len
  refine T_loopW (fun m st => ∃ (k : Nat) (c : List Tk), k ≤ 15 ∧ m + k = 15 ∧ c = rlL l t k ∧ c.length ≤ 2 * k ∧
      st = ⟨[tks l, .top, .top, .optr 0 0 0, .imm (.slice none 0 0), .imm (.int .i64 0), .top, .own 1 0 c.length none, .imm (.int .i64 ((k : Int) + 1))] ++ List.replicate 50 .top, [.box 33 (tkL t), tkO c]⟩)
    15 ⟨_, Wk.trans (Wk.push 33 4 (tkE [])) ?_, 0, [], Nat.zero_le _, rfl, rfl, Nat.le_refl _, rfl⟩ ?_
  · ((try simp only [List.length_append, List.length_cons, List.length_nil, Nat.zero_add]); refine Wk.intro [0, 1] (by decide) (by decide) (by intro o ho; simp at ho ⊢ <;> omega) ?_ ?_ <;> repeat' (first | exact WkVL.nil | refine WkVL.cons ?_ ?_ | exact WkV.top | exact WkV.imm rfl | exact WkV.imm (by simp) | exact WkV.optr rfl | exact WkV.own rfl (by simp) | exact WkV.nil_own (.inl rfl) | exact WkV.map rfl | (refine WkV.free ?_; simp [Free, FreeL] <;> assumption) | (refine WkV.free (fun _ _ => FreeL_nth ?_ _); simp [Free, FreeL]; done) | refine WkV.agg ?_ | refine WkV.tup ?_ | refine WkV.fn ?_ ?_ | exact WkO.dead | exact WkO.raw | refine WkO.ghost ?_ | exact WkO.mpE rfl trivial | refine WkO.box ?_ rfl | refine WkO.arr ?_ | refine And.intro ?_ (And.intro (by first | exact fun h => h | exact fun _ => rfl | exact nofun) ?_) | exact trivial | (intro i j hi hj)))
  rintro m st ⟨k, c, h1, h2, h3, h4, rfl⟩
  have hs : rlL l t (k + 1) = (if knows l ((k : Int) + 1) then rlL l t k ++ [el l ((k : Int) + 1)] else rlL l t k) ++ (if t.s = (k : Int) + 1 then [t] else []) := rfl
  have hq2 := rix_lt l ((k : Int) + 1)
  (simp only [go_sem, ↓reduceIte, Nat.reduceAdd, Nat.reduceSub, Nat.reduceMul, Nat.reduceLT, Nat.reduceLeDiff, Nat.reduceEqDiff, Nat.reduceGT, Int.reduceToNat, Int.reduceBEq, Int.reduceBNe]; try simp (disch := omega) only [wrapI, wrapU, half_sum, toNat_sub1, toNat_add1, Int.toNat_natCast])
  (have cl1 := fun u1 => rix_tc l u1 hl; repeat' (first | with_reducible refine T_seq_drawT (id := 4) Γ_ok drawsAny pl66_4 (by kernel_rfl) (fun K hK => ?_) | with_reducible refine T_last_drawT (id := 4) Γ_ok drawsAny pl66_4 (by kernel_rfl) (fun K hK => ?_) | ((refine goR0 _ _ _ _ _ _ _ _ ?_ ?_ ?_ ?_ ?_ ?_ ?_ ?_) <;> (repeat intro hb) <;> first | exact True.intro | refine Lf.mk ?_)))
  · have hkn := knows_of_rix hv.ris ‹0 ≤ rix l (↑k + 1)›
    have e := rix_knows hv.ris hkn
    rw [if_pos hkn, if_pos hb.symm, ← h3] at hs
    simp only [e, Int.toNat_natCast]
    refine ⟨15 - (k + 1), by omega, _, ?_, k + 1, _, by omega, by omega, hs.symm, by simp; omega, rfl⟩
    ((try simp only [List.length_append, List.length_cons, List.length_nil, Nat.zero_add]); refine Wk.intro [0, 5] (by decide) (by decide) (by intro o ho; simp at ho ⊢ <;> omega) ?_ ?_ <;> repeat' (first | (exact WkV.eqF (tk_snoc2 c (el l ((k : Int) + 1)) t hi) (tkE_free _ _ _)) | exact WkVL.nil | refine WkVL.cons ?_ ?_ | exact WkV.top | exact WkV.imm rfl | exact WkV.imm (by simp) | exact WkV.optr rfl | exact WkV.own rfl (by simp) | exact WkV.nil_own (.inl rfl) | exact WkV.map rfl | (refine WkV.free ?_; simp [Free, FreeL] <;> assumption) | (refine WkV.free (fun _ _ => FreeL_nth ?_ _); simp [Free, FreeL]; done) | refine WkV.agg ?_ | refine WkV.tup ?_ | refine WkV.fn ?_ ?_ | exact WkO.dead | exact WkO.raw | refine WkO.ghost ?_ | exact WkO.mpE rfl trivial | refine WkO.box ?_ rfl | refine WkO.arr ?_ | refine And.intro ?_ (And.intro (by first | exact fun h => h | exact fun _ => rfl | exact nofun) ?_) | exact trivial | (intro i j hi hj)))
  · have hkn := knows_of_rix hv.ris ‹0 ≤ rix l (↑k + 1)›
    have e := rix_knows hv.ris hkn
    rw [if_pos hkn, if_neg (fun h => hb h.symm), List.append_nil, ← h3] at hs
    simp only [e, Int.toNat_natCast]
    refine ⟨15 - (k + 1), by omega, _, ?_, k + 1, _, by omega, by omega, hs.symm, by simp; omega, rfl⟩
    ((try simp only [List.length_append, List.length_cons, List.length_nil, Nat.zero_add]); refine Wk.intro [0, 3] (by decide) (by decide) (by intro o ho; simp at ho ⊢ <;> omega) ?_ ?_ <;> repeat' (first | (exact WkV.eqF (tk_snoc c (el l ((k : Int) + 1)) hi) (tkE_free _ _ _)) | exact WkVL.nil | refine WkVL.cons ?_ ?_ | exact WkV.top | exact WkV.imm rfl | exact WkV.imm (by simp) | exact WkV.optr rfl | exact WkV.own rfl (by simp) | exact WkV.nil_own (.inl rfl) | exact WkV.map rfl | (refine WkV.free ?_; simp [Free, FreeL] <;> assumption) | (refine WkV.free (fun _ _ => FreeL_nth ?_ _); simp [Free, FreeL]; done) | refine WkV.agg ?_ | refine WkV.tup ?_ | refine WkV.fn ?_ ?_ | exact WkO.dead | exact WkO.raw | refine WkO.ghost ?_ | exact WkO.mpE rfl trivial | refine WkO.box ?_ rfl | refine WkO.arr ?_ | refine And.intro ?_ (And.intro (by first | exact fun h => h | exact fun _ => rfl | exact nofun) ?_) | exact trivial | (intro i j hi hj)))
  · have hkn : ¬ knows l ((k : Int) + 1) := fun h => by have := rix_knows hv.ris h; omega
    rw [if_neg hkn, if_pos hb.symm, ← h3] at hs
    refine ⟨15 - (k + 1), by omega, _, ?_, k + 1, _, by omega, by omega, hs.symm, by simp; omega, rfl⟩
    ((try simp only [List.length_append, List.length_cons, List.length_nil, Nat.zero_add]); refine Wk.intro [0, 3] (by decide) (by decide) (by intro o ho; simp at ho ⊢ <;> omega) ?_ ?_ <;> repeat' (first | (exact WkV.eqF (tk_snoc c t hi) (tkE_free _ _ _)) | exact WkVL.nil | refine WkVL.cons ?_ ?_ | exact WkV.top | exact WkV.imm rfl | exact WkV.imm (by simp) | exact WkV.optr rfl | exact WkV.own rfl (by simp) | exact WkV.nil_own (.inl rfl) | exact WkV.map rfl | (refine WkV.free ?_; simp [Free, FreeL] <;> assumption) | (refine WkV.free (fun _ _ => FreeL_nth ?_ _); simp [Free, FreeL]; done) | refine WkV.agg ?_ | refine WkV.tup ?_ | refine WkV.fn ?_ ?_ | exact WkO.dead | exact WkO.raw | refine WkO.ghost ?_ | exact WkO.mpE rfl trivial | refine WkO.box ?_ rfl | refine WkO.arr ?_ | refine And.intro ?_ (And.intro (by first | exact fun h => h | exact fun _ => rfl | exact nofun) ?_) | exact trivial | (intro i j hi hj)))
  · have hkn : ¬ knows l ((k : Int) + 1) := fun h => by have := rix_knows hv.ris h; omega
    rw [if_neg hkn, if_neg (fun h => hb h.symm), List.append_nil, ← h3] at hs
    refine ⟨15 - (k + 1), by omega, _, ?_, k + 1, _, by omega, by omega, hs.symm, by omega, rfl⟩
    ((try simp only [List.length_append, List.length_cons, List.length_nil, Nat.zero_add]); refine Wk.intro [0, 1] (by decide) (by decide) (by intro o ho; simp at ho ⊢ <;> omega) ?_ ?_ <;> repeat' (first | exact WkVL.nil | refine WkVL.cons ?_ ?_ | exact WkV.top | exact WkV.imm rfl | exact WkV.imm (by simp) | exact WkV.optr rfl | exact WkV.own rfl (by simp) | exact WkV.nil_own (.inl rfl) | exact WkV.map rfl | (refine WkV.free ?_; simp [Free, FreeL] <;> assumption) | (refine WkV.free (fun _ _ => FreeL_nth ?_ _); simp [Free, FreeL]; done) | refine WkV.agg ?_ | refine WkV.tup ?_ | refine WkV.fn ?_ ?_ | exact WkO.dead | exact WkO.raw | refine WkO.ghost ?_ | exact WkO.mpE rfl trivial | refine WkO.box ?_ rfl | refine WkO.arr ?_ | refine And.intro ?_ (And.intro (by first | exact fun h => h | exact fun _ => rfl | exact nofun) ?_) | exact trivial | (intro i j hi hj)))
  · right
    obtain rfl : k = 15 := by omega
    have e : rlearnR l t = (c, 0) := by unfold rlearnR; rw [if_pos ⟨hok, hv⟩, if_neg hk, h3]
    rw [e]
    exact ⟨1, _, rfl, rfl, fun _ _ _ => rfl⟩

theorem rlearn_tc (l : List Tk) (t : Tk) (hl : l.length ≤ 9223372036854775807) : Makes Tryd.prog 66 [tks l, tkA t] (.tup [ownT (rlearnR l t).1, .imm (.int .i64 (rlearnR l t).2)]) [tkO (rlearnR l t).1] :=
  Makes.lst (fun i j => tkE_pl _ i j) trivial (rlearn_raw l t hl)

theorem conf_step {a b : List Tk} {k : Nat} (hva : Val a) (hvb : Val b) (h5 : ∀ q : Int, 1 ≤ q → q ≤ k → ¬ conf a b q)
    (hn : 0 ≤ rix a (↑k + 1) ∧ 0 ≤ rix b (↑k + 1) → (gt a (rix a (↑k + 1)).toNat).s = (gt b (rix b (↑k + 1)).toNat).s ∧ (gt a (rix a (↑k + 1)).toNat).c = (gt b (rix b (↑k + 1)).toNat).c ∧
        (gt a (rix a (↑k + 1)).toNat).n = (gt b (rix b (↑k + 1)).toNat).n ∧ (gt a (rix a (↑k + 1)).toNat).d = (gt b (rix b (↑k + 1)).toNat).d) : ∀ q : Int, 1 ≤ q → q ≤ ((k + 1 : Nat) : Int) → ¬ conf a b q := by
  intro q hq1 hq2 hcf
  rcases Int.lt_or_eq_of_le hq2 with h | h
  · exact h5 q hq1 (by omega) hcf
  · have h' : q = (k : Int) + 1 := by omega
    subst h'
    obtain ⟨c1, c2, c3⟩ := hcf
    rw [rix_knows hva.ris c1, rix_knows hvb.ris c2] at hn
    simp only [Int.toNat_natCast] at hn
    exact c3 (Tk.ext_iff'.2 (hn ⟨by omega, by omega⟩))

end Go.Proofs.YtnomenmakhielaaDoor
