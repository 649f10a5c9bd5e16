/-
  board.Find.
-/
import Derived.Test.YtddcnafocohghaaDoorQGo
import Derived.Test.YtddcnafocohghaaDoorQB4
import Derived.Test.YtddcnafocohghaaDoorQA5
set_option linter.unusedSimpArgs false
set_option linter.unusedVariables false
namespace Go.Proofs.YtddcnafocohghaaDoor
open Go.Ab
def gi (l : List Int) (i : Nat) : Int := l.getD i 0
def inE (l : List Int) (i : Nat) (_ : Nat) : AV := .imm (.int .i64 (gi l i))
@[simp] theorem inE_free (l : List Int) (i j : Nat) : Free (inE l i j) := trivial
@[simp] theorem inE_pl (l : List Int) (i j : Nat) : Pl (inE l i j) := trivial
@[go_sem] theorem inE_us (l : List Int) (i j : Nat) : inE l i j = .imm (.int .i64 (gi l i)) := rfl
@[go_sem, reducible] def ints (l : List Int) : AV := .view l.length 1 (inE l)
@[go_sem, reducible] def intO (l : List Int) : AObj := .arr 3 1 l.length (inE l)
theorem in_snoc (l : List Int) (x : Int) {i j : Nat} (h : i < l.length + 1) (hj : j < 1) : catE l.length (inE l) (fun i j => nth [AV.imm (.int .i64 x)] (i * 1 + j)) i j = inE (l ++ [x]) i j := by
  obtain rfl : j = 0 := by omega
  unfold catE inE gi
  split
  · rename_i h1; simp [List.getElem?_append_left h1]
  · obtain rfl : i = l.length := by omega
    simp [nth]
theorem findL_drop (p : Ky → Bool) {l : List Ky} {i : Nat} (h : i < l.length) : ((l.drop i).filter p).map (·.id) = (if p (gk l i) = true then [(gk l i).id] else []) ++ ((l.drop (i + 1)).filter p).map (·.id) := by
  rw [drop_gk h, List.filter_cons]
  split <;> simp
set_option maxRecDepth 100000 in
set_option maxHeartbeats 4000000 in
theorem find_raw (b : Bd) (v : P6) (hl : b.ks.length ≤ 9223372036854775807) : TC Tryd.prog 14 [bdA b, p6A v] [] (fun u σ' => 
    (u = .tup [.imm (.slice none 0 0), .imm (.int .i64 (findR b v).2)] ∧ (findR b v).1.length = 0) ∨
    ∃ k E', u = .tup [.own k 0 (findR b v).1.length none, .imm (.int .i64 (findR b v).2)] ∧ nthO σ' k = .arr 3 1 (findR b v).1.length E' ∧ ∀ i j, i < (findR b v).1.length → j < 1 → E' i j = inE (findR b v).1 i j) := by
  have c1 := of_tc v
  have c2 := valid_tc b hl
  unfold ofR at c1
  unfold findR
  by_cases hv : vOk v = true
  · rw [if_pos hv] at c1
    by_cases hb : bdB b = true
    · rw [if_pos ⟨hb, hv⟩]
      rw [hb] at c2
      have hg := bdB_iff.1 hb
      have hl2 := hg.len
      simp only [] at c1
      unfold findL
      (refine TC_of_T Γ_ok Tryd.func14 rfl (by kernel_rfl) ?_; simp only [Tryd.ntmps14, Tryd.results14, List.length_cons, List.length_nil, Nat.reduceSub, Nat.reduceAdd, List.replicate, List.cons_append, List.nil_append])
      (have cl1 := c1; have dl1 := c2; ((refine goR0 _ _ _ _ _ _ _ _ ?_ ?_ ?_ ?_ ?_ ?_ ?_ ?_) <;> (repeat intro hb) <;> first | exact True.intro | refine Lf.mk ?_))
      refine T_loopW (fun m st => ∃ (i : Nat) (o : List Int), i ≤ b.ks.length ∧ m + i = b.ks.length ∧ o.length ≤ i ∧ (b.ks.filter fun k => near1 v.x12 k.p b.tol).map (·.id) = o ++ ((b.ks.drop i).filter fun k => near1 v.x12 k.p b.tol).map (·.id) ∧
          st = ⟨[.top, .top, .optr 0 0 0, .top, .imm (.slice none 0 0), .imm (.int .i64 0), .optr 1 0 0, .top, .own 2 0 o.length none] ++ List.replicate 17 .top ++ [kys b.ks, .imm (.int .i64 b.ks.length), .imm (.int .i64 i)] ++ List.replicate 25 .top, [.box 24 (bdL b), .box 41 (p6L v.x12), intO o]⟩)
        b.ks.length ⟨_, Wk.trans (Wk.push 3 1 (inE [])) ?_, 0, [], by omega, rfl, by simp, rfl, rfl⟩ ?_
      · ((try simp only [List.length_append, List.length_cons, List.length_nil, Nat.zero_add]); refine Wk.intro [0, 2, 3] (by decide) (by decide) (by intro o ho; simp at ho ⊢ <;> omega) ?_ ?_ <;> repeat' (first | exact WkVL.nil | refine WkVL.cons ?_ ?_ | exact WkV.top | exact WkV.imm rfl | exact WkV.imm (by simp) | exact WkV.optr rfl | exact WkV.own rfl (by simp) | exact WkV.nil_own (.inl rfl) | exact WkV.map rfl | (refine WkV.free ?_; simp [Free, FreeL] <;> assumption) | (refine WkV.free (fun _ _ => FreeL_nth ?_ _); simp [Free, FreeL]; done) | refine WkV.agg ?_ | refine WkV.tup ?_ | refine WkV.fn ?_ ?_ | exact WkO.dead | exact WkO.raw | refine WkO.ghost ?_ | exact WkO.mpE rfl trivial | refine WkO.box ?_ rfl | refine WkO.arr ?_ | refine And.intro ?_ (And.intro (by first | exact fun h => h | exact fun _ => rfl | exact nofun) ?_) | exact trivial | (intro i j hi hj)))
      rintro m st ⟨i, o, h0, h1, h2, h3, rfl⟩
      have hn := near_tc v.x12 (gk b.ks i).p b.tol
      by_cases hi : i < b.ks.length
      · have hn2 := near_near1 (x12_ok hv) (hg.one _ (gk_mem hi)).2.2.2.2.2.2 hg.t0 hg.t1
        rw [hn2.1] at hn
        have hn3 := hn2.2
        generalize (nearI v.x12 (gk b.ks i).p b.tol).1 = x at hn hn3
        rw [findL_drop _ hi] at h3
        have hsn := fun p q => in_snoc o (gk b.ks i).id (i := p) (j := q)
        (simp only [go_sem, ↓reduceIte, Nat.reduceAdd, Nat.reduceSub, Nat.reduceMul, Nat.reduceLT, Nat.reduceLeDiff, Nat.reduceEqDiff, Nat.reduceGT, Int.reduceToNat, Int.reduceBEq, Int.reduceBNe]; try simp (disch := omega) only [wrapI, wrapU, half_sum, toNat_sub1, toNat_add1, Int.toNat_natCast])
        (have cl1 := hn; ((refine goR0 _ _ _ _ _ _ _ _ ?_ ?_ ?_ ?_ ?_ ?_ ?_ ?_) <;> (repeat intro hb) <;> first | exact True.intro | refine Lf.mk ?_))
        · rw [← hn3, decide_eq_true hb, if_pos rfl] at h3
          refine ⟨b.ks.length - (i + 1), by omega, _, ?_, i + 1, o ++ [(gk b.ks i).id], by omega, by omega, by simp; omega, by rw [h3, List.append_assoc], rfl⟩
          ((try simp only [List.length_append, List.length_cons, List.length_nil, Nat.zero_add]); refine Wk.intro [0, 1, 5] (by decide) (by decide) (by intro o ho; simp at ho ⊢ <;> omega) ?_ ?_ <;> repeat' (first | (refine WkV.imm ?_; congr 1; omega) | (exact WkV.eqF (hsn _ _ (by simpa using hi) hj) (by simp)) | exact WkVL.nil | refine WkVL.cons ?_ ?_ | exact WkV.top | exact WkV.imm rfl | exact WkV.imm (by simp) | exact WkV.optr rfl | exact WkV.own rfl (by simp) | exact WkV.nil_own (.inl rfl) | exact WkV.map rfl | (refine WkV.free ?_; simp [Free, FreeL] <;> assumption) | (refine WkV.free (fun _ _ => FreeL_nth ?_ _); simp [Free, FreeL]; done) | refine WkV.agg ?_ | refine WkV.tup ?_ | refine WkV.fn ?_ ?_ | exact WkO.dead | exact WkO.raw | refine WkO.ghost ?_ | exact WkO.mpE rfl trivial | refine WkO.box ?_ rfl | refine WkO.arr ?_ | refine And.intro ?_ (And.intro (by first | exact fun h => h | exact fun _ => rfl | exact nofun) ?_) | exact trivial | (intro i j hi hj)))
        · rw [← hn3, decide_eq_false hb, if_neg (by simp), List.nil_append] at h3
          refine ⟨b.ks.length - (i + 1), by omega, _, ?_, i + 1, o, by omega, by omega, by omega, h3, rfl⟩
          ((try simp only [List.length_append, List.length_cons, List.length_nil, Nat.zero_add]); refine Wk.intro [0, 1, 2] (by decide) (by decide) (by intro o ho; simp at ho ⊢ <;> omega) ?_ ?_ <;> repeat' (first | (refine WkV.imm ?_; congr 1; omega) | exact WkVL.nil | refine WkVL.cons ?_ ?_ | exact WkV.top | exact WkV.imm rfl | exact WkV.imm (by simp) | exact WkV.optr rfl | exact WkV.own rfl (by simp) | exact WkV.nil_own (.inl rfl) | exact WkV.map rfl | (refine WkV.free ?_; simp [Free, FreeL] <;> assumption) | (refine WkV.free (fun _ _ => FreeL_nth ?_ _); simp [Free, FreeL]; done) | refine WkV.agg ?_ | refine WkV.tup ?_ | refine WkV.fn ?_ ?_ | exact WkO.dead | exact WkO.raw | refine WkO.ghost ?_ | exact WkO.mpE rfl trivial | refine WkO.box ?_ rfl | refine WkO.arr ?_ | refine And.intro ?_ (And.intro (by first | exact fun h => h | exact fun _ => rfl | exact nofun) ?_) | exact trivial | (intro i j hi hj)))
      · rw [List.drop_of_length_le (by omega)] at h3
        simp only [List.filter_nil, List.map_nil, List.append_nil] at h3
        rw [h3]
        (simp only [go_sem, ↓reduceIte, Nat.reduceAdd, Nat.reduceSub, Nat.reduceMul, Nat.reduceLT, Nat.reduceLeDiff, Nat.reduceEqDiff, Nat.reduceGT, Int.reduceToNat, Int.reduceBEq, Int.reduceBNe]; try simp (disch := omega) only [wrapI, wrapU, half_sum, toNat_sub1, toNat_add1, Int.toNat_natCast])
        (have cl1 := hn; ((refine goR0 _ _ _ _ _ _ _ _ ?_ ?_ ?_ ?_ ?_ ?_ ?_ ?_) <;> (repeat intro hb) <;> first | exact True.intro | refine Lf.mk ?_))
        exact .inr ⟨2, _, rfl, rfl, fun _ _ _ _ => rfl⟩
    · rw [if_neg fun h => hb h.1]
      rw [Bool.not_eq_true] at hb
      rw [hb] at c2
      (refine TC_of_T Γ_ok Tryd.func14 rfl (by kernel_rfl) ?_; simp only [Tryd.ntmps14, Tryd.results14, List.length_cons, List.length_nil, Nat.reduceSub, Nat.reduceAdd, List.replicate, List.cons_append, List.nil_append])
      (have cl1 := c1; have dl1 := c2; ((refine goR0 _ _ _ _ _ _ _ _ ?_ ?_ ?_ ?_ ?_ ?_ ?_ ?_) <;> (repeat intro hb) <;> first | exact True.intro | refine Lf.mk ?_))
      exact .inl trivial
  · rw [if_neg hv] at c1
    rw [if_neg fun h => hv h.2]
    simp only [] at c1
    obtain ⟨e, he⟩ : ∃ e : Int, e = 1 := ⟨_, rfl⟩
    rw [← he] at c1
    (refine TC_of_T Γ_ok Tryd.func14 rfl (by kernel_rfl) ?_; simp only [Tryd.ntmps14, Tryd.results14, List.length_cons, List.length_nil, Nat.reduceSub, Nat.reduceAdd, List.replicate, List.cons_append, List.nil_append])
    (have cl1 := c1; have dl1 := c2; ((refine goR0 _ _ _ _ _ _ _ _ ?_ ?_ ?_ ?_ ?_ ?_ ?_ ?_) <;> (repeat intro hb) <;> first | exact True.intro | refine Lf.mk ?_))
    exact .inl trivial
theorem find_tc (b : Bd) (v : P6) (hl : b.ks.length ≤ 9223372036854775807) : Makes Tryd.prog 14 [bdA b, p6A v] (.tup [.own 0 0 (findR b v).1.length none, .imm (.int .i64 (findR b v).2)]) [intO (findR b v).1] :=
  Makes.lstJ (fun i j => inE_pl _ i j) trivial (find_raw b v hl)
end Go.Proofs.YtddcnafocohghaaDoor
