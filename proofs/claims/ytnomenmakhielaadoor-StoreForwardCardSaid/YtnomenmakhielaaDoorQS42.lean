/-
  The law StoreForward.
-/
import Derived.Test.YtnomenmakhielaaDoorQGo
import Derived.Test.YtnomenmakhielaaDoorQS40
set_option linter.unusedSimpArgs false
set_option linter.unusedVariables false
namespace Go.Proofs.YtnomenmakhielaaDoor
open Go.Ab

set_option maxRecDepth 100000 in
set_option maxHeartbeats 400000 in
theorem lhas_tc (l : List Tk) (t : Tk) (hl : l.length ≤ 9223372036854775807) : Look Tryd.prog 13 [tks l, tkA t] (.imm (.bool (open Classical in decide (t ∈ l)))) := by
  refine Look.mk trivial ?_
  (refine TC_of_T Γ_ok Tryd.func13 rfl (by kernel_rfl) ?_; simp only [Tryd.ntmps13, Tryd.results13, List.length_cons, List.length_nil, Nat.reduceSub, Nat.reduceAdd, List.replicate, List.cons_append, List.nil_append])
  (((refine goR0 _ _ _ _ _ _ _ _ ?_ ?_ ?_ ?_ ?_ ?_ ?_ ?_) <;> (repeat intro hb) <;> first | exact True.intro | refine Lf.mk ?_))
  refine T_loopW (fun m st => ∃ i : Nat, i ≤ l.length ∧ m + i = l.length ∧ (∀ j, j < i → gt l j ≠ t) ∧ st = ⟨[tks l, .top, .top, .optr 0 0 0, .imm (.bool false), .imm (.int .i64 i)] ++ List.replicate 12 .top, [.box 33 (tkL t)]⟩)
    l.length ⟨_, ?_, 0, Nat.zero_le _, rfl, fun j hj => by omega, rfl⟩ ?_
  · ((try simp only [List.length_append, List.length_cons, List.length_nil, Nat.zero_add]); refine Wk.intro [0] (by decide) (by decide) (by intro o ho; simp at ho ⊢ <;> omega) ?_ ?_ <;> repeat' (first | exact WkVL.nil | refine WkVL.cons ?_ ?_ | exact WkV.top | exact WkV.imm rfl | exact WkV.imm (by simp) | exact WkV.optr rfl | exact WkV.own rfl (by simp) | exact WkV.nil_own (.inl rfl) | exact WkV.map rfl | (refine WkV.free ?_; simp [Free, FreeL] <;> assumption) | (refine WkV.free (fun _ _ => FreeL_nth ?_ _); simp [Free, FreeL]; done) | refine WkV.agg ?_ | refine WkV.tup ?_ | refine WkV.fn ?_ ?_ | exact WkO.dead | exact WkO.raw | refine WkO.ghost ?_ | exact WkO.mpE rfl trivial | refine WkO.box ?_ rfl | refine WkO.arr ?_ | refine And.intro ?_ (And.intro (by first | exact fun h => h | exact fun _ => rfl | exact nofun) ?_) | exact trivial | (intro i j hi hj)))
  rintro m st ⟨i, h1, h2, h3, rfl⟩
  (simp only [go_sem, ↓reduceIte, Nat.reduceAdd, Nat.reduceSub, Nat.reduceMul, Nat.reduceLT, Nat.reduceLeDiff, Nat.reduceEqDiff, Nat.reduceGT, Int.reduceToNat, Int.reduceBEq, Int.reduceBNe]; try simp (disch := omega) only [wrapI, wrapU, half_sum, toNat_sub1, toNat_add1, Int.toNat_natCast])
  (repeat' (first | with_reducible refine T_seq_drawT (id := 4) Γ_ok drawsAny pl13_4 (by kernel_rfl) (fun K hK => ?_) | with_reducible refine T_last_drawT (id := 4) Γ_ok drawsAny pl13_4 (by kernel_rfl) (fun K hK => ?_) | ((refine goR0 _ _ _ _ _ _ _ _ ?_ ?_ ?_ ?_ ?_ ?_ ?_ ?_) <;> (repeat intro hb) <;> first | exact True.intro | refine Lf.mk ?_)))
  · exact immD ⟨fun _ => by rw [← Tk.ext_iff'.2 hb]; exact gt_mem (by omega), fun _ => rfl⟩
  · refine ⟨l.length - (i + 1), by omega, _, ?_, i + 1, by omega, by omega, fun j hj => ?_, rfl⟩
    · ((try simp only [List.length_append, List.length_cons, List.length_nil, Nat.zero_add]); refine Wk.intro [0] (by decide) (by decide) (by intro o ho; simp at ho ⊢ <;> omega) ?_ ?_ <;> repeat' (first | exact WkVL.nil | refine WkVL.cons ?_ ?_ | exact WkV.top | exact WkV.imm rfl | exact WkV.imm (by simp) | exact WkV.optr rfl | exact WkV.own rfl (by simp) | exact WkV.nil_own (.inl rfl) | exact WkV.map rfl | (refine WkV.free ?_; simp [Free, FreeL] <;> assumption) | (refine WkV.free (fun _ _ => FreeL_nth ?_ _); simp [Free, FreeL]; done) | refine WkV.agg ?_ | refine WkV.tup ?_ | refine WkV.fn ?_ ?_ | exact WkO.dead | exact WkO.raw | refine WkO.ghost ?_ | exact WkO.mpE rfl trivial | refine WkO.box ?_ rfl | refine WkO.arr ?_ | refine And.intro ?_ (And.intro (by first | exact fun h => h | exact fun _ => rfl | exact nofun) ?_) | exact trivial | (intro i j hi hj)))
    · by_cases hji : j = i
      · rw [hji]; intro h; rw [Tk.ext_iff'] at h; exact hb h.1 h.2.1 h.2.2.1 h.2.2.2
      · exact h3 j (by omega)
  · refine immD ⟨fun h => Bool.noConfusion h, fun h => ?_⟩
    obtain ⟨j, hj, he⟩ := List.mem_iff_getElem.1 h
    exact absurd (by simp [gt, hj, he]) (h3 j (by omega))

theorem foldR_err {l : List Rcd} (h : (foldR l).2 ≠ 0) : (foldR l).1 = ⟨[], []⟩ := by
  unfold foldR at h ⊢
  split
  · rename_i hc
    rw [if_pos hc] at h
    have : ∀ (l : List Rcd) (m : Mem), (runM l m).2 ≠ 0 → (runM l m).1 = ⟨[], []⟩ := by
      intro l
      induction l with
      | nil => intro m h; exact absurd rfl h
      | cons r l ih =>
        intro m h
        unfold runM at h ⊢
        split
        · rename_i h2; rw [if_pos h2] at h; exact ih _ h
        · rfl
    exact this _ _ h
  · rfl

set_option maxRecDepth 100000 in
set_option maxHeartbeats 4000000 in
theorem law_forward (l : List Rcd) (a : Nat) (hl : l.length ≤ 9223372036854775807) (ha : a < 65536) : Look Tryd.prog 3 [rcs l, .imm (.int .u16 (a : Int))] (.imm (.bool true)) := by
  refine Look.mk trivial ?_
  have hf := fold_tc l hl
  by_cases he : (foldR l).2 = 0
  · have hc := foldR_cond he
    have hk := Nat.mod_lt a (show 0 < l.length + 1 by omega)
    have htm : Int.tmod (a : Int) ((l.length : Int) + 1) = ((a % (l.length + 1) : Nat) : Int) := by
      rw [show (l.length : Int) + 1 = ((l.length + 1 : Nat) : Int) by omega]; exact (Int.ofNat_tmod _ _).symm
    generalize a % (l.length + 1) = k at *
    obtain ⟨hk0, hle⟩ := foldR_forward he k
    have hf2 := fold_tc (l.take k) (by simp; omega)
    have lk : (l.take k).length = k := by simp; omega
    simp only [rcs, lk] at hf2
    have hv1 : ∀ i j, i < k → j < 7 → rcE l i j = rcE (l.take k) i j := fun i j hi _ => by simp [rcE, gR, hi]
    have hlm := foldR_lens l
    generalize foldR l = q1 at *
    generalize foldR (l.take k) = q2 at *
    obtain ⟨m, e⟩ := q1
    obtain ⟨n, e2⟩ := q2
    simp only [] at he hk0 hle hlm hf hf2
    subst he hk0
    obtain ⟨hacc, hlog, hla, hll⟩ := hle
    (refine TC_of_T Γ_ok Tryd.func3 rfl (by kernel_rfl) ?_; simp only [Tryd.ntmps3, Tryd.results3, List.length_cons, List.length_nil, Nat.reduceSub, Nat.reduceAdd, List.replicate, List.cons_append, List.nil_append])
    (have cl1 := head_tc; have dm1 := hf; have dm2 := hf2; have sx1 := htm; repeat' (first | with_reducible refine T_seq_drawT (id := 11) Γ_ok drawsAny pl3_11 (by kernel_rfl) (fun K hK => ?_) | with_reducible refine T_last_drawT (id := 11) Γ_ok drawsAny pl3_11 (by kernel_rfl) (fun K hK => ?_) | with_reducible refine T_seq_drawT (id := 15) Γ_ok drawsAny pl3_15 (by kernel_rfl) (fun K hK => ?_) | with_reducible refine T_last_drawT (id := 15) Γ_ok drawsAny pl3_15 (by kernel_rfl) (fun K hK => ?_) | ((refine goR1 _ _ _ _ _ _ _ _ ?_ ?_ ?_ ?_ ?_ ?_ ?_ ?_) <;> (repeat intro hb) <;> first | exact True.intro | refine Lf.mk ?_)))
    have hlA := hlm.1
    have hlL := hlm.2
    refine T_loopW (fun q st => ∃ i : Nat, i ≤ n.A.length ∧ q + i = n.A.length ∧ st = ⟨[rcs l, .top, .top, .top, .imm (.bool false), .imm (.bool true), .optr 2 0 0, .top, .optr 5 0 0, .top, .imm (.int .i64 i)] ++ List.replicate 111 .top,
        [acO m.A, tkO m.L, .box 28 [.own 0 0 m.A.length none, .own 1 0 m.L.length none], acO n.A, tkO n.L, .box 28 [.own 3 0 n.A.length none, .own 4 0 n.L.length none]]⟩)
      n.A.length ⟨_, ?_, 0, Nat.zero_le _, rfl, rfl⟩ ?_
    · ((try simp only [List.length_append, List.length_cons, List.length_nil, Nat.zero_add]); refine Wk.intro [0, 1, 2, 3, 4, 5] (by decide) (by decide) (by intro o ho; simp at ho ⊢ <;> omega) ?_ ?_ <;> repeat' (first | exact WkVL.nil | refine WkVL.cons ?_ ?_ | exact WkV.top | exact WkV.imm rfl | exact WkV.imm (by simp) | exact WkV.optr rfl | exact WkV.own rfl (by simp) | exact WkV.nil_own (.inl rfl) | exact WkV.map rfl | (refine WkV.free ?_; simp [Free, FreeL] <;> assumption) | (refine WkV.free (fun _ _ => FreeL_nth ?_ _); simp [Free, FreeL]; done) | refine WkV.agg ?_ | refine WkV.tup ?_ | refine WkV.fn ?_ ?_ | exact WkO.dead | exact WkO.raw | refine WkO.ghost ?_ | exact WkO.mpE rfl trivial | refine WkO.box ?_ rfl | refine WkO.arr ?_ | refine And.intro ?_ (And.intro (by first | exact fun h => h | exact fun _ => rfl | exact nofun) ?_) | exact trivial | (intro i j hi hj)))
    rintro q st ⟨i, h1, h2, rfl⟩
    (simp only [go_sem, ↓reduceIte, Nat.reduceAdd, Nat.reduceSub, Nat.reduceMul, Nat.reduceLT, Nat.reduceLeDiff, Nat.reduceEqDiff, Nat.reduceGT, Int.reduceToNat, Int.reduceBEq, Int.reduceBNe]; try simp (disch := omega) only [wrapI, wrapU, half_sum, toNat_sub1, toNat_add1, Int.toNat_natCast])
    by_cases hlt : i < n.A.length
    · have f1 : decide ((gA' n.A i).p ≤ (gA' m.A i).p) = true := decide_eq_true (hacc i).1
      have f2 : decide ((gA' n.A i).v ≤ (gA' m.A i).v) = true := decide_eq_true (hacc i).2
      (have sx1 := f1; have sx2 := f2; repeat' (first | with_reducible refine T_seq_drawT (id := 11) Γ_ok drawsAny pl3_11 (by kernel_rfl) (fun K hK => ?_) | with_reducible refine T_last_drawT (id := 11) Γ_ok drawsAny pl3_11 (by kernel_rfl) (fun K hK => ?_) | with_reducible refine T_seq_drawT (id := 15) Γ_ok drawsAny pl3_15 (by kernel_rfl) (fun K hK => ?_) | with_reducible refine T_last_drawT (id := 15) Γ_ok drawsAny pl3_15 (by kernel_rfl) (fun K hK => ?_) | ((refine goR2 _ _ _ _ _ _ _ _ ?_ ?_ ?_ ?_ ?_ ?_ ?_ ?_) <;> (repeat intro hb) <;> first | exact True.intro | refine Lf.mk ?_)))
      refine ⟨n.A.length - (i + 1), by omega, _, ?_, i + 1, by omega, by omega, rfl⟩
      ((try simp only [List.length_append, List.length_cons, List.length_nil, Nat.zero_add]); refine Wk.intro [0, 1, 2, 3, 4, 5] (by decide) (by decide) (by intro o ho; simp at ho ⊢ <;> omega) ?_ ?_ <;> repeat' (first | exact WkVL.nil | refine WkVL.cons ?_ ?_ | exact WkV.top | exact WkV.imm rfl | exact WkV.imm (by simp) | exact WkV.optr rfl | exact WkV.own rfl (by simp) | exact WkV.nil_own (.inl rfl) | exact WkV.map rfl | (refine WkV.free ?_; simp [Free, FreeL] <;> assumption) | (refine WkV.free (fun _ _ => FreeL_nth ?_ _); simp [Free, FreeL]; done) | refine WkV.agg ?_ | refine WkV.tup ?_ | refine WkV.fn ?_ ?_ | exact WkO.dead | exact WkO.raw | refine WkO.ghost ?_ | exact WkO.mpE rfl trivial | refine WkO.box ?_ rfl | refine WkO.arr ?_ | refine And.intro ?_ (And.intro (by first | exact fun h => h | exact fun _ => rfl | exact nofun) ?_) | exact trivial | (intro i j hi hj)))
    · (repeat' (first | with_reducible refine T_seq_drawT (id := 11) Γ_ok drawsAny pl3_11 (by kernel_rfl) (fun K hK => ?_) | with_reducible refine T_last_drawT (id := 11) Γ_ok drawsAny pl3_11 (by kernel_rfl) (fun K hK => ?_) | with_reducible refine T_seq_drawT (id := 15) Γ_ok drawsAny pl3_15 (by kernel_rfl) (fun K hK => ?_) | with_reducible refine T_last_drawT (id := 15) Γ_ok drawsAny pl3_15 (by kernel_rfl) (fun K hK => ?_) | ((refine goR0 _ _ _ _ _ _ _ _ ?_ ?_ ?_ ?_ ?_ ?_ ?_ ?_) <;> (repeat intro hb) <;> first | exact True.intro | refine Lf.mk ?_)))
      refine T_loopW (fun q st => ∃ i : Nat, i ≤ n.L.length ∧ q + i = n.L.length ∧ st = ⟨[rcs l, .top, .top, .top, .imm (.bool false), .imm (.bool true), .optr 2 0 0, .top, .optr 5 0 0, .top, .top, .imm (.int .i64 i)] ++ List.replicate 110 .top,
          [acO m.A, tkO m.L, .box 28 [.own 0 0 m.A.length none, .own 1 0 m.L.length none], acO n.A, tkO n.L, .box 28 [.own 3 0 n.A.length none, .own 4 0 n.L.length none]]⟩)
        n.L.length ⟨_, ?_, 0, Nat.zero_le _, rfl, rfl⟩ ?_
      · ((try simp only [List.length_append, List.length_cons, List.length_nil, Nat.zero_add]); refine Wk.intro [0, 1, 2, 3, 4, 5] (by decide) (by decide) (by intro o ho; simp at ho ⊢ <;> omega) ?_ ?_ <;> repeat' (first | exact WkVL.nil | refine WkVL.cons ?_ ?_ | exact WkV.top | exact WkV.imm rfl | exact WkV.imm (by simp) | exact WkV.optr rfl | exact WkV.own rfl (by simp) | exact WkV.nil_own (.inl rfl) | exact WkV.map rfl | (refine WkV.free ?_; simp [Free, FreeL] <;> assumption) | (refine WkV.free (fun _ _ => FreeL_nth ?_ _); simp [Free, FreeL]; done) | refine WkV.agg ?_ | refine WkV.tup ?_ | refine WkV.fn ?_ ?_ | exact WkO.dead | exact WkO.raw | refine WkO.ghost ?_ | exact WkO.mpE rfl trivial | refine WkO.box ?_ rfl | refine WkO.arr ?_ | refine And.intro ?_ (And.intro (by first | exact fun h => h | exact fun _ => rfl | exact nofun) ?_) | exact trivial | (intro i j hi hj)))
      rintro q' st ⟨i', h3, h4, rfl⟩
      (simp only [go_sem, ↓reduceIte, Nat.reduceAdd, Nat.reduceSub, Nat.reduceMul, Nat.reduceLT, Nat.reduceLeDiff, Nat.reduceEqDiff, Nat.reduceGT, Int.reduceToNat, Int.reduceBEq, Int.reduceBNe]; try simp (disch := omega) only [wrapI, wrapU, half_sum, toNat_sub1, toNat_add1, Int.toNat_natCast])
      by_cases hlt2 : i' < n.L.length
      · have hh := (lhas_tc m.L (gt n.L i') (by omega)).eq (show _ = AV.imm (.bool true) from by congr 2; exact decide_eq_true (hlog _ (gt_mem (by omega))))
        (have cl1 := hh; repeat' (first | with_reducible refine T_seq_drawT (id := 11) Γ_ok drawsAny pl3_11 (by kernel_rfl) (fun K hK => ?_) | with_reducible refine T_last_drawT (id := 11) Γ_ok drawsAny pl3_11 (by kernel_rfl) (fun K hK => ?_) | with_reducible refine T_seq_drawT (id := 15) Γ_ok drawsAny pl3_15 (by kernel_rfl) (fun K hK => ?_) | with_reducible refine T_last_drawT (id := 15) Γ_ok drawsAny pl3_15 (by kernel_rfl) (fun K hK => ?_) | ((refine goR0 _ _ _ _ _ _ _ _ ?_ ?_ ?_ ?_ ?_ ?_ ?_ ?_) <;> (repeat intro hb) <;> first | exact True.intro | refine Lf.mk ?_)))
        refine ⟨n.L.length - (i' + 1), by omega, _, ?_, i' + 1, by omega, by omega, rfl⟩
        ((try simp only [List.length_append, List.length_cons, List.length_nil, Nat.zero_add]); refine Wk.intro [0, 1, 2, 3, 4, 5] (by decide) (by decide) (by intro o ho; simp at ho ⊢ <;> omega) ?_ ?_ <;> repeat' (first | exact WkVL.nil | refine WkVL.cons ?_ ?_ | exact WkV.top | exact WkV.imm rfl | exact WkV.imm (by simp) | exact WkV.optr rfl | exact WkV.own rfl (by simp) | exact WkV.nil_own (.inl rfl) | exact WkV.map rfl | (refine WkV.free ?_; simp [Free, FreeL] <;> assumption) | (refine WkV.free (fun _ _ => FreeL_nth ?_ _); simp [Free, FreeL]; done) | refine WkV.agg ?_ | refine WkV.tup ?_ | refine WkV.fn ?_ ?_ | exact WkO.dead | exact WkO.raw | refine WkO.ghost ?_ | exact WkO.mpE rfl trivial | refine WkO.box ?_ rfl | refine WkO.arr ?_ | refine And.intro ?_ (And.intro (by first | exact fun h => h | exact fun _ => rfl | exact nofun) ?_) | exact trivial | (intro i j hi hj)))
      · (repeat' (first | with_reducible refine T_seq_drawT (id := 11) Γ_ok drawsAny pl3_11 (by kernel_rfl) (fun K hK => ?_) | with_reducible refine T_last_drawT (id := 11) Γ_ok drawsAny pl3_11 (by kernel_rfl) (fun K hK => ?_) | with_reducible refine T_seq_drawT (id := 15) Γ_ok drawsAny pl3_15 (by kernel_rfl) (fun K hK => ?_) | with_reducible refine T_last_drawT (id := 15) Γ_ok drawsAny pl3_15 (by kernel_rfl) (fun K hK => ?_) | ((refine goR0 _ _ _ _ _ _ _ _ ?_ ?_ ?_ ?_ ?_ ?_ ?_ ?_) <;> (repeat intro hb) <;> first | exact True.intro | refine Lf.mk ?_)))
  · have he' : ((foldR l).2 != 0) = true := by simpa using he
    have hz := foldR_err he
    generalize foldR l = q1 at *
    obtain ⟨m, e⟩ := q1
    simp only [] at hz
    subst hz
    (refine TC_of_T Γ_ok Tryd.func3 rfl (by kernel_rfl) ?_; simp only [Tryd.ntmps3, Tryd.results3, List.length_cons, List.length_nil, Nat.reduceSub, Nat.reduceAdd, List.replicate, List.cons_append, List.nil_append])
    (have cl1 := head_tc; have cm1 := hf; have sx1 := he'; repeat' (first | with_reducible refine T_seq_drawT (id := 11) Γ_ok drawsAny pl3_11 (by kernel_rfl) (fun K hK => ?_) | with_reducible refine T_last_drawT (id := 11) Γ_ok drawsAny pl3_11 (by kernel_rfl) (fun K hK => ?_) | with_reducible refine T_seq_drawT (id := 15) Γ_ok drawsAny pl3_15 (by kernel_rfl) (fun K hK => ?_) | with_reducible refine T_last_drawT (id := 15) Γ_ok drawsAny pl3_15 (by kernel_rfl) (fun K hK => ?_) | ((refine goR1 _ _ _ _ _ _ _ _ ?_ ?_ ?_ ?_ ?_ ?_ ?_ ?_) <;> (repeat intro hb) <;> first | exact True.intro | refine Lf.mk ?_)))
end Go.Proofs.YtnomenmakhielaaDoor
