/-
  The law StoreMatchesReference.
-/
import Derived.Test.YtnomenmakhielaaDoorQGo
import Derived.Test.YtnomenmakhielaaDoorQS36
set_option linter.unusedSimpArgs false
set_option linter.unusedVariables false
namespace Go.Proofs.YtnomenmakhielaaDoor
open Go.Ab

theorem disks_self (a : Dsk) (ha : a.b.length ≤ 9223372036854775807) : Look Tryd.prog 17 [dsA a, dsA a] (.imm (.bool true)) := (disks_tc a a ha ha).eq (by rw [decide_eq_true ⟨rfl, rfl⟩])
theorem recs_self (a : List Rcd) (ha : a.length ≤ 9223372036854775807) : Look Tryd.prog 20 [rcs a, rcs a] (.imm (.bool true)) := (recs_tc a a ha ha).eq (by rw [@decide_eq_true _ (_) rfl])
theorem sameM_self (a : Mem) (h1 : a.A.length ≤ 9223372036854775807) (h3 : a.L.length ≤ 9223372036854775807) : Look Tryd.prog 14 [memV a, memV a] (.imm (.bool true)) := (sameM_tc a a h1 h1 h3 h3).eq (by rw [@decide_eq_true _ (_) rfl])
theorem appendR_len (d : Dsk) (r : Rcd) : (appendR d r).1.b.length ≤ 100000 := by
  unfold appendR
  split
  · split
    · simp
    · split
      · simp
      · rename_i h; simp only [] at h ⊢; omega
  · simp
theorem syncR_len (d : Dsk) : (syncR d).1.b.length ≤ 100000 := by
  unfold syncR
  split
  · rename_i h; have := sound_spec h; simp; omega
  · simp
theorem crashR_len (d : Dsk) (k : Int) : (crashR d k).1.b.length ≤ 100000 := by
  unfold crashR
  split
  · rename_i h; have := sound_spec h.1; simp; omega
  · simp
theorem recoverR_lens (d : Dsk) : (recoverR d).1.length ≤ 500 ∧ (recoverR d).2.1.b.length ≤ 100000 := by
  unfold recoverR
  split
  · rename_i h
    have := sound_spec h
    split
    · simp
    · simp only [List.length_take]; omega
  · simp
theorem foldR_lens (l : List Rcd) : (foldR l).1.A.length ≤ 15 ∧ (foldR l).1.L.length ≤ 15 := by
  by_cases h : (foldR l).2 = 0
  · exact ⟨(foldR_ok h).len, (foldR_ok h).log.len⟩
  · have e : (foldR l).1 = ⟨[], []⟩ := by
      unfold foldR at h ⊢
      split
      · rename_i hc
        rw [if_pos hc] at h
        have : ∀ (l : List Rcd) (m : Mem), (runM l m).2 ≠ 0 → (runM l m).1 = ⟨[], []⟩ := by
          intro l
          induction l with
          | nil => intro m h; exact absurd rfl h
          | cons r l ih =>
            intro m h
            unfold runM at h ⊢
            split
            · rename_i h2; rw [if_pos h2] at h; exact ih _ h
            · rfl
        exact this _ _ h
      · rfl
    rw [e]; simp
theorem compactR_len (d : Dsk) : (compactR d).1.b.length ≤ 100000 := by
  by_cases h : (compactR d).2 = 0
  · obtain ⟨_, h2, h3, _⟩ := compact_ok h
    have hm := foldR_ok h2
    have h4 := framesN_len (fewest_ok hm)
    have h5 := fewest_le hm
    rw [h3]; simp only []; omega
  · unfold compactR at h ⊢
    split
    · simp
    · rename_i c1
      rw [if_neg c1] at h
      split
      · simp
      · rename_i c2; rw [if_neg c2] at h; exact absurd rfl h

set_option maxRecDepth 100000 in
set_option maxHeartbeats 4000000 in
theorem law_matches (d : Dsk) (r : Rcd) (keep : Int) (l : List Rcd) (hb : ByOk d.b) (hd : d.b.length ≤ 9223372036854775807) (hl : l.length ≤ 9223372036854775807) :
    Look Tryd.prog 9 [dsA d, rcA r, .imm (.int .i64 keep), rcs l] (.imm (.bool true)) := by
  refine Look.mk trivial ?_
  have h1 := append_tc d r hb hd
  have h1' := rappend_tc d r hb hd
  have l1 := disks_self (appendR d r).1 (by have := appendR_len d r; omega)
  generalize appendR d r = q1 at h1 h1' l1
  have h2 := sync_tc d hd
  have h2' := rsync_tc d hd
  have l2 := disks_self (syncR d).1 (by have := syncR_len d; omega)
  generalize syncR d = q2 at h2 h2' l2
  have h3 := crash_tc d keep hd
  have h3' := rcrash_tc d keep hd
  have l3 := disks_self (crashR d keep).1 (by have := crashR_len d keep; omega)
  generalize crashR d keep = q3 at h3 h3' l3
  have h4 := recover_tc d hb hd
  have h4' := rrecover_tc d hb hd
  have l4 := disks_self (recoverR d).2.1 (by have := (recoverR_lens d).2; omega)
  have l4' := recs_self (recoverR d).1 (by have := (recoverR_lens d).1; omega)
  generalize recoverR d = q4 at h4 h4' l4 l4'
  have h5 := fold_tc l hl
  have h5' := rfold_tc l hl
  have l5 := sameM_self (foldR l).1 (by have := (foldR_lens l).1; omega) (by have := (foldR_lens l).2; omega)
  generalize foldR l = q5 at h5 h5' l5
  have h6 := compact_tc d hb hd
  have h6' := rcompact_tc d hb hd
  have l6 := disks_self (compactR d).1 (by have := compactR_len d; omega)
  generalize compactR d = q6 at h6 h6' l6
  obtain ⟨k, s, b, ⟨s', c, n, e⟩⟩ := r
  simp only [rcA, rcL] at h1 h1'
  (refine TC_of_T Γ_ok Tryd.func9 rfl (by kernel_rfl) ?_; simp only [Tryd.ntmps9, Tryd.results9, List.length_cons, List.length_nil, Nat.reduceSub, Nat.reduceAdd, List.replicate, List.cons_append, List.nil_append])
  (have dl1 := head_tc; have cm1 := h1; have cm2 := h1'; have cm3 := h2; have cm4 := h2'; have cm5 := h3; have cm6 := h3'; have cm7 := h4; have cm8 := h4'; have cm9 := h5; have cm10 := h5'; have cm11 := h6; have cm12 := h6'; have dl2 := l1; have dl3 := l2; have dl4 := l3; have dl5 := l4; have dl6 := l4'; have dl7 := l5; have dl8 := l6; have sx1 := @beq_self_eq_true Int _ _; ((refine goR1 _ _ _ _ _ _ _ _ ?_ ?_ ?_ ?_ ?_ ?_ ?_ ?_) <;> (repeat intro hb) <;> first | exact True.intro | refine Lf.mk ?_))
end Go.Proofs.YtnomenmakhielaaDoor
