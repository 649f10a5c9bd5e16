/-
  The laws StoreSections, StoreContinued, StoreCompact.
-/
import Derived.Test.YtnomenmakhielaaDoorQGo
import Derived.Test.YtnomenmakhielaaDoorQS37
set_option linter.unusedSimpArgs false
set_option linter.unusedVariables false
namespace Go.Proofs.YtnomenmakhielaaDoor
open Go.Ab

theorem view_conv {P : Program} {k : FuncId} {n z : Nat} {E E2 : Nat → Nat → AV} {v : AV} {σ1 : List AObj} (h : Makes P k [.view n z E2] v σ1) (he : ∀ i j, i < n → j < z → E i j = E2 i j) : Makes P k [.view n z E] v σ1 :=
  h.conv fun w xs hx => by
    match xs, hx with
    | [x], hx => simp only [RvL, and_true] at hx ⊢; exact Rv_view_ext he hx
theorem rc_app (a b : List Rcd) {i j : Nat} : catE a.length (rcE a) (rcE b) i j = rcE (a ++ b) i j := by
  unfold catE rcE gR
  split
  · rename_i h; simp [List.getElem?_append_left h]
  · rename_i h; simp [List.getElem?_append_right (Nat.le_of_not_lt h)]
theorem fold_app (a b : List Rcd) (hl : (a ++ b).length ≤ 9223372036854775807) :
    Makes Tryd.prog 12 [.view (a.length + b.length) 7 (catE a.length (catE 0 (fun _ _ => .top) (rcE a)) (rcE b))] (memA (foldR (a ++ b))) [acO (foldR (a ++ b)).1.A, tkO (foldR (a ++ b)).1.L] := by
  have h := fold_tc (a ++ b) hl
  simp only [rcs, List.length_append] at h
  exact view_conv h fun i j _ _ => by rw [← rc_app]; simp [catE]

@[go_sem] theorem catE_0 (f g : Nat → Nat → AV) (i j : Nat) : catE 0 f g i j = g i j := by simp [catE]
/-- Two neighbours change their places. -/
def swp (l : List Rcd) (k : Nat) : List Rcd := (l.set k (gR l (k + 1))).set (k + 1) (gR l k)
theorem split2 {l : List Rcd} {k : Nat} (h : k + 1 < l.length) : l = l.take k ++ gR l k :: gR l (k + 1) :: l.drop (k + 2) := by
  conv => lhs; rw [← List.take_append_drop k l, List.drop_eq_getElem_cons (by omega), List.drop_eq_getElem_cons (by omega)]
  simp [gR, h, show k < l.length by omega]
theorem swp_eq {l : List Rcd} {k : Nat} (h : k + 1 < l.length) : swp l k = l.take k ++ gR l (k + 1) :: gR l k :: l.drop (k + 2) := by
  have lk : (l.take k).length = k := by simp; omega
  unfold swp
  generalize gR l (k + 1) = x
  have e : l.set k x = l.take k ++ x :: l.drop (k + 1) := by rw [List.set_eq_take_append_cons_drop, if_pos (by omega)]
  have e2 : l.drop (k + 1) = gR l (k + 1) :: l.drop (k + 2) := by rw [List.drop_eq_getElem_cons h]; simp [gR, h]
  rw [e, List.set_append_right _ _ (by omega), lk, Nat.add_sub_cancel_left, List.set_cons_succ, e2, List.set_cons_zero]
theorem swp_fold {l : List Rcd} {k : Nat} (h : k + 1 < l.length) (he : (foldR l).2 = 0) (hne : (gR l k).s ≠ (gR l (k + 1)).s) : foldR (swp l k) = foldR l := by
  have e := split2 h
  have := foldR_swap (a := l.take k) (b := l.drop (k + 2)) (r := gR l k) (s := gR l (k + 1)) (by rw [← e]; exact he) hne
  rw [swp_eq h, this, ← e]
theorem gR_set (l : List Rcd) (k i : Nat) (x : Rcd) (hk : k < l.length) : gR (l.set k x) i = if i = k then x else gR l i := by
  unfold gR
  simp only [List.getD_eq_getElem?_getD, List.getElem?_set]
  by_cases e : k = i
  · subst e; simp [hk]
  · simp [e, Ne.symm e]
theorem swp_E (l : List Rcd) {k : Nat} (h : k + 1 < l.length) {i j : Nat} (hj : j < 7) : updE (updE (catE 0 (fun _ _ => .top) (rcE l)) k 0 (rcL (gR l (k + 1)))) (k + 1) 0 (rcL (gR l k)) i j = rcE (swp l k) i j := by
  unfold swp
  rw [rcE, gR_set _ _ _ _ (by simpa using h), gR_set _ _ _ _ (by omega)]
  by_cases e : i = k + 1
  · subst e
    unfold updE
    rw [if_pos rfl, if_pos ⟨rfl, Nat.zero_le _, by simpa using hj⟩]; rfl
  · by_cases e2 : i = k
    · subst e2
      unfold updE
      rw [if_neg e, if_pos rfl, if_neg (fun q => e q.1), if_pos ⟨rfl, Nat.zero_le _, by simpa using hj⟩]; rfl
    · unfold updE
      rw [if_neg e, if_neg e2, if_neg (fun q => e q.1), if_neg (fun q => e2 q.1)]
      simp [catE, rcE]
theorem swp_tc (l : List Rcd) {k : Nat} (hl : l.length ≤ 9223372036854775807) : Makes Tryd.prog 12 [.view l.length 7 (rcE (swp l k))] (memA (foldR (swp l k))) [acO (foldR (swp l k)).1.A, tkO (foldR (swp l k)).1.L] := by
  have e : (swp l k).length = l.length := by simp [swp]
  have h2 := fold_tc (swp l k) (by omega)
  simp only [rcs, e] at h2
  exact h2
@[simp] theorem top_free : Free .top := trivial
@[simp] theorem catE_free {n : Nat} {f g : Nat → Nat → AV} {i j : Nat} (hf : ∀ i j, Free (f i j)) (hg : ∀ i j, Free (g i j)) : Free (catE n f g i j) := by
  unfold catE; split
  · exact hf _ _
  · exact hg _ _

set_option maxRecDepth 100000 in
set_option maxHeartbeats 4000000 in
theorem law_sections (l : List Rcd) (a : Nat) (hl : l.length ≤ 9223372036854775807) (ha : a < 65536) : Look Tryd.prog 4 [rcs l, .imm (.int .u16 (a : Int))] (.imm (.bool true)) := by
  refine Look.mk trivial ?_
  have hf := fold_tc l hl
  by_cases he : (foldR l).2 = 0
  · have hc := foldR_cond he
    by_cases h2 : 2 ≤ l.length
    · have hk := Nat.mod_lt a (show 0 < l.length - 1 by omega)
      have htm : Int.tmod (a : Int) ((l.length : Int) - 1) = ((a % (l.length - 1) : Nat) : Int) := by
        rw [show (l.length : Int) - 1 = ((l.length - 1 : Nat) : Int) by omega]; exact (Int.ofNat_tmod _ _).symm
      generalize a % (l.length - 1) = k at *
      have hk2 : k + 1 < l.length := by omega
      have hsw := swp_tc l (k := k) hl
      by_cases hs : (gR l k).s = (gR l (k + 1)).s
      · have hs' : ((gR l k).s == (gR l (k + 1)).s) = true := by simpa using hs
        have he0 := he
        generalize foldR l = q at *
        obtain ⟨m, e⟩ := q
        simp only [] at he0
        subst he0
        (refine TC_of_T Γ_ok Tryd.func4 rfl (by kernel_rfl) ?_; simp only [Tryd.ntmps4, Tryd.results4, List.length_cons, List.length_nil, Nat.reduceSub, Nat.reduceAdd, List.replicate, List.cons_append, List.nil_append])
        (have cl1 := head_tc; have cm1 := hf; have sx1 := htm; have sx2 := hs'; repeat' (first | with_reducible refine T_seq_drawT (id := 6) Γ_ok drawsAny pl4_6 (by kernel_rfl) (fun K hK => ?_) | with_reducible refine T_last_drawT (id := 6) Γ_ok drawsAny pl4_6 (by kernel_rfl) (fun K hK => ?_) | with_reducible refine T_seq_drawT (id := 9) Γ_ok drawsAny pl4_9 (by kernel_rfl) (fun K hK => ?_) | with_reducible refine T_last_drawT (id := 9) Γ_ok drawsAny pl4_9 (by kernel_rfl) (fun K hK => ?_) | ((refine goR2 _ _ _ _ _ _ _ _ ?_ ?_ ?_ ?_ ?_ ?_ ?_ ?_) <;> (repeat intro hb) <;> first | exact True.intro | refine Lf.mk ?_)))
      · have hs' : ((gR l k).s == (gR l (k + 1)).s) = false := by simpa using hs
        rw [swp_fold hk2 he hs] at hsw
        have hl15 := foldR_lens l
        have hsm := sameM_self (foldR l).1 (by omega) (by omega)
        generalize foldR l = q at *
        obtain ⟨m, e⟩ := q
        simp only [] at he
        subst he
        have hv5 : ∀ i j, i < l.length → j < 7 → updE (updE (catE 0 (fun _ _ => .top) (rcE l)) k 0 (rcL (gR l (k + 1)))) (k + 1) 0 (rcL (gR l k)) i j = rcE (swp l k) i j := fun i j _ hj => swp_E l hk2 hj
        (refine TC_of_T Γ_ok Tryd.func4 rfl (by kernel_rfl) ?_; simp only [Tryd.ntmps4, Tryd.results4, List.length_cons, List.length_nil, Nat.reduceSub, Nat.reduceAdd, List.replicate, List.cons_append, List.nil_append])
        (have cl1 := head_tc; have dm1 := hf; have dm2 := hsw; have cl2 := hsm; have sx1 := htm; have sx2 := hs'; repeat' (first | with_reducible refine T_seq_drawT (id := 6) Γ_ok drawsAny pl4_6 (by kernel_rfl) (fun K hK => ?_) | with_reducible refine T_last_drawT (id := 6) Γ_ok drawsAny pl4_6 (by kernel_rfl) (fun K hK => ?_) | with_reducible refine T_seq_drawT (id := 9) Γ_ok drawsAny pl4_9 (by kernel_rfl) (fun K hK => ?_) | with_reducible refine T_last_drawT (id := 9) Γ_ok drawsAny pl4_9 (by kernel_rfl) (fun K hK => ?_) | ((refine goR2 _ _ _ _ _ _ _ _ ?_ ?_ ?_ ?_ ?_ ?_ ?_ ?_) <;> (repeat intro hb) <;> first | exact True.intro | refine Lf.mk ?_)))
    · generalize foldR l = q at *
      obtain ⟨m, e⟩ := q
      simp only [] at he
      subst he
      (refine TC_of_T Γ_ok Tryd.func4 rfl (by kernel_rfl) ?_; simp only [Tryd.ntmps4, Tryd.results4, List.length_cons, List.length_nil, Nat.reduceSub, Nat.reduceAdd, List.replicate, List.cons_append, List.nil_append])
      (have cl1 := head_tc; have cm1 := hf; repeat' (first | with_reducible refine T_seq_drawT (id := 6) Γ_ok drawsAny pl4_6 (by kernel_rfl) (fun K hK => ?_) | with_reducible refine T_last_drawT (id := 6) Γ_ok drawsAny pl4_6 (by kernel_rfl) (fun K hK => ?_) | with_reducible refine T_seq_drawT (id := 9) Γ_ok drawsAny pl4_9 (by kernel_rfl) (fun K hK => ?_) | with_reducible refine T_last_drawT (id := 9) Γ_ok drawsAny pl4_9 (by kernel_rfl) (fun K hK => ?_) | ((refine goR0 _ _ _ _ _ _ _ _ ?_ ?_ ?_ ?_ ?_ ?_ ?_ ?_) <;> (repeat intro hb) <;> first | exact True.intro | refine Lf.mk ?_)))
  · have he' : ((foldR l).2 != 0) = true := by simpa using he
    generalize foldR l = q at *
    (refine TC_of_T Γ_ok Tryd.func4 rfl (by kernel_rfl) ?_; simp only [Tryd.ntmps4, Tryd.results4, List.length_cons, List.length_nil, Nat.reduceSub, Nat.reduceAdd, List.replicate, List.cons_append, List.nil_append])
    (have cl1 := head_tc; have cm1 := hf; have sx1 := he'; repeat' (first | with_reducible refine T_seq_drawT (id := 6) Γ_ok drawsAny pl4_6 (by kernel_rfl) (fun K hK => ?_) | with_reducible refine T_last_drawT (id := 6) Γ_ok drawsAny pl4_6 (by kernel_rfl) (fun K hK => ?_) | with_reducible refine T_seq_drawT (id := 9) Γ_ok drawsAny pl4_9 (by kernel_rfl) (fun K hK => ?_) | with_reducible refine T_last_drawT (id := 9) Γ_ok drawsAny pl4_9 (by kernel_rfl) (fun K hK => ?_) | ((refine goR1 _ _ _ _ _ _ _ _ ?_ ?_ ?_ ?_ ?_ ?_ ?_ ?_) <;> (repeat intro hb) <;> first | exact True.intro | refine Lf.mk ?_)))
end Go.Proofs.YtnomenmakhielaaDoor
