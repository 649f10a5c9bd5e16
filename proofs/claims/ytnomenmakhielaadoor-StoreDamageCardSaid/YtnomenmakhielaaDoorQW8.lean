/-
  Contract of slices.Insert of one take into a slice that the call has for itself.
-/
import Derived.Test.YtnomenmakhielaaDoorQW7
import Derived.Test.YtnomenmakhielaaDoorQL5
set_option linter.unusedSimpArgs false
set_option linter.unusedVariables false
namespace Go.Proofs.YtnomenmakhielaaDoor
open Go.Ab

theorem overlaps_tc {n : Nat} {c : Option Nat} {el : Nat → Nat → AV} {o s k : Nat} {c' : Option Nat} {len : Nat} {el' : Nat → Nat → AV} {σ : List AObj} (hob : nthO σ o = .arr 33 4 len el') :
    TC Tryd.prog 93 [.pv n 4 c el, .own o s k c'] σ (fun v σ' => v = .imm (.bool false) ∧ σ' = σ) :=
  TC_overlaps (tS := 26) (tR := 4) (e := 33) Γ_ok Tryd.func93 (by kernel_rfl) (by kernel_rfl) (by kernel_rfl) (by kernel_rfl) (Γ_ok 26 _ rfl).desc rfl hob rfl

/-- A take written out as a slice of its own. -/
@[go_sem, reducible] def oneT (x : Tk) : AV := .pv 1 4 (some 1) (fun i j => nth (tkL x) (i * 4 + j))

def ins (l : List Tk) (i : Nat) (x : Tk) : List Tk := l.take i ++ x :: l.drop i
theorem ins_length (l : List Tk) (i : Nat) (x : Tk) (h : i ≤ l.length) : (ins l i x).length = l.length + 1 := by simp [ins]; omega
theorem gt_ins (l : List Tk) (i : Nat) (x : Tk) (h : i ≤ l.length) (j : Nat) : gt (ins l i x) j = if j < i then gt l j else if j = i then x else gt l (j - 1) := by
  unfold gt ins
  simp only [List.getD_eq_getElem?_getD]
  rw [List.getElem?_append]
  simp only [List.length_take, Nat.min_eq_left h]
  split
  · rename_i hj
    rw [List.getElem?_take, if_pos hj]
  · split
    · rename_i hj; subst hj; simp
    · obtain ⟨m, hm⟩ : ∃ m, j - i = m + 1 := ⟨j - i - 1, by omega⟩
      rw [hm, List.getElem?_cons_succ, List.getElem?_drop]
      congr 2
      omega
theorem tkE_ins (l : List Tk) (i : Nat) (x : Tk) (h : i ≤ l.length) (j k : Nat) : tkE (ins l i x) j k = if j < i then tkE l j k else if j = i then nth (tkL x) k else tkE l (j - 1) k := by
  unfold tkE
  rw [gt_ins l i x h]
  split
  · rfl
  · split <;> rfl

def InsQ (l : List Tk) (i : Nat) (x : Tk) (v : AV) (σ' : List AObj) : Prop :=
  (∃ a e, v = .own 1 0 (l.length + 1) none ∧ σ' = [a, .arr 33 4 (l.length + 1) e] ∧ ∀ j k, j < l.length + 1 → e j k = tkE (ins l i x) j k) ∨
  (∃ c cc e, v = .own 0 0 (l.length + 1) cc ∧ σ' = [.arr 33 4 c e] ∧ l.length + 1 ≤ c ∧ ∀ j k, j < l.length + 1 → e j k = tkE (ins l i x) j k)

set_option maxRecDepth 100000 in
set_option maxHeartbeats 400000 in
theorem insert_raw (l : List Tk) (hl : l.length ≤ 1000000) (i : Nat) (hi : i ≤ l.length) (x : Tk) (c : Nat) (hc : l.length ≤ c) :
    TC Tryd.prog 86 [.own 0 0 l.length (some c), .imm (.int .i64 i), oneT x] [.arr 33 4 c (withRoom l.length (tkE l))] (InsQ l i x) := by
  (refine TC_of_T Γ_ok Tryd.func86 rfl (by kernel_rfl) ?_; simp only [Tryd.ntmps86, Tryd.results86, List.length_cons, List.length_nil, Nat.reduceSub, Nat.reduceAdd, List.replicate, List.cons_append, List.nil_append])
  repeat' (first
    | (with_reducible refine hK _ ?_; clear hK K)
    | ((with_reducible refine callGoal_mk (by first | exact trivial | (simp only [go_sem, and_self]; done) | (simp only [go_sem]; omega)) (overlaps_tc (by with_unfolding_all rfl)) ?_); rintro _ _ ⟨rfl, rfl⟩)
    | ((with_reducible apply DC_call); (focus exact rfl); (focus exact rfl); (focus exact rfl); intro N hN; (simp only [go_sem, ↓reduceIte, Nat.reduceAdd, Nat.reduceSub, Nat.reduceMul, Nat.reduceLT, Nat.reduceLeDiff, Nat.reduceEqDiff, Nat.reduceGT, Int.reduceToNat, Int.reduceBEq, Int.reduceBNe]; try simp (disch := omega) only [wrapI, wrapU, half_sum, toNat_sub1, toNat_add1, Int.toNat_natCast]))
    | ((with_reducible first | refine T_seq_region Γ_ok (fun K hK => ?_) | refine T_last_region Γ_ok (fun K hK => ?_) | refine T_seq_draw (id := 11) Γ_ok drawsAny [(0, [], []), (1, [], []), (2, [], []), (3, [1, 2], []), (4, [0, 1, 2, 3], []), (5, [], []), (6, [], []), (7, [5, 6], []), (8, [0, 1, 2, 3, 4, 5, 6, 7], [])] (by kernel_rfl) (fun K hK => ?_) | refine T_last_draw (id := 11) Γ_ok drawsAny [(0, [], []), (1, [], []), (2, [], []), (3, [1, 2], []), (4, [0, 1, 2, 3], []), (5, [], []), (6, [], []), (7, [5, 6], []), (8, [0, 1, 2, 3, 4, 5, 6, 7], [])] (by kernel_rfl) (fun K hK => ?_) | refine T_seq_draw (id := 15) Γ_ok drawsAny [(0, [], []), (1, [], []), (2, [], []), (3, [1, 2], []), (4, [0, 1, 2, 3], []), (5, [], []), (6, [], []), (7, [5, 6], []), (8, [0, 1, 2, 3, 4, 5, 6, 7], [])] (by kernel_rfl) (fun K hK => ?_) | refine T_last_draw (id := 15) Γ_ok drawsAny [(0, [], []), (1, [], []), (2, [], []), (3, [1, 2], []), (4, [0, 1, 2, 3], []), (5, [], []), (6, [], []), (7, [5, 6], []), (8, [0, 1, 2, 3, 4, 5, 6, 7], [])] (by kernel_rfl) (fun K hK => ?_) | refine TO_callN rfl (fun N hN => ?_) | refine DCT_fork Γ_ok (fun K2 hK2 => ?_) | refine DCT_last Γ_ok ?_ | refine DC_ev Γ_ok ?_ | refine TO_ev Γ_ok ?_ | refine retQ_r ?_ | refine retQ_n ?_); (simp only [go_sem, ↓reduceIte, Nat.reduceAdd, Nat.reduceSub, Nat.reduceMul, Nat.reduceLT, Nat.reduceLeDiff, Nat.reduceEqDiff, Nat.reduceGT, Int.reduceToNat, Int.reduceBEq, Int.reduceBNe]; try simp (disch := omega) only [wrapI, wrapU, half_sum, toNat_sub1, toNat_add1, Int.toNat_natCast]))
    | (with_reducible refine hK2 _ ?_ ?_ <;> clear hK2 K2)
    | with_reducible refine gC_false ?_ | with_reducible refine gC_true ?_ | with_reducible refine dCall_true ?_
    | (with_reducible refine hN _ _ ?_; clear hN N)
    | (with_reducible refine hN _ _ (dInl rfl) ?_; clear hN N)
    | ((with_reducible refine hN _ _ (.inr ?_) ?_); (focus (simp only [go_sem, ↓reduceIte, Nat.reduceAdd, Nat.reduceSub, Nat.reduceMul, Nat.reduceLT, Nat.reduceLeDiff, Nat.reduceEqDiff, Nat.reduceGT, Int.reduceToNat, Int.reduceBEq, Int.reduceBNe]; try simp (disch := omega) only [wrapI, wrapU, half_sum, toNat_sub1, toNat_add1, Int.toNat_natCast])); all_goals (try clear hN N))
    | with_reducible refine T_seq ?_ | with_reducible refine T_block ?_ | with_reducible refine T_ret ?_ | with_reducible refine T_exit ?_ | with_reducible refine T_skip ?_ | with_reducible refine T_label ?_
    | with_reducible refine thenQ_n ?_ | with_reducible refine thenQ_e ?_ | with_reducible refine thenQ_r ?_ | with_reducible refine blockQ_n ?_ | with_reducible refine blockQ_e ?_ | with_reducible refine blockQ_r ?_
    | with_reducible refine blockQ_o (by decide) ?_
    | ((with_reducible refine T_cond _ rfl (fun hb => ?_) (fun hb => ?_)) <;> first | (cases hb; done) | (simp only [decide_eq_true_eq, decide_eq_false_iff_not, Bool.and_eq_true, Bool.or_eq_true, Bool.and_eq_false_imp, Bool.or_eq_false_iff, Bool.not_eq_true', Bool.not_eq_false', beq_iff_eq, bne_iff_ne, ne_eq, beq_eq_false_iff_ne, bne_eq_false_iff_eq, Int.not_lt, Int.not_le, ge_iff_le, gt_iff_lt] at hb) | skip)
    | (with_reducible refine And.intro (by first | exact trivial | omega | (intro hg; simp at hg ⊢ <;> omega) | (simp <;> omega)) ?_)
    | assumption | omega)
  · refine .inl ⟨_, _, rfl, rfl, fun j k hj => ?_⟩
    rw [tkE_ins l i x hi]
    unfold catE withRoom
    dsimp only
    (repeat' split) <;> first | rfl | (exfalso; omega) | (congr 1; omega)
  · refine .inl ⟨_, _, by congr 1; omega, by congr 3; omega, fun j k hj => ?_⟩
    rw [tkE_ins l i x hi]
    unfold updR catE withRoom
    dsimp only
    (repeat' split) <;> first | rfl | (exfalso; omega) | (congr 1; omega)
  · refine .inr ⟨c, _, _, rfl, rfl, by omega, fun j k hj => ?_⟩
    rw [tkE_ins l i x hi]
    unfold updR withRoom
    dsimp only
    (repeat' split) <;> first | rfl | (exfalso; omega) | (congr 1; omega)

theorem insert_tc (l : List Tk) (hl : l.length ≤ 1000000) (i : Nat) (hi : i ≤ l.length) (x : Tk) :
    Turns Tryd.prog 86 [ownT l, .imm (.int .i64 i), oneT x] [tkO l] (.own 1 0 (ins l i x).length none) [.dead, tkO (ins l i x)] := by
  refine ⟨?_, trivial, fun a ha => by simp at ha; rcases ha with rfl | rfl; exact trivial; exact fun _ _ => tkE_pl _ _ _⟩
  have h0 := TC_room (P := Tryd.prog) (f := 86) (us1 := []) (us2 := [.imm (.int .i64 i), oneT x]) (o := 0) (σ := [tkO l]) (Q := InsQ l i x) rfl fun c hc => insert_raw l hl i hi x c hc
  have h1 := TC.move (Q2 := fun v σ' => ∃ a c cc e, v = .own 1 0 (l.length + 1) cc ∧ σ' = [a, .arr 33 4 c e] ∧ l.length + 1 ≤ c ∧ ∀ j k, j < l.length + 1 → e j k = tkE (ins l i x) j k) h0 fun v σ' hq => by
    rcases hq with ⟨a, e, h1, h2, h3⟩ | ⟨c, cc, e, h1, h2, h3, h4⟩
    · exact .inl ⟨a, _, none, e, h1, h2, Nat.le_refl _, h3⟩
    · exact .inr ⟨0, 0, _, cc, _, _, c, e, h1, by rw [h2]; rfl, .dead, c, cc, e, by rw [h2]; rfl, by rw [h2]; rfl, h3, h4⟩
  refine h1.weak fun v σ' ⟨a, c, cc, e, hv, hs, hc, he⟩ => ⟨[0, 1], _, _, by simp [List.range_succ], by simp, by simp [hs], ?_, ?_, rfl, rfl⟩
  · rw [hv, ins_length l i x hi]
    exact WkV.own rfl (by simp)
  · rw [hs]
    refine ⟨WkO.dead, fun h => (nomatch h), ?_, fun h => h, trivial⟩
    rw [tkO, ins_length l i x hi]
    exact WkO.arrLe hc fun j k hj _ => by rw [he j k hj]; exact WkV.free (tkE_free _ _ _)
end Go.Proofs.YtnomenmakhielaaDoor
