/-
  slices.Contains of integers; board.reached beside the search's variables.
-/
import Derived.Test.YtddcnafocohghaaDoorQGo
import Derived.Test.YtddcnafocohghaaDoorQB8
import Derived.Test.YtddcnafocohghaaDoorQB6
import Derived.Test.YtddcnafocohghaaDoorQB7
import Derived.Test.YtddcnafocohghaaDoorQB10
set_option linter.unusedSimpArgs false
set_option linter.unusedVariables false
namespace Go.Proofs.YtddcnafocohghaaDoor
open Go.Ab
def hasB (l : List Int) (x : Int) : Bool := l.any (fun y => decide (y = x))
theorem hasB_drop {l : List Int} (x : Int) {i : Nat} (h : i < l.length) : hasB (l.drop i) x = (decide (gi l i = x) || hasB (l.drop (i + 1)) x) := by
  rw [List.drop_eq_getElem_cons h, hasB, List.any_cons]
  simp only [gi, List.getD_eq_getElem?_getD, List.getElem?_eq_getElem h, Option.getD_some, hasB]
theorem hasB_iff {l : List Int} {x : Int} : hasB l x = true ↔ x ∈ l := by simp [hasB]
set_option maxRecDepth 100000 in
set_option maxHeartbeats 4000000 in
theorem index_tc (l : List Int) (x : Int) (hl : l.length ≤ 9223372036854775807) : TC Tryd.prog 60 [ints l, .imm (.int .i64 x)] [] (fun v σ' => ∃ k : Int, v = .imm (.int .i64 k) ∧ σ' = [] ∧ (0 ≤ k ↔ hasB l x = true)) := by
  (refine TC_of_T Γ_ok Tryd.func60 rfl (by kernel_rfl) ?_; simp only [Tryd.ntmps60, Tryd.results60, List.length_cons, List.length_nil, Nat.reduceSub, Nat.reduceAdd, List.replicate, List.cons_append, List.nil_append])
  (((refine goR0 _ _ _ _ _ _ _ _ ?_ ?_ ?_ ?_ ?_ ?_ ?_ ?_) <;> (repeat intro hb) <;> first | exact True.intro | refine Lf.mk ?_))
  refine T_loopW (fun m st => ∃ i : Nat, i ≤ l.length ∧ m + i = l.length ∧ hasB l x = hasB (l.drop i) x ∧
      st = ⟨[ints l, .imm (.int .i64 x), .top, .top, .imm (.int .i64 0), .top, .top, .imm (.int .i64 l.length), .imm (.int .i64 i)] ++ List.replicate 10 .top, []⟩)
      l.length ⟨_, ?_, 0, by omega, rfl, rfl, rfl⟩ ?_
  · ((try simp only [List.length_append, List.length_cons, List.length_nil, Nat.zero_add]); refine Wk.intro [] (by decide) (by decide) (by intro o ho; simp at ho ⊢ <;> omega) ?_ ?_ <;> repeat' (first | exact WkVL.nil | refine WkVL.cons ?_ ?_ | exact WkV.top | exact WkV.imm rfl | exact WkV.imm (by simp) | exact WkV.optr rfl | exact WkV.own rfl (by simp) | exact WkV.nil_own (.inl rfl) | exact WkV.map rfl | (refine WkV.free ?_; simp [Free, FreeL] <;> assumption) | (refine WkV.free (fun _ _ => FreeL_nth ?_ _); simp [Free, FreeL]; done) | refine WkV.agg ?_ | refine WkV.tup ?_ | refine WkV.fn ?_ ?_ | exact WkO.dead | exact WkO.raw | refine WkO.ghost ?_ | exact WkO.mpE rfl trivial | refine WkO.box ?_ rfl | refine WkO.arr ?_ | refine And.intro ?_ (And.intro (by first | exact fun h => h | exact fun _ => rfl | exact nofun) ?_) | exact trivial | (intro i j hi hj)))
  rintro m st ⟨i, h0, h1, h2, rfl⟩
  (simp only [go_sem, ↓reduceIte, Nat.reduceAdd, Nat.reduceSub, Nat.reduceMul, Nat.reduceLT, Nat.reduceLeDiff, Nat.reduceEqDiff, Nat.reduceGT, Int.reduceToNat, Int.reduceBEq, Int.reduceBNe]; try simp (disch := omega) only [wrapI, wrapU, half_sum, toNat_sub1, toNat_add1, Int.toNat_natCast])
  (((refine goR0 _ _ _ _ _ _ _ _ ?_ ?_ ?_ ?_ ?_ ?_ ?_ ?_) <;> (repeat intro hb) <;> first | exact True.intro | refine Lf.mk ?_))
  · refine ⟨i, rfl, ⟨fun _ => ?_, fun _ => by omega⟩⟩
    rw [h2, hasB_drop x (by omega)]; simp [hb]
  · refine ⟨l.length - (i + 1), by omega, _, ?_, i + 1, by omega, by omega, ?_, rfl⟩
    · ((try simp only [List.length_append, List.length_cons, List.length_nil, Nat.zero_add]); refine Wk.intro [] (by decide) (by decide) (by intro o ho; simp at ho ⊢ <;> omega) ?_ ?_ <;> repeat' (first | (refine WkV.imm ?_; congr 1; omega) | exact WkVL.nil | refine WkVL.cons ?_ ?_ | exact WkV.top | exact WkV.imm rfl | exact WkV.imm (by simp) | exact WkV.optr rfl | exact WkV.own rfl (by simp) | exact WkV.nil_own (.inl rfl) | exact WkV.map rfl | (refine WkV.free ?_; simp [Free, FreeL] <;> assumption) | (refine WkV.free (fun _ _ => FreeL_nth ?_ _); simp [Free, FreeL]; done) | refine WkV.agg ?_ | refine WkV.tup ?_ | refine WkV.fn ?_ ?_ | exact WkO.dead | exact WkO.raw | refine WkO.ghost ?_ | exact WkO.mpE rfl trivial | refine WkO.box ?_ rfl | refine WkO.arr ?_ | refine And.intro ?_ (And.intro (by first | exact fun h => h | exact fun _ => rfl | exact nofun) ?_) | exact trivial | (intro i j hi hj)))
    · rw [h2, hasB_drop x (by omega)]; simp [Ne.symm hb]
  · refine ⟨-1, rfl, ⟨fun h => by omega, fun h => ?_⟩⟩
    rw [h2, List.drop_of_length_le (by omega)] at h
    cases h
set_option maxRecDepth 100000 in
set_option maxHeartbeats 4000000 in
theorem contains_tc (l : List Int) (x : Int) (hl : l.length ≤ 9223372036854775807) : Look Tryd.prog 45 [ints l, .imm (.int .i64 x)] (.imm (.bool (hasB l x))) := by
  refine Look.mk trivial ?_
  (refine TC_of_T Γ_ok Tryd.func45 rfl (by kernel_rfl) ?_; simp only [Tryd.ntmps45, Tryd.results45, List.length_cons, List.length_nil, Nat.reduceSub, Nat.reduceAdd, List.replicate, List.cons_append, List.nil_append])
  repeat' (first
    | (with_reducible refine hK _ ?_; clear hK K)
    | (refine callGoal_mk trivial (index_tc l x hl) ?_; rintro v σ' ⟨k, rfl, rfl, hx⟩; try (simp only [go_sem, ↓reduceIte, Nat.reduceAdd, Nat.reduceSub, Nat.reduceMul, Nat.reduceLT, Nat.reduceLeDiff, Nat.reduceEqDiff, Nat.reduceGT, Int.reduceToNat, Int.reduceBEq, Int.reduceBNe]; try simp (disch := omega) only [wrapI, wrapU, half_sum, toNat_sub1, toNat_add1, Int.toNat_natCast]))
    | ((with_reducible apply DC_call); (focus exact rfl); (focus exact rfl); (focus exact rfl); intro N hN; (simp only [go_sem, ↓reduceIte, Nat.reduceAdd, Nat.reduceSub, Nat.reduceMul, Nat.reduceLT, Nat.reduceLeDiff, Nat.reduceEqDiff, Nat.reduceGT, Int.reduceToNat, Int.reduceBEq, Int.reduceBNe]; try simp (disch := omega) only [wrapI, wrapU, half_sum, toNat_sub1, toNat_add1, Int.toNat_natCast]))
    | ((with_reducible first | refine T_seq_region Γ_ok (fun K hK => ?_) | refine T_last_region Γ_ok (fun K hK => ?_) | refine TO_callN rfl (fun N hN => ?_) | refine DCT_fork Γ_ok (fun K2 hK2 => ?_) | refine DCT_last Γ_ok ?_ | refine DC_ev Γ_ok ?_ | refine TO_ev Γ_ok ?_ | refine retQ_r ?_ | refine retQ_n ?_); (simp only [go_sem, ↓reduceIte, Nat.reduceAdd, Nat.reduceSub, Nat.reduceMul, Nat.reduceLT, Nat.reduceLeDiff, Nat.reduceEqDiff, Nat.reduceGT, Int.reduceToNat, Int.reduceBEq, Int.reduceBNe]; try simp (disch := omega) only [wrapI, wrapU, half_sum, toNat_sub1, toNat_add1, Int.toNat_natCast]))
    | (with_reducible refine hK2 _ ?_ ?_ <;> clear hK2 K2)
    | with_reducible refine gC_false ?_ | with_reducible refine gC_true ?_ | with_reducible refine dCall_true ?_
    | (with_reducible refine hN _ _ ?_; clear hN N)
    | (with_reducible refine hN _ _ (dInl rfl) ?_; clear hN N)
    | ((with_reducible refine hN _ _ (.inr ?_) ?_); (focus (simp only [go_sem, ↓reduceIte, Nat.reduceAdd, Nat.reduceSub, Nat.reduceMul, Nat.reduceLT, Nat.reduceLeDiff, Nat.reduceEqDiff, Nat.reduceGT, Int.reduceToNat, Int.reduceBEq, Int.reduceBNe]; try simp (disch := omega) only [wrapI, wrapU, half_sum, toNat_sub1, toNat_add1, Int.toNat_natCast])); all_goals (try clear hN N))
    | with_reducible refine T_seq ?_ | with_reducible refine T_block ?_ | with_reducible refine T_ret ?_ | with_reducible refine T_exit ?_ | with_reducible refine T_skip ?_ | with_reducible refine T_label ?_
    | with_reducible refine thenQ_n ?_ | with_reducible refine thenQ_e ?_ | with_reducible refine thenQ_r ?_ | with_reducible refine blockQ_n ?_ | with_reducible refine blockQ_e ?_ | with_reducible refine blockQ_r ?_
    | with_reducible refine blockQ_o (by decide) ?_
    | ((with_reducible refine T_cond _ rfl (fun hb => ?_) (fun hb => ?_)) <;> first | (cases hb; done) | (simp only [decide_eq_true_eq, decide_eq_false_iff_not, Bool.and_eq_true, Bool.or_eq_true, Bool.and_eq_false_imp, Bool.or_eq_false_iff, Bool.not_eq_true', Bool.not_eq_false', beq_iff_eq, bne_iff_ne, ne_eq, beq_eq_false_iff_ne, bne_eq_false_iff_eq, Int.not_lt, Int.not_le, ge_iff_le, gt_iff_lt] at hb) | skip)
    | (with_reducible refine And.intro (by first | exact trivial | omega | (intro hg; simp at hg ⊢ <;> omega) | (simp <;> omega)) ?_)
    | assumption | omega)
  congr 2
  cases hq : hasB l x with
  | false => rw [hq] at hx; simp at hx ⊢; omega
  | true => rw [hq] at hx; simp at hx ⊢; omega
@[go_sem, reducible] def kV (b : Bd) : AV := .vmap (.int .i64) ((idE b.ks).map (·.1)) ((idE b.ks).map (·.2))
theorem zip_fs (l : List (Value × AV)) : (l.map (·.1)).zip (l.map (·.2)) = l := by
  induction l with
  | nil => rfl
  | cons p l ih => simp [ih]
set_option maxRecDepth 100000 in
set_option maxHeartbeats 4000000 in
theorem reached_tc (b : Bd) (hg : Good b) (c : List Int) (hd : diffP b c) : Look Tryd.prog 46 [kV b, ints c, .imm (.int .i64 b.span)] (.imm (.bool (okC b c))) := by
  have hcl := diff_len hg hd
  have hf : FreeL ((idE b.ks).map (·.2)) := idE_free _
  have hz := zip_fs (idE b.ks)
  refine Look.mk trivial ?_
  (refine TC_of_T Γ_ok Tryd.func46 rfl (by kernel_rfl) ?_; simp only [Tryd.ntmps46, Tryd.results46, List.length_cons, List.length_nil, Nat.reduceSub, Nat.reduceAdd, List.replicate, List.cons_append, List.nil_append])
  (((refine goR0 _ _ _ _ _ _ _ _ ?_ ?_ ?_ ?_ ?_ ?_ ?_ ?_) <;> (repeat intro hb) <;> first | exact True.intro | refine Lf.mk ?_))
  refine T_loopW (fun m st => ∃ (i : Nat) (o : List Ky), i ≤ c.length ∧ m + i = c.length ∧ o = (c.take i).map (keyD b) ∧ o.length = i ∧
      st = ⟨[kV b, ints c, .imm (.int .i64 b.span), .top, .top, .top, .imm (.bool false), .own 0 0 o.length none, .top, .top, ints c, .imm (.int .i64 c.length), .imm (.int .i64 i)] ++ List.replicate 16 .top, [elO o.length o.toArray]⟩)
    c.length ⟨_, Wk.trans (Wk.push 43 9 (elE #[])) ?_, 0, [], by omega, rfl, rfl, rfl, rfl⟩ ?_
  · ((try simp only [List.length_append, List.length_cons, List.length_nil, Nat.zero_add]); refine Wk.intro [0] (by decide) (by decide) (by intro o ho; simp at ho ⊢ <;> omega) ?_ ?_ <;> repeat' (first | (exact WkV.free hf) | exact WkVL.nil | refine WkVL.cons ?_ ?_ | exact WkV.top | exact WkV.imm rfl | exact WkV.imm (by simp) | exact WkV.optr rfl | exact WkV.own rfl (by simp) | exact WkV.nil_own (.inl rfl) | exact WkV.map rfl | (refine WkV.free ?_; simp [Free, FreeL] <;> assumption) | (refine WkV.free (fun _ _ => FreeL_nth ?_ _); simp [Free, FreeL]; done) | refine WkV.agg ?_ | refine WkV.tup ?_ | refine WkV.fn ?_ ?_ | exact WkO.dead | exact WkO.raw | refine WkO.ghost ?_ | exact WkO.mpE rfl trivial | refine WkO.box ?_ rfl | refine WkO.arr ?_ | refine And.intro ?_ (And.intro (by first | exact fun h => h | exact fun _ => rfl | exact nofun) ?_) | exact trivial | (intro i j hi hj)))
  rintro m st ⟨i, o, h0, h1, ho, hoi, rfl⟩
  by_cases hi : i < c.length
  · have hk := keyD_mem hd (gi_mem hi)
    have hmg := mget_idE (gi c i) b.ks
    rw [show keyOf b.ks (gi c i) = some (keyD b (gi c i)) by
      obtain ⟨k, e⟩ := Option.isSome_iff_exists.1 (hd.2 _ (gi_mem hi))
      unfold keyD; rw [e]; rfl] at hmg
    have ho2 : o ++ [keyD b (gi c i)] = (c.take (i + 1)).map (keyD b) := by rw [take_gi hi, List.map_append, ho]; rfl
    generalize keyD b (gi c i) = k at hmg ho2
    have hm : ∀ z, mval (idE b.ks) z (.int .i64 (gi c i)) = kyA k := fun z => by unfold mval; rw [hmg]; rfl
    have hsn := fun p q => el_snoc o k (i := p) (j := q)
    (simp only [go_sem, ↓reduceIte, Nat.reduceAdd, Nat.reduceSub, Nat.reduceMul, Nat.reduceLT, Nat.reduceLeDiff, Nat.reduceEqDiff, Nat.reduceGT, Int.reduceToNat, Int.reduceBEq, Int.reduceBNe]; try simp (disch := omega) only [wrapI, wrapU, half_sum, toNat_sub1, toNat_add1, Int.toNat_natCast])
    (have sx1 := hz; have sx2 := hm; ((have sx3 : (0 : Nat) + 0 = 0 := rfl; have sx4 : (0 : Nat) + 0 = 0 := rfl; refine goR4 _ _ _ _ _ _ _ _ ?_ ?_ ?_ ?_ ?_ ?_ ?_ ?_) <;> (repeat intro hb) <;> first | exact True.intro | refine Lf.mk ?_))
    refine ⟨c.length - (i + 1), by omega, _, ?_, i + 1, o ++ [k], by omega, by omega, ho2, by simp; omega, rfl⟩
    ((try simp only [List.length_append, List.length_cons, List.length_nil, Nat.zero_add]); refine Wk.intro [2] (by decide) (by decide) (by intro o ho; simp at ho ⊢ <;> omega) ?_ ?_ <;> repeat' (first | (exact WkV.free hf) | (refine WkV.imm ?_; congr 1; omega) | (exact WkV.eqF (hsn _ _ (by simpa using hi) hj) (by simp)) | exact WkVL.nil | refine WkVL.cons ?_ ?_ | exact WkV.top | exact WkV.imm rfl | exact WkV.imm (by simp) | exact WkV.optr rfl | exact WkV.own rfl (by simp) | exact WkV.nil_own (.inl rfl) | exact WkV.map rfl | (refine WkV.free ?_; simp [Free, FreeL] <;> assumption) | (refine WkV.free (fun _ _ => FreeL_nth ?_ _); simp [Free, FreeL]; done) | refine WkV.agg ?_ | refine WkV.tup ?_ | refine WkV.fn ?_ ?_ | exact WkO.dead | exact WkO.raw | refine WkO.ghost ?_ | exact WkO.mpE rfl trivial | refine WkO.box ?_ rfl | refine WkO.arr ?_ | refine And.intro ?_ (And.intro (by first | exact fun h => h | exact fun _ => rfl | exact nofun) ?_) | exact trivial | (intro i j hi hj)))
  · have hie : i = c.length := by omega
    rw [hie, List.take_length] at ho
    have hS : sortK o = ordK b c := by rw [ho]; exact sortK_ord hg hd
    have hSl : (ordK b c).length = o.length := by rw [← hS, sortK_len]
    have hdv := divide_tc (ordK b c) b.span (by omega) (ordK_x hg c)
    have hv5 : ∀ i j, i < o.length → j < 9 → elE (Go.Sort.sort ltE o.toArray) i j = kyE (ordK b c) i j := fun i j _ _ => by rw [elE_sort, hS]
    have hst := sortF_tu o.length o.toArray (by simp) (by omega)
    unfold okC
    generalize ordK b c = S at *
    generalize Go.Sort.sort ltE o.toArray = A at *
    unfold kys at hdv
    rw [hSl] at hdv
    (simp only [go_sem, ↓reduceIte, Nat.reduceAdd, Nat.reduceSub, Nat.reduceMul, Nat.reduceLT, Nat.reduceLeDiff, Nat.reduceEqDiff, Nat.reduceGT, Int.reduceToNat, Int.reduceBEq, Int.reduceBNe]; try simp (disch := omega) only [wrapI, wrapU, half_sum, toNat_sub1, toNat_add1, Int.toNat_natCast])
    (have ct1 := TurnsAt.mk [0] (hst); have dl1 := hdv; ((refine goR0 _ _ _ _ _ _ _ _ ?_ ?_ ?_ ?_ ?_ ?_ ?_ ?_) <;> (repeat intro hb) <;> first | exact True.intro | refine Lf.mk ?_))
end Go.Proofs.YtddcnafocohghaaDoor
