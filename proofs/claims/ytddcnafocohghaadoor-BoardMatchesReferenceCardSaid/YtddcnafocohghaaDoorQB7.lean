/-
  board.byID, board.ids.
-/
import Derived.Test.YtddcnafocohghaaDoorQGo
import Derived.Test.YtddcnafocohghaaDoorQB5
set_option linter.unusedSimpArgs false
set_option linter.unusedVariables false
namespace Go.Proofs.YtddcnafocohghaaDoor
open Go.Ab
def idE (l : List Ky) : List (Value × AV) := l.map fun k => (.int .i64 k.id, kyA k)
theorem idE_free (l : List Ky) : FreeL ((idE l).map (·.2)) := by
  induction l with
  | nil => trivial
  | cons k l ih => exact ⟨by simp [kyA, kyL, Free, FreeL], ih⟩
theorem keq_int (a b : Int) : keq (.int .i64 a) (.int .i64 b) = decide (a = b) := by
  simp only [keq]; rw [Bool.eq_iff_iff]; simp
theorem mget_idE (id : Int) : ∀ l : List Ky, mget (idE l) (.int .i64 id) = (keyOf l id).map kyA
  | [] => rfl
  | k :: l => by
    have ih := mget_idE id l
    simp only [idE] at ih
    simp only [idE, List.map_cons, mget, keq_int, ih, keyOf, List.find?_cons]
    by_cases h : k.id = id
    · simp [h]
    · simp [h, Ne.symm h]
theorem mput_idE (k : Ky) : ∀ l : List Ky, (∀ y ∈ l, y.id ≠ k.id) → mput (idE l) (.int .i64 k.id) (kyA k) = idE (l ++ [k])
  | [], _ => rfl
  | y :: l, h => by
    have ih := mput_idE k l fun z hz => h z (List.mem_cons_of_mem _ hz)
    simp only [idE] at ih
    simp only [idE, List.map_cons, mput, keq_int, ih, List.cons_append]
    rw [if_neg (by simp; exact fun e => h y (by simp) e.symm)]
theorem mdel_idE (id : Int) : ∀ l : List Ky, (l.Pairwise fun a c => a.id < c.id) → mdel (idE l) (.int .i64 id) = idE (l.filter fun k => decide (k.id ≠ id))
  | [], _ => rfl
  | k :: l, h => by
    have h1 := List.pairwise_cons.1 h
    have ih := mdel_idE id l h1.2
    simp only [idE] at ih
    simp only [idE, List.map_cons, mdel, keq_int, ih]
    by_cases e : id = k.id
    · subst e
      rw [if_pos (by simp), List.filter_cons_of_neg (by simp), List.filter_eq_self.2]
      intro y hy
      have := h1.1 y hy
      simp; omega
    · rw [if_neg (by simpa using e), List.filter_cons_of_pos (by simpa using Ne.symm e)]
      rfl
set_option maxRecDepth 100000 in
set_option maxHeartbeats 4000000 in
theorem byID_raw (b : Bd) (hb : bdB b = true) : TC Tryd.prog 35 [bdA b] [] (fun v σ' => v = .map 1 ∧ σ' = [.box 24 (bdL b), .mp (.int .i64) (idE b.ks)]) := by
  have hg := bdB_iff.1 hb
  have hl := hg.len
  (refine TC_of_T Γ_ok Tryd.func35 rfl (by kernel_rfl) ?_; simp only [Tryd.ntmps35, Tryd.results35, List.length_cons, List.length_nil, Nat.reduceSub, Nat.reduceAdd, List.replicate, List.cons_append, List.nil_append])
  (((refine goR0 _ _ _ _ _ _ _ _ ?_ ?_ ?_ ?_ ?_ ?_ ?_ ?_) <;> (repeat intro hb) <;> first | exact True.intro | refine Lf.mk ?_))
  refine T_loopW (fun m st => ∃ i : Nat, i ≤ b.ks.length ∧ m + i = b.ks.length ∧ st = ⟨[.top, .optr 0 0 0, .imm (.map none), .map 1] ++ List.replicate 7 .top ++ [kys b.ks, .imm (.int .i64 b.ks.length), .imm (.int .i64 i)] ++ List.replicate 9 .top, [.box 24 (bdL b), .mp (.int .i64) (idE (b.ks.take i))]⟩)
    b.ks.length ⟨_, ?_, 0, by omega, rfl, rfl⟩ ?_
  · ((try simp only [List.length_append, List.length_cons, List.length_nil, Nat.zero_add]); refine Wk.intro [0, 1] (by decide) (by decide) (by intro o ho; simp at ho ⊢ <;> omega) ?_ ?_ <;> repeat' (first | exact WkVL.nil | refine WkVL.cons ?_ ?_ | exact WkV.top | exact WkV.imm rfl | exact WkV.imm (by simp) | exact WkV.optr rfl | exact WkV.own rfl (by simp) | exact WkV.nil_own (.inl rfl) | exact WkV.map rfl | (refine WkV.free ?_; simp [Free, FreeL] <;> assumption) | (refine WkV.free (fun _ _ => FreeL_nth ?_ _); simp [Free, FreeL]; done) | refine WkV.agg ?_ | refine WkV.tup ?_ | refine WkV.fn ?_ ?_ | exact WkO.dead | exact WkO.raw | refine WkO.ghost ?_ | exact WkO.mpE rfl trivial | refine WkO.box ?_ rfl | refine WkO.arr ?_ | refine And.intro ?_ (And.intro (by first | exact fun h => h | exact fun _ => rfl | exact nofun) ?_) | exact trivial | (intro i j hi hj)))
  rintro m st ⟨i, h0, h1, rfl⟩
  (simp only [go_sem, ↓reduceIte, Nat.reduceAdd, Nat.reduceSub, Nat.reduceMul, Nat.reduceLT, Nat.reduceLeDiff, Nat.reduceEqDiff, Nat.reduceGT, Int.reduceToNat, Int.reduceBEq, Int.reduceBNe]; try simp (disch := omega) only [wrapI, wrapU, half_sum, toNat_sub1, toNat_add1, Int.toNat_natCast])
  (((refine goR0 _ _ _ _ _ _ _ _ ?_ ?_ ?_ ?_ ?_ ?_ ?_ ?_) <;> (repeat intro hb) <;> first | exact True.intro | refine Lf.mk ?_))
  · have hi : i < b.ks.length := by omega
    refine ⟨b.ks.length - (i + 1), by omega, _, ?_, i + 1, by omega, by omega, rfl⟩
    have e := mput_idE (gk b.ks i) (b.ks.take i) fun y hy => by
      have h2 := hg.rise
      rw [← List.take_append_drop i b.ks, drop_gk hi] at h2
      have := (List.pairwise_append.1 h2).2.2 y hy (gk b.ks i) (by simp)
      omega
    rw [← take_gk hi] at e
    have e2 : mput (idE (List.take i b.ks)) (.int .i64 (gk b.ks i).id) (.agg [.imm (.int .i64 (gk b.ks i).id), .imm (.int .i64 (gk b.ks i).x), .imm (.int .i64 (gk b.ks i).row), .imm (.int .i64 (gk b.ks i).p.a), .imm (.int .i64 (gk b.ks i).p.b), .imm (.int .i64 (gk b.ks i).p.c), .imm (.int .i64 (gk b.ks i).p.d), .imm (.int .i64 (gk b.ks i).p.e), .imm (.int .i64 (gk b.ks i).p.f)]) = idE (List.take (i + 1) b.ks) := e
    rw [e2]
    ((try simp only [List.length_append, List.length_cons, List.length_nil, Nat.zero_add]); refine Wk.intro [0, 1] (by decide) (by decide) (by intro o ho; simp at ho ⊢ <;> omega) ?_ ?_ <;> repeat' (first | (exact WkO.mpE rfl (idE_free _)) | (refine WkV.imm ?_; congr 1; omega) | exact WkVL.nil | refine WkVL.cons ?_ ?_ | exact WkV.top | exact WkV.imm rfl | exact WkV.imm (by simp) | exact WkV.optr rfl | exact WkV.own rfl (by simp) | exact WkV.nil_own (.inl rfl) | exact WkV.map rfl | (refine WkV.free ?_; simp [Free, FreeL] <;> assumption) | (refine WkV.free (fun _ _ => FreeL_nth ?_ _); simp [Free, FreeL]; done) | refine WkV.agg ?_ | refine WkV.tup ?_ | refine WkV.fn ?_ ?_ | exact WkO.dead | exact WkO.raw | refine WkO.ghost ?_ | exact WkO.mpE rfl trivial | refine WkO.box ?_ rfl | refine WkO.arr ?_ | refine And.intro ?_ (And.intro (by first | exact fun h => h | exact fun _ => rfl | exact nofun) ?_) | exact trivial | (intro i j hi hj)))
  · rw [List.take_of_length_le (by omega)]
theorem idE_pl (l : List Ky) : PlL ((idE l).map (·.2)) := by
  induction l with
  | nil => trivial
  | cons k l ih => exact ⟨by simp [kyA, kyL, Pl, PlL], ih⟩
theorem byID_tc (b : Bd) (hb : bdB b = true) : Makes Tryd.prog 35 [bdA b] (.map 0) [.mp (.int .i64) (idE b.ks)] := by
  refine Makes.gen [] trivial (fun a ha => by simp only [List.mem_singleton] at ha; subst ha; exact idE_pl _) ((byID_raw b hb).mono fun v σ' ⟨hv, hs⟩ => ⟨[1], by simp, ?_, ?_, ?_⟩)
  · intro o ho
    simp only [List.mem_singleton] at ho
    subst ho
    rw [hs]; simp
  · rw [hv]; exact WkV.map rfl
  · rw [hs]; exact ⟨WkO.mpE rfl (idE_free _), fun h => h, trivial⟩
def idP (l : List Ky) (i k : Nat) (_ : Nat) : AV := .imm (.int .i64 (if k < i then (gk l k).id else 0))
@[simp] theorem idP_free (l : List Ky) (i k j : Nat) : Free (idP l i k j) := trivial
theorem idP_upd (l : List Ky) (i : Nat) {k j : Nat} (hj : j < 1) : updE (idP l i) i 0 [.imm (.int .i64 (gk l i).id)] k j = idP l (i + 1) k j := by
  obtain rfl : j = 0 := by omega
  unfold updE idP
  by_cases h : k = i
  · subst h; simp [nth]
  · rw [if_neg (fun hh => h hh.1)]
    by_cases h2 : k < i
    · rw [if_pos h2, if_pos (by omega)]
    · rw [if_neg h2, if_neg (by omega)]
theorem gi_map (l : List Ky) {k : Nat} (h : k < l.length) : gi (l.map (·.id)) k = (gk l k).id := by
  simp [gi, gk, h]
set_option maxRecDepth 100000 in
set_option maxHeartbeats 4000000 in
theorem ids_raw (l : List Ky) (hl : l.length ≤ 100000) : TC Tryd.prog 39 [kys l] [] (fun v σ' => v = .own 0 0 l.length (some l.length) ∧ σ' = [.arr 3 1 l.length (idP l l.length)]) := by
  have hup := fun i k j => idP_upd l i (k := k) (j := j)
  (refine TC_of_T Γ_ok Tryd.func39 rfl (by kernel_rfl) ?_; simp only [Tryd.ntmps39, Tryd.results39, List.length_cons, List.length_nil, Nat.reduceSub, Nat.reduceAdd, List.replicate, List.cons_append, List.nil_append])
  (((refine goR0 _ _ _ _ _ _ _ _ ?_ ?_ ?_ ?_ ?_ ?_ ?_ ?_) <;> (repeat intro hb) <;> first | exact True.intro | refine Lf.mk ?_))
  refine T_loopW (fun m st => ∃ i : Nat, i ≤ l.length ∧ m + i = l.length ∧ st = ⟨[kys l, .top, .top, .own 0 0 l.length (some l.length), .top, .top, .top, .top, .top, kys l, .imm (.int .i64 l.length), .imm (.int .i64 i)] ++ List.replicate 11 .top, [.arr 3 1 l.length (idP l i)]⟩)
    l.length ⟨_, ?_, 0, by omega, rfl, rfl⟩ ?_
  · have h0 : ∀ k j, j < 1 → nth [AV.imm (.int .i64 0)] j = idP l 0 k j := fun k j hj => by
      obtain rfl : j = 0 := by omega
      simp [nth, idP]
    ((try simp only [List.length_append, List.length_cons, List.length_nil, Nat.zero_add]); refine Wk.intro [0] (by decide) (by decide) (by intro o ho; simp at ho ⊢ <;> omega) ?_ ?_ <;> repeat' (first | (exact WkV.eqF (h0 _ _ hj) (by simp)) | exact WkVL.nil | refine WkVL.cons ?_ ?_ | exact WkV.top | exact WkV.imm rfl | exact WkV.imm (by simp) | exact WkV.optr rfl | exact WkV.own rfl (by simp) | exact WkV.nil_own (.inl rfl) | exact WkV.map rfl | (refine WkV.free ?_; simp [Free, FreeL] <;> assumption) | (refine WkV.free (fun _ _ => FreeL_nth ?_ _); simp [Free, FreeL]; done) | refine WkV.agg ?_ | refine WkV.tup ?_ | refine WkV.fn ?_ ?_ | exact WkO.dead | exact WkO.raw | refine WkO.ghost ?_ | exact WkO.mpE rfl trivial | refine WkO.box ?_ rfl | refine WkO.arr ?_ | refine And.intro ?_ (And.intro (by first | exact fun h => h | exact fun _ => rfl | exact nofun) ?_) | exact trivial | (intro i j hi hj)))
  rintro m st ⟨i, h0, h1, rfl⟩
  (simp only [go_sem, ↓reduceIte, Nat.reduceAdd, Nat.reduceSub, Nat.reduceMul, Nat.reduceLT, Nat.reduceLeDiff, Nat.reduceEqDiff, Nat.reduceGT, Int.reduceToNat, Int.reduceBEq, Int.reduceBNe]; try simp (disch := omega) only [wrapI, wrapU, half_sum, toNat_sub1, toNat_add1, Int.toNat_natCast])
  (((refine goR0 _ _ _ _ _ _ _ _ ?_ ?_ ?_ ?_ ?_ ?_ ?_ ?_) <;> (repeat intro hb) <;> first | exact True.intro | refine Lf.mk ?_))
  · refine ⟨l.length - (i + 1), by omega, _, ?_, i + 1, by omega, by omega, rfl⟩
    ((try simp only [List.length_append, List.length_cons, List.length_nil, Nat.zero_add]); refine Wk.intro [0] (by decide) (by decide) (by intro o ho; simp at ho ⊢ <;> omega) ?_ ?_ <;> repeat' (first | (refine WkV.imm ?_; congr 1; omega) | (exact WkV.eqF (hup _ _ _ hj) (by simp)) | exact WkVL.nil | refine WkVL.cons ?_ ?_ | exact WkV.top | exact WkV.imm rfl | exact WkV.imm (by simp) | exact WkV.optr rfl | exact WkV.own rfl (by simp) | exact WkV.nil_own (.inl rfl) | exact WkV.map rfl | (refine WkV.free ?_; simp [Free, FreeL] <;> assumption) | (refine WkV.free (fun _ _ => FreeL_nth ?_ _); simp [Free, FreeL]; done) | refine WkV.agg ?_ | refine WkV.tup ?_ | refine WkV.fn ?_ ?_ | exact WkO.dead | exact WkO.raw | refine WkO.ghost ?_ | exact WkO.mpE rfl trivial | refine WkO.box ?_ rfl | refine WkO.arr ?_ | refine And.intro ?_ (And.intro (by first | exact fun h => h | exact fun _ => rfl | exact nofun) ?_) | exact trivial | (intro i j hi hj)))
  · obtain rfl : i = l.length := by omega
    rfl
theorem ids_tc (l : List Ky) (hl : l.length ≤ 100000) : Makes Tryd.prog 39 [kys l] (.own 0 0 l.length (some l.length)) [intO (l.map (·.id))] := by
  refine Makes.gen [] trivial (fun a ha => by simp only [List.mem_singleton] at ha; subst ha; exact fun i j => inE_pl _ i j) ((ids_raw l hl).mono fun v σ' ⟨hv, hs⟩ => ⟨[0], by simp, ?_, ?_, ?_⟩)
  · intro o ho
    simp only [List.mem_singleton] at ho
    subst ho
    rw [hs]; simp
  · rw [hv]; exact WkV.own rfl (by simp)
  · rw [hs]
    refine ⟨?_, fun h => h, trivial⟩
    rw [show intO (l.map (·.id)) = .arr 3 1 l.length (inE (l.map (·.id))) by unfold intO; rw [List.length_map]]
    refine WkO.arr fun i j hi hj => WkV.eqF ?_ (by simp)
    unfold idP inE
    rw [gi_map l hi, if_pos hi]
end Go.Proofs.YtddcnafocohghaaDoor
