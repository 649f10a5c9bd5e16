/-
  The reference's Chord (draft).
-/
import Derived.Test.YtddcnafocohghaaDoorQGo
import Derived.Test.YtddcnafocohghaaDoorQR6
import Derived.Test.YtddcnafocohghaaDoorQP8
import Derived.Test.YtddcnafocohghaaDoorQB10
set_option linter.unusedSimpArgs false
set_option linter.unusedVariables false
namespace Go.Proofs.YtddcnafocohghaaDoor
open Go.Ab
theorem limC_snoc (L : List (List Int)) (l : List Int) : limC (L ++ [l]) = capI (limC L) l := by
  unfold limC; rw [List.foldl_append]; rfl
theorem chord_opt {b : Bd} {vs : List P6} {k : Int} (hb : bdB b = true) (h : optR b vs = ([], k)) (hk : k ≠ 0) : chordR b vs = ([], k) := by
  unfold chordR; rw [if_pos hb, h]; simp [hk]
theorem opt_1 {b : Bd} {vs : List P6} (e : vs.all vOk = false) : optR b vs = ([], 1) := by unfold optR; rw [if_pos e]
theorem opt_4 {b : Bd} {vs : List P6} (e : vs.all vOk = true) (h : (optL b vs).any (fun l => l.isEmpty) = true) : optR b vs = ([], 4) := by unfold optR; rw [if_neg (by rw [e]; simp), if_pos h]
theorem any_pos {L : List (List Int)} (h : ∀ l ∈ L, 0 < l.length) : ¬ L.any (fun l => l.isEmpty) = true := by
  rw [List.any_eq_true]
  rintro ⟨l, hl, h2⟩
  have := h l hl
  cases l with
  | nil => simp at this
  | cons a l => simp at h2
theorem opt_2 {b : Bd} {vs : List P6} (e : vs.all vOk = true) (h : ∀ l ∈ optL b vs, 0 < l.length) (h2 : vs.length > 12 ∨ 10000 < limC (optL b vs)) : optR b vs = ([], 2) := by
  unfold optR; rw [if_neg (by rw [e]; simp), if_neg (any_pos h), if_pos h2]
theorem opt_0 {b : Bd} {vs : List P6} (e : vs.all vOk = true) (h : ∀ l ∈ optL b vs, 0 < l.length) (h2 : ¬ (vs.length > 12 ∨ 10000 < limC (optL b vs))) : optR b vs = (optL b vs, 0) := by
  unfold optR; rw [if_neg (by rw [e]; simp), if_neg (any_pos h), if_neg h2]
theorem chord_0 {b : Bd} {vs : List P6} (hb : bdB b = true) (h : optR b vs = (optL b vs, 0)) : chordR b vs = (match (prodL (optL b vs)).find? (goodC b) with | some l => (l, 0) | none => ([], 20)) := by
  unfold chordR; rw [if_pos hb, h]; rfl
theorem prodL_at {L : List (List Int)} (h : 0 < lenP L) {n : Nat} (hn : n < lenP L) : (prodL L)[n]? = some (decN L n) := by
  have := prodL_dec L h n
  rwa [Nat.mod_eq_of_lt hn] at this
theorem find_at {L : List (List Int)} {p : List Int → Bool} (h : 0 < lenP L) {n : Nat} (hn : n < lenP L) (h1 : ∀ q, q < n → p (decN L q) = false) (h2 : p (decN L n) = true) : (prodL L).find? p = some (decN L n) := by
  rw [List.find?_eq_some_iff_getElem]
  have hl := prodL_lenP L
  have hg := prodL_at h hn
  refine ⟨h2, n, by omega, ?_, fun q hq => ?_⟩
  · exact (List.getElem?_eq_some_iff.1 hg).2
  · have h3 := prodL_at h (show q < lenP L by omega)
    rw [(List.getElem?_eq_some_iff.1 h3).2, h1 q hq]
    rfl
theorem find_no {L : List (List Int)} {p : List Int → Bool} (h : 0 < lenP L) (h1 : ∀ q, q < lenP L → p (decN L q) = false) : (prodL L).find? p = none := by
  rw [List.find?_eq_none]
  intro t ht
  obtain ⟨n, hn, rfl⟩ := List.mem_iff_getElem.1 ht
  have hl := prodL_lenP L
  have h3 := prodL_at h (show n < lenP L by omega)
  rw [(List.getElem?_eq_some_iff.1 h3).2, h1 n (by omega)]
  simp
theorem decN_len : ∀ (L : List (List Int)) (n : Nat), (decN L n).length = L.length
  | [], _ => rfl
  | l :: r, n => by rw [decN, List.length_cons, decN_len r n, List.length_cons]
theorem decN_get : ∀ (L : List (List Int)) (n i : Nat), i < L.length → gi (decN L n) i = gi (gl L i) (n / lenP (L.drop (i + 1)) % (gl L i).length)
  | l :: r, n, 0, _ => by simp [decN, gi, gl]
  | l :: r, n, i + 1, h => by
    have := decN_get r n i (by simpa using h)
    simpa [decN, gi, gl] using this
theorem lenP_drop {L : List (List Int)} {i : Nat} (h : i < L.length) : lenP (L.drop i) = (gl L i).length * lenP (L.drop (i + 1)) := by
  rw [List.drop_eq_getElem_cons h]
  simp [lenP, gl, h]
def deE (t : List Int) (p x j : Nat) : AV := if p ≤ x then inE t x j else .imm (.int .i64 0)
theorem deE_pl (t : List Int) (p x j : Nat) : Pl (deE t p x j) := by unfold deE; split; exact inE_pl _ _ _; trivial
@[simp] theorem deE_free (t : List Int) (p x j : Nat) : Free (deE t p x j) := Pl.free _ (deE_pl t p x j)
theorem deE_0 (t : List Int) : deE t 0 = inE t := by funext x j; unfold deE; rw [if_pos (Nat.zero_le _)]
theorem deE_step {t : List Int} {p x j : Nat} {v : Int} (hv : v = gi t p) (hj : j < 1) : updE (deE t (p + 1)) p 0 [.imm (.int .i64 v)] x j = deE t p x j := by
  subst hv
  obtain rfl : j = 0 := by omega
  unfold updE deE
  by_cases h : x = p
  · subst h
    rw [if_pos ⟨rfl, by simp, by simp⟩, if_pos (Nat.le_refl _)]
    rfl
  · rw [if_neg fun hh => h hh.1]
    by_cases h2 : p + 1 ≤ x
    · rw [if_pos h2, if_pos (by omega)]
    · rw [if_neg h2, if_neg (by omega)]
set_option maxRecDepth 100000 in
set_option maxHeartbeats 4000000 in
theorem rchord_raw (b : Bd) (vs : List P6) (hl : b.ks.length ≤ 9223372036854775807) (hv : vs.length * 48 ≤ 140737488351232) : TC Tryd.prog 20 [bdA b, vts vs] [] (fun u σ' =>
    (u = .tup [.imm (.slice none 0 0), .imm (.int .i64 (chordR b vs).2)] ∧ (chordR b vs).1.length = 0) ∨
    ∃ k c, k < σ'.length ∧ u = .tup [.own k 0 (chordR b vs).1.length c, .imm (.int .i64 (chordR b vs).2)] ∧ nthO σ' k = intO (chordR b vs).1) := by
  have c2 := rvalid_b b hl
  by_cases hb : bdB b = true
  · have hbd := hb
    rw [hb] at c2
    have hg := bdB_iff.1 hb
    have hl2 := hg.len
    (refine TC_of_T Γ_ok Tryd.func20 rfl (by kernel_rfl) ?_; simp only [Tryd.ntmps20, Tryd.results20, List.length_cons, List.length_nil, Nat.reduceSub, Nat.reduceAdd, List.replicate, List.cons_append, List.nil_append])
    (have dl1 := c2; repeat' (first | with_reducible refine T_seq_drawT (id := 13) Γ_ok drawsAny pl20_13 (by kernel_rfl) (fun K hK => ?_) | with_reducible refine T_last_drawT (id := 13) Γ_ok drawsAny pl20_13 (by kernel_rfl) (fun K hK => ?_) | with_reducible refine T_seq_drawT (id := 28) Γ_ok drawsAny pl20_28 (by kernel_rfl) (fun K hK => ?_) | with_reducible refine T_last_drawT (id := 28) Γ_ok drawsAny pl20_28 (by kernel_rfl) (fun K hK => ?_) | with_reducible refine T_seq_drawT (id := 30) Γ_ok drawsAny pl20_30 (by kernel_rfl) (fun K hK => ?_) | with_reducible refine T_last_drawT (id := 30) Γ_ok drawsAny pl20_30 (by kernel_rfl) (fun K hK => ?_) | ((refine goR0 _ _ _ _ _ _ _ _ ?_ ?_ ?_ ?_ ?_ ?_ ?_ ?_) <;> (repeat intro hb) <;> first | exact True.intro | refine Lf.mk ?_)))
    refine T_loopW (fun m st => ∃ i : Nat, i ≤ vs.length ∧ m + i = vs.length ∧ (∀ k, k < i → vOk (gv vs k) = true) ∧
        st = ⟨[.top, vts vs, .optr 0 0 0, .top, .imm (.slice none 0 0), .imm (.int .i64 0), .imm (.int .i64 i)] ++ List.replicate 109 .top, [opO b]⟩)
      vs.length ⟨_, ?_, 0, by omega, rfl, (fun k hk => by omega), rfl⟩ ?_
    · ((try simp only [List.length_append, List.length_cons, List.length_nil, Nat.zero_add]); refine Wk.intro [0] (by decide) (by decide) (by intro o ho; simp at ho ⊢ <;> omega) ?_ ?_ <;> repeat' (first | exact WkVL.nil | refine WkVL.cons ?_ ?_ | exact WkV.top | exact WkV.imm rfl | exact WkV.imm (by simp) | exact WkV.optr rfl | exact WkV.own rfl (by simp) | exact WkV.nil_own (.inl rfl) | exact WkV.map rfl | (refine WkV.free ?_; simp [Free, FreeL] <;> assumption) | (refine WkV.free (fun _ _ => FreeL_nth ?_ _); simp [Free, FreeL]; done) | refine WkV.agg ?_ | refine WkV.tup ?_ | refine WkV.fn ?_ ?_ | exact WkO.dead | exact WkO.raw | refine WkO.ghost ?_ | exact WkO.mpE rfl trivial | refine WkO.box ?_ rfl | refine WkO.arr ?_ | refine And.intro ?_ (And.intro (by first | exact fun h => h | exact fun _ => rfl | exact nofun) ?_) | exact trivial | (intro i j hi hj)))
    rintro m st ⟨i, h0, h1, hok, rfl⟩
    by_cases hi : i < vs.length
    · have cv := rvalid_v (gv vs i)
      by_cases hvi : vOk (gv vs i) = true
      · rw [hvi] at cv
        (simp only [go_sem, ↓reduceIte, Nat.reduceAdd, Nat.reduceSub, Nat.reduceMul, Nat.reduceLT, Nat.reduceLeDiff, Nat.reduceEqDiff, Nat.reduceGT, Int.reduceToNat, Int.reduceBEq, Int.reduceBNe]; try simp (disch := omega) only [wrapI, wrapU, half_sum, toNat_sub1, toNat_add1, Int.toNat_natCast])
        (have dl1 := cv; repeat' (first | with_reducible refine T_seq_drawT (id := 13) Γ_ok drawsAny pl20_13 (by kernel_rfl) (fun K hK => ?_) | with_reducible refine T_last_drawT (id := 13) Γ_ok drawsAny pl20_13 (by kernel_rfl) (fun K hK => ?_) | with_reducible refine T_seq_drawT (id := 28) Γ_ok drawsAny pl20_28 (by kernel_rfl) (fun K hK => ?_) | with_reducible refine T_last_drawT (id := 28) Γ_ok drawsAny pl20_28 (by kernel_rfl) (fun K hK => ?_) | with_reducible refine T_seq_drawT (id := 30) Γ_ok drawsAny pl20_30 (by kernel_rfl) (fun K hK => ?_) | with_reducible refine T_last_drawT (id := 30) Γ_ok drawsAny pl20_30 (by kernel_rfl) (fun K hK => ?_) | ((refine goR0 _ _ _ _ _ _ _ _ ?_ ?_ ?_ ?_ ?_ ?_ ?_ ?_) <;> (repeat intro hb) <;> first | exact True.intro | refine Lf.mk ?_)))
        refine ⟨vs.length - (i + 1), by omega, _, ?_, i + 1, by omega, by omega, (fun k hk => ?_), rfl⟩
        · ((try simp only [List.length_append, List.length_cons, List.length_nil, Nat.zero_add]); refine Wk.intro [0] (by decide) (by decide) (by intro o ho; simp at ho ⊢ <;> omega) ?_ ?_ <;> repeat' (first | (refine WkV.imm ?_; congr 1; omega) | exact WkVL.nil | refine WkVL.cons ?_ ?_ | exact WkV.top | exact WkV.imm rfl | exact WkV.imm (by simp) | exact WkV.optr rfl | exact WkV.own rfl (by simp) | exact WkV.nil_own (.inl rfl) | exact WkV.map rfl | (refine WkV.free ?_; simp [Free, FreeL] <;> assumption) | (refine WkV.free (fun _ _ => FreeL_nth ?_ _); simp [Free, FreeL]; done) | refine WkV.agg ?_ | refine WkV.tup ?_ | refine WkV.fn ?_ ?_ | exact WkO.dead | exact WkO.raw | refine WkO.ghost ?_ | exact WkO.mpE rfl trivial | refine WkO.box ?_ rfl | refine WkO.arr ?_ | refine And.intro ?_ (And.intro (by first | exact fun h => h | exact fun _ => rfl | exact nofun) ?_) | exact trivial | (intro i j hi hj)))
        · by_cases e : k = i
          · rw [e]; exact hvi
          · exact hok k (by omega)
      · have e : vs.all vOk = false := by
          rw [List.all_eq_false]
          exact ⟨_, gv_mem hi, hvi⟩
        rw [Bool.not_eq_true] at hvi
        rw [hvi] at cv
        rw [chord_opt hbd (opt_1 e) (by decide)]
        (simp only [go_sem, ↓reduceIte, Nat.reduceAdd, Nat.reduceSub, Nat.reduceMul, Nat.reduceLT, Nat.reduceLeDiff, Nat.reduceEqDiff, Nat.reduceGT, Int.reduceToNat, Int.reduceBEq, Int.reduceBNe]; try simp (disch := omega) only [wrapI, wrapU, half_sum, toNat_sub1, toNat_add1, Int.toNat_natCast])
        (have dl1 := cv; repeat' (first | with_reducible refine T_seq_drawT (id := 13) Γ_ok drawsAny pl20_13 (by kernel_rfl) (fun K hK => ?_) | with_reducible refine T_last_drawT (id := 13) Γ_ok drawsAny pl20_13 (by kernel_rfl) (fun K hK => ?_) | with_reducible refine T_seq_drawT (id := 28) Γ_ok drawsAny pl20_28 (by kernel_rfl) (fun K hK => ?_) | with_reducible refine T_last_drawT (id := 28) Γ_ok drawsAny pl20_28 (by kernel_rfl) (fun K hK => ?_) | with_reducible refine T_seq_drawT (id := 30) Γ_ok drawsAny pl20_30 (by kernel_rfl) (fun K hK => ?_) | with_reducible refine T_last_drawT (id := 30) Γ_ok drawsAny pl20_30 (by kernel_rfl) (fun K hK => ?_) | ((refine goR0 _ _ _ _ _ _ _ _ ?_ ?_ ?_ ?_ ?_ ?_ ?_ ?_) <;> (repeat intro hb) <;> first | exact True.intro | refine Lf.mk ?_)))
        exact .inl trivial
    · have e : vs.all vOk = true := by
        rw [List.all_eq_true]
        intro v hv
        obtain ⟨k, hk, rfl⟩ := List.mem_iff_getElem.1 hv
        have := hok k (by omega)
        simpa [gv, hk] using this
      have hie : i = vs.length := by omega
      subst hie
      (simp only [go_sem, ↓reduceIte, Nat.reduceAdd, Nat.reduceSub, Nat.reduceMul, Nat.reduceLT, Nat.reduceLeDiff, Nat.reduceEqDiff, Nat.reduceGT, Int.reduceToNat, Int.reduceBEq, Int.reduceBNe]; try simp (disch := omega) only [wrapI, wrapU, half_sum, toNat_sub1, toNat_add1, Int.toNat_natCast])
      (repeat' (first | with_reducible refine T_seq_drawT (id := 13) Γ_ok drawsAny pl20_13 (by kernel_rfl) (fun K hK => ?_) | with_reducible refine T_last_drawT (id := 13) Γ_ok drawsAny pl20_13 (by kernel_rfl) (fun K hK => ?_) | with_reducible refine T_seq_drawT (id := 28) Γ_ok drawsAny pl20_28 (by kernel_rfl) (fun K hK => ?_) | with_reducible refine T_last_drawT (id := 28) Γ_ok drawsAny pl20_28 (by kernel_rfl) (fun K hK => ?_) | with_reducible refine T_seq_drawT (id := 30) Γ_ok drawsAny pl20_30 (by kernel_rfl) (fun K hK => ?_) | with_reducible refine T_last_drawT (id := 30) Γ_ok drawsAny pl20_30 (by kernel_rfl) (fun K hK => ?_) | ((refine goR0 _ _ _ _ _ _ _ _ ?_ ?_ ?_ ?_ ?_ ?_ ?_ ?_) <;> (repeat intro hb) <;> first | exact True.intro | refine Lf.mk ?_)))
      refine T_loopW (fun m st => ∃ (i : Nat) (L : List (List Int)), i ≤ vs.length ∧ m + i = vs.length ∧ L = (vs.take i).map (findL b) ∧ L.length = i ∧ (∀ l ∈ L, 0 < l.length) ∧
          st = ⟨[.top, vts vs, .optr 0 0 0, .top, .imm (.slice none 0 0), .imm (.int .i64 0), .top, .own 1 0 L.length none, .imm (.int .i64 (limC L)), .imm (.int .i64 i)] ++ List.replicate 106 .top, [opO b, olO L]⟩)
        vs.length ⟨_, Wk.trans (Wk.push 27 1 (olE [])) ?_, 0, [], by omega, rfl, rfl, rfl, (by simp), rfl⟩ ?_
      · ((try simp only [List.length_append, List.length_cons, List.length_nil, Nat.zero_add]); refine Wk.intro [0, 1] (by decide) (by decide) (by intro o ho; simp at ho ⊢ <;> omega) ?_ ?_ <;> repeat' (first | exact WkVL.nil | refine WkVL.cons ?_ ?_ | exact WkV.top | exact WkV.imm rfl | exact WkV.imm (by simp) | exact WkV.optr rfl | exact WkV.own rfl (by simp) | exact WkV.nil_own (.inl rfl) | exact WkV.map rfl | (refine WkV.free ?_; simp [Free, FreeL] <;> assumption) | (refine WkV.free (fun _ _ => FreeL_nth ?_ _); simp [Free, FreeL]; done) | refine WkV.agg ?_ | refine WkV.tup ?_ | refine WkV.fn ?_ ?_ | exact WkO.dead | exact WkO.raw | refine WkO.ghost ?_ | exact WkO.mpE rfl trivial | refine WkO.box ?_ rfl | refine WkO.arr ?_ | refine And.intro ?_ (And.intro (by first | exact fun h => h | exact fun _ => rfl | exact nofun) ?_) | exact trivial | (intro i j hi hj)))
      rintro m2 st ⟨i, L, g0, g1, hL, hLl, hpos, rfl⟩
      by_cases hi2 : i < vs.length
      · have hvi : vOk (gv vs i) = true := hok i hi2
        have hf := rfind_tc b (gv vs i) hl
        unfold findR at hf
        rw [if_pos ⟨hbd, hvi⟩] at hf
        simp only [] at hf
        have hfl := findL_len hg (gv vs i)
        have hL2 : L ++ [findL b (gv vs i)] = (vs.take (i + 1)).map (findL b) := by rw [take_gv hi2, List.map_append, hL]; rfl
        have hemp : (findL b (gv vs i)).length = 0 → (optL b vs).any (fun l => l.isEmpty) = true := fun h => by
          rw [List.any_eq_true]
          exact ⟨findL b (gv vs i), List.mem_map.2 ⟨_, gv_mem hi2, rfl⟩, by simpa using h⟩
        have hlb := limC_bd L 1 (by omega) (by omega)
        have hls := limC_snoc L (findL b (gv vs i))
        unfold capI at hls
        have hml : limC L * ((findL b (gv vs i)).length : Int) ≤ 10001 * 120 := by
          unfold limC
          exact Int.mul_le_mul hlb.2 (by omega) (by omega) (by omega)
        have hml0 : 0 ≤ limC L * ((findL b (gv vs i)).length : Int) := Int.mul_nonneg hlb.1 (by omega)
        generalize findL b (gv vs i) = l at hf hfl hL2 hemp hls hml hml0
        generalize hlc : limC L = c at *
        generalize hprod : c * (l.length : Int) = pr at *
        (simp only [go_sem, ↓reduceIte, Nat.reduceAdd, Nat.reduceSub, Nat.reduceMul, Nat.reduceLT, Nat.reduceLeDiff, Nat.reduceEqDiff, Nat.reduceGT, Int.reduceToNat, Int.reduceBEq, Int.reduceBNe]; try simp (disch := omega) only [wrapI, wrapU, half_sum, toNat_sub1, toNat_add1, Int.toNat_natCast])
        (have cm1 := hf; repeat' (first | with_reducible refine T_seq_drawT (id := 13) Γ_ok drawsAny pl20_13 (by kernel_rfl) (fun K hK => ?_) | with_reducible refine T_last_drawT (id := 13) Γ_ok drawsAny pl20_13 (by kernel_rfl) (fun K hK => ?_) | with_reducible refine T_seq_drawT (id := 28) Γ_ok drawsAny pl20_28 (by kernel_rfl) (fun K hK => ?_) | with_reducible refine T_last_drawT (id := 28) Γ_ok drawsAny pl20_28 (by kernel_rfl) (fun K hK => ?_) | with_reducible refine T_seq_drawT (id := 30) Γ_ok drawsAny pl20_30 (by kernel_rfl) (fun K hK => ?_) | with_reducible refine T_last_drawT (id := 30) Γ_ok drawsAny pl20_30 (by kernel_rfl) (fun K hK => ?_) | ((refine goR0 _ _ _ _ _ _ _ _ ?_ ?_ ?_ ?_ ?_ ?_ ?_ ?_) <;> (repeat intro hb) <;> first | exact True.intro | refine Lf.mk ?_)))
        · rw [chord_opt hbd (opt_4 e (hemp (by omega))) (by decide)]
          exact .inl ⟨rfl, rfl⟩
        · refine ⟨vs.length - (i + 1), by omega, _, ?_, i + 1, L ++ [l], by omega, by omega, hL2, by simp; omega, (fun x hx => ?_), rfl⟩
          · rw [hls]
            ((try simp only [List.length_append, List.length_cons, List.length_nil, Nat.zero_add]); refine Wk.intro [0, 4] (by decide) (by decide) (by intro o ho; simp at ho ⊢ <;> omega) ?_ ?_ <;> repeat' (first | (exact wkOl rfl (by intro p hp; simp only [List.mem_cons, List.not_mem_nil, or_false] at hp; rcases hp with rfl | rfl <;> exact ⟨by decide, rfl⟩) (by simpa using hi) hj) | (refine WkV.imm ?_; congr 1; omega) | exact WkVL.nil | refine WkVL.cons ?_ ?_ | exact WkV.top | exact WkV.imm rfl | exact WkV.imm (by simp) | exact WkV.optr rfl | exact WkV.own rfl (by simp) | exact WkV.nil_own (.inl rfl) | exact WkV.map rfl | (refine WkV.free ?_; simp [Free, FreeL] <;> assumption) | (refine WkV.free (fun _ _ => FreeL_nth ?_ _); simp [Free, FreeL]; done) | refine WkV.agg ?_ | refine WkV.tup ?_ | refine WkV.fn ?_ ?_ | exact WkO.dead | exact WkO.raw | refine WkO.ghost ?_ | exact WkO.mpE rfl trivial | refine WkO.box ?_ rfl | refine WkO.arr ?_ | refine And.intro ?_ (And.intro (by first | exact fun h => h | exact fun _ => rfl | exact nofun) ?_) | exact trivial | (intro i j hi hj)))
          · rcases List.mem_append.1 hx with hx | hx
            · exact hpos x hx
            · rw [List.mem_singleton] at hx; subst hx; omega
      · have hie : i = vs.length := by omega
        have hL2 : L = optL b vs := by rw [hL, List.take_of_length_le (by omega)]; rfl
        have hpos2 : ∀ l ∈ optL b vs, 0 < l.length := by rw [← hL2]; exact hpos
        have hlim := limC_len hpos
        have hlp := lenP_pos hpos
        (simp only [go_sem, ↓reduceIte, Nat.reduceAdd, Nat.reduceSub, Nat.reduceMul, Nat.reduceLT, Nat.reduceLeDiff, Nat.reduceEqDiff, Nat.reduceGT, Int.reduceToNat, Int.reduceBEq, Int.reduceBNe]; try simp (disch := omega) only [wrapI, wrapU, half_sum, toNat_sub1, toNat_add1, Int.toNat_natCast])
        (repeat' (first | with_reducible refine T_seq_drawT (id := 13) Γ_ok drawsAny pl20_13 (by kernel_rfl) (fun K hK => ?_) | with_reducible refine T_last_drawT (id := 13) Γ_ok drawsAny pl20_13 (by kernel_rfl) (fun K hK => ?_) | with_reducible refine T_seq_drawT (id := 28) Γ_ok drawsAny pl20_28 (by kernel_rfl) (fun K hK => ?_) | with_reducible refine T_last_drawT (id := 28) Γ_ok drawsAny pl20_28 (by kernel_rfl) (fun K hK => ?_) | with_reducible refine T_seq_drawT (id := 30) Γ_ok drawsAny pl20_30 (by kernel_rfl) (fun K hK => ?_) | with_reducible refine T_last_drawT (id := 30) Γ_ok drawsAny pl20_30 (by kernel_rfl) (fun K hK => ?_) | ((refine goR0 _ _ _ _ _ _ _ _ ?_ ?_ ?_ ?_ ?_ ?_ ?_ ?_) <;> (repeat intro hb) <;> first | exact True.intro | refine Lf.mk ?_)))
        · rw [chord_opt hbd (opt_2 e hpos2 (by rw [← hL2]; omega)) (by decide)]
          exact .inl ⟨rfl, rfl⟩
        · have ho0 := opt_0 e hpos2 (by rw [← hL2]; omega)
          rw [chord_0 hbd ho0, ← hL2]
          rw [hlim (by omega)]
          have hlq : lenP L ≤ 10000 := by have := hlim (by omega); omega
          have hLv : L.length = vs.length := by omega
          have hlen : ∀ l ∈ L, l.length ≤ 120 := by
            rw [hL]
            intro l hl
            obtain ⟨v, _, rfl⟩ := List.mem_map.1 hl
            exact findL_len hg v
          clear hL hL2
          refine T_loopW (fun m st => ∃ (n : Nat), n ≤ lenP L ∧ m + n = lenP L ∧ (∀ q, q < n → goodC b (decN L q) = false) ∧
              st = ⟨[.top, vts vs, .optr 0 0 0, .top, .imm (.slice none 0 0), .imm (.int .i64 0), .top, .own 1 0 L.length none, .imm (.int .i64 (lenP L : Nat)), .top, .top, .top, .imm (.int .i64 n)] ++ List.replicate 103 .top, [opO b, olO L]⟩)
            (lenP L) ⟨_, ?_, 0, by omega, rfl, (fun q hq => by omega), rfl⟩ ?_
          · ((try simp only [List.length_append, List.length_cons, List.length_nil, Nat.zero_add]); refine Wk.intro [0, 1] (by decide) (by decide) (by intro o ho; simp at ho ⊢ <;> omega) ?_ ?_ <;> repeat' (first | exact WkVL.nil | refine WkVL.cons ?_ ?_ | exact WkV.top | exact WkV.imm rfl | exact WkV.imm (by simp) | exact WkV.optr rfl | exact WkV.own rfl (by simp) | exact WkV.nil_own (.inl rfl) | exact WkV.map rfl | (refine WkV.free ?_; simp [Free, FreeL] <;> assumption) | (refine WkV.free (fun _ _ => FreeL_nth ?_ _); simp [Free, FreeL]; done) | refine WkV.agg ?_ | refine WkV.tup ?_ | refine WkV.fn ?_ ?_ | exact WkO.dead | exact WkO.raw | refine WkO.ghost ?_ | exact WkO.mpE rfl trivial | refine WkO.box ?_ rfl | refine WkO.arr ?_ | refine And.intro ?_ (And.intro (by first | exact fun h => h | exact fun _ => rfl | exact nofun) ?_) | exact trivial | (intro i j hi hj)))
          rintro m3 st ⟨n, n0, n1, hno, rfl⟩
          by_cases hn : n < lenP L
          · (simp only [go_sem, ↓reduceIte, Nat.reduceAdd, Nat.reduceSub, Nat.reduceMul, Nat.reduceLT, Nat.reduceLeDiff, Nat.reduceEqDiff, Nat.reduceGT, Int.reduceToNat, Int.reduceBEq, Int.reduceBNe]; try simp (disch := omega) only [wrapI, wrapU, half_sum, toNat_sub1, toNat_add1, Int.toNat_natCast])
            (repeat' (first | with_reducible refine T_seq_drawT (id := 13) Γ_ok drawsAny pl20_13 (by kernel_rfl) (fun K hK => ?_) | with_reducible refine T_last_drawT (id := 13) Γ_ok drawsAny pl20_13 (by kernel_rfl) (fun K hK => ?_) | with_reducible refine T_seq_drawT (id := 28) Γ_ok drawsAny pl20_28 (by kernel_rfl) (fun K hK => ?_) | with_reducible refine T_last_drawT (id := 28) Γ_ok drawsAny pl20_28 (by kernel_rfl) (fun K hK => ?_) | with_reducible refine T_seq_drawT (id := 30) Γ_ok drawsAny pl20_30 (by kernel_rfl) (fun K hK => ?_) | with_reducible refine T_last_drawT (id := 30) Γ_ok drawsAny pl20_30 (by kernel_rfl) (fun K hK => ?_) | ((refine goR0 _ _ _ _ _ _ _ _ ?_ ?_ ?_ ?_ ?_ ?_ ?_ ?_) <;> (repeat intro hb) <;> first | exact True.intro | refine Lf.mk ?_)))
            have hd0 : lenP (L.drop vs.length) = 1 := by rw [List.drop_of_length_le (by omega)]; rfl
            refine T_loopW (fun m st => ∃ (p : Nat), p ≤ vs.length ∧ m = p ∧
                st = ⟨[.top, vts vs, .optr 0 0 0, .top, .imm (.slice none 0 0), .imm (.int .i64 0), .top, .own 1 0 L.length none, .imm (.int .i64 (lenP L : Nat)), .top, .top, .top, .imm (.int .i64 n), .own 2 0 vs.length (some vs.length), .imm (.int .i64 (n / lenP (L.drop p) : Nat)), .imm (.int .i64 ((p : Int) - 1))] ++ List.replicate 100 .top,
                  [opO b, olO L, .arr 3 1 vs.length (deE (decN L n) p)]⟩)
              vs.length ⟨_, ?_, vs.length, by omega, rfl, rfl⟩ ?_
            · have hz : ∀ x j, x < vs.length → j < 1 → nth [AV.imm (.int .i64 0)] j = deE (decN L n) vs.length x j := fun x j hx hj => by
                obtain rfl : j = 0 := by omega
                unfold deE
                rw [if_neg (by omega)]
                rfl
              rw [hd0, Nat.div_one]
              ((try simp only [List.length_append, List.length_cons, List.length_nil, Nat.zero_add]); refine Wk.intro [0, 1, 2] (by decide) (by decide) (by intro o ho; simp at ho ⊢ <;> omega) ?_ ?_ <;> repeat' (first | (exact WkV.eqF (hz _ _ hi hj) (by simp)) | exact WkVL.nil | refine WkVL.cons ?_ ?_ | exact WkV.top | exact WkV.imm rfl | exact WkV.imm (by simp) | exact WkV.optr rfl | exact WkV.own rfl (by simp) | exact WkV.nil_own (.inl rfl) | exact WkV.map rfl | (refine WkV.free ?_; simp [Free, FreeL] <;> assumption) | (refine WkV.free (fun _ _ => FreeL_nth ?_ _); simp [Free, FreeL]; done) | refine WkV.agg ?_ | refine WkV.tup ?_ | refine WkV.fn ?_ ?_ | exact WkO.dead | exact WkO.raw | refine WkO.ghost ?_ | exact WkO.mpE rfl trivial | refine WkO.box ?_ rfl | refine WkO.arr ?_ | refine And.intro ?_ (And.intro (by first | exact fun h => h | exact fun _ => rfl | exact nofun) ?_) | exact trivial | (intro i j hi hj)))
            rintro m4 st ⟨p, p0, rfl, rfl⟩
            by_cases hp : 0 < m4
            · obtain ⟨i2, rfl⟩ : ∃ i2, m4 = i2 + 1 := ⟨m4 - 1, by omega⟩
              have hgl : 0 < (gl L i2).length := hpos _ (gl_mem (by omega))
              have hdg := decN_get L n i2 (by omega)
              have hdl := lenP_drop (L := L) (i := i2) (by omega)
              have hr : n / lenP (L.drop i2) = n / lenP (L.drop (i2 + 1)) / (gl L i2).length := by rw [hdl, Nat.mul_comm, Nat.div_div_eq_div_mul]
              have hrl : n / lenP (L.drop (i2 + 1)) ≤ n := Nat.div_le_self _ _
              generalize n / lenP (L.drop (i2 + 1)) = r at hr hrl hdg
              have hii : ((i2 + 1 : Nat) : Int) - 1 = i2 := by omega
              rw [hii]
              have hgx : (gl L i2).length ≤ 120 := hlen _ (gl_mem (by omega))
              have htm : (r : Int).tmod ((gl L i2).length : Int) = ((r % (gl L i2).length : Nat) : Int) := rfl
              have htd : (r : Int).tdiv ((gl L i2).length : Int) = ((r / (gl L i2).length : Nat) : Int) := rfl
              have hmb : 0 ≤ (r : Int).tmod ((gl L i2).length : Int) ∧ (r : Int).tmod ((gl L i2).length : Int) < ((gl L i2).length : Int) := by
                rw [htm]
                have := Nat.mod_lt r hgl
                omega
              have hq0 : 0 ≤ (r : Int) / ((gl L i2).length : Int) := Int.ediv_nonneg (by omega) (by omega)
              have hq1 : (r : Int) / ((gl L i2).length : Int) ≤ r := Int.ediv_le_self _ (by omega)
              have hwr : IntKind.i64.wrap ((r : Int) / ((gl L i2).length : Int)) = (r : Int) / ((gl L i2).length : Int) := wrapI (by omega) (by omega)
              have hup := fun x j (hj : j < 1) => deE_step (t := decN L n) (p := i2) (x := x) (j := j) (v := gi (gl L i2) ((r : Int).tmod ((gl L i2).length : Int)).toNat) (by rw [hdg, htm]; rfl) hj
              (simp only [go_sem, ↓reduceIte, Nat.reduceAdd, Nat.reduceSub, Nat.reduceMul, Nat.reduceLT, Nat.reduceLeDiff, Nat.reduceEqDiff, Nat.reduceGT, Int.reduceToNat, Int.reduceBEq, Int.reduceBNe]; try simp (disch := omega) only [wrapI, wrapU, half_sum, toNat_sub1, toNat_add1, Int.toNat_natCast])
              (repeat' (first | with_reducible refine T_seq_drawT (id := 13) Γ_ok drawsAny pl20_13 (by kernel_rfl) (fun K hK => ?_) | with_reducible refine T_last_drawT (id := 13) Γ_ok drawsAny pl20_13 (by kernel_rfl) (fun K hK => ?_) | with_reducible refine T_seq_drawT (id := 28) Γ_ok drawsAny pl20_28 (by kernel_rfl) (fun K hK => ?_) | with_reducible refine T_last_drawT (id := 28) Γ_ok drawsAny pl20_28 (by kernel_rfl) (fun K hK => ?_) | with_reducible refine T_seq_drawT (id := 30) Γ_ok drawsAny pl20_30 (by kernel_rfl) (fun K hK => ?_) | with_reducible refine T_last_drawT (id := 30) Γ_ok drawsAny pl20_30 (by kernel_rfl) (fun K hK => ?_) | ((refine goR0 _ _ _ _ _ _ _ _ ?_ ?_ ?_ ?_ ?_ ?_ ?_ ?_) <;> (repeat intro hb) <;> first | exact True.intro | refine Lf.mk ?_)))
              refine ⟨i2, by omega, _, ?_, i2, by omega, rfl, rfl⟩
              rw [hr]
              ((try simp only [List.length_append, List.length_cons, List.length_nil, Nat.zero_add]); refine Wk.intro [0, 1, 2] (by decide) (by decide) (by intro o ho; simp at ho ⊢ <;> omega) ?_ ?_ <;> repeat' (first | (refine WkV.imm ?_; congr 1; first | omega | exact hwr) | (exact WkV.eqF (hup _ _ hj) (by simp)) | exact WkVL.nil | refine WkVL.cons ?_ ?_ | exact WkV.top | exact WkV.imm rfl | exact WkV.imm (by simp) | exact WkV.optr rfl | exact WkV.own rfl (by simp) | exact WkV.nil_own (.inl rfl) | exact WkV.map rfl | (refine WkV.free ?_; simp [Free, FreeL] <;> assumption) | (refine WkV.free (fun _ _ => FreeL_nth ?_ _); simp [Free, FreeL]; done) | refine WkV.agg ?_ | refine WkV.tup ?_ | refine WkV.fn ?_ ?_ | exact WkO.dead | exact WkO.raw | refine WkO.ghost ?_ | exact WkO.mpE rfl trivial | refine WkO.box ?_ rfl | refine WkO.arr ?_ | refine And.intro ?_ (And.intro (by first | exact fun h => h | exact fun _ => rfl | exact nofun) ?_) | exact trivial | (intro i j hi hj)))
            · obtain rfl : m4 = 0 := by omega
              rw [deE_0]
              have htl : (decN L n).length = vs.length := by rw [decN_len]; exact hLv
              have c3 := rdiff_tc b (decN L n) hg (by omega)
              have hfa := fun h => find_at (p := goodC b) hlp hn hno h
              have hnx := fun h : goodC b (decN L n) = false => fun q (hq : q < n + 1) => (show goodC b (decN L q) = false by
                by_cases e : q = n
                · rw [e]; exact h
                · exact hno q (by omega))
              have hgood : goodC b (decN L n) = true ↔ diffP b (decN L n) ∧ 0 ≤ divR b.span (ordK b (decN L n)) := by
                unfold goodC
                rw [decide_eq_true_iff]
                exact Iff.rfl
              by_cases hd : diffP b (decN L n)
              · have c4 := rord_tc b (decN L n) hg hd (by omega)
                have hx : ∀ i, i < (ordK b (decN L n)).length → 0 ≤ (gk (ordK b (decN L n)) i).x ∧ (gk (ordK b (decN L n)) i).x ≤ 1000 := fun i h => by
                  have := hg.one _ (ordK_mem.1 (gk_mem h)).1
                  exact ⟨this.2.2.1, this.2.2.2.1⟩
                have c5 := rdiv_tc b (ordK b (decN L n)) (ordK_le hg _) hx
                rw [decide_eq_true hd] at c3
                generalize divR b.span (ordK b (decN L n)) = d at *
                generalize ordK b (decN L n) = o at *
                unfold ints at c3 c4
                rw [htl] at c3 c4
                (simp only [go_sem, ↓reduceIte, Nat.reduceAdd, Nat.reduceSub, Nat.reduceMul, Nat.reduceLT, Nat.reduceLeDiff, Nat.reduceEqDiff, Nat.reduceGT, Int.reduceToNat, Int.reduceBEq, Int.reduceBNe]; try simp (disch := omega) only [wrapI, wrapU, half_sum, toNat_sub1, toNat_add1, Int.toNat_natCast])
                (have dl1 := c3; have dm1 := c4; have dl2 := c5; repeat' (first | with_reducible refine T_seq_drawT (id := 13) Γ_ok drawsAny pl20_13 (by kernel_rfl) (fun K hK => ?_) | with_reducible refine T_last_drawT (id := 13) Γ_ok drawsAny pl20_13 (by kernel_rfl) (fun K hK => ?_) | with_reducible refine T_seq_drawT (id := 28) Γ_ok drawsAny pl20_28 (by kernel_rfl) (fun K hK => ?_) | with_reducible refine T_last_drawT (id := 28) Γ_ok drawsAny pl20_28 (by kernel_rfl) (fun K hK => ?_) | with_reducible refine T_seq_drawT (id := 30) Γ_ok drawsAny pl20_30 (by kernel_rfl) (fun K hK => ?_) | with_reducible refine T_last_drawT (id := 30) Γ_ok drawsAny pl20_30 (by kernel_rfl) (fun K hK => ?_) | ((refine goR0 _ _ _ _ _ _ _ _ ?_ ?_ ?_ ?_ ?_ ?_ ?_ ?_) <;> (repeat intro hb) <;> first | exact True.intro | refine Lf.mk ?_)))
                · rw [hfa (hgood.2 ⟨hd, hb⟩)]
                  refine .inr ⟨2, some vs.length, by simp, ?_, ?_⟩
                  · show _ = AV.tup [.own 2 0 (decN L n).length (some vs.length), .imm (.int .i64 0)]
                    rw [htl]
                  · show _ = intO (decN L n)
                    unfold intO
                    rw [htl]
                    rfl
                · have hgf : goodC b (decN L n) = false := by
                    rw [← Bool.not_eq_true, hgood]
                    rintro ⟨_, h⟩
                    omega
                  refine ⟨lenP L - (n + 1), by omega, _, ?_, n + 1, by omega, by omega, hnx hgf, rfl⟩
                  ((try simp only [List.length_append, List.length_cons, List.length_nil, Nat.zero_add]); refine Wk.intro [0, 1] (by decide) (by decide) (by intro o ho; simp at ho ⊢ <;> omega) ?_ ?_ <;> repeat' (first | (refine WkV.imm ?_; congr 1; omega) | exact WkVL.nil | refine WkVL.cons ?_ ?_ | exact WkV.top | exact WkV.imm rfl | exact WkV.imm (by simp) | exact WkV.optr rfl | exact WkV.own rfl (by simp) | exact WkV.nil_own (.inl rfl) | exact WkV.map rfl | (refine WkV.free ?_; simp [Free, FreeL] <;> assumption) | (refine WkV.free (fun _ _ => FreeL_nth ?_ _); simp [Free, FreeL]; done) | refine WkV.agg ?_ | refine WkV.tup ?_ | refine WkV.fn ?_ ?_ | exact WkO.dead | exact WkO.raw | refine WkO.ghost ?_ | exact WkO.mpE rfl trivial | refine WkO.box ?_ rfl | refine WkO.arr ?_ | refine And.intro ?_ (And.intro (by first | exact fun h => h | exact fun _ => rfl | exact nofun) ?_) | exact trivial | (intro i j hi hj)))
              · rw [decide_eq_false hd] at c3
                unfold ints at c3
                rw [htl] at c3
                (simp only [go_sem, ↓reduceIte, Nat.reduceAdd, Nat.reduceSub, Nat.reduceMul, Nat.reduceLT, Nat.reduceLeDiff, Nat.reduceEqDiff, Nat.reduceGT, Int.reduceToNat, Int.reduceBEq, Int.reduceBNe]; try simp (disch := omega) only [wrapI, wrapU, half_sum, toNat_sub1, toNat_add1, Int.toNat_natCast])
                repeat' (first
    | (with_reducible refine hK _ ?_; clear hK K)
    | ((with_reducible apply gC_lookA (fun hg => (c3))); (case hC => (intro hg; first | exact trivial | exact hg | (simp only [hg, and_self, implies_true]; done) | (simp only [go_sem, hg, and_self, implies_true]; done))); (case hc => (intro hg; ((repeat' (first | exact CvL.nil | exact Cv.nil_view | refine CvL.cons ?_ ?_ | exact Cv.imm rfl | (refine Cv.free ?_; simp [Free, FreeL] <;> assumption) | (refine Cv.free (fun _ _ => FreeL_nth ?_ _); simp [Free, FreeL]; done) | refine Cv.agg ?_ | (apply Cv.own; (case hob => (with_unfolding_all exact rfl)); (case hz => decide); (case hE => (first | (intro _ _ _ _; rfl) | (intro i j hi hj; exact hv5 i j hi hj) | (intro i j hi hj; (rcases i with _ | _ | i) <;> (rcases j with _ | _ | _ | _ | j) <;> first | rfl | (exfalso; omega)))); (case hf => (intro _ _; simp; done))) | (refine Cv.pvE ?_ ?_ (by decide); (focus (first | (intro _ _ _ _; rfl) | (intro i j hi hj; exact hv5 i j hi hj) | (intro i j hi hj; (rcases i with _ | _ | i) <;> (rcases j with _ | _ | _ | _ | j) <;> first | rfl | (exfalso; omega)))); (focus (intro _ _; simp; done))) | (apply Cv.ownS; (case hob => (with_unfolding_all exact rfl)); (case hz => decide); (case hle => (first | omega | (simp only [decide_eq_true_eq] at hg; omega) | (simp; omega))); (case hE => (intro _ _ _ _; first | (rw [Nat.zero_add]; done) | (rw [Nat.zero_add]; rfl) | (simpa using hv1 _ _ (by assumption) (by assumption)) | (simpa using hv2 _ _ (by assumption) (by assumption)) | (simpa using hv3 _ _ (by assumption) (by assumption)) | (simpa using hv4 _ _ (by assumption) (by assumption)))); (case hf => (intro _ _; simp; done))) | (refine Cv.viewE (by decide) ?_ ?_; (focus (intro _ _ _ _; first | rfl | (simpa using hv1 _ _ (by assumption) (by assumption)) | (simpa using hv2 _ _ (by assumption) (by assumption)) | (simpa using hv3 _ _ (by assumption) (by assumption)) | (simpa using hv4 _ _ (by assumption) (by assumption)))); (focus (intro _ _; simp; done))) | refine Cv.ptr (by with_unfolding_all rfl) (by with_unfolding_all rfl) ?_ | refine Cv.fn ?_ ?_)); done))))
    | ((with_reducible apply callGoal_lookA (c3)); (case hC => first | exact trivial | (simp only [go_sem, and_self]; done) | (simp only [go_sem]; omega)); (case hc => ((repeat' (first | exact CvL.nil | exact Cv.nil_view | refine CvL.cons ?_ ?_ | exact Cv.imm rfl | (refine Cv.free ?_; simp [Free, FreeL] <;> assumption) | (refine Cv.free (fun _ _ => FreeL_nth ?_ _); simp [Free, FreeL]; done) | refine Cv.agg ?_ | (apply Cv.own; (case hob => (with_unfolding_all exact rfl)); (case hz => decide); (case hE => (first | (intro _ _ _ _; rfl) | (intro i j hi hj; exact hv5 i j hi hj) | (intro i j hi hj; (rcases i with _ | _ | i) <;> (rcases j with _ | _ | _ | _ | j) <;> first | rfl | (exfalso; omega)))); (case hf => (intro _ _; simp; done))) | (refine Cv.pvE ?_ ?_ (by decide); (focus (first | (intro _ _ _ _; rfl) | (intro i j hi hj; exact hv5 i j hi hj) | (intro i j hi hj; (rcases i with _ | _ | i) <;> (rcases j with _ | _ | _ | _ | j) <;> first | rfl | (exfalso; omega)))); (focus (intro _ _; simp; done))) | (apply Cv.ownS; (case hob => (with_unfolding_all exact rfl)); (case hz => decide); (case hle => (first | omega | (simp only [decide_eq_true_eq] at hg; omega) | (simp; omega))); (case hE => (intro _ _ _ _; first | (rw [Nat.zero_add]; done) | (rw [Nat.zero_add]; rfl) | (simpa using hv1 _ _ (by assumption) (by assumption)) | (simpa using hv2 _ _ (by assumption) (by assumption)) | (simpa using hv3 _ _ (by assumption) (by assumption)) | (simpa using hv4 _ _ (by assumption) (by assumption)))); (case hf => (intro _ _; simp; done))) | (refine Cv.viewE (by decide) ?_ ?_; (focus (intro _ _ _ _; first | rfl | (simpa using hv1 _ _ (by assumption) (by assumption)) | (simpa using hv2 _ _ (by assumption) (by assumption)) | (simpa using hv3 _ _ (by assumption) (by assumption)) | (simpa using hv4 _ _ (by assumption) (by assumption)))); (focus (intro _ _; simp; done))) | refine Cv.ptr (by with_unfolding_all rfl) (by with_unfolding_all rfl) ?_ | refine Cv.fn ?_ ?_)); done)))
    | ((with_reducible apply dCall_lookA (c3)); (case hC => first | exact trivial | (simp only [go_sem, and_self]; done) | (simp only [go_sem]; omega)); (case hc => ((repeat' (first | exact CvL.nil | exact Cv.nil_view | refine CvL.cons ?_ ?_ | exact Cv.imm rfl | (refine Cv.free ?_; simp [Free, FreeL] <;> assumption) | (refine Cv.free (fun _ _ => FreeL_nth ?_ _); simp [Free, FreeL]; done) | refine Cv.agg ?_ | (apply Cv.own; (case hob => (with_unfolding_all exact rfl)); (case hz => decide); (case hE => (first | (intro _ _ _ _; rfl) | (intro i j hi hj; exact hv5 i j hi hj) | (intro i j hi hj; (rcases i with _ | _ | i) <;> (rcases j with _ | _ | _ | _ | j) <;> first | rfl | (exfalso; omega)))); (case hf => (intro _ _; simp; done))) | (refine Cv.pvE ?_ ?_ (by decide); (focus (first | (intro _ _ _ _; rfl) | (intro i j hi hj; exact hv5 i j hi hj) | (intro i j hi hj; (rcases i with _ | _ | i) <;> (rcases j with _ | _ | _ | _ | j) <;> first | rfl | (exfalso; omega)))); (focus (intro _ _; simp; done))) | (apply Cv.ownS; (case hob => (with_unfolding_all exact rfl)); (case hz => decide); (case hle => (first | omega | (simp only [decide_eq_true_eq] at hg; omega) | (simp; omega))); (case hE => (intro _ _ _ _; first | (rw [Nat.zero_add]; done) | (rw [Nat.zero_add]; rfl) | (simpa using hv1 _ _ (by assumption) (by assumption)) | (simpa using hv2 _ _ (by assumption) (by assumption)) | (simpa using hv3 _ _ (by assumption) (by assumption)) | (simpa using hv4 _ _ (by assumption) (by assumption)))); (case hf => (intro _ _; simp; done))) | (refine Cv.viewE (by decide) ?_ ?_; (focus (intro _ _ _ _; first | rfl | (simpa using hv1 _ _ (by assumption) (by assumption)) | (simpa using hv2 _ _ (by assumption) (by assumption)) | (simpa using hv3 _ _ (by assumption) (by assumption)) | (simpa using hv4 _ _ (by assumption) (by assumption)))); (focus (intro _ _; simp; done))) | refine Cv.ptr (by with_unfolding_all rfl) (by with_unfolding_all rfl) ?_ | refine Cv.fn ?_ ?_)); done)))
    | ((with_reducible apply dCall_lookGA (fun hg => (c3))); (case hC => (intro hg; first | exact trivial | exact hg | (simp only [hg, and_self, implies_true]; done) | (simp only [go_sem, hg, and_self, implies_true]; done))); (case hc => (intro hg; ((repeat' (first | exact CvL.nil | exact Cv.nil_view | refine CvL.cons ?_ ?_ | exact Cv.imm rfl | (refine Cv.free ?_; simp [Free, FreeL] <;> assumption) | (refine Cv.free (fun _ _ => FreeL_nth ?_ _); simp [Free, FreeL]; done) | refine Cv.agg ?_ | (apply Cv.own; (case hob => (with_unfolding_all exact rfl)); (case hz => decide); (case hE => (first | (intro _ _ _ _; rfl) | (intro i j hi hj; exact hv5 i j hi hj) | (intro i j hi hj; (rcases i with _ | _ | i) <;> (rcases j with _ | _ | _ | _ | j) <;> first | rfl | (exfalso; omega)))); (case hf => (intro _ _; simp; done))) | (refine Cv.pvE ?_ ?_ (by decide); (focus (first | (intro _ _ _ _; rfl) | (intro i j hi hj; exact hv5 i j hi hj) | (intro i j hi hj; (rcases i with _ | _ | i) <;> (rcases j with _ | _ | _ | _ | j) <;> first | rfl | (exfalso; omega)))); (focus (intro _ _; simp; done))) | (apply Cv.ownS; (case hob => (with_unfolding_all exact rfl)); (case hz => decide); (case hle => (first | omega | (simp only [decide_eq_true_eq] at hg; omega) | (simp; omega))); (case hE => (intro _ _ _ _; first | (rw [Nat.zero_add]; done) | (rw [Nat.zero_add]; rfl) | (simpa using hv1 _ _ (by assumption) (by assumption)) | (simpa using hv2 _ _ (by assumption) (by assumption)) | (simpa using hv3 _ _ (by assumption) (by assumption)) | (simpa using hv4 _ _ (by assumption) (by assumption)))); (case hf => (intro _ _; simp; done))) | (refine Cv.viewE (by decide) ?_ ?_; (focus (intro _ _ _ _; first | rfl | (simpa using hv1 _ _ (by assumption) (by assumption)) | (simpa using hv2 _ _ (by assumption) (by assumption)) | (simpa using hv3 _ _ (by assumption) (by assumption)) | (simpa using hv4 _ _ (by assumption) (by assumption)))); (focus (intro _ _; simp; done))) | refine Cv.ptr (by with_unfolding_all rfl) (by with_unfolding_all rfl) ?_ | refine Cv.fn ?_ ?_)); done))))
    | (with_reducible first | refine gC_falseV (.imm (.int .i64 0)) ?_ | refine dCall_falseV (.imm (.int .i64 0)) ?_)
    | ((with_reducible apply DC_call); (focus exact rfl); (focus exact rfl); (focus exact rfl); intro N hN; (simp only [go_sem, ↓reduceIte, Nat.reduceAdd, Nat.reduceSub, Nat.reduceMul, Nat.reduceLT, Nat.reduceLeDiff, Nat.reduceEqDiff, Nat.reduceGT, Int.reduceToNat, Int.reduceBEq, Int.reduceBNe]; try simp (disch := omega) only [wrapI, wrapU, half_sum, toNat_sub1, toNat_add1, Int.toNat_natCast]))
    | ((with_reducible first | refine T_seq_region Γ_ok (fun K hK => ?_) | refine T_last_region Γ_ok (fun K hK => ?_) | refine T_seq_draw (id := 13) Γ_ok drawsAny [(0, [], []), (1, [], []), (2, [], []), (3, [1, 2], []), (4, [1, 2, 3], []), (5, [0, 1, 2, 3, 4], []), (6, [0, 1, 2, 3, 4, 5], []), (7, [0, 1, 2, 3, 4, 5, 6], []), (8, [0, 1, 2, 3, 4, 5, 6], []), (9, [0, 1, 2, 3, 4, 5, 6, 7], []), (10, [0, 1, 2, 3, 4, 5, 6, 7, 8, 9], [])] (by kernel_rfl) (fun K hK => ?_) | refine T_last_draw (id := 13) Γ_ok drawsAny [(0, [], []), (1, [], []), (2, [], []), (3, [1, 2], []), (4, [1, 2, 3], []), (5, [0, 1, 2, 3, 4], []), (6, [0, 1, 2, 3, 4, 5], []), (7, [0, 1, 2, 3, 4, 5, 6], []), (8, [0, 1, 2, 3, 4, 5, 6], []), (9, [0, 1, 2, 3, 4, 5, 6, 7], []), (10, [0, 1, 2, 3, 4, 5, 6, 7, 8, 9], [])] (by kernel_rfl) (fun K hK => ?_) | refine T_seq_draw (id := 28) Γ_ok drawsAny [(0, [], []), (1, [], []), (2, [], []), (3, [], []), (4, [2, 3], []), (5, [2, 3, 4], []), (6, [], []), (7, [], []), (8, [], []), (9, [7, 8], []), (10, [7, 8, 9], []), (11, [7, 8, 9, 10], []), (12, [6, 7, 8, 9, 10, 11], []), (13, [2, 3, 4, 5, 6, 7, 8, 9, 10, 11, 12], []), (14, [2, 3, 4, 5, 6, 7, 8, 9, 10, 11, 12, 13], []), (15, [0, 1, 2, 3, 4, 5, 6, 7, 8, 9, 10, 11, 12, 13, 14], []), (16, [0, 1, 2, 3, 4, 5, 6, 7, 8, 9, 10, 11, 12, 13, 14, 15], [])] (by kernel_rfl) (fun K hK => ?_) | refine T_last_draw (id := 28) Γ_ok drawsAny [(0, [], []), (1, [], []), (2, [], []), (3, [], []), (4, [2, 3], []), (5, [2, 3, 4], []), (6, [], []), (7, [], []), (8, [], []), (9, [7, 8], []), (10, [7, 8, 9], []), (11, [7, 8, 9, 10], []), (12, [6, 7, 8, 9, 10, 11], []), (13, [2, 3, 4, 5, 6, 7, 8, 9, 10, 11, 12], []), (14, [2, 3, 4, 5, 6, 7, 8, 9, 10, 11, 12, 13], []), (15, [0, 1, 2, 3, 4, 5, 6, 7, 8, 9, 10, 11, 12, 13, 14], []), (16, [0, 1, 2, 3, 4, 5, 6, 7, 8, 9, 10, 11, 12, 13, 14, 15], [])] (by kernel_rfl) (fun K hK => ?_) | refine T_seq_draw (id := 30) Γ_ok drawsAny [(0, [], []), (1, [], []), (2, [0, 1], []), (3, [0, 1, 2], []), (4, [0, 1, 2, 3], []), (5, [0, 1, 2, 3], []), (6, [0, 1, 2, 3], []), (7, [0, 1, 2, 3, 5, 6], [4]), (8, [0, 1, 2, 3, 4, 5, 6, 7], []), (9, [0, 1, 2, 3, 4, 5, 6, 7, 8], []), (10, [0, 1, 2, 3, 4, 5, 6, 7, 8, 9], [])] (by kernel_rfl) (fun K hK => ?_) | refine T_last_draw (id := 30) Γ_ok drawsAny [(0, [], []), (1, [], []), (2, [0, 1], []), (3, [0, 1, 2], []), (4, [0, 1, 2, 3], []), (5, [0, 1, 2, 3], []), (6, [0, 1, 2, 3], []), (7, [0, 1, 2, 3, 5, 6], [4]), (8, [0, 1, 2, 3, 4, 5, 6, 7], []), (9, [0, 1, 2, 3, 4, 5, 6, 7, 8], []), (10, [0, 1, 2, 3, 4, 5, 6, 7, 8, 9], [])] (by kernel_rfl) (fun K hK => ?_) | refine TO_callN rfl (fun N hN => ?_) | refine DCT_fork Γ_ok (fun K2 hK2 => ?_) | refine DCT_last Γ_ok ?_ | refine DC_ev Γ_ok ?_ | refine TO_ev Γ_ok ?_ | refine retQ_r ?_ | refine retQ_n ?_); (simp only [go_sem, ↓reduceIte, Nat.reduceAdd, Nat.reduceSub, Nat.reduceMul, Nat.reduceLT, Nat.reduceLeDiff, Nat.reduceEqDiff, Nat.reduceGT, Int.reduceToNat, Int.reduceBEq, Int.reduceBNe]; try simp (disch := omega) only [wrapI, wrapU, half_sum, toNat_sub1, toNat_add1, Int.toNat_natCast]))
    | (with_reducible refine hK2 _ ?_ ?_ <;> clear hK2 K2)
    | with_reducible refine gC_false ?_ | with_reducible refine gC_true ?_ | with_reducible refine dCall_true ?_
    | (with_reducible refine hN _ _ ?_; clear hN N)
    | (with_reducible refine hN _ _ (dInl rfl) ?_; clear hN N)
    | ((with_reducible refine hN _ _ (.inr ?_) ?_); (focus (simp only [go_sem, ↓reduceIte, Nat.reduceAdd, Nat.reduceSub, Nat.reduceMul, Nat.reduceLT, Nat.reduceLeDiff, Nat.reduceEqDiff, Nat.reduceGT, Int.reduceToNat, Int.reduceBEq, Int.reduceBNe]; try simp (disch := omega) only [wrapI, wrapU, half_sum, toNat_sub1, toNat_add1, Int.toNat_natCast])); all_goals (try clear hN N))
    | with_reducible refine T_seq ?_ | with_reducible refine T_block ?_ | with_reducible refine T_ret ?_ | with_reducible refine T_exit ?_ | with_reducible refine T_skip ?_ | with_reducible refine T_label ?_
    | with_reducible refine thenQ_n ?_ | with_reducible refine thenQ_e ?_ | with_reducible refine thenQ_r ?_ | with_reducible refine blockQ_n ?_ | with_reducible refine blockQ_e ?_ | with_reducible refine blockQ_r ?_
    | with_reducible refine blockQ_o (by decide) ?_
    | ((with_reducible refine T_cond _ rfl (fun hb => ?_) (fun hb => ?_)) <;> first | (cases hb; done) | (simp only [decide_eq_true_eq, decide_eq_false_iff_not, Bool.and_eq_true, Bool.or_eq_true, Bool.and_eq_false_imp, Bool.or_eq_false_iff, Bool.not_eq_true', Bool.not_eq_false', beq_iff_eq, bne_iff_ne, ne_eq, beq_eq_false_iff_ne, bne_eq_false_iff_eq, Int.not_lt, Int.not_le, ge_iff_le, gt_iff_lt] at hb) | skip)
    | (with_reducible refine And.intro (by first | exact trivial | omega | (intro hg; simp at hg ⊢ <;> omega) | (simp <;> omega)) ?_)
    | assumption | omega)
                have hgf : goodC b (decN L n) = false := by
                  rw [← Bool.not_eq_true, hgood]
                  rintro ⟨h, _⟩
                  exact hd h
                refine ⟨lenP L - (n + 1), by omega, _, ?_, n + 1, by omega, by omega, hnx hgf, rfl⟩
                ((try simp only [List.length_append, List.length_cons, List.length_nil, Nat.zero_add]); refine Wk.intro [0, 1] (by decide) (by decide) (by intro o ho; simp at ho ⊢ <;> omega) ?_ ?_ <;> repeat' (first | (refine WkV.imm ?_; congr 1; omega) | exact WkVL.nil | refine WkVL.cons ?_ ?_ | exact WkV.top | exact WkV.imm rfl | exact WkV.imm (by simp) | exact WkV.optr rfl | exact WkV.own rfl (by simp) | exact WkV.nil_own (.inl rfl) | exact WkV.map rfl | (refine WkV.free ?_; simp [Free, FreeL] <;> assumption) | (refine WkV.free (fun _ _ => FreeL_nth ?_ _); simp [Free, FreeL]; done) | refine WkV.agg ?_ | refine WkV.tup ?_ | refine WkV.fn ?_ ?_ | exact WkO.dead | exact WkO.raw | refine WkO.ghost ?_ | exact WkO.mpE rfl trivial | refine WkO.box ?_ rfl | refine WkO.arr ?_ | refine And.intro ?_ (And.intro (by first | exact fun h => h | exact fun _ => rfl | exact nofun) ?_) | exact trivial | (intro i j hi hj)))
          · (simp only [go_sem, ↓reduceIte, Nat.reduceAdd, Nat.reduceSub, Nat.reduceMul, Nat.reduceLT, Nat.reduceLeDiff, Nat.reduceEqDiff, Nat.reduceGT, Int.reduceToNat, Int.reduceBEq, Int.reduceBNe]; try simp (disch := omega) only [wrapI, wrapU, half_sum, toNat_sub1, toNat_add1, Int.toNat_natCast])
            (repeat' (first | with_reducible refine T_seq_drawT (id := 13) Γ_ok drawsAny pl20_13 (by kernel_rfl) (fun K hK => ?_) | with_reducible refine T_last_drawT (id := 13) Γ_ok drawsAny pl20_13 (by kernel_rfl) (fun K hK => ?_) | with_reducible refine T_seq_drawT (id := 28) Γ_ok drawsAny pl20_28 (by kernel_rfl) (fun K hK => ?_) | with_reducible refine T_last_drawT (id := 28) Γ_ok drawsAny pl20_28 (by kernel_rfl) (fun K hK => ?_) | with_reducible refine T_seq_drawT (id := 30) Γ_ok drawsAny pl20_30 (by kernel_rfl) (fun K hK => ?_) | with_reducible refine T_last_drawT (id := 30) Γ_ok drawsAny pl20_30 (by kernel_rfl) (fun K hK => ?_) | ((refine goR0 _ _ _ _ _ _ _ _ ?_ ?_ ?_ ?_ ?_ ?_ ?_ ?_) <;> (repeat intro hb) <;> first | exact True.intro | refine Lf.mk ?_)))
            rw [find_no hlp (fun q hq => hno q (by omega))]
            exact .inl ⟨rfl, rfl⟩
  · rw [show chordR b vs = ([], 1) by unfold chordR; rw [if_neg hb]]
    rw [Bool.not_eq_true] at hb
    rw [hb] at c2
    (refine TC_of_T Γ_ok Tryd.func20 rfl (by kernel_rfl) ?_; simp only [Tryd.ntmps20, Tryd.results20, List.length_cons, List.length_nil, Nat.reduceSub, Nat.reduceAdd, List.replicate, List.cons_append, List.nil_append])
    (have dl1 := c2; repeat' (first | with_reducible refine T_seq_drawT (id := 13) Γ_ok drawsAny pl20_13 (by kernel_rfl) (fun K hK => ?_) | with_reducible refine T_last_drawT (id := 13) Γ_ok drawsAny pl20_13 (by kernel_rfl) (fun K hK => ?_) | with_reducible refine T_seq_drawT (id := 28) Γ_ok drawsAny pl20_28 (by kernel_rfl) (fun K hK => ?_) | with_reducible refine T_last_drawT (id := 28) Γ_ok drawsAny pl20_28 (by kernel_rfl) (fun K hK => ?_) | with_reducible refine T_seq_drawT (id := 30) Γ_ok drawsAny pl20_30 (by kernel_rfl) (fun K hK => ?_) | with_reducible refine T_last_drawT (id := 30) Γ_ok drawsAny pl20_30 (by kernel_rfl) (fun K hK => ?_) | ((refine goR0 _ _ _ _ _ _ _ _ ?_ ?_ ?_ ?_ ?_ ?_ ?_ ?_) <;> (repeat intro hb) <;> first | exact True.intro | refine Lf.mk ?_)))
    exact .inl trivial
theorem rchord_tc (b : Bd) (vs : List P6) (hl : b.ks.length ≤ 9223372036854775807) (hv : vs.length * 48 ≤ 140737488351232) : Makes Tryd.prog 20 [bdA b, vts vs] (.tup [.own 0 0 (chordR b vs).1.length none, .imm (.int .i64 (chordR b vs).2)]) [intO (chordR b vs).1] := by
  refine Makes.gen [(3, 1)] (by simp [VF, VFL]) (fun a ha => ?_) ((rchord_raw b vs hl hv).mono fun v σ' hq => ?_)
  · simp only [List.mem_cons, List.not_mem_nil, or_false] at ha
    subst ha
    exact fun i j => inE_pl _ i j
  · rcases hq with ⟨rfl, h1⟩ | ⟨p, c, hp, rfl, h1⟩
    · have n0 : nthO (σ' ++ List.map (fun p => AObj.arr p.1 p.2 0 fun _ _ => AV.top) [(3, 1)]) σ'.length = .arr 3 1 0 fun _ _ => .top := nthO_of_get (by simp)
      refine ⟨[σ'.length], by simp, by simp, ?_, ?_⟩
      · rw [h1]
        exact WkV.tup (WkVL.cons (WkV.nil_own (.inl rfl)) (WkVL.cons (WkV.imm rfl) WkVL.nil))
      · refine ⟨?_, fun _ => by rw [n0]; rfl, trivial⟩
        rw [n0]; exact nil_wk h1
    · have n0 : nthO (σ' ++ List.map (fun p => AObj.arr p.1 p.2 0 fun _ _ => AV.top) [(3, 1)]) p = intO (chordR b vs).1 := by rw [nthO_left hp, h1]
      refine ⟨[p], by simp, by simp; omega, ?_, ?_⟩
      · exact WkV.tup (WkVL.cons (WkV.own rfl (by simp)) (WkVL.cons (WkV.imm rfl) WkVL.nil))
      · refine ⟨?_, fun _ => by rw [n0]; rfl, trivial⟩
        rw [n0]; exact intO_wk _
end Go.Proofs.YtddcnafocohghaaDoor
