/-
  Parts joined: R4 R5.
-/
import Derived.Test.YtddcnafocohghaaDoorQGo
import Derived.Test.YtddcnafocohghaaDoorQS2
import Derived.Test.YtddcnafocohghaaDoorQGo2
set_option linter.unusedSimpArgs false
set_option linter.unusedVariables false
namespace Go.Proofs.YtddcnafocohghaaDoor
open Go.Ab
theorem ky_swap (A B : List Ky) (a x : Ky) {i j : Nat} (hj : j < 9) : updE (updE (kyE (A ++ a :: x :: B)) (A.length + 1) 0 (kyL a)) A.length 0 (kyL x) i j = kyE (A ++ x :: a :: B) i j := by
  unfold updE kyE
  by_cases h0 : i = A.length
  · subst h0
    rw [if_pos ⟨rfl, by omega, by simpa using hj⟩]
    simp [gk]
  · rw [if_neg (fun h => h0 h.1)]
    by_cases h1 : i = A.length + 1
    · subst h1
      rw [if_pos ⟨rfl, by omega, by simpa using hj⟩]
      simp [gk]
    · rw [if_neg (fun h => h1 h.1)]
      congr 2
      unfold gk
      rw [List.getD_eq_getElem?_getD, List.getD_eq_getElem?_getD]
      by_cases h2 : i < A.length
      · rw [List.getElem?_append_left h2, List.getElem?_append_left h2]
      · rw [List.getElem?_append_right (by omega), List.getElem?_append_right (by omega)]
        obtain ⟨k, hk⟩ : ∃ k, i - A.length = k + 2 := ⟨i - A.length - 2, by omega⟩
        rw [hk]; rfl
theorem gk_pre (A B : List Ky) (a x : Ky) : gk (A ++ a :: x :: B) A.length = a := by simp [gk]
theorem gk_mid1 (A B : List Ky) (a x : Ky) : gk (A ++ a :: x :: B) (A.length + 1) = x := by
  unfold gk
  rw [List.getD_eq_getElem?_getD, List.getElem?_append_right (by omega), Nat.add_sub_cancel_left]
  rfl
theorem ins_lr {A B : List Ky} {x : Ky} (h : Lr (A ++ B)) (hB : ∀ y ∈ B, ltK x y) (hA : ∀ a ∈ A, ltK a x) : Lr (A ++ x :: B) := by
  have h1 := List.pairwise_append.1 h
  refine List.pairwise_append.2 ⟨h1.1, List.pairwise_cons.2 ⟨hB, h1.2.1⟩, ?_⟩
  intro a ha y hy
  rcases List.mem_cons.1 hy with rfl | hy
  · exact hA a ha
  · exact h1.2.2 a ha y hy
theorem lr_last {A : List Ky} {a x : Ky} (h : Lr (A ++ [a])) (hx : ltK a x) : ∀ y ∈ A ++ [a], ltK y x := by
  intro y hy
  rcases List.mem_append.1 hy with hy | hy
  · exact ltK_trans ((List.pairwise_append.1 h).2.2 y hy a (by simp)) hx
  · rw [List.mem_singleton] at hy; subst hy; exact hx
theorem ltK_tot {b : Bd} (hg : Good b) {x y : Ky} (hx : x ∈ b.ks) (hy : y ∈ b.ks) (hne : x.id ≠ y.id) (h : ¬ ltK x y) : ltK y x := by
  have hap : ∀ {l : List Ky}, Apart l → ∀ {k m : Ky}, k ∈ l → m ∈ l → k.id ≠ m.id → ¬ (k.x = m.x ∧ k.row = m.row) := by
    intro l
    induction l with
    | nil => intro _ k m hk; cases hk
    | cons a l ih =>
      intro hl k m hk hm hne e
      have hl := List.pairwise_cons.1 hl
      rcases List.mem_cons.1 hk with e1 | k1 <;> rcases List.mem_cons.1 hm with e2 | m1
      · rw [e1, e2] at hne; exact hne rfl
      · subst e1; exact hl.1 m m1 e
      · subst e2; exact hl.1 k k1 ⟨e.1.symm, e.2.symm⟩
      · exact ih hl.2 k1 m1 hne e
  have := hap hg.apart hx hy hne
  unfold ltK at *
  omega
set_option maxRecDepth 100000 in
set_option maxHeartbeats 4000000 in
theorem rord_raw (b : Bd) (ids : List Int) (hg : Good b) (hd : diffP b ids) (hi : ids.length ≤ 120) : TC Tryd.prog 41 [bdA b, ints ids] [] (fun u σ' => ∃ k E', u = .own k 0 (ordK b ids).length none ∧ nthO σ' k = .arr 43 9 (ordK b ids).length E' ∧ ∀ i j, i < (ordK b ids).length → j < 9 → E' i j = kyE (ordK b ids) i j) := by
  have hl2 := hg.len
  (refine TC_of_T Γ_ok Tryd.func41 rfl (by kernel_rfl) ?_; simp only [Tryd.ntmps41, Tryd.results41, List.length_cons, List.length_nil, Nat.reduceSub, Nat.reduceAdd, List.replicate, List.cons_append, List.nil_append])
  (repeat' (first | with_reducible refine T_seq_drawT (id := 5) Γ_ok drawsAny pl41_5 (by kernel_rfl) (fun K hK => ?_) | with_reducible refine T_last_drawT (id := 5) Γ_ok drawsAny pl41_5 (by kernel_rfl) (fun K hK => ?_) | with_reducible refine T_seq_drawT (id := 7) Γ_ok drawsAny pl41_7 (by kernel_rfl) (fun K hK => ?_) | with_reducible refine T_last_drawT (id := 7) Γ_ok drawsAny pl41_7 (by kernel_rfl) (fun K hK => ?_) | ((refine goR0 _ _ _ _ _ _ _ _ ?_ ?_ ?_ ?_ ?_ ?_ ?_ ?_) <;> (repeat intro hb) <;> first | exact True.intro | refine Lf.mk ?_)))
  refine T_loopW (fun m st => ∃ (i : Nat) (o : List Ky), i ≤ ids.length ∧ m + i = ids.length ∧ o.length = i ∧ Lr o ∧ (∀ k, k ∈ o ↔ k ∈ (ids.take i).map (keyD b)) ∧
      st = ⟨[.top, ints ids, .optr 0 0 0, .top, .imm (.slice none 0 0), .own 1 0 i none, .imm (.int .i64 i)] ++ List.replicate 56 .top, [.box 24 (bdL b), .arr 43 9 i (kyE o)]⟩)
    ids.length ⟨_, Wk.trans (Wk.push 43 9 (kyE [])) ?_, 0, [], by omega, rfl, rfl, List.Pairwise.nil, by simp, rfl⟩ ?_
  · ((try simp only [List.length_append, List.length_cons, List.length_nil, Nat.zero_add]); refine Wk.intro [0, 1] (by decide) (by decide) (by intro o ho; simp at ho ⊢ <;> omega) ?_ ?_ <;> repeat' (first | exact WkVL.nil | refine WkVL.cons ?_ ?_ | exact WkV.top | exact WkV.imm rfl | exact WkV.imm (by simp) | exact WkV.optr rfl | exact WkV.own rfl (by simp) | exact WkV.nil_own (.inl rfl) | exact WkV.map rfl | (refine WkV.free ?_; simp [Free, FreeL] <;> assumption) | (refine WkV.free (fun _ _ => FreeL_nth ?_ _); simp [Free, FreeL]; done) | refine WkV.agg ?_ | refine WkV.tup ?_ | refine WkV.fn ?_ ?_ | exact WkO.dead | exact WkO.raw | refine WkO.ghost ?_ | exact WkO.mpE rfl trivial | refine WkO.box ?_ rfl | refine WkO.arr ?_ | refine And.intro ?_ (And.intro (by first | exact fun h => h | exact fun _ => rfl | exact nofun) ?_) | exact trivial | (intro i j hi hj)))
  rintro m st ⟨i, o, h0, h1, h2, h3, h4, rfl⟩
  by_cases hil : i < ids.length
  · have hx1 := keyD_mem hd (gi_mem hil)
    obtain ⟨k, hk⟩ := Option.isSome_iff_exists.1 (hd.2 _ (gi_mem hil))
    obtain ⟨n, n1, n2, n3⟩ := keyI_some hk
    have hxk : keyD b (gi ids i) = gk b.ks n := by
      unfold keyD gk
      rw [hk, List.getD_eq_getElem?_getD, n3]
    rw [hxk] at hx1
    have c1 := rindex_tc b (gi ids i) (by omega)
    rw [n2] at c1
    have hsn := fun p q (hp : p < i + 1) (hq : q < 9) => ky_snoc o (gk b.ks n) (i := p) (j := q) (by omega) hq
    rw [h2] at hsn
    have hne : ∀ a ∈ o, (gk b.ks n).id ≠ a.id ∧ a ∈ b.ks := by
      intro a ha
      obtain ⟨id, hid, rfl⟩ := List.mem_map.1 ((h4 a).1 ha)
      have hm := keyD_mem hd (List.mem_of_mem_take hid)
      refine ⟨?_, hm.1⟩
      rw [hm.2, hx1.2]
      obtain ⟨q, q1, q2⟩ := mem_take_gi hid
      intro e
      exact nodup_gi hd.1 q1 hil (q2.trans e.symm)
    have hxm := hx1.1
    have hid := hx1.2
    have hky : ∀ c, kyE b.ks n c = nth (kyL (gk b.ks n)) c := fun c => rfl
    generalize gk b.ks n = x at hsn hne hxm hid hky hxk
    (simp only [go_sem, ↓reduceIte, Nat.reduceAdd, Nat.reduceSub, Nat.reduceMul, Nat.reduceLT, Nat.reduceLeDiff, Nat.reduceEqDiff, Nat.reduceGT, Int.reduceToNat, Int.reduceBEq, Int.reduceBNe]; try simp (disch := omega) only [wrapI, wrapU, half_sum, toNat_sub1, toNat_add1, Int.toNat_natCast])
    (have dl1 := c1; have sx1 := hky; have sx2 : (0 : Nat) + 0 = 0 := rfl; repeat' (first | with_reducible refine T_seq_drawT (id := 5) Γ_ok drawsAny pl41_5 (by kernel_rfl) (fun K hK => ?_) | with_reducible refine T_last_drawT (id := 5) Γ_ok drawsAny pl41_5 (by kernel_rfl) (fun K hK => ?_) | with_reducible refine T_seq_drawT (id := 7) Γ_ok drawsAny pl41_7 (by kernel_rfl) (fun K hK => ?_) | with_reducible refine T_last_drawT (id := 7) Γ_ok drawsAny pl41_7 (by kernel_rfl) (fun K hK => ?_) | ((have sx3 : (0 : Nat) + 0 = 0 := rfl; have sx4 : (0 : Nat) + 0 = 0 := rfl; refine goR4 _ _ _ _ _ _ _ _ ?_ ?_ ?_ ?_ ?_ ?_ ?_ ?_) <;> (repeat intro hb) <;> first | exact True.intro | refine Lf.mk ?_)))
    all_goals
      refine T_loopW (fun m st => ∃ (j : Nat) (A B : List Ky), m = j ∧ A.length = j ∧ A ++ B = o ∧ (∀ y ∈ B, ltK x y) ∧
          st = ⟨[.top, ints ids, .optr 0 0 0, .top, .imm (.slice none 0 0), .own 1 0 (i + 1) none, .imm (.int .i64 i), .imm (.int .i64 j)] ++ List.replicate 55 .top, [.box 24 (bdL b), .arr 43 9 (i + 1) (kyE (A ++ x :: B))]⟩)
        i ⟨_, ?_, i, o, [], rfl, h2, by simp, by simp, rfl⟩ ?_
      · ((try simp only [List.length_append, List.length_cons, List.length_nil, Nat.zero_add]); refine Wk.intro [0, 2] (by decide) (by decide) (by intro o ho; simp at ho ⊢ <;> omega) ?_ ?_ <;> repeat' (first | (exact WkV.eqF (hsn _ _ (by omega) hj) (by simp)) | exact WkVL.nil | refine WkVL.cons ?_ ?_ | exact WkV.top | exact WkV.imm rfl | exact WkV.imm (by simp) | exact WkV.optr rfl | exact WkV.own rfl (by simp) | exact WkV.nil_own (.inl rfl) | exact WkV.map rfl | (refine WkV.free ?_; simp [Free, FreeL] <;> assumption) | (refine WkV.free (fun _ _ => FreeL_nth ?_ _); simp [Free, FreeL]; done) | refine WkV.agg ?_ | refine WkV.tup ?_ | refine WkV.fn ?_ ?_ | exact WkO.dead | exact WkO.raw | refine WkO.ghost ?_ | exact WkO.mpE rfl trivial | refine WkO.box ?_ rfl | refine WkO.arr ?_ | refine And.intro ?_ (And.intro (by first | exact fun h => h | exact fun _ => rfl | exact nofun) ?_) | exact trivial | (intro i j hi hj)))
      rintro m2 st ⟨j, A, B, rfl, g1, g2, g3, rfl⟩
      have hLl : (A ++ x :: B).length = i + 1 := by
        rw [← h2, ← g2]
        simp only [List.length_append, List.length_cons]
        omega
      have hjl : m2 ≤ i := by
        rw [← h2, ← g2, List.length_append]
        omega
      generalize hL : A ++ x :: B = L at hLl
      have c2 := rbefore_tc (gk L m2) (gk L (m2 - 1))
      (simp only [go_sem, ↓reduceIte, Nat.reduceAdd, Nat.reduceSub, Nat.reduceMul, Nat.reduceLT, Nat.reduceLeDiff, Nat.reduceEqDiff, Nat.reduceGT, Int.reduceToNat, Int.reduceBEq, Int.reduceBNe]; try simp (disch := omega) only [wrapI, wrapU, half_sum, toNat_sub1, toNat_add1, Int.toNat_natCast])
      (have dl1 := c2; repeat' (first | with_reducible refine T_seq_drawT (id := 5) Γ_ok drawsAny pl41_5 (by kernel_rfl) (fun K hK => ?_) | with_reducible refine T_last_drawT (id := 5) Γ_ok drawsAny pl41_5 (by kernel_rfl) (fun K hK => ?_) | with_reducible refine T_seq_drawT (id := 7) Γ_ok drawsAny pl41_7 (by kernel_rfl) (fun K hK => ?_) | with_reducible refine T_last_drawT (id := 7) Γ_ok drawsAny pl41_7 (by kernel_rfl) (fun K hK => ?_) | ((refine goR0 _ _ _ _ _ _ _ _ ?_ ?_ ?_ ?_ ?_ ?_ ?_ ?_) <;> (repeat intro hb) <;> first | exact True.intro | refine Lf.mk ?_)))
      · rcases List.eq_nil_or_concat A with hA | ⟨A', a, hA⟩
        · subst hA
          simp only [List.length_nil] at g1
          omega
        · rw [List.concat_eq_append] at hA
          subst hA
          have hm : m2 = A'.length + 1 := by rw [← g1]; simp
          have hL2 : L = A' ++ a :: x :: B := by rw [← hL]; simp
          have e1 : gk L m2 = x := by rw [hL2, hm]; exact gk_mid1 A' B a x
          have e2 : gk L (m2 - 1) = a := by rw [hL2, hm]; exact gk_pre A' B a x
          have hsw : ∀ p q, q < 9 → updE (updE (kyE L) m2 0 (kyL (gk L (m2 - 1)))) (m2 - 1) 0 (kyL (gk L m2)) p q = kyE (A' ++ x :: a :: B) p q := by
            intro p q hq
            rw [e1, e2, show m2 - 1 = A'.length by omega, hm, hL2]
            exact ky_swap A' B a x hq
          rw [e1, e2] at hb
          refine ⟨m2 - 1, by omega, _, ?_, m2 - 1, A', a :: B, rfl, by omega, ?_, ?_, rfl⟩
          · ((try simp only [List.length_append, List.length_cons, List.length_nil, Nat.zero_add]); refine Wk.intro [0, 1] (by decide) (by decide) (by intro o ho; simp at ho ⊢ <;> omega) ?_ ?_ <;> repeat' (first | (refine WkV.imm ?_; congr 1; omega) | (exact WkV.eqF (hsw _ _ hj) (by simp)) | exact WkVL.nil | refine WkVL.cons ?_ ?_ | exact WkV.top | exact WkV.imm rfl | exact WkV.imm (by simp) | exact WkV.optr rfl | exact WkV.own rfl (by simp) | exact WkV.nil_own (.inl rfl) | exact WkV.map rfl | (refine WkV.free ?_; simp [Free, FreeL] <;> assumption) | (refine WkV.free (fun _ _ => FreeL_nth ?_ _); simp [Free, FreeL]; done) | refine WkV.agg ?_ | refine WkV.tup ?_ | refine WkV.fn ?_ ?_ | exact WkO.dead | exact WkO.raw | refine WkO.ghost ?_ | exact WkO.mpE rfl trivial | refine WkO.box ?_ rfl | refine WkO.arr ?_ | refine And.intro ?_ (And.intro (by first | exact fun h => h | exact fun _ => rfl | exact nofun) ?_) | exact trivial | (intro i j hi hj)))
          · rw [← g2]; simp
          · intro y hy
            rcases List.mem_cons.1 hy with rfl | hy
            · exact hb.2
            · exact g3 y hy
      · have hlr : Lr (A ++ x :: B) := by
          refine ins_lr (by rw [g2]; exact h3) g3 ?_
          rcases List.eq_nil_or_concat A with hA | ⟨A', a, hA⟩
          · subst hA
            intro a ha
            cases ha
          · rw [List.concat_eq_append] at hA
            subst hA
            have hm : m2 = A'.length + 1 := by rw [← g1]; simp
            have hL2 : L = A' ++ a :: x :: B := by rw [← hL]; simp
            have e1 : gk L m2 = x := by rw [hL2, hm]; exact gk_mid1 A' B a x
            have e2 : gk L (m2 - 1) = a := by rw [hL2, hm]; exact gk_pre A' B a x
            have hb2 := hb (by omega)
            rw [e1, e2] at hb2
            have hao : a ∈ o := by rw [← g2]; simp
            have hlo : Lr (A' ++ [a] ++ B) := by rw [g2]; exact h3
            exact lr_last (List.pairwise_append.1 hlo).1 (ltK_tot hg hxm (hne a hao).2 (hne a hao).1 hb2)
        refine ⟨ids.length - (i + 1), by omega, _, ?_, i + 1, L, by omega, by omega, hLl, by rw [← hL]; exact hlr, ?_, rfl⟩
        · ((try simp only [List.length_append, List.length_cons, List.length_nil, Nat.zero_add]); refine Wk.intro [0, 1] (by decide) (by decide) (by intro o ho; simp at ho ⊢ <;> omega) ?_ ?_ <;> repeat' (first | (refine WkV.imm ?_; congr 1; omega) | exact WkVL.nil | refine WkVL.cons ?_ ?_ | exact WkV.top | exact WkV.imm rfl | exact WkV.imm (by simp) | exact WkV.optr rfl | exact WkV.own rfl (by simp) | exact WkV.nil_own (.inl rfl) | exact WkV.map rfl | (refine WkV.free ?_; simp [Free, FreeL] <;> assumption) | (refine WkV.free (fun _ _ => FreeL_nth ?_ _); simp [Free, FreeL]; done) | refine WkV.agg ?_ | refine WkV.tup ?_ | refine WkV.fn ?_ ?_ | exact WkO.dead | exact WkO.raw | refine WkO.ghost ?_ | exact WkO.mpE rfl trivial | refine WkO.box ?_ rfl | refine WkO.arr ?_ | refine And.intro ?_ (And.intro (by first | exact fun h => h | exact fun _ => rfl | exact nofun) ?_) | exact trivial | (intro i j hi hj)))
        · intro k
          rw [take_gi hil, List.map_append, List.mem_append, ← h4 k, List.map_singleton, List.mem_singleton, hxk, ← hL, ← g2, List.mem_append, List.mem_append, List.mem_cons]
          constructor
          · rintro (h | h | h)
            · exact .inl (.inl h)
            · exact .inr h
            · exact .inl (.inr h)
          · rintro ((h | h) | h)
            · exact .inl h
            · exact .inr (.inr h)
            · exact .inr (.inl h)
  · have hie : i = ids.length := by omega
    subst hie
    rw [List.take_length] at h4
    have hoe := ordK_uniq hg hd h3 h4
    (simp only [go_sem, ↓reduceIte, Nat.reduceAdd, Nat.reduceSub, Nat.reduceMul, Nat.reduceLT, Nat.reduceLeDiff, Nat.reduceEqDiff, Nat.reduceGT, Int.reduceToNat, Int.reduceBEq, Int.reduceBNe]; try simp (disch := omega) only [wrapI, wrapU, half_sum, toNat_sub1, toNat_add1, Int.toNat_natCast])
    (repeat' (first | with_reducible refine T_seq_drawT (id := 5) Γ_ok drawsAny pl41_5 (by kernel_rfl) (fun K hK => ?_) | with_reducible refine T_last_drawT (id := 5) Γ_ok drawsAny pl41_5 (by kernel_rfl) (fun K hK => ?_) | with_reducible refine T_seq_drawT (id := 7) Γ_ok drawsAny pl41_7 (by kernel_rfl) (fun K hK => ?_) | with_reducible refine T_last_drawT (id := 7) Γ_ok drawsAny pl41_7 (by kernel_rfl) (fun K hK => ?_) | ((refine goR0 _ _ _ _ _ _ _ _ ?_ ?_ ?_ ?_ ?_ ?_ ?_ ?_) <;> (repeat intro hb) <;> first | exact True.intro | refine Lf.mk ?_)))
    exact ⟨1, _, by rw [ordK_len hg hd], by rw [ordK_len hg hd]; rfl, fun _ _ _ _ => by rw [hoe]⟩
theorem rord_tc (b : Bd) (ids : List Int) (hg : Good b) (hd : diffP b ids) (hi : ids.length ≤ 120) : Makes Tryd.prog 41 [bdA b, ints ids] (.own 0 0 (ordK b ids).length none) [.arr 43 9 (ordK b ids).length (kyE (ordK b ids))] :=
  Makes.lst1J (fun i j => kyE_pl _ i j) ((rord_raw b ids hg hd hi).mono fun v σ' h => .inr h)
end Go.Proofs.YtddcnafocohghaaDoor
namespace Go.Proofs.YtddcnafocohghaaDoor
open Go.Ab
set_option maxRecDepth 100000 in
set_option maxHeartbeats 4000000 in
theorem rfind_bad (b : Bd) (v : P6) (hl : b.ks.length ≤ 9223372036854775807) (h : bdB b = false) : TC Tryd.prog 15 [bdA b, p6A v] [] (fun u _ => u = .tup [.imm (.slice none 0 0), .imm (.int .i64 1)]) := by
  have c2 := rvalid_b b hl
  rw [h] at c2
  (refine TC_of_T Γ_ok Tryd.func15 rfl (by kernel_rfl) ?_; simp only [Tryd.ntmps15, Tryd.results15, List.length_cons, List.length_nil, Nat.reduceSub, Nat.reduceAdd, List.replicate, List.cons_append, List.nil_append])
  (have dl1 := c2; repeat' (first | with_reducible refine T_seq_drawT (id := 7) Γ_ok drawsAny pl15_7 (by kernel_rfl) (fun K hK => ?_) | with_reducible refine T_last_drawT (id := 7) Γ_ok drawsAny pl15_7 (by kernel_rfl) (fun K hK => ?_) | ((refine goB0 _ _ _ _ _ _ _ _ ?_ ?_ ?_ ?_ ?_ ?_ ?_ ?_) <;> (repeat intro hb) <;> first | exact True.intro | refine Lf.mk ?_)))
set_option maxRecDepth 100000 in
set_option maxHeartbeats 4000000 in
theorem rfind_raw (b : Bd) (v : P6) (hl : b.ks.length ≤ 9223372036854775807) : TC Tryd.prog 15 [bdA b, p6A v] [] (fun u σ' => 
    (u = .tup [.imm (.slice none 0 0), .imm (.int .i64 (findR b v).2)] ∧ (findR b v).1.length = 0) ∨
    ∃ k E', u = .tup [.own k 0 (findR b v).1.length none, .imm (.int .i64 (findR b v).2)] ∧ nthO σ' k = .arr 3 1 (findR b v).1.length E' ∧ ∀ i j, i < (findR b v).1.length → j < 1 → E' i j = inE (findR b v).1 i j) := by
  have c1 := rvalid_v v
  have c2 := rvalid_b b hl
  unfold findR
  by_cases hb : bdB b = true
  · rw [hb] at c2
    have hg := bdB_iff.1 hb
    have hl2 := hg.len
    by_cases hv : vOk v = true
    · rw [if_pos ⟨hb, hv⟩]
      rw [hv] at c1
      unfold findL
      (refine TC_of_T Γ_ok Tryd.func15 rfl (by kernel_rfl) ?_; simp only [Tryd.ntmps15, Tryd.results15, List.length_cons, List.length_nil, Nat.reduceSub, Nat.reduceAdd, List.replicate, List.cons_append, List.nil_append])
      (have dl1 := c1; have dl2 := c2; repeat' (first | with_reducible refine T_seq_drawT (id := 7) Γ_ok drawsAny pl15_7 (by kernel_rfl) (fun K hK => ?_) | with_reducible refine T_last_drawT (id := 7) Γ_ok drawsAny pl15_7 (by kernel_rfl) (fun K hK => ?_) | ((refine goR0 _ _ _ _ _ _ _ _ ?_ ?_ ?_ ?_ ?_ ?_ ?_ ?_) <;> (repeat intro hb) <;> first | exact True.intro | refine Lf.mk ?_)))
      refine T_loopW (fun m st => ∃ (i : Nat) (o : List Int), i ≤ b.ks.length ∧ m + i = b.ks.length ∧ o.length ≤ i ∧ (b.ks.filter fun k => near1 v.x12 k.p b.tol).map (·.id) = o ++ ((b.ks.drop i).filter fun k => near1 v.x12 k.p b.tol).map (·.id) ∧
          st = ⟨[.top, .top, .optr 0 0 0, .optr 1 0 0, .imm (.slice none 0 0), .imm (.int .i64 0), .own 2 0 o.length none, .imm (.int .i64 i)] ++ List.replicate 34 .top, [.box 24 (bdL b), .box 26 (p6L v), intO o]⟩)
        b.ks.length ⟨_, Wk.trans (Wk.push 3 1 (inE [])) ?_, 0, [], by omega, rfl, by simp, rfl, rfl⟩ ?_
      · ((try simp only [List.length_append, List.length_cons, List.length_nil, Nat.zero_add]); refine Wk.intro [0, 1, 2] (by decide) (by decide) (by intro o ho; simp at ho ⊢ <;> omega) ?_ ?_ <;> repeat' (first | exact WkVL.nil | refine WkVL.cons ?_ ?_ | exact WkV.top | exact WkV.imm rfl | exact WkV.imm (by simp) | exact WkV.optr rfl | exact WkV.own rfl (by simp) | exact WkV.nil_own (.inl rfl) | exact WkV.map rfl | (refine WkV.free ?_; simp [Free, FreeL] <;> assumption) | (refine WkV.free (fun _ _ => FreeL_nth ?_ _); simp [Free, FreeL]; done) | refine WkV.agg ?_ | refine WkV.tup ?_ | refine WkV.fn ?_ ?_ | exact WkO.dead | exact WkO.raw | refine WkO.ghost ?_ | exact WkO.mpE rfl trivial | refine WkO.box ?_ rfl | refine WkO.arr ?_ | refine And.intro ?_ (And.intro (by first | exact fun h => h | exact fun _ => rfl | exact nofun) ?_) | exact trivial | (intro i j hi hj)))
      rintro m st ⟨i, o, h0, h1, h2, h3, rfl⟩
      by_cases hi : i < b.ks.length
      · have hn := rplays_tc (gk b.ks i) b.tol v hv (hg.one _ (gk_mem hi)).2.2.2.2.2.2 hg.t0 hg.t1
        rw [findL_drop _ hi] at h3
        have hsn := fun p q => in_snoc o (gk b.ks i).id (i := p) (j := q)
        generalize near1 v.x12 (gk b.ks i).p b.tol = x at hn h3
        (simp only [go_sem, ↓reduceIte, Nat.reduceAdd, Nat.reduceSub, Nat.reduceMul, Nat.reduceLT, Nat.reduceLeDiff, Nat.reduceEqDiff, Nat.reduceGT, Int.reduceToNat, Int.reduceBEq, Int.reduceBNe]; try simp (disch := omega) only [wrapI, wrapU, half_sum, toNat_sub1, toNat_add1, Int.toNat_natCast])
        (have dl1 := hn; repeat' (first | with_reducible refine T_seq_drawT (id := 7) Γ_ok drawsAny pl15_7 (by kernel_rfl) (fun K hK => ?_) | with_reducible refine T_last_drawT (id := 7) Γ_ok drawsAny pl15_7 (by kernel_rfl) (fun K hK => ?_) | ((refine goR0 _ _ _ _ _ _ _ _ ?_ ?_ ?_ ?_ ?_ ?_ ?_ ?_) <;> (repeat intro hb) <;> first | exact True.intro | refine Lf.mk ?_)))
        · rw [hb, if_pos rfl] at h3
          refine ⟨b.ks.length - (i + 1), by omega, _, ?_, i + 1, o ++ [(gk b.ks i).id], by omega, by omega, by simp; omega, by rw [h3, List.append_assoc], rfl⟩
          ((try simp only [List.length_append, List.length_cons, List.length_nil, Nat.zero_add]); refine Wk.intro [0, 1, 4] (by decide) (by decide) (by intro o ho; simp at ho ⊢ <;> omega) ?_ ?_ <;> repeat' (first | (refine WkV.imm ?_; congr 1; omega) | (exact WkV.eqF (hsn _ _ (by simpa using hi) hj) (by simp)) | exact WkVL.nil | refine WkVL.cons ?_ ?_ | exact WkV.top | exact WkV.imm rfl | exact WkV.imm (by simp) | exact WkV.optr rfl | exact WkV.own rfl (by simp) | exact WkV.nil_own (.inl rfl) | exact WkV.map rfl | (refine WkV.free ?_; simp [Free, FreeL] <;> assumption) | (refine WkV.free (fun _ _ => FreeL_nth ?_ _); simp [Free, FreeL]; done) | refine WkV.agg ?_ | refine WkV.tup ?_ | refine WkV.fn ?_ ?_ | exact WkO.dead | exact WkO.raw | refine WkO.ghost ?_ | exact WkO.mpE rfl trivial | refine WkO.box ?_ rfl | refine WkO.arr ?_ | refine And.intro ?_ (And.intro (by first | exact fun h => h | exact fun _ => rfl | exact nofun) ?_) | exact trivial | (intro i j hi hj)))
        · rw [hb, if_neg (by simp), List.nil_append] at h3
          refine ⟨b.ks.length - (i + 1), by omega, _, ?_, i + 1, o, by omega, by omega, by omega, h3, rfl⟩
          ((try simp only [List.length_append, List.length_cons, List.length_nil, Nat.zero_add]); refine Wk.intro [0, 1, 2] (by decide) (by decide) (by intro o ho; simp at ho ⊢ <;> omega) ?_ ?_ <;> repeat' (first | (refine WkV.imm ?_; congr 1; omega) | exact WkVL.nil | refine WkVL.cons ?_ ?_ | exact WkV.top | exact WkV.imm rfl | exact WkV.imm (by simp) | exact WkV.optr rfl | exact WkV.own rfl (by simp) | exact WkV.nil_own (.inl rfl) | exact WkV.map rfl | (refine WkV.free ?_; simp [Free, FreeL] <;> assumption) | (refine WkV.free (fun _ _ => FreeL_nth ?_ _); simp [Free, FreeL]; done) | refine WkV.agg ?_ | refine WkV.tup ?_ | refine WkV.fn ?_ ?_ | exact WkO.dead | exact WkO.raw | refine WkO.ghost ?_ | exact WkO.mpE rfl trivial | refine WkO.box ?_ rfl | refine WkO.arr ?_ | refine And.intro ?_ (And.intro (by first | exact fun h => h | exact fun _ => rfl | exact nofun) ?_) | exact trivial | (intro i j hi hj)))
      · rw [List.drop_of_length_le (by omega)] at h3
        simp only [List.filter_nil, List.map_nil, List.append_nil] at h3
        rw [h3]
        (simp only [go_sem, ↓reduceIte, Nat.reduceAdd, Nat.reduceSub, Nat.reduceMul, Nat.reduceLT, Nat.reduceLeDiff, Nat.reduceEqDiff, Nat.reduceGT, Int.reduceToNat, Int.reduceBEq, Int.reduceBNe]; try simp (disch := omega) only [wrapI, wrapU, half_sum, toNat_sub1, toNat_add1, Int.toNat_natCast])
        (repeat' (first | with_reducible refine T_seq_drawT (id := 7) Γ_ok drawsAny pl15_7 (by kernel_rfl) (fun K hK => ?_) | with_reducible refine T_last_drawT (id := 7) Γ_ok drawsAny pl15_7 (by kernel_rfl) (fun K hK => ?_) | ((refine goR0 _ _ _ _ _ _ _ _ ?_ ?_ ?_ ?_ ?_ ?_ ?_ ?_) <;> (repeat intro hb) <;> first | exact True.intro | refine Lf.mk ?_)))
        exact .inr ⟨2, _, rfl, rfl, fun _ _ _ _ => rfl⟩
    · rw [if_neg fun h => hv h.2]
      rw [Bool.not_eq_true] at hv
      rw [hv] at c1
      (refine TC_of_T Γ_ok Tryd.func15 rfl (by kernel_rfl) ?_; simp only [Tryd.ntmps15, Tryd.results15, List.length_cons, List.length_nil, Nat.reduceSub, Nat.reduceAdd, List.replicate, List.cons_append, List.nil_append])
      (have dl1 := c1; have dl2 := c2; repeat' (first | with_reducible refine T_seq_drawT (id := 7) Γ_ok drawsAny pl15_7 (by kernel_rfl) (fun K hK => ?_) | with_reducible refine T_last_drawT (id := 7) Γ_ok drawsAny pl15_7 (by kernel_rfl) (fun K hK => ?_) | ((refine goR0 _ _ _ _ _ _ _ _ ?_ ?_ ?_ ?_ ?_ ?_ ?_ ?_) <;> (repeat intro hb) <;> first | exact True.intro | refine Lf.mk ?_)))
      exact .inl trivial
  · rw [if_neg fun h => hb h.1]
    rw [Bool.not_eq_true] at hb
    exact (rfind_bad b v hl hb).mono fun u σ' h => .inl ⟨h, rfl⟩
theorem rfind_tc (b : Bd) (v : P6) (hl : b.ks.length ≤ 9223372036854775807) : Makes Tryd.prog 15 [bdA b, p6A v] (.tup [.own 0 0 (findR b v).1.length none, .imm (.int .i64 (findR b v).2)]) [intO (findR b v).1] :=
  Makes.lstJ (fun i j => inE_pl _ i j) trivial (rfind_raw b v hl)
end Go.Proofs.YtddcnafocohghaaDoor
