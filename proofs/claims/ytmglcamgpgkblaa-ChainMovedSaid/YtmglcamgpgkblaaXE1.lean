/-
  Plain facts for ChainMoved: moved scores.
-/
import Derived.Test.YtmglcamgpgkblaaXS1
import Derived.Test.YtmglcamgpgkblaaXP3
import Derived.Test.YtmglcamgpgkblaaXP1
set_option linter.unusedSimpArgs false
set_option linter.unusedVariables false
namespace Go.Proofs.Ytmglcamgpgkblaa
open Go.Ab
theorem neg_add (p q : P6) : (p.add q).neg = p.neg.add q.neg := by apply P6.ext' <;> simp [P6.add, P6.neg] <;> omega
theorem Opn.short2 {E : Gf} {n x : Nat} {w : List Nat} (h : Opn E n w) (hc : 2 < w.count x) : ∃ u,Opn E n u ∧ u.length < w.length := by
  obtain ⟨a, t, rfl, h1⟩ := split_at hc
  obtain ⟨b, t2, rfl, h2⟩ := split_at (show 1 < t.count x by omega)
  obtain ⟨c, d, rfl, h3⟩ := split_at (show 0 < t2.count x by omega)
  have h' : Opn E n ((a ++ [x]) ++ ((b ++ [x]) ++ ((c ++ [x]) ++ d))) := by simpa using h
  obtain ⟨e0, p, hp, hz⟩ := h'
  obtain ⟨qa, r1, ha, hr1, rfl⟩ := wv_app.1 hp
  obtain ⟨qb, r2, hb, hr2, rfl⟩ := wv_app.1 hr1
  obtain ⟨qc, qd, hc', hd, rfl⟩ := wv_app.1 hr2
  rw [endV_snoc] at hb hr1
  simp only [endV_snoc] at hb hr1 hr2 hc' hd
  have ee : endV x d = n := by simpa only [endV_app, endV_cons, endV_nil] using e0
  have k1 : wv E n ((a ++ [x]) ++ d) = some (qa.add qd) := wv_app.2 ⟨qa, qd, ha, by rw [endV_snoc]; exact hd, rfl⟩
  have k2 : wv E n ((a ++ [x]) ++ ((b ++ [x]) ++ d)) = some (qa.add (qb.add qd)) := wv_app.2 ⟨qa,_,ha,by rw [endV_snoc];exact wv_app.2 ⟨qb,qd,hb,by rw [endV_snoc];exact hd,rfl⟩,rfl⟩
  have k3 : wv E n ((a ++ [x]) ++ ((c ++ [x]) ++ d)) = some (qa.add (qc.add qd)) := wv_app.2 ⟨qa,_,ha,by rw [endV_snoc];exact wv_app.2 ⟨qc,qd,hc',by rw [endV_snoc];exact hd,rfl⟩,rfl⟩
  by_cases z1 : qa.add qd = z6
  · by_cases z2 : qa.add (qb.add qd) = z6
    · by_cases z3 : qa.add (qc.add qd) = z6
      · have e1 : qb = z6 := by
          have : qb.add (qa.add qd) = z6 := by rw [← add_as, add_c qb qa, add_as]; exact z2
          rwa [z1, add_z] at this
        subst e1
        rw [z_add] at hz
        exact absurd z3 hz
      · exact ⟨_, ⟨by simpa only [endV_app, endV_cons, endV_nil] using ee, _, k3, z3⟩, by simp; omega⟩
    · exact ⟨_, ⟨by simpa only [endV_app, endV_cons, endV_nil] using ee, _, k2, z2⟩, by simp; omega⟩
  · exact ⟨_, ⟨by simpa only [endV_app, endV_cons, endV_nil] using ee, _, k1, z1⟩, by simp; omega⟩
theorem short_at {N : Nat} {E : Gf} (hE : GOk N E) : ∀ (k n : Nat) (w : List Nat),w.length ≤ k → Opn E n w → ∃ u,Opn E n u ∧ u.length ≤ 2 * N ∧ u.length ≤ w.length
  | 0, n, w, hk, h => by
    exact absurd (List.length_eq_zero_iff.1 (show w.length = 0 by omega)) h.ne
  | k + 1, n, w, hk, h => by
    by_cases hN : w.length ≤ 2 * N
    · exact ⟨w, h, hN, Nat.le_refl _⟩
    · obtain ⟨p, h1, _⟩ := h.2
      obtain ⟨x, hx⟩ := pigeon_ex (k := 2) (wv_rg hE h1) (show 2 * N < w.length by omega)
      obtain ⟨u, h2, h3⟩ := h.short2 hx
      obtain ⟨u2, h4, h5, h6⟩ := short_at hE k n u (by omega) h2
      exact ⟨u2, h4, h5, by omega⟩
theorem thr_two {N : Nat} {E : Gf} (hE : GOk N E) {n : Nat} {w : List Nat} (h : Opn E n w) : thr E N n (2 * N) ≠ [] ∧ (thr E N n (2 * N)).length ≤ w.length := by
  obtain ⟨u, h1, h2, h3⟩ := short_at hE _ n w (Nat.le_refl _) h
  cases hl : lenO E N n (2 * N) with
  | none => have := thr_none hE hl u h1; omega
  | some l =>
    obtain ⟨t1, t2, t3, t4⟩ := thr_some hE hl
    exact ⟨t1.ne, by have := (t4 u h1).1; omega⟩
theorem gp_mem {l : List Pr} {i : Nat} (h : i < l.length) : gp l i ∈ l := by simp [gp, h]
theorem th_cases (s : Sc) (n : Int) : (¬ (ScOk s ∧ 0 ≤ n ∧ n < s.notes.length) ∧ thR s n = ([], z6, 1)) ∨
    (ScOk s ∧ ∃ k : Nat, n = k ∧ k < s.notes.length ∧ ((∀ w, ¬ Opn (stepR s) k w) ∧ thR s n = ([], z6, 4) ∨
      ∃ w p,Opn (stepR s) k w ∧ w = thr (stepR s) s.notes.length k (2 * s.notes.length) ∧ w.length ≤ 2 * s.notes.length ∧ (∀ u,Opn (stepR s) k u → w.length ≤ u.length) ∧ wv (stepR s) k w = some p ∧ p ≠ z6 ∧ thR s n = (stps (stepR s) k w,p,0))) := by
  by_cases hc : ScOk s ∧ 0 ≤ n ∧ n < s.notes.length
  · obtain ⟨hs, h0, h1⟩ := hc
    have hE := stepR_ok hs
    obtain ⟨k, rfl⟩ := Int.eq_ofNat_of_zero_le h0
    refine .inr ⟨hs, k, rfl, by omega, ?_⟩
    unfold thR
    rw [if_pos ⟨tf_t hs, h0, h1⟩, Int.toNat_natCast]
    by_cases ht : thr (stepR s) s.notes.length k (2 * s.notes.length) = []
    · refine .inl ⟨fun w hw => (thr_two hE hw).1 ht, ?_⟩
      rw [ht, res_nil]
    · obtain ⟨t1, t2⟩ := thr_get hE ht
      obtain ⟨p, h2, h3, h4⟩ := res_ok t1
      exact .inr ⟨_, p, t1, rfl, t2, fun u hu => (thr_two hE hu).2, h2, h3, h4⟩
  · refine .inl ⟨hc, ?_⟩
    unfold thR
    rw [if_neg (by rw [tf_iff]; exact hc)]
theorem SameC.th {s t : Sc} (h : SameC s t) (n : Int) : thR s n = thR t n := by
  have hE := stepR_ok h.so
  have hF := stepR_ok h.tk
  rw [← h.len] at hF
  have hN := h.so.sz
  unfold SzOk at hN
  unfold thR
  rw [tf_t h.so, tf_t h.tk, ← h.len]
  split
  · rw [← thr_congr hE hF (m := 400) (fun n w hw => h.opn n w hw) n.toNat _ (by omega)]
    by_cases ht : thr (stepR s) s.notes.length n.toNat (2 * s.notes.length) = []
    · exact h.res (by rw [ht]; simp) (.inl ht)
    · obtain ⟨t1, t2⟩ := thr_get hE ht
      exact h.res (by omega) (.inr t1)
  · rfl
def vφ (s : Sc) (φ : Int → P6) (n : Nat) : P6 := φ (gn s.notes n).v
theorem mov_find {s t : Sc} {φ : Int → P6} (h : Mov s t φ) (a b : Nat) :
    (s.pairs.find? (pairB a b) = none ∧ t.pairs.find? (pairB a b) = none) ∨ ∃ i,i < s.pairs.length ∧ s.pairs.find? (pairB a b) = some (gp s.pairs i) ∧ t.pairs.find? (pairB a b) = some (gp t.pairs i) := by
  have hp : ∀ i, i < s.pairs.length → pairB a b (gp t.pairs i) = pairB a b (gp s.pairs i) := fun i hi => by
    obtain ⟨h1, h2, h3, _⟩ := h.one i hi
    unfold pairB; rw [h1, h2, h3]
  cases hf : s.pairs.find? (pairB a b) with
  | none =>
    refine .inl ⟨rfl, ?_⟩
    rw [List.find?_eq_none] at hf ⊢
    intro p hpt
    obtain ⟨i, hi, rfl⟩ := mem_gp hpt
    rw [h.len] at hi
    rw [hp i hi]; exact hf _ (gp_mem hi)
  | some p =>
    obtain ⟨h1, as, bs, h2, h3⟩ := List.find?_eq_some_iff_append.1 hf
    have hi : as.length < s.pairs.length := by rw [h2]; simp
    have eg : gp s.pairs as.length = p := by simp [gp, h2]
    refine .inr ⟨as.length, hi, by rw [eg], ?_⟩
    have hit : as.length < t.pairs.length := by rw [h.len]; exact hi
    have et : t.pairs = t.pairs.take as.length ++ (gp t.pairs as.length :: t.pairs.drop (as.length + 1)) := by
      conv => lhs; rw [← List.take_append_drop as.length t.pairs, List.drop_eq_getElem_cons hit]
      simp [gp, hit]
    refine List.find?_eq_some_iff_append.2 ⟨by rw [hp _ hi, eg]; exact h1, _, _, et, fun q hq => ?_⟩
    obtain ⟨j, hj, rfl⟩ := List.mem_iff_getElem.1 hq
    rw [List.length_take] at hj
    have e4 : (t.pairs.take as.length)[j] = gp t.pairs j := by simp [gp, show j < t.pairs.length by omega]
    rw [e4, hp j (by omega)]
    have e5 : gp s.pairs j ∈ as := by
      have hja : j < as.length := by omega
      have : gp s.pairs j = as[j] := by simp [gp, h2, List.getElem?_append_left hja, hja]
      rw [this]; exact List.getElem_mem _
    exact h3 _ e5
theorem mov_tie {s t : Sc} {φ : Int → P6} (h : Mov s t φ) (a b : Nat) : tieB t a b = tieB s a b := by unfold tieB befN;rw [h.notes]
theorem mov_step {s t : Sc} {φ : Int → P6} (h : Mov s t φ) (hs : ScOk s) (a b : Nat) : (stepR s a b = none ∧ stepR t a b = none) ∨ ∃ k v v2,stepR s a b = some (k,v) ∧ stepR t a b = some (k,v2) ∧ cg6 v2 (v.add ((vφ s φ b).add (vφ s φ a).neg)) := by
  cases hq : stepR s a b with
  | none =>
    refine .inl ⟨rfl, ?_⟩
    unfold stepR at hq ⊢
    rw [h.notes, mov_tie h]
    split
    · rename_i hr
      rw [if_pos hr] at hq
      split
      · rename_i ht; rw [if_pos ht] at hq; cases hq
      · rename_i ht
        rw [if_neg ht, Option.map_eq_none_iff] at hq
        rcases mov_find h a b with ⟨_, h2⟩ | ⟨i, _, h1, _⟩
        · rw [h2]; rfl
        · rw [h1] at hq; cases hq
    · rfl
  | some e =>
    obtain ⟨k, v⟩ := e
    obtain ⟨_, _, hc⟩ := step_cases hs hq
    refine .inr ⟨k, v, ?_⟩
    unfold stepR at hq ⊢
    rw [h.notes, mov_tie h]
    split at hq
    · rename_i hr
      rw [if_pos hr]
      split at hq
      · rename_i ht
        rw [if_pos ht]
        simp only [Option.some.injEq, Prod.mk.injEq] at hq
        obtain ⟨rfl, rfl⟩ := hq
        refine ⟨z6, rfl, rfl, ?_⟩
        rcases hc with ⟨_, _, _, e⟩ | ⟨_, _, _, e, _⟩
        · unfold vφ; rw [e, add_neg]; exact cg6.refl _
        · simp at e
      · rename_i ht
        rw [if_neg ht]
        rcases mov_find h a b with ⟨h1, _⟩ | ⟨i, hi, h1, h2⟩
        · rw [h1] at hq; cases hq
        · rw [h1] at hq
          rw [h2]
          have hpb := pairB_iff.1 (List.find?_some h1)
          have hpo := (pr_one hs (gp_mem hi)).1
          unfold PrB at hpo
          obtain ⟨m1, m2, m3, m4⟩ := h.one i hi
          simp only [Option.map_some, Option.some.injEq, Prod.mk.injEq] at hq ⊢
          rw [m1]
          refine ⟨_, trivial, ⟨hq.1, rfl⟩, ?_⟩
          rw [← hq.2]
          rcases hpb.2 with ⟨e1, e2⟩ | ⟨e1, e2⟩
          · rw [if_pos e1, if_pos e1]
            rw [e1, e2, Int.toNat_natCast, Int.toNat_natCast] at m4
            exact m4
          · rw [if_neg (by omega), if_neg (by omega)]
            rw [e1, e2, Int.toNat_natCast, Int.toNat_natCast] at m4
            have := m4.neg
            rw [neg_add, neg_add, neg_neg', add_c (φ _).neg] at this
            exact this
    · cases hq
theorem mov_walk {s t : Sc} {φ : Int → P6} (h : Mov s t φ) (hs : ScOk s) : ∀ {w : List Nat} {n : Nat} {p : P6},wv (stepR s) n w = some p → ∃ p2,wv (stepR t) n w = some p2 ∧ cg6 p2 (p.add ((vφ s φ (endV n w)).add (vφ s φ n).neg))
  | [], n, p, hp => by
    simp only [wv, Option.some.injEq] at hp
    subst hp
    refine ⟨z6, rfl, ?_⟩
    rw [endV_nil, add_neg]; exact cg6.refl _
  | b :: w, n, p, hp => by
    obtain ⟨k, v, q, h1, h2, rfl⟩ := wv_cons.1 hp
    obtain ⟨q2, h3, h4⟩ := mov_walk h hs h2
    rcases mov_step h hs n b with ⟨h5, _⟩ | ⟨k2, v1, v2, h5, h6, h7⟩
    · rw [h5] at h1; cases h1
    · rw [h5] at h1; cases h1
      refine ⟨v2.add q2, wv_cons.2 ⟨k, v2, q2, h6, h3, rfl⟩, ?_⟩
      have h8 := h7.add h4
      rw [endV_cons]
      have e : (v.add ((vφ s φ b).add (vφ s φ n).neg)).add (q.add ((vφ s φ (endV b w)).add (vφ s φ b).neg)) = (v.add q).add ((vφ s φ (endV b w)).add (vφ s φ n).neg) := by
        apply P6.ext' <;> simp only [P6.add, P6.neg] <;> omega
      rw [← e]; exact h8
theorem mov_same {s t : Sc} {φ : Int → P6} (h : Mov s t φ) (hs : ScOk s) (ht : ScOk t) : SameC s t := by
  refine ⟨hs, ht, by rw [h.notes], fun a b => ?_, fun n w p hl he => ?_⟩
  · unfold kindE
    rcases mov_step h hs a b with ⟨h1, h2⟩ | ⟨k, v, v2, h1, h2, _⟩
    · rw [h1, h2]
    · rw [h1, h2]
  · have key : ∀ q, wv (stepR s) n w = some q → wv (stepR t) n w = some q := fun q hq => by
      obtain ⟨p2, h1, h2⟩ := mov_walk h hs hq
      rw [he, add_neg, add_z] at h2
      rw [h1, h2.eq ((wv_bd (stepR_ok ht) h1).mono (by omega)) ((wv_bd (stepR_ok hs) hq).mono (by omega))]
    refine ⟨key p, fun hp => ?_⟩
    have hsome : ∀ {w : List Nat} {n : Nat}, (wv (stepR t) n w).isSome = true → (wv (stepR s) n w).isSome = true := by
      intro w
      induction w with
      | nil => intro n _; rfl
      | cons b w ih =>
        intro n hn
        obtain ⟨p, hp⟩ := Option.isSome_iff_exists.1 hn
        obtain ⟨k, v, q, h1, h2, rfl⟩ := wv_cons.1 hp
        rcases mov_step h hs n b with ⟨_, h5⟩ | ⟨k2, v1, v2, h5, h6, h7⟩
        · rw [h5] at h1; cases h1
        · obtain ⟨q2, hq2⟩ := Option.isSome_iff_exists.1 (ih (n := b) (by rw [h2]; rfl))
          rw [wv_cons.2 ⟨k2, v1, q2, h5, hq2, rfl⟩]; rfl
    obtain ⟨q, hq⟩ := Option.isSome_iff_exists.1 (hsome (w := w) (n := n) (by rw [hp]; rfl))
    have := key q hq
    rw [hp] at this
    cases this
    exact hq
end Go.Proofs.Ytmglcamgpgkblaa
