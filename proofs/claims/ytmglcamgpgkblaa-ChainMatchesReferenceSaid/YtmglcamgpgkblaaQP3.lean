/-
  Plain: how long the shortest chains are.
-/
import Derived.Test.YtmglcamgpgkblaaQP2
set_option linter.unusedSimpArgs false
set_option linter.unusedVariables false
namespace Go.Proofs.Ytmglcamgpgkblaa
theorem pigeon (k : Nat) : ∀ (N : Nat) (l : List Nat), (∀ x ∈ l, x < N) → (∀ x, l.count x ≤ k) → l.length ≤ k * N
  | 0, l, h, _ => by
    cases l with
    | nil => simp
    | cons x l => exact absurd (h x (by simp)) (Nat.not_lt_zero _)
  | N + 1, l, h, hc => by
    have h1 : l.length = l.count N + (l.filter fun x => decide (x ≠ N)).length := by
      clear hc h
      induction l with
      | nil => rfl
      | cons x l ih =>
        rw [List.count_cons, List.filter_cons, List.length_cons, ih]
        by_cases e : x = N
        · subst e; simp; omega
        · simp [e]; omega
    have h2 := pigeon k N (l.filter fun x => decide (x ≠ N)) (fun x hx => by
      have := List.mem_filter.1 hx
      have := h x this.1
      have : x ≠ N := by simpa using (List.mem_filter.1 hx).2
      omega) (fun x => Nat.le_trans (List.filter_sublist.count_le x) (hc x))
    have := hc N
    rw [Nat.mul_succ]; omega
theorem pigeon_ex {k N : Nat} {l : List Nat} (h : ∀ x ∈ l, x < N) (hl : k * N < l.length) : ∃ x, k < l.count x := by
  refine Classical.byContradiction fun hn => ?_
  have := pigeon k N l h fun x => Nat.le_of_not_lt fun hx => hn ⟨x, hx⟩
  omega
theorem split_at {x k : Nat} {l : List Nat} (h : k < l.count x) : ∃ a b,l = a ++ (x :: b) ∧ l.count x = b.count x + 1 := by
  have hm : x ∈ l := List.count_pos_iff.1 (by omega)
  obtain ⟨a, b, rfl, hn⟩ := List.eq_append_cons_of_mem hm
  refine ⟨a, b, rfl, ?_⟩
  rw [List.count_append, List.count_cons_self, List.count_eq_zero_of_not_mem hn]; omega
theorem endV_snoc (n x : Nat) (a : List Nat) : endV n (a ++ [x]) = x := by rw [endV_app]; rfl
theorem Opn.lt {N : Nat} {E : Gf} (hE : GOk N E) {n : Nat} {w : List Nat} (h : Opn E n w) : n < N := by
  obtain ⟨h0, p, h1, h2⟩ := h
  cases w with
  | nil => simp only [wv, Option.some.injEq] at h1; exact absurd h1.symm h2
  | cons b w => obtain ⟨k, v, q, h3, _⟩ := wv_cons.1 h1; exact (hE.rg _ _ _ h3).1
theorem Opn.short1 {E : Gf} {n x : Nat} {w : List Nat} (h : Opn E n w) (hc : 1 < w.count x) : ∃ m u,Opn E m u ∧ u.length < w.length := by
  obtain ⟨a, t, rfl, h1⟩ := split_at hc
  obtain ⟨b, c, rfl, h2⟩ := split_at (show 0 < t.count x by omega)
  have h' : Opn E n ((a ++ [x]) ++ ((b ++ [x]) ++ c)) := by simpa using h
  rcases h'.cut (by rw [endV_snoc, endV_snoc]) with h3 | h3
  · exact ⟨_, _, h3, by simp; omega⟩
  · exact ⟨_, _, h3, by simp; omega⟩
theorem short_all {N : Nat} {E : Gf} (hE : GOk N E) : ∀ (k n : Nat) (w : List Nat),w.length ≤ k → Opn E n w → ∃ m u,Opn E m u ∧ u.length ≤ N ∧ u.length ≤ w.length
  | 0, n, w, hk, h => by
    exact absurd (List.length_eq_zero_iff.1 (show w.length = 0 by omega)) h.ne
  | k + 1, n, w, hk, h => by
    by_cases hN : w.length ≤ N
    · exact ⟨n, w, h, hN, Nat.le_refl _⟩
    · obtain ⟨p, h1, _⟩ := h.2
      obtain ⟨x, hx⟩ := pigeon_ex (k := 1) (wv_rg hE h1) (show 1 * N < w.length by omega)
      obtain ⟨m, u, h2, h3⟩ := h.short1 hx
      obtain ⟨m2, u2, h4, h5, h6⟩ := short_all hE k m u (by omega) h2
      exact ⟨m2, u2, h4, h5, by omega⟩
theorem Opn.short2 {E : Gf} {n x : Nat} {w : List Nat} (h : Opn E n w) (hc : 2 < w.count x) : ∃ u,Opn E n u ∧ u.length < w.length := by
  obtain ⟨a, t, rfl, h1⟩ := split_at hc
  obtain ⟨b, t2, rfl, h2⟩ := split_at (show 1 < t.count x by omega)
  obtain ⟨c, d, rfl, h3⟩ := split_at (show 0 < t2.count x by omega)
  have h' : Opn E n ((a ++ [x]) ++ ((b ++ [x]) ++ ((c ++ [x]) ++ d))) := by simpa using h
  obtain ⟨e0, p, hp, hz⟩ := h'
  obtain ⟨qa, r1, ha, hr1, rfl⟩ := wv_app.1 hp
  obtain ⟨qb, r2, hb, hr2, rfl⟩ := wv_app.1 hr1
  obtain ⟨qc, qd, hc', hd, rfl⟩ := wv_app.1 hr2
  rw [endV_snoc] at hb hr1
  simp only [endV_snoc] at hb hr1 hr2 hc' hd
  have ee : endV x d = n := by simpa only [endV_app, endV_cons, endV_nil] using e0
  have k1 : wv E n ((a ++ [x]) ++ d) = some (qa.add qd) := wv_app.2 ⟨qa, qd, ha, by rw [endV_snoc]; exact hd, rfl⟩
  have k2 : wv E n ((a ++ [x]) ++ ((b ++ [x]) ++ d)) = some (qa.add (qb.add qd)) := wv_app.2 ⟨qa,_,ha,by rw [endV_snoc];exact wv_app.2 ⟨qb,qd,hb,by rw [endV_snoc];exact hd,rfl⟩,rfl⟩
  have k3 : wv E n ((a ++ [x]) ++ ((c ++ [x]) ++ d)) = some (qa.add (qc.add qd)) := wv_app.2 ⟨qa,_,ha,by rw [endV_snoc];exact wv_app.2 ⟨qc,qd,hc',by rw [endV_snoc];exact hd,rfl⟩,rfl⟩
  by_cases z1 : qa.add qd = z6
  · by_cases z2 : qa.add (qb.add qd) = z6
    · by_cases z3 : qa.add (qc.add qd) = z6
      · have e1 : qb = z6 := by
          have : qb.add (qa.add qd) = z6 := by rw [← add_as, add_c qb qa, add_as]; exact z2
          rwa [z1, add_z] at this
        subst e1
        rw [z_add] at hz
        exact absurd z3 hz
      · exact ⟨_, ⟨by simpa only [endV_app, endV_cons, endV_nil] using ee, _, k3, z3⟩, by simp; omega⟩
    · exact ⟨_, ⟨by simpa only [endV_app, endV_cons, endV_nil] using ee, _, k2, z2⟩, by simp; omega⟩
  · exact ⟨_, ⟨by simpa only [endV_app, endV_cons, endV_nil] using ee, _, k1, z1⟩, by simp; omega⟩
theorem short_at {N : Nat} {E : Gf} (hE : GOk N E) : ∀ (k n : Nat) (w : List Nat),w.length ≤ k → Opn E n w → ∃ u,Opn E n u ∧ u.length ≤ 2 * N ∧ u.length ≤ w.length
  | 0, n, w, hk, h => by
    exact absurd (List.length_eq_zero_iff.1 (show w.length = 0 by omega)) h.ne
  | k + 1, n, w, hk, h => by
    by_cases hN : w.length ≤ 2 * N
    · exact ⟨w, h, hN, Nat.le_refl _⟩
    · obtain ⟨p, h1, _⟩ := h.2
      obtain ⟨x, hx⟩ := pigeon_ex (k := 2) (wv_rg hE h1) (show 2 * N < w.length by omega)
      obtain ⟨u, h2, h3⟩ := h.short2 hx
      obtain ⟨u2, h4, h5, h6⟩ := short_at hE k n u (by omega) h2
      exact ⟨u2, h4, h5, by omega⟩
structure Best (E : Gf) (N n : Nat) (w : List Nat) : Prop where
  o : Opn E n w
  least : ∀ m u, Opn E m u → w.length ≤ u.length ∧ (u.length = w.length → n ≤ m ∧ (m = n → ¬ lexN u w))
  own : ∀ most, w.length ≤ most → thr E N n most = w
  le : w.length ≤ N
theorem srt_best {N : Nat} {E : Gf} (hE : GOk N E) : ((srt E N N).1.2 = [] ∧ ∀ n w,¬ Opn E n w) ∨ Best E N (srt E N N).1.1 (srt E N N).1.2 := by
  obtain ⟨h0, h⟩ := srt_spec hE N
  rcases h with ⟨h1, h2, h3⟩ | ⟨h1, h2, h3, h4, h5, h6⟩
  · refine .inl ⟨h1, fun n w hw => ?_⟩
    obtain ⟨m, u, k1, k2, _⟩ := short_all hE _ n w (Nat.le_refl _) hw
    have := h3 m u (k1.lt hE) k1
    omega
  · refine .inr ⟨h2, fun m u hu => h6 m u (hu.lt hE) hu, fun most hm => ?_, ?_⟩
    · have hl := lenO_mono h4 hm
      rw [h5]
      have e1 : thr E N (srt E N N).1.1 most = follow E N (srt E N N).1.1 (srt E N N).1.2.length (srt E N N).1.1 z6 := by rw [thr,hl]
      have e2 : thr E N (srt E N N).1.1 N = follow E N (srt E N N).1.1 (srt E N N).1.2.length (srt E N N).1.1 z6 := by rw [thr,h4]
      rw [e1, e2]
    · unfold lenO at h4
      rw [rfind] at h4
      omega
theorem thr_two {N : Nat} {E : Gf} (hE : GOk N E) {n : Nat} {w : List Nat} (h : Opn E n w) : thr E N n (2 * N) ≠ [] ∧ (thr E N n (2 * N)).length ≤ w.length := by
  obtain ⟨u, h1, h2, h3⟩ := short_at hE _ n w (Nat.le_refl _) h
  cases hl : lenO E N n (2 * N) with
  | none => have := thr_none hE hl u h1; omega
  | some l =>
    obtain ⟨t1, t2, t3, t4⟩ := thr_some hE hl
    exact ⟨t1.ne, by have := (t4 u h1).1; omega⟩
theorem thr_get {N : Nat} {E : Gf} (hE : GOk N E) {n most : Nat} (h : thr E N n most ≠ []) : Opn E n (thr E N n most) ∧ (thr E N n most).length ≤ most := by
  cases hl : lenO E N n most with
  | none => exact absurd ((thr_nil hE).2 hl) h
  | some l => obtain ⟨t1, t2, t3, t4⟩ := thr_some hE hl; exact ⟨t1, by omega⟩
theorem Opn.beside {N : Nat} {E : Gf} (hE : GOk N E) {n m : Nat} {k : Int} {v : P6} {w : List Nat} (h : Opn E n w) (he : E n m = some (k,v)) : Opn E m (n :: (w ++ [m])) := by
  obtain ⟨h0, p, h1, h2⟩ := h
  refine ⟨by rw [endV_cons,endV_snoc],v.neg.add (p.add (v.add z6)),wv_cons.2 ⟨k,v.neg,_,hE.sym _ _ _ _ he,wv_app.2 ⟨p,v.add z6,h1,by rw [h0];exact wv_cons.2 ⟨k,v,z6,he,rfl,rfl⟩,rfl⟩,rfl⟩,?_⟩
  rw [add_z, add_c p v, ← add_as, add_c v.neg v, add_neg, z_add]
  exact h2
end Go.Proofs.Ytmglcamgpgkblaa
