/-
  The nearest degree (plain).
-/
import Derived.Test.YtdglbjjenihdlaaDoorQP3
import Derived.Test.YtdglbjjenihdlaaDoorQN24
set_option linter.unusedSimpArgs false
set_option linter.unusedVariables false
namespace Go.Proofs.YtdglbjjenihdlaaDoor
theorem lo_cast' {p q p' q' : P6} (h : Lo p q) (e : q.sub p = q'.sub p') : Lo p' q' := by unfold Lo at *; rwa [← e]
def absP (x : P6) : P6 := if Lo x z6 then x.neg else x
def disR (p q : P6) : P6 × Bool := if (divR p q).2 = 0 then (absP (p.sub q), true) else ((divR p q).1, false)
theorem disR_ok {p q : P6} (h : (disR p q).2 = true) : Bd6 576 p ∧ Bd6 576 q ∧ Bd6 576 (p.sub q) ∧ (disR p q).1 = absP (p.sub q) := by
  unfold disR at *
  by_cases hd : (divR p q).2 = 0
  · rw [if_pos hd]
    unfold divR at hd
    by_cases h1 : Bd6 576 p ∧ Bd6 576 q
    · rw [if_pos h1] at hd
      by_cases h2 : Bd6 576 (p.sub q)
      · exact ⟨h1.1, h1.2, h2, rfl⟩
      · rw [if_neg h2] at hd; simp at hd
    · rw [if_neg h1] at hd; simp at hd
  · rw [if_neg hd] at h; simp at h
theorem absP_bd {x : P6} (h : Bd6 576 x) : Bd6 576 (absP x) := by
  unfold absP
  split
  · exact h.neg
  · exact h
theorem absP_pos {x : P6} (h : ¬ Lo x z6) : absP x = x := if_neg h
theorem absP_sw {x : P6} (h : ¬ Lo z6 x) : absP x = x.neg := by
  unfold absP
  by_cases k : Lo x z6
  · rw [if_pos k]
  · rw [if_neg k]
    rcases Lo.tri x z6 with q | q | q
    · exact absurd q k
    · subst q; rfl
    · exact absurd q h
theorem nlo_trans {x y z : P6} (h : ¬ Lo y x) (k : ¬ Lo z y) : ¬ Lo z x := fun q => by
  rcases Lo.tri x y with e | e | e
  · exact k (q.trans e)
  · subst e; exact k q
  · exact h e
theorem scl_key {s : List P6} (hn : 0 < s.length) : ∀ k d, atP s (d + s.length * k) = up12 (atP s d) k := by
  intro k
  induction k with
  | zero => intro d; rw [Nat.mul_zero, Nat.add_zero]; exact (up_0 _).symm
  | succ k ih => intro d; rw [Nat.mul_succ, ← Nat.add_assoc, atP_per hn, ih, up_up]; rfl
theorem scl_any {s : List P6} (h : SclOk s) {j : Nat} (hj : j < s.length) (c : Int) : Lo (up12 (gP s j) c) z6 ∨ ∃ d,up12 (gP s j) c = atP s d := by
  by_cases hc : 0 ≤ c
  · obtain ⟨m, rfl⟩ := Int.eq_ofNat_of_zero_le hc
    exact .inr ⟨j + s.length * m, by rw [scl_key (by omega), atP_lt hj]⟩
  · left
    have h1 : Lo (up12 (gP s j) (-1)) z6 := lo_cast' (inB_iff.1 (scl_in h hj)).2.2 (by apply P6.ext' <;> simp only [P6.sub,up12,oct,z6] <;> omega)
    by_cases e : c = -1
    · subst e; exact h1
    · exact (lo_up (show c < -1 by omega)).trans h1
theorem atP_nle {s : List P6} (h : SclOk s) {d e : Nat} (hde : d ≤ e) : ¬ Lo (atP s e) (atP s d) := by
  by_cases q : d = e
  · subst q; exact Lo.irrefl _
  · exact (atP_lo h (by omega)).asymm
theorem near_best {s : List P6} (h : SclOk s) {p : P6} {i o : Int} (hr : nearR s p = (i,o,0)) : Bd6 576 p ∧ -96 ≤ o ∧ o ≤ 96 ∧ ∃ j : Nat,j < s.length ∧ i = j ∧
    ∀ k c, k < s.length → ¬ Lo (absP (p.sub (up12 (gP s k) c))) (absP (p.sub (up12 (gP s j) o))) := by
  unfold nearR at hr
  rw [tf_t h, if_pos rfl] at hr
  by_cases he : (octR p).2.2 = 0
  · rw [if_pos he] at hr
    obtain ⟨h1, h2, h3, h4, h5⟩ := oct_ok he
    generalize octR p = w at *
    obtain ⟨q, o', e⟩ := w
    simp only [] at hr h2 h3 h4 h5 he
    obtain ⟨b1, b2, b3⟩ := inB_iff.1 h2
    have hn := scl_pos h
    obtain ⟨r, r1, r2, r3⟩ := scl_find h b2 s.length hn (Nat.le_refl _)
    have hr9 := nearI_eq h b1 r1 r2 r3
    unfold nearO at hr
    rw [hr9] at hr
    have hB : Lo q (atP s (r + 1)) := by
      by_cases e : r + 1 < s.length
      · rw [atP_lt e]; exact r3 _ (by omega) e
      · obtain rfl : r = s.length - 1 := by omega
        have h6 := atP_per hn 0
        rw [Nat.zero_add, atP_lt hn, h.zero] at h6
        rw [show s.length - 1 + 1 = s.length by omega, h6]
        exact b3
    have hA : ¬ Lo q (atP s r) := by rw [atP_lt r1]; exact r2
    have hpq : ∀ x c, p.sub (up12 x c) = q.sub (up12 x (c - o')) := fun x c => by
      rw [h3]; apply P6.ext' <;> simp only [P6.sub, up12] <;> omega
    -- what lies elsewhere
    have far : ∀ k c,k < s.length → ¬ Lo (absP (p.sub (up12 (gP s k) c))) (q.sub (atP s r)) ∨ ¬ Lo (absP (p.sub (up12 (gP s k) c))) ((atP s (r + 1)).sub q) := fun k c hk => by
      rw [hpq]
      have lowc : ∀ x, ¬ Lo (atP s r) x → ¬ Lo (absP (q.sub x)) (q.sub (atP s r)) := fun x hx => by
        have h6 : ¬ Lo (q.sub x) z6 := fun g => nlo_trans (x := x) (y := atP s r) (z := q) hx hA (lo_cast' g (by apply P6.ext' <;> simp only [P6.sub,z6] <;> omega))
        rw [absP_pos h6]
        exact fun g => hx (lo_cast' g (by apply P6.ext' <;> simp only [P6.sub] <;> omega))
      rcases scl_any h hk (c - o') with g | ⟨d, hd⟩
      · left
        refine lowc _ fun g2 => ?_
        have h6 := g2.trans g
        have h7 := atP_nle h (Nat.zero_le r)
        rw [show atP s 0 = z6 by rw [atP_lt hn, h.zero]] at h7
        exact h7 h6
      · rw [hd]
        by_cases hdr : d ≤ r
        · left
          exact lowc _ (atP_nle h hdr)
        · right
          have hx := atP_nle h (show r + 1 ≤ d by omega)
          have h6 : Lo q (atP s d) := by
            rcases Lo.tri q (atP s d) with g | g | g
            · exact g
            · rw [← g] at hx; exact absurd hB hx
            · exact absurd (g.trans hB) hx
          rw [absP_sw (fun g => h6.asymm (lo_cast' g (by apply P6.ext' <;> simp only [P6.sub, z6] <;> omega)))]
          exact fun g => hx (lo_cast' g (by apply P6.ext' <;> simp only [P6.sub, P6.neg] <;> omega))
    by_cases hv : Bd6 576 (q.sub (gP s r)) ∧ Bd6 576 ((atP s (r + 1)).sub q)
    · rw [if_pos hv] at hr
      rw [cmT_bd hv.1 hv.2] at hr
      by_cases hc : cmpP (q.sub (gP s r)) ((atP s (r + 1)).sub q) ≤ 0
      · rw [if_pos hc] at hr
        simp only [Prod.mk.injEq] at hr
        obtain ⟨q1, q2, _⟩ := hr
        subst q2
        refine ⟨h1, h4, h5, r, r1, q1.symm, fun k c hk => ?_⟩
        have h6 := cmpP_le.1 hc
        have h7 : absP (p.sub (up12 (gP s r) o')) = q.sub (atP s r) := by
          rw [hpq, show o' - o' = 0 by omega, up_0, atP_lt r1]
          exact absP_pos fun g => r2 (lo_cast' g (by apply P6.ext' <;> simp only [P6.sub, z6] <;> omega))
        rw [h7]
        rcases far k c hk with g | g
        · exact g
        · rw [atP_lt r1]
          exact nlo_trans h6 g
      · rw [if_neg hc] at hr
        simp only [Prod.mk.injEq] at hr
        obtain ⟨q1, q2, _⟩ := hr
        have h6 : Lo ((atP s (r + 1)).sub q) (q.sub (gP s r)) := by
          refine Decidable.not_not.1 fun g => hc (cmpP_le.2 g)
        have hup : up12 (gP s ((r + 1) % s.length)) o = up12 (atP s (r + 1)) o' := by
          unfold atP; rw [up_up, ← q2]; congr 1; omega
        have h7 : absP (p.sub (up12 (gP s ((r + 1) % s.length)) o)) = (atP s (r + 1)).sub q := by
          rw [hup,hpq,show o' - o' = 0 by omega,up_0,absP_sw fun g => hB.asymm (lo_cast' g (by apply P6.ext' <;> simp only [P6.sub,z6] <;> omega))]
          exact sub_neg _ _
        have ho : -96 ≤ o ∧ o ≤ 96 := by
          have hdv : (r + 1) / s.length ≤ 1 := by
            have : (r + 1) / s.length ≤ s.length / s.length := Nat.div_le_div_right (by omega)
            rwa [Nat.div_self hn] at this
          have hml := Nat.div_mul_le_self (r + 1) s.length
          generalize (r + 1) / s.length = y at q2 hdv hml
          by_cases e : y = 0
          · subst e; omega
          · obtain rfl : y = 1 := by omega
            have e2 : r + 1 = s.length := by omega
            have h8 := hv.2
            rw [e2, atP_end h] at h8
            rw [h3] at b1 h8
            unfold Bd6 up12 P6.sub oct at *
            simp only [] at *
            omega
        refine ⟨h1, ho.1, ho.2, (r + 1) % s.length, Nat.mod_lt _ hn, q1.symm, fun k c hk => ?_⟩
        rw [h7]
        rcases far k c hk with g | g
        · rw [atP_lt r1] at g
          exact nlo_trans h6.asymm g
        · exact g
    · rw [if_neg hv] at hr
      simp at hr
  · rw [if_neg he] at hr
    simp only [Prod.mk.injEq] at hr
    exact absurd hr.2.2 he
theorem near_err {s : List P6} (h : SclOk s) {p : P6} (hr : (nearR s p).2.2 ≠ 0) : nearR s p = (0,0,3) ∨ nearR s p = (0,0,1) ∧ ¬ Bd6 576 p := by
  unfold nearR at *
  rw [tf_t h, if_pos rfl] at *
  by_cases he : (octR p).2.2 = 0
  · rw [if_pos he] at *
    unfold nearO at *
    split
    · rename_i hv
      rw [if_pos hv] at hr
      split at hr <;> simp at hr
    · exact .inl rfl
  · rw [if_neg he]
    rcases oct_err he with ⟨e1, e2⟩ | ⟨e1, e2⟩
    · rw [e1]; exact .inl rfl
    · rw [e1]; exact .inr ⟨rfl, e2⟩
end Go.Proofs.YtdglbjjenihdlaaDoor
