/-
  Three gaps (plain).
-/
import Derived.Test.YtdglbjjenihdlaaDoorQP3
import Derived.Test.YtdglbjjenihdlaaDoorQP4
set_option linter.unusedSimpArgs false
set_option linter.unusedVariables false
namespace Go.Proofs.YtdglbjjenihdlaaDoor
theorem lo_cast {p q p' q' : P6} (h : Lo p q) (e : q.sub p = q'.sub p') : Lo p' q' := by unfold Lo at *; rwa [← e]
theorem fld {p q r : P6} {c : Int} (h : p.sub q = up12 r c) : p.a - q.a = r.a + 12 * c ∧ p.b - q.b = r.b ∧ p.c - q.c = r.c ∧ p.d - q.d = r.d ∧ p.e - q.e = r.e ∧ p.f - q.f = r.f :=
  ⟨congrArg P6.a h, congrArg P6.b h, congrArg P6.c h, congrArg P6.d h, congrArg P6.e h, congrArg P6.f h⟩
theorem gap3 {pt : Nat → P6} {n b a : Nat} {cb ca : Int} (hs : ∀ i j,i ≤ j → ∃ c,(pt j).sub (pt i) = up12 (pt (j - i)) c) (hb : b < n) (ha : a < n)
    (hB : Lo z6 (up12 (pt b) cb)) (hA : Lo (up12 (pt a) ca) z6)
    (mB : ∀ k c, k < n → Lo z6 (up12 (pt k) c) → ¬ Lo (up12 (pt k) c) (up12 (pt b) cb))
    (mA : ∀ k c, k < n → Lo (up12 (pt k) c) z6 → ¬ Lo (up12 (pt a) ca) (up12 (pt k) c))
    (inj : ∀ i j c d, i < n → j < n → up12 (pt i) c = up12 (pt j) d → i = j) {i : Nat} (hi : i < n) :
    ∃ D,(D = up12 (pt b) cb ∨ D = (up12 (pt a) ca).neg ∨ D = (up12 (pt b) cb).add (up12 (pt a) ca).neg) ∧ Lo z6 D ∧ (∃ k c,k < n ∧ (pt i).add D = up12 (pt k) c) ∧
      ∀ j c, j < n → Lo (pt i) (up12 (pt j) c) → ¬ Lo (up12 (pt j) c) ((pt i).add D) := by
  have hA' : Lo z6 (up12 (pt a) ca).neg := lo_cast hA (by apply P6.ext' <;> simp only [P6.sub,P6.neg,up12,z6] <;> omega)
  by_cases h1 : i + b < n
  · refine ⟨_, .inl rfl, hB, ?_, fun j c hj h2 h3 => ?_⟩
    · obtain ⟨c1, e1⟩ := hs i (i + b) (by omega)
      rw [show i + b - i = b by omega] at e1
      obtain ⟨f1, f2, f3, f4, f5, f6⟩ := fld e1
      exact ⟨i + b, cb - c1, h1, by apply P6.ext' <;> simp only [P6.add, up12] <;> omega⟩
    · by_cases hij : i ≤ j
      · obtain ⟨c1, e1⟩ := hs i j hij
        obtain ⟨f1, f2, f3, f4, f5, f6⟩ := fld e1
        exact mB (j - i) (c1 + c) (by omega) (lo_cast h2 (by apply P6.ext' <;> simp only [P6.sub,up12,z6] <;> omega)) (lo_cast h3 (by apply P6.ext' <;> simp only [P6.sub,P6.add,up12] <;> omega))
      · obtain ⟨c1, e1⟩ := hs j i (by omega)
        obtain ⟨c3, e3⟩ := hs (i - j) (b + (i - j)) (by omega)
        rw [show b + (i - j) - (i - j) = b by omega] at e3
        obtain ⟨f1, f2, f3, f4, f5, f6⟩ := fld e1
        obtain ⟨k1, k2, k3, k4, k5, k6⟩ := fld e3
        exact mB (b + (i - j)) (cb - c3 + c1 - c) (by omega) (lo_cast h3 (by apply P6.ext' <;> simp only [P6.sub,P6.add,up12,z6] <;> omega)) (lo_cast h2 (by apply P6.ext' <;> simp only [P6.sub,P6.add,up12] <;> omega))
  · by_cases h4 : a ≤ i
    · refine ⟨_, .inr (.inl rfl), hA', ?_, fun j c hj h2 h3 => ?_⟩
      · obtain ⟨c1, e1⟩ := hs (i - a) i (by omega)
        rw [show i - (i - a) = a by omega] at e1
        obtain ⟨f1, f2, f3, f4, f5, f6⟩ := fld e1
        exact ⟨i - a, c1 - ca, by omega, by apply P6.ext' <;> simp only [P6.add, P6.neg, up12] <;> omega⟩
      · by_cases hij : j < i
        · obtain ⟨c1, e1⟩ := hs j i (by omega)
          obtain ⟨f1, f2, f3, f4, f5, f6⟩ := fld e1
          exact mA (i - j) (c1 - c) (by omega) (lo_cast h2 (by apply P6.ext' <;> simp only [P6.sub,up12,z6] <;> omega)) (lo_cast h3 (by apply P6.ext' <;> simp only [P6.sub,P6.add,P6.neg,up12] <;> omega))
        · obtain ⟨c1, e1⟩ := hs i j (by omega)
          obtain ⟨c3, e3⟩ := hs (j - i) (j - i + a) (by omega)
          rw [show j - i + a - (j - i) = a by omega] at e3
          obtain ⟨f1, f2, f3, f4, f5, f6⟩ := fld e1
          obtain ⟨k1, k2, k3, k4, k5, k6⟩ := fld e3
          exact mA (j - i + a) (c1 + c + ca - c3) (by omega) (lo_cast h3 (by apply P6.ext' <;> simp only [P6.sub,P6.add,P6.neg,up12,z6] <;> omega)) (lo_cast h2 (by apply P6.ext' <;> simp only [P6.sub,P6.add,up12] <;> omega))
    · refine ⟨_,.inr (.inr rfl),hB.trans (lo_cast hA' (by apply P6.ext' <;> simp only [P6.sub,P6.add,P6.neg,up12,z6] <;> omega)),?_,fun j c hj h2 h3 => ?_⟩
      · obtain ⟨c1, e1⟩ := hs i (i + b) (by omega)
        obtain ⟨c2, e2⟩ := hs (i + b - a) (i + b) (by omega)
        rw [show i + b - i = b by omega] at e1
        rw [show i + b - (i + b - a) = a by omega] at e2
        obtain ⟨f1, f2, f3, f4, f5, f6⟩ := fld e1
        obtain ⟨k1, k2, k3, k4, k5, k6⟩ := fld e2
        exact ⟨i + b - a, cb - c1 - ca + c2, by omega, by apply P6.ext' <;> simp only [P6.add, P6.neg, up12] <;> omega⟩
      · by_cases hij : i ≤ j
        · obtain ⟨c1, e1⟩ := hs i j hij
          obtain ⟨c3, e3⟩ := hs (j - i) b (by omega)
          obtain ⟨f1, f2, f3, f4, f5, f6⟩ := fld e1
          obtain ⟨k1, k2, k3, k4, k5, k6⟩ := fld e3
          have g1 : Lo z6 (up12 (pt (j - i)) (c1 + c)) := lo_cast h2 (by apply P6.ext' <;> simp only [P6.sub,up12,z6] <;> omega)
          rcases Lo.tri (up12 (pt (j - i)) (c1 + c)) (up12 (pt b) cb) with g | g | g
          · exact mB _ _ (by omega) g1 g
          · have := inj _ _ _ _ (by omega) hb g; omega
          · exact mA (b - (j - i)) (cb - (c1 + c) + c3) (by omega) (lo_cast g (by apply P6.ext' <;> simp only [P6.sub,up12,z6] <;> omega)) (lo_cast h3 (by apply P6.ext' <;> simp only [P6.sub,P6.add,P6.neg,up12] <;> omega))
        · obtain ⟨c1, e1⟩ := hs j i (by omega)
          obtain ⟨c3, e3⟩ := hs (i - j) a (by omega)
          obtain ⟨f1, f2, f3, f4, f5, f6⟩ := fld e1
          obtain ⟨k1, k2, k3, k4, k5, k6⟩ := fld e3
          have g1 : Lo (up12 (pt (i - j)) (c1 - c)) z6 := lo_cast h2 (by apply P6.ext' <;> simp only [P6.sub,up12,z6] <;> omega)
          rcases Lo.tri (up12 (pt a) ca) (up12 (pt (i - j)) (c1 - c)) with g | g | g
          · exact mA _ _ (by omega) g1 g
          · have := inj _ _ _ _ ha (by omega) g; omega
          · exact mB (a - (i - j)) (ca - (c1 - c) + c3) (by omega) (lo_cast g (by apply P6.ext' <;> simp only [P6.sub,up12,z6] <;> omega)) (lo_cast h3 (by apply P6.ext' <;> simp only [P6.sub,P6.add,P6.neg,up12] <;> omega))
theorem inB_one {p : P6} {k : Int} (h : inB p = true) (h1 : inB (up12 p k) = true) : k = 0 := by
  obtain ⟨_, a1, a2⟩ := inB_iff.1 h
  obtain ⟨_, b1, b2⟩ := inB_iff.1 h1
  have key : ∀ {p : P6} {k : Int}, ¬ Lo p z6 → Lo (up12 p k) oct → ¬ 0 < k := fun {p k} h1 h2 h3 => by
    have h4 : Lo (up12 p 1) oct := by
      by_cases e : k = 1
      · subst e; exact h2
      · exact (lo_up (p := p) (show 1 < k by omega)).trans h2
    exact h1 (lo_cast h4 (by apply P6.ext' <;> simp only [P6.sub, up12, z6, oct] <;> omega))
  have h3 := key a1 b2
  have h4 := key (k := -k) b1 (by rwa [up_up, show k + -k = 0 by omega, up_0])
  omega
theorem chL_at {g : P6} : ∀ {k : Nat} {l : List P6}, chL g k = some l → ∀ i, i < k → chE g i = some (gP l i)
  | 0, l, h, i, hi => by omega
  | k + 1, l, h, i, hi => by
    rw [chL] at h
    cases hq : chL g k with
    | none => rw [hq] at h; cases h
    | some m =>
      rw [hq] at h
      simp only [Option.bind_some] at h
      have hl := (chL_len hq).1
      cases he : chE g k with
      | none => rw [he] at h; cases h
      | some x =>
        rw [he] at h
        simp only [Option.map_some, Option.some.injEq] at h
        subst h
        by_cases e : i = k
        · subst e
          rw [he]
          unfold gP
          rw [List.getD_eq_getElem?_getD, List.getElem?_append_right (by omega), hl, Nat.sub_self]
          rfl
        · rw [chL_at hq i (by omega)]
          unfold gP
          rw [List.getD_eq_getElem?_getD, List.getD_eq_getElem?_getD, List.getElem?_append_left (by omega)]
theorem ch_pts {g : P6} {n : Nat} {l : List P6} (h : chL g n = some l) : ∃ o : Nat → Int,(∀ k,k < n → gP l k = up12 (pwP g k) (o k)) ∧ ∀ k,k < n → inB (gP l k) = true := by
  refine ⟨fun k => -(octR (powR g k).1).2.1, fun k hk => ?_, fun k hk => ?_⟩
  all_goals
    have h1 := chL_at h k hk
    unfold chE at h1
    split at h1
    · rename_i h2
      simp only [Option.some.injEq] at h1
      obtain ⟨g1, g2, g3, g4, g5⟩ := oct_ok h2.2
      have hp : (powR g k).1 = pwP g k := by
        have := h2.1
        unfold powR at this ⊢
        by_cases hb : Bd6 576 (pwP g k)
        · rw [if_pos hb]
        · rw [if_neg hb] at this; simp at this
      rw [← h1]
      first | exact g2 | (rw [g3]; simp only [hp])
    · cases h1
theorem ch_gaps {g : P6} {n : Nat} (hn : 1 ≤ n) (h64 : n ≤ 64) (h : (chR g n).2 = 0) (hv : SclOk (chR g n).1) : (chR g n).1.length = n ∧ ∃ u v : P6,∀ j,j < n → (atP (chR g n).1 (j + 1)).sub (atP (chR g n).1 j) = u ∨ (atP (chR g n).1 (j + 1)).sub (atP (chR g n).1 j) = v ∨ (atP (chR g n).1 (j + 1)).sub (atP (chR g n).1 j) = u.add v := by
  have hb : Bd6 576 g := by
    by_cases hb : Bd6 576 g
    · exact hb
    · unfold chR at h; rw [if_neg (fun k => hb k.1)] at h; simp at h
  unfold chR at h hv ⊢
  rw [if_pos ⟨hb, by omega, by omega⟩, Int.toNat_natCast] at h hv ⊢
  cases hl : chL g n with
  | none => rw [hl] at h; simp at h
  | some l =>
    rw [hl] at h hv
    simp only [] at h hv ⊢
    cases hm : srtP l with
    | none => rw [hm] at h; simp at h
    | some s =>
      rw [hm] at hv
      simp only [] at hv ⊢
      obtain ⟨hr, hp⟩ := srtP_some hm
      have hll := (chL_len hl).1
      have hsl : s.length = n := by rw [hp.length_eq, hll]
      refine ⟨hsl, ?_⟩
      obtain ⟨o, ho, hin⟩ := ch_pts hl
      -- the points
      obtain ⟨pt, hpt⟩ : ∃ pt : Nat → P6, pt = fun (k : Nat) => up12 (pwP g (k : Int)) (o k) := ⟨_, rfl⟩
      have hpl : ∀ k, k < n → pt k = gP l k := fun k hk => by rw [hpt, ho k hk]
      have hs : ∀ i j, i ≤ j → ∃ c, (pt j).sub (pt i) = up12 (pt (j - i)) c := fun i j hij => by
        refine ⟨o j - o i - o (j - i), ?_⟩
        have q : ∀ x : Int, x * ((j - i : Nat) : Int) = x * (j : Int) - x * (i : Int) := fun x => by
          rw [show ((j - i : Nat) : Int) = (j : Int) - (i : Int) by omega, Int.mul_sub]
        rw [hpt]
        apply P6.ext' <;> simp only [P6.sub, up12, pwP, q] <;> omega
      have hgl : ∀ {i},i < n → ∃ h : i < l.length,gP l i = l[i] := fun {i} hi => ⟨by omega,by unfold gP;rw [List.getD_eq_getElem?_getD,List.getElem?_eq_getElem (by omega)];rfl⟩
      have hgs : ∀ {i},i < n → ∃ h : i < s.length,gP s i = s[i] := fun {i} hi => ⟨by omega,by unfold gP;rw [List.getD_eq_getElem?_getD,List.getElem?_eq_getElem (by omega)];rfl⟩
      have hinj : ∀ i j c d, i < n → j < n → up12 (pt i) c = up12 (pt j) d → i = j := fun i j c d hi hj e => by
        have e1 : pt i = up12 (pt j) (d - c) := by
          have q1 := congrArg P6.a e
          have q2 := congrArg P6.b e
          have q3 := congrArg P6.c e
          have q4 := congrArg P6.d e
          have q5 := congrArg P6.e e
          have q6 := congrArg P6.f e
          simp only [up12] at q1 q2 q3 q4 q5 q6
          apply P6.ext' <;> simp only [up12] <;> omega
        have e2 : d - c = 0 := inB_one (p := pt j) (by rw [hpl j hj];exact hin j hj) (by rw [← e1,hpl i hi];exact hin i hi)
        rw [e2, up_0, hpl i hi, hpl j hj] at e1
        obtain ⟨i1, i2⟩ := hgl hi
        obtain ⟨j1, j2⟩ := hgl hj
        rw [i2, j2] at e1
        exact (List.getElem_inj (hp.nodup_iff.1 hr.nodup)).1 e1
      have hto : ∀ k, k < n → ∃ j, j < n ∧ pt k = gP s j := fun k hk => by
        obtain ⟨i1, i2⟩ := hgl hk
        have : l[k] ∈ s := hp.mem_iff.2 (List.getElem_mem _)
        obtain ⟨j, j1, j2⟩ := List.getElem_of_mem this
        obtain ⟨j3, j4⟩ := hgs (i := j) (by omega)
        exact ⟨j, by omega, by rw [hpl k hk, i2, j4, j2]⟩
      have hfro : ∀ j, j < n → ∃ k, k < n ∧ gP s j = pt k := fun j hj => by
        obtain ⟨j1, j2⟩ := hgs hj
        have : s[j] ∈ l := hp.mem_iff.1 (List.getElem_mem _)
        obtain ⟨k, k1, k2⟩ := List.getElem_of_mem this
        obtain ⟨k3, k4⟩ := hgl (i := k) (by omega)
        exact ⟨k, by omega, by rw [hpl k (by omega), k4, j2, k2]⟩
      have hat : ∀ d, ∃ k c, k < n ∧ atP s d = up12 (pt k) c := fun d => by
        obtain ⟨k, k1, k2⟩ := hfro (d % s.length) (by rw [← hsl]; exact Nat.mod_lt _ (by omega))
        exact ⟨k, _, k1, by unfold atP; rw [k2]⟩
      have hlow : ∀ {j},j < n → ¬ Lo (gP s j) z6 ∧ Lo (gP s j) oct := fun {j} hj => (inB_iff.1 (scl_in hv (by omega))).2
      have key : ∀ k d, atP s (d + s.length * k) = up12 (atP s d) k := by
        intro k
        induction k with
        | zero => intro d; rw [Nat.mul_zero, Nat.add_zero]; exact (up_0 _).symm
        | succ k ih => intro d; rw [Nat.mul_succ, ← Nat.add_assoc, atP_per (by omega), ih, up_up]; rfl
      have hup : ∀ k c, k < n → ¬ Lo (up12 (pt k) c) z6 → ∃ d, up12 (pt k) c = atP s d := fun k c hk hz => by
        obtain ⟨j, j1, j2⟩ := hto k hk
        rw [j2] at hz ⊢
        have hc0 : 0 ≤ c := by
          refine Int.not_lt.1 fun hc0 => hz ?_
          have h1 : Lo (up12 (gP s j) (-1)) z6 := lo_cast (hlow j1).2 (by apply P6.ext' <;> simp only [P6.sub,up12,oct,z6] <;> omega)
          by_cases e : c = -1
          · subst e; exact h1
          · exact (lo_up (show c < -1 by omega)).trans h1
        obtain ⟨m, rfl⟩ := Int.eq_ofNat_of_zero_le hc0
        exact ⟨j + s.length * m, by rw [key, atP_lt (by omega)]⟩
      have hle : ∀ {d e}, d ≤ e → ¬ Lo (atP s e) (atP s d) := fun {d e} hde => by
        by_cases q : d = e
        · subst q; exact Lo.irrefl _
        · exact (atP_lo hv (by omega)).asymm
      have hat0 : atP s 0 = z6 := by rw [atP_lt (by omega), hv.zero]
      obtain ⟨b, cb, hb1, hb2⟩ := hat 1
      obtain ⟨a, ha1, ha2⟩ := hfro (n - 1) (by omega)
      refine ⟨up12 (pt b) cb, (up12 (pt a) (-1)).neg, fun j hj => ?_⟩
      obtain ⟨i, hi1, hi2⟩ := hfro j hj
      obtain ⟨D, d1, d2, ⟨k, c, d3, d4⟩, d5⟩ := gap3 (ca := -1) hs hb1 ha1
        (by rw [← hb2, ← hat0]; exact atP_lo hv (by omega))
        (by rw [← ha2];exact lo_cast (hlow (j := n - 1) (by omega)).2 (by apply P6.ext' <;> simp only [P6.sub,up12,oct,z6] <;> omega))
        (fun k c hk h1 h2 => by
          obtain ⟨d, hd⟩ := hup k c hk h1.asymm
          rw [hd, ← hb2] at h2
          rw [hd, ← hat0] at h1
          have h3 : 0 < d := by
            rcases Nat.eq_zero_or_pos d with e | e
            · subst e; exact absurd h1 (Lo.irrefl _)
            · exact e
          exact hle h3 h2)
        (fun k c hk h1 h2 => by
          obtain ⟨q, q1, q2⟩ := hto k hk
          rw [q2] at h1 h2
          rw [← ha2] at h2
          have hc0 : c ≤ -1 := by
            refine Int.not_lt.1 fun hc0 => (hlow q1).1 ?_
            by_cases e : c = 0
            · subst e; rwa [up_0] at h1
            · have := lo_up (p := gP s q) (show 0 < c by omega)
              rw [up_0] at this
              exact this.trans h1
          have h3 : Lo (up12 (gP s (n - 1)) (-1)) (up12 (gP s q) (-1)) := by
            by_cases e : c = -1
            · subst e; exact h2
            · exact h2.trans (lo_up (by omega))
          exact scl_le hv (show q ≤ n - 1 by omega) (by omega) (lo_cast h3 (by apply P6.ext' <;> simp only [P6.sub,up12] <;> omega)))
        hinj hi1
      have hj0 : atP s j = pt i := by rw [atP_lt (by omega), hi2]
      have hlt : Lo (pt i) ((pt i).add D) := lo_cast d2 (by apply P6.ext' <;> simp only [P6.sub, P6.add, z6] <;> omega)
      have hnz : ¬ Lo (up12 (pt k) c) z6 := by
        rw [← d4]
        intro q
        have h1 := (hlow hj).1
        rw [hi2] at h1
        exact h1 (hlt.trans q)
      obtain ⟨d, hd⟩ := hup k c d3 hnz
      rw [hd] at d4
      have hjd : j < d := by
        refine Nat.lt_of_not_le fun q => hle q ?_
        rw [hj0, ← d4]; exact hlt
      have hd1 : d = j + 1 := by
        by_cases q : d = j + 1
        · exact q
        · obtain ⟨k2, c2, q1, q2⟩ := hat (j + 1)
          refine absurd ?_ (d5 k2 c2 q1 ?_)
          · rw [← q2, d4]; exact atP_lo hv (by omega)
          · rw [← q2, ← hj0]; exact atP_step hv j
      subst hd1
      have hD : (atP s (j + 1)).sub (atP s j) = D := by
        rw [← d4, hj0]
        apply P6.ext' <;> simp only [P6.sub, P6.add] <;> omega
      rw [hD]
      exact d1
end Go.Proofs.YtdglbjjenihdlaaDoor
