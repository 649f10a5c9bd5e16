/-
  Plain laws of logs: what Learn and Merge compute is what the references compute.
-/
import Derived.Test.YtnomenmakhielaaDoorQW15
set_option linter.unusedSimpArgs false
set_option linter.unusedVariables false
namespace Go.Proofs.YtnomenmakhielaaDoor
open Go.Ab

theorem mem_gt {l : List Tk} {x : Tk} : x ∈ l ↔ ∃ i, i < l.length ∧ gt l i = x := by
  refine ⟨fun h => ?_, fun ⟨i, hi, he⟩ => he ▸ gt_mem hi⟩
  obtain ⟨i, hi, he⟩ := List.mem_iff_getElem.1 h
  exact ⟨i, hi, by simp [gt, hi, he]⟩

abbrev Up (l : List Tk) : Prop := l.Pairwise fun x y => x.s < y.s

theorem Ris.up {l : List Tk} (h : Ris l) : Up l := by
  rw [Up, List.pairwise_iff_getElem]
  intro i j hi hj hij
  have := h.lt hij hj
  simpa [gt, hi, hj] using this

theorem Up.ris {l : List Tk} (h : Up l) : Ris l := by
  rw [Up, List.pairwise_iff_getElem] at h
  intro i hi
  have := h i (i + 1) (by omega) hi (by omega)
  simpa [gt, hi, show i < l.length by omega] using this

theorem Up.ext : ∀ {a b : List Tk}, Up a → Up b → (∀ x, x ∈ a ↔ x ∈ b) → a = b
  | [], [], _, _, _ => rfl
  | [], y :: b, _, _, h => by have := (h y).2 (by simp); simp at this
  | x :: a, [], _, _, h => by have := (h x).1 (by simp); simp at this
  | x :: a, y :: b, ha, hb, h => by
    rw [Up, List.pairwise_cons] at ha hb
    have hxy : x = y := by
      have h1 := (h x).1 (by simp)
      have h2 := (h y).2 (by simp)
      rw [List.mem_cons] at h1 h2
      rcases h1 with h1 | h1
      · exact h1
      · rcases h2 with h2 | h2
        · exact h2.symm
        · have := ha.1 y h2; have := hb.1 x h1; omega
    subst hxy
    rw [Up.ext ha.2 hb.2 fun z => ?_]
    refine ⟨fun hz => ?_, fun hz => ?_⟩
    · have := (h z).1 (by simp [hz])
      rw [List.mem_cons] at this
      rcases this with e | e
      · have := ha.1 z hz; rw [e] at this; omega
      · exact e
    · have := (h z).2 (by simp [hz])
      rw [List.mem_cons] at this
      rcases this with e | e
      · have := hb.1 z hz; rw [e] at this; omega
      · exact e

theorem Up.inj {l : List Tk} (h : Up l) {x y : Tk} (hx : x ∈ l) (hy : y ∈ l) (e : x.s = y.s) : x = y := by
  obtain ⟨i, hi, rfl⟩ := mem_gt.1 hx
  obtain ⟨j, hj, rfl⟩ := mem_gt.1 hy
  rcases Nat.lt_trichotomy i j with q | q | q
  · have := h.ris.lt q hj; omega
  · rw [q]
  · have := h.ris.lt q hi; omega

theorem knows_mem {l : List Tk} {k : Int} (h : knows l k) : el l k ∈ l ∧ (el l k).s = k := ⟨gt_mem h.1, h.2⟩
theorem mem_knows {l : List Tk} {x : Tk} (hr : Ris l) (h : x ∈ l) : knows l x.s ∧ el l x.s = x := by
  have hk : knows l x.s := by
    refine knows_of_rix hr ?_
    obtain ⟨i, hi, he⟩ := mem_gt.1 h
    by_cases hn : 0 ≤ rix l x.s
    · exact hn
    · exfalso
      have := rix_low x.s hr
      split at this
      · omega
      · rename_i hq
        obtain ⟨h1, h2, h3⟩ := low_spec x.s hr
        by_cases q : i < low l x.s
        · have := h2 i q; rw [he] at this; omega
        · have h4 := h3 (low l x.s) (Nat.le_refl _) (by omega)
          by_cases q2 : low l x.s = i
          · exact hq ⟨by omega, by rw [q2, he]⟩
          · have h5 := hr.lt (i := low l x.s) (j := i) (by omega) hi
            rw [he] at h5
            omega
  exact ⟨hk, hr.up.inj (knows_mem hk).1 h (knows_mem hk).2⟩
theorem knows_iff {l : List Tk} {k : Int} (hr : Ris l) : knows l k ↔ ∃ x ∈ l, x.s = k := ⟨fun h => ⟨_, knows_mem h⟩, fun ⟨x, hx, e⟩ => e ▸ (mem_knows hr hx).1⟩

theorem mem_ins {l : List Tk} {i : Nat} {x z : Tk} : z ∈ ins l i x ↔ z ∈ l ∨ z = x := by
  unfold ins
  rw [List.mem_append, List.mem_cons]
  have : z ∈ l ↔ z ∈ l.take i ∨ z ∈ l.drop i := by rw [← List.mem_append, List.take_append_drop]
  rw [this]
  constructor
  · rintro (h | h | h)
    · exact .inl (.inl h)
    · exact .inr h
    · exact .inl (.inr h)
  · rintro ((h | h) | h)
    · exact .inl h
    · exact .inr (.inr h)
    · exact .inr (.inl h)
theorem mem_lrn {l : List Tk} {x z : Tk} : z ∈ lrn l x ↔ z ∈ l ∨ z = x := mem_ins

theorem Val.ok {l : List Tk} (h : Val l) {x : Tk} (hx : x ∈ l) : OkT x := by
  obtain ⟨i, hi, rfl⟩ := mem_gt.1 hx
  exact h.1 i hi
theorem val_of {l : List Tk} (h1 : ∀ x ∈ l, OkT x) (h2 : Up l) : Val l := ⟨fun i hi => h1 _ (gt_mem hi), h2.ris⟩

theorem up_snoc {l : List Tk} {x : Tk} (h : Up l) (hx : ∀ y ∈ l, y.s < x.s) : Up (l ++ [x]) := by
  rw [Up, List.pairwise_append]
  exact ⟨h, List.pairwise_singleton _ _, fun a ha b hb => by simp at hb; rw [hb]; exact hx a ha⟩

theorem rlL_spec {l : List Tk} {t : Tk} (hv : Val l) (ht : OkT t) (hk : ¬ knows l t.s) : ∀ k : Nat, Up (rlL l t k) ∧ ∀ z, z ∈ rlL l t k ↔ (z ∈ l ∨ z = t) ∧ z.s ≤ k
  | 0 => ⟨by simp [rlL], fun z => by
      simp only [rlL, List.not_mem_nil, false_iff]
      rintro ⟨h | h, h2⟩
      · have := (hv.ok h).sec; omega
      · subst h; have := ht.sec; omega⟩
  | k + 1 => by
    obtain ⟨h1, h2⟩ := rlL_spec hv ht hk k
    simp only [rlL]
    by_cases c1 : knows l ((k : Int) + 1)
    · have c2 : ¬ t.s = (k : Int) + 1 := fun e => hk (e ▸ c1)
      obtain ⟨m1, m2⟩ := knows_mem c1
      rw [if_pos c1, if_neg c2, List.append_nil]
      refine ⟨up_snoc h1 fun y hy => by have := ((h2 y).1 hy).2; omega, fun z => ?_⟩
      rw [List.mem_append, h2, List.mem_singleton]
      constructor
      · rintro (⟨h, h3⟩ | h)
        · exact ⟨h, by omega⟩
        · rw [h]; exact ⟨.inl m1, by omega⟩
      · rintro ⟨h, h3⟩
        by_cases c3 : z.s ≤ k
        · exact .inl ⟨h, c3⟩
        · right
          have hz : z.s = (k : Int) + 1 := by omega
          rcases h with h | h
          · rw [← hz]; exact (mem_knows hv.ris h).2.symm
          · subst h; exact absurd hz c2
    · rw [if_neg c1]
      by_cases c2 : t.s = (k : Int) + 1
      · rw [if_pos c2]
        refine ⟨up_snoc h1 fun y hy => by have := ((h2 y).1 hy).2; omega, fun z => ?_⟩
        rw [List.mem_append, h2, List.mem_singleton]
        constructor
        · rintro (⟨h, h3⟩ | h)
          · exact ⟨h, by omega⟩
          · rw [h]; exact ⟨.inr rfl, by omega⟩
        · rintro ⟨h, h3⟩
          by_cases c3 : z.s ≤ k
          · exact .inl ⟨h, c3⟩
          · right
            have hz : z.s = (k : Int) + 1 := by omega
            rcases h with h | h
            · exact absurd (hz ▸ (mem_knows hv.ris h).1) c1
            · exact h
      · rw [if_neg c2, List.append_nil]
        refine ⟨h1, fun z => ?_⟩
        rw [h2]
        constructor
        · rintro ⟨h, h3⟩; exact ⟨h, by omega⟩
        · rintro ⟨h, h3⟩
          refine ⟨h, ?_⟩
          by_cases c3 : z.s ≤ k
          · exact c3
          · exfalso
            have hz : z.s = (k : Int) + 1 := by omega
            rcases h with h | h
            · exact c1 (hz ▸ (mem_knows hv.ris h).1)
            · subst h; exact c2 hz

theorem rlearnR_eq (l : List Tk) (t : Tk) : rlearnR l t = learnR l t := by
  unfold rlearnR learnR
  split
  · rename_i h
    split
    · rfl
    · rename_i hk
      obtain ⟨h1, h2⟩ := rlL_spec h.2 h.1 hk 15
      have hv := lrn_val h.2 h.1 hk
      rw [Up.ext h1 hv.ris.up fun z => ?_]
      rw [h2, mem_lrn]
      constructor
      · exact fun h => h.1
      · intro hz
        refine ⟨hz, ?_⟩
        rcases hz with hz | hz
        · exact (h.2.ok hz).sec.2
        · subst hz; exact h.1.sec.2
  · rfl

/-- Two takes of a section, one in each. -/
def Clash (a b : List Tk) : Prop := ∃ x ∈ a, ∃ y ∈ b, x.s = y.s ∧ x ≠ y

theorem mergeGo_spec : ∀ {ts cur : List Tk}, Val cur → (∀ y ∈ ts, OkT y) → Up ts →
    (Clash cur ts → mergeGo cur ts = ([], 23)) ∧ (¬ Clash cur ts → ∃ M, mergeGo cur ts = (M, 0) ∧ Val M ∧ ∀ z, z ∈ M ↔ z ∈ cur ∨ z ∈ ts)
  | [], cur, hv, _, _ => ⟨fun ⟨x, _, y, hy, _⟩ => by simp at hy, fun _ => ⟨cur, rfl, hv, fun z => by simp⟩⟩
  | t :: ts, cur, hv, hok, hup => by
    have hto : OkT t := hok t (by simp)
    rw [Up, List.pairwise_cons] at hup
    have hok' : ∀ y ∈ ts, OkT y := fun y hy => hok y (by simp [hy])
    by_cases hk : knows cur t.s
    · obtain ⟨m1, m2⟩ := knows_mem hk
      by_cases he : gt cur (low cur t.s) = t
      · have e : learnR cur t = ([], 5) := by unfold learnR; rw [if_pos ⟨hto, hv⟩, if_pos hk, if_pos he]
        have em : mergeGo cur (t :: ts) = mergeGo cur ts := by simp only [mergeGo, e]; rfl
        have hmt : t ∈ cur := by have := m1; unfold el at this; rwa [he] at this
        have hcl : Clash cur (t :: ts) ↔ Clash cur ts := by
          constructor
          · rintro ⟨x, hx, y, hy, h1, h2⟩
            rw [List.mem_cons] at hy
            rcases hy with hy | hy
            · subst hy; exact absurd (hv.ris.up.inj hx hmt h1) h2
            · exact ⟨x, hx, y, hy, h1, h2⟩
          · rintro ⟨x, hx, y, hy, h⟩; exact ⟨x, hx, y, by simp [hy], h⟩
        obtain ⟨g1, g2⟩ := mergeGo_spec hv hok' hup.2
        rw [em, hcl]
        refine ⟨g1, fun h => ?_⟩
        obtain ⟨M, q1, q2, q3⟩ := g2 h
        refine ⟨M, q1, q2, fun z => ?_⟩
        rw [q3, List.mem_cons]
        constructor
        · rintro (h | h)
          · exact .inl h
          · exact .inr (.inr h)
        · rintro (h | h | h)
          · exact .inl h
          · subst h; exact .inl hmt
          · exact .inr h
      · have e : learnR cur t = ([], 23) := by unfold learnR; rw [if_pos ⟨hto, hv⟩, if_pos hk, if_neg he]
        have em : mergeGo cur (t :: ts) = ([], 23) := by simp only [mergeGo, e]; rfl
        refine ⟨fun _ => em, fun h => absurd ⟨_, m1, t, by simp, m2, he⟩ h⟩
    · have e : learnR cur t = (lrn cur t, 0) := by unfold learnR; rw [if_pos ⟨hto, hv⟩, if_neg hk]
      have em : mergeGo cur (t :: ts) = mergeGo (lrn cur t) ts := by simp only [mergeGo, e]; rfl
      have hcl : Clash cur (t :: ts) ↔ Clash (lrn cur t) ts := by
        constructor
        · rintro ⟨x, hx, y, hy, h1, h2⟩
          rw [List.mem_cons] at hy
          rcases hy with hy | hy
          · subst hy; exact absurd (h1 ▸ (mem_knows hv.ris hx).1) hk
          · exact ⟨x, mem_lrn.2 (.inl hx), y, hy, h1, h2⟩
        · rintro ⟨x, hx, y, hy, h1, h2⟩
          rcases mem_lrn.1 hx with hx | hx
          · exact ⟨x, hx, y, by simp [hy], h1, h2⟩
          · subst hx; have := hup.1 y hy; omega
      obtain ⟨g1, g2⟩ := mergeGo_spec (lrn_val hv hto hk) hok' hup.2
      rw [em, hcl]
      refine ⟨g1, fun h => ?_⟩
      obtain ⟨M, q1, q2, q3⟩ := g2 h
      refine ⟨M, q1, q2, fun z => ?_⟩
      rw [q3, mem_lrn, List.mem_cons, or_assoc]

theorem mergeR_spec {a b : List Tk} (ha : Val a) (hb : Val b) : (Clash a b ∧ mergeR a b = ([], 23)) ∨ (¬ Clash a b ∧ ∃ M, mergeR a b = (M, 0) ∧ Val M ∧ ∀ z, z ∈ M ↔ z ∈ a ∨ z ∈ b) := by
  have e : mergeR a b = mergeGo a b := by unfold mergeR; rw [if_pos ⟨ha, hb⟩]
  obtain ⟨g1, g2⟩ := mergeGo_spec ha (fun y hy => hb.ok hy) hb.ris.up
  rw [e]
  by_cases h : Clash a b
  · exact .inl ⟨h, g1 h⟩
  · exact .inr ⟨h, g2 h⟩

theorem conf_clash {a b : List Tk} (ha : Val a) (hb : Val b) : (∃ k : Int, 1 ≤ k ∧ k ≤ 15 ∧ conf a b k) ↔ Clash a b := by
  constructor
  · rintro ⟨k, _, _, h1, h2, h3⟩
    exact ⟨_, (knows_mem h1).1, _, (knows_mem h2).1, by rw [(knows_mem h1).2, (knows_mem h2).2], h3⟩
  · rintro ⟨x, hx, y, hy, h1, h2⟩
    obtain ⟨k1, e1⟩ := mem_knows ha.ris hx
    obtain ⟨k2, e2⟩ := mem_knows hb.ris hy
    have hs := (ha.ok hx).sec
    refine ⟨x.s, hs.1, hs.2, k1, h1 ▸ k2, ?_⟩
    rw [e1, h1, e2]
    exact h2

theorem rmL_spec {a b : List Tk} (ha : Val a) (hb : Val b) (hc : ¬ Clash a b) : ∀ k : Nat, Up (rmL a b k) ∧ ∀ z, z ∈ rmL a b k ↔ (z ∈ a ∨ z ∈ b) ∧ z.s ≤ k
  | 0 => ⟨by simp [rmL], fun z => by
      simp only [rmL, List.not_mem_nil, false_iff]
      rintro ⟨h | h, h2⟩
      · have := (ha.ok h).sec; omega
      · have := (hb.ok h).sec; omega⟩
  | k + 1 => by
    obtain ⟨h1, h2⟩ := rmL_spec ha hb hc k
    have step : ∀ x : Tk, x.s = (k : Int) + 1 → (x ∈ a ∨ x ∈ b) → (∀ z, (z ∈ a ∨ z ∈ b) → z.s = (k : Int) + 1 → z = x) → Up (rmL a b k ++ [x]) ∧ ∀ z, z ∈ rmL a b k ++ [x] ↔ (z ∈ a ∨ z ∈ b) ∧ z.s ≤ ((k + 1 : Nat) : Int) := by
      intro x hx hm hu
      refine ⟨up_snoc h1 fun y hy => by have := ((h2 y).1 hy).2; omega, fun z => ?_⟩
      rw [List.mem_append, h2, List.mem_singleton]
      constructor
      · rintro (⟨h, h3⟩ | h)
        · exact ⟨h, by omega⟩
        · rw [h]; exact ⟨hm, by omega⟩
      · rintro ⟨h, h3⟩
        by_cases c3 : z.s ≤ k
        · exact .inl ⟨h, c3⟩
        · exact .inr (hu z h (by omega))
    simp only [rmL]
    by_cases c1 : knows a ((k : Int) + 1)
    · rw [if_pos c1]
      obtain ⟨m1, m2⟩ := knows_mem c1
      refine step _ m2 (.inl m1) fun z hz e => ?_
      rcases hz with hz | hz
      · exact ha.ris.up.inj hz m1 (by omega)
      · by_cases q : el a ((k : Int) + 1) = z
        · exact q.symm
        · exact absurd ⟨_, m1, z, hz, by omega, q⟩ hc
    · rw [if_neg c1]
      by_cases c2 : knows b ((k : Int) + 1)
      · rw [if_pos c2]
        obtain ⟨m1, m2⟩ := knows_mem c2
        refine step _ m2 (.inr m1) fun z hz e => ?_
        rcases hz with hz | hz
        · exact absurd (e ▸ (mem_knows ha.ris hz).1) c1
        · exact hb.ris.up.inj hz m1 (by omega)
      · rw [if_neg c2]
        refine ⟨h1, fun z => ?_⟩
        rw [h2]
        constructor
        · rintro ⟨h, h3⟩; exact ⟨h, by omega⟩
        · rintro ⟨h, h3⟩
          refine ⟨h, ?_⟩
          by_cases c3 : z.s ≤ k
          · exact c3
          · exfalso
            have hz : z.s = (k : Int) + 1 := by omega
            rcases h with h | h
            · exact c1 (hz ▸ (mem_knows ha.ris h).1)
            · exact c2 (hz ▸ (mem_knows hb.ris h).1)

theorem rmergeR_eq (a b : List Tk) : rmergeR a b = mergeR a b := by
  by_cases h : Val a ∧ Val b
  · rcases mergeR_spec h.1 h.2 with ⟨hc, e⟩ | ⟨hc, M, e, hv, hm⟩
    · rw [e]
      unfold rmergeR
      rw [if_pos h, if_pos ((conf_clash h.1 h.2).2 hc)]
    · rw [e]
      unfold rmergeR
      rw [if_pos h, if_neg fun q => hc ((conf_clash h.1 h.2).1 q)]
      obtain ⟨h1, h2⟩ := rmL_spec h.1 h.2 hc 15
      rw [Up.ext h1 hv.ris.up fun z => ?_]
      rw [h2, hm]
      refine ⟨fun q => q.1, fun q => ⟨q, ?_⟩⟩
      rcases q with q | q
      · exact (h.1.ok q).sec.2
      · exact (h.2.ok q).sec.2
  · unfold rmergeR mergeR
    rw [if_neg h, if_neg h]
end Go.Proofs.YtnomenmakhielaaDoor
