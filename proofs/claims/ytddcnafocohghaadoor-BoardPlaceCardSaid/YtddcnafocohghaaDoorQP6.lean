/-
  Plain: greater keyboards, keyboards that are moved.
-/
import Derived.Test.YtddcnafocohghaaDoorQP5
set_option linter.unusedSimpArgs false
set_option linter.unusedVariables false
namespace Go.Proofs.YtddcnafocohghaaDoor
theorem better_span {b : Bd} {vs : List P6} {l : List Int} (h : chordR b vs = (l, 0)) {s : Int} (h1 : b.span < s) (h2 : s ≤ 1000) : ∃ m, chordR ⟨b.ks, s, b.tol⟩ vs = (m, 0) ∧ lexB l m = false := by
  have h0 : (chordR b vs).2 = 0 := by rw [h]
  have hg := bdB_iff.1 (chordR_val h0)
  have hg2 : Good ⟨b.ks, s, b.tol⟩ := ⟨hg.len, by have := hg.s0; show 0 ≤ s; omega, h2, hg.t0, hg.t1, hg.rise, hg.one, hg.apart⟩
  obtain ⟨l', e, ho, hf, _⟩ := chordR_get h0
  rw [h] at e
  obtain rfl : l = l' := (Prod.mk.inj e).1
  have ho2 : Opt ⟨b.ks, s, b.tol⟩ vs := ⟨ho.ok, ho.some, ho.few, ho.lim⟩
  have hf2 : fitsP ⟨b.ks, s, b.tol⟩ vs l := by
    refine ⟨?_, hf.2⟩
    have := (playP_can hg).1 hf.1
    exact (playP_can hg2).2 ⟨this.1, this.2.wide (by show b.span ≤ s; omega)⟩
  obtain ⟨m, e2, _, _, h3⟩ := chordR_get (chordR_ok (bdB_iff.2 hg2) ho2 hf2)
  refine ⟨m, e2, ?_⟩
  rcases h3 l hf2 with e3 | e3
  · rw [e3]; exact lexB_irr l
  · exact lexB_asym e3
theorem chord_or_lim {b c : Bd} (hc : bdB c = true) {vs : List P6} (h : (chordR b vs).2 = 0) (hfit : ∀ v id, id ∈ findL b v → id ∈ findL c v) (hplay : ∀ l, playP b l → playP c l) : (chordR c vs).2 = 0 ∨ (chordR c vs).2 = 2 := by
  have hg := bdB_iff.1 (chordR_val h)
  have hgc := bdB_iff.1 hc
  obtain ⟨l, _, ho, hf, _⟩ := chordR_get h
  have hf2 : fitsP c vs l := by
    refine ⟨hplay l hf.1, hf.2.1, fun i hi => ?_⟩
    have hv : vOk (vs.getD i ⟨0, 0, 0, 0, 0, 0⟩) = true := by
      have := ho.ok _ (List.getElem_mem hi)
      simpa [hi] using this
    exact (findL_iff hgc hv).1 (hfit _ _ ((findL_iff hg hv).2 (hf.2.2 i hi)))
  rcases chordR_cases hc vs with ⟨m, h1, _⟩ | ⟨_, _, h1⟩ | ⟨_, h1⟩ | ⟨_, _, h1⟩ | ⟨h1, _⟩
  · rw [h1]; exact .inl rfl
  · exact absurd hf2 (h1 l)
  · exact absurd ho.ok h1
  · refine absurd (fun v hv e => ?_) h1
    have := ho.some v hv
    cases hh : findL b v with
    | nil => exact this hh
    | cons x r =>
      have h2 := hfit v x (by rw [hh]; simp)
      rw [e] at h2; cases h2
  · rw [h1]; exact .inr rfl
theorem better_tol {b : Bd} {vs : List P6} (h : (chordR b vs).2 = 0) {t : Int} (h1 : b.tol < t) (h2 : t ≤ 50000) : (chordR ⟨b.ks, b.span, t⟩ vs).2 = 0 ∨ (chordR ⟨b.ks, b.span, t⟩ vs).2 = 2 := by
  have hg := bdB_iff.1 (chordR_val h)
  have hg2 : Good ⟨b.ks, b.span, t⟩ := ⟨hg.len, hg.s0, hg.s1, by have := hg.t0; show 0 ≤ t; omega, h2, hg.rise, hg.one, hg.apart⟩
  refine chord_or_lim (bdB_iff.2 hg2) h (fun v id hi => ?_) fun l hl => hl
  unfold findL at hi ⊢
  obtain ⟨k, hk, rfl⟩ := List.mem_map.1 hi
  have h3 := List.mem_filter.1 hk
  exact List.mem_map_of_mem (List.mem_filter.2 ⟨h3.1, near1_wide h3.2 (by show b.tol ≤ t; omega)⟩)
theorem keyOf_app {ks : List Ky} {k : Ky} {id : Int} (h : (keyOf ks id).isSome = true) : keyOf (ks ++ [k]) id = keyOf ks id := by
  unfold keyOf at h ⊢
  rw [List.find?_append]
  obtain ⟨x, hx⟩ := Option.isSome_iff_exists.1 h
  rw [hx]; rfl
theorem better_more {b : Bd} {vs : List P6} (h : (chordR b vs).2 = 0) {k : Ky} (hc : bdB ⟨b.ks ++ [k], b.span, b.tol⟩ = true) : (chordR ⟨b.ks ++ [k], b.span, b.tol⟩ vs).2 = 0 ∨ (chordR ⟨b.ks ++ [k], b.span, b.tol⟩ vs).2 = 2 := by
  have hg := bdB_iff.1 (chordR_val h)
  have hgc := bdB_iff.1 hc
  refine chord_or_lim hc h (fun v id hi => ?_) fun l hl => ?_
  · unfold findL at hi ⊢
    rw [List.filter_append, List.map_append]
    exact List.mem_append_left _ hi
  · have hd : diffP ⟨b.ks ++ [k], b.span, b.tol⟩ l := ⟨hl.1.1, fun id hid => by
      have := hl.1.2 id hid
      show (keyOf (b.ks ++ [k]) id).isSome = true
      rw [keyOf_app this]; exact this⟩
    have e : ordK ⟨b.ks ++ [k], b.span, b.tol⟩ l = ordK b l := by
      refine (ordK_lr hgc l).uniq (ordK_lr hg l) fun y => ?_
      rw [ordK_mem, ordK_mem]
      constructor
      · rintro ⟨h1, h2⟩
        rcases List.mem_append.1 h1 with h3 | h3
        · exact ⟨h3, h2⟩
        · simp at h3; subst h3
          obtain ⟨z, hz⟩ := Option.isSome_iff_exists.1 (hl.1.2 _ h2)
          have h4 := keyOf_some hz
          have h5 := (List.pairwise_append.1 hgc.rise).2.2 z h4.1 y (by simp)
          omega
      · rintro ⟨h1, h2⟩
        exact ⟨List.mem_append_left _ h1, h2⟩
    exact ⟨hd, by rw [e]; exact hl.2⟩
structure Mv (f : Ky → Ky) : Prop where
  id : ∀ k, (f k).id = k.id
  lt : ∀ a b, ltK (f a) (f b) ↔ ltK a b
  far : ∀ a b, (f b).x - (f a).x = b.x - a.x
def mvB (f : Ky → Ky) (b : Bd) : Bd := ⟨b.ks.map f, b.span, b.tol⟩
theorem spanB_mv {f : Ky → Ky} (hf : Mv f) (s : Int) (l : List Ky) : spanB s (l.map f) = spanB s l := by
  unfold spanB
  rw [List.head?_map, List.getLast?_map]
  cases l.head? <;> cases l.getLast? <;> simp [hf.far]
theorem divB_mv {f : Ky → Ky} (hf : Mv f) (s : Int) (l : List Ky) (k : Nat) : divB s (l.map f) k = divB s l k := by
  unfold divB
  rw [← List.map_take, ← List.map_drop, spanB_mv hf, spanB_mv hf, List.length_map]
theorem divR_mv {f : Ky → Ky} (hf : Mv f) (s : Int) (l : List Ky) : divR s (l.map f) = divR s l := by
  unfold divR
  rw [List.length_map]
  generalize l.length = n
  induction n with
  | zero => unfold divN; rw [divB_mv hf]
  | succ n ih => unfold divN; rw [divB_mv hf, ih]
theorem keyOf_mv {f : Ky → Ky} (hf : Mv f) (ks : List Ky) (id : Int) : keyOf (ks.map f) id = (keyOf ks id).map f := by
  unfold keyOf
  rw [List.find?_map]
  congr 2
  funext k
  simp [hf.id]
theorem diffP_mv {f : Ky → Ky} (hf : Mv f) (b : Bd) (ids : List Int) : diffP (mvB f b) ids ↔ diffP b ids := by
  unfold diffP mvB
  simp only [keyOf_mv hf, Option.isSome_map]
theorem ordK_mv {f : Ky → Ky} (hf : Mv f) {b : Bd} (hg : Good b) (hgc : Good (mvB f b)) (ids : List Int) : ordK (mvB f b) ids = (ordK b ids).map f := by
  refine (ordK_lr hgc ids).uniq ?_ fun k => ?_
  · unfold Lr
    rw [List.pairwise_map]
    exact (ordK_lr hg ids).imp fun {a c} h => (hf.lt a c).2 h
  · rw [ordK_mem, List.mem_map]
    show k ∈ b.ks.map f ∧ k.id ∈ ids ↔ _
    rw [List.mem_map]
    constructor
    · rintro ⟨⟨y, h1, rfl⟩, h2⟩
      exact ⟨y, ordK_mem.2 ⟨h1, by rw [← hf.id y]; exact h2⟩, rfl⟩
    · rintro ⟨y, h1, rfl⟩
      have := ordK_mem.1 h1
      exact ⟨⟨y, this.1, rfl⟩, by rw [hf.id]; exact this.2⟩
theorem playP_mv {f : Ky → Ky} (hf : Mv f) {b : Bd} (hg : Good b) (hgc : Good (mvB f b)) (ids : List Int) : playP (mvB f b) ids ↔ playP b ids := by
  unfold playP
  rw [diffP_mv hf, ordK_mv hf hg hgc, show (mvB f b).span = b.span from rfl, divR_mv hf]
theorem handsR_mv {f : Ky → Ky} (hf : Mv f) {b : Bd} (hb : bdB b = true) (hc : bdB (mvB f b) = true) (ids : List Int) : handsR (mvB f b) ids = handsR b ids := by
  have hg := bdB_iff.1 hb
  have hgc := bdB_iff.1 hc
  unfold handsR
  by_cases hd : diffP b ids
  · rw [if_pos (show bdB (mvB f b) = true ∧ diffP (mvB f b) ids from ⟨hc, (diffP_mv hf b ids).2 hd⟩), if_pos (show bdB b = true ∧ diffP b ids from ⟨hb, hd⟩), ordK_mv hf hg hgc, show (mvB f b).span = b.span from rfl, divR_mv hf]
    have e : ∀ l : List Ky, (l.map f).map (·.id) = l.map (·.id) := fun l => by
      rw [List.map_map]; congr 1; funext k; exact hf.id k
    rw [← List.map_take, ← List.map_drop, e, e]
  · rw [if_neg (show ¬ (bdB (mvB f b) = true ∧ diffP (mvB f b) ids) from fun h => hd ((diffP_mv hf b ids).1 h.2)), if_neg (show ¬ (bdB b = true ∧ diffP b ids) from fun h => hd h.2)]
theorem chordR_mv {f : Ky → Ky} (hf : Mv f) {g : P6 → P6} {b : Bd} (hb : bdB b = true) (hc : bdB (mvB f b) = true) {vs : List P6} (hv : ∀ v ∈ vs, vOk (g v) = vOk v) (hfind : ∀ v ∈ vs, findL (mvB f b) (g v) = findL b v) : chordR (mvB f b) (vs.map g) = chordR b vs := by
  have hg := bdB_iff.1 hb
  have hgc := bdB_iff.1 hc
  have e1 : optL (mvB f b) (vs.map g) = optL b vs := by
    unfold optL
    rw [List.map_map]
    exact List.map_congr_left hfind
  have e2 : (vs.map g).all vOk = vs.all vOk := by
    rw [List.all_map, Bool.eq_iff_iff, List.all_eq_true, List.all_eq_true]
    exact ⟨fun h v hm => by rw [← hv v hm]; exact h v hm, fun h v hm => by show vOk (g v) = true; rw [hv v hm]; exact h v hm⟩
  have e3 : optR (mvB f b) (vs.map g) = optR b vs := by
    unfold optR
    rw [e1, e2, List.length_map]
  have e4 : goodC (mvB f b) = goodC b := by
    funext c
    unfold goodC
    exact decide_eq_decide.2 (playP_mv hf hg hgc c)
  unfold chordR
  rw [if_pos (show bdB (mvB f b) = true from hc), if_pos (show bdB b = true from hb), e3, e4]
def shK (n : Int) (k : Ky) : Ky := ⟨k.id, k.x + n, k.row, k.p⟩
theorem shK_mv (n : Int) : Mv (shK n) := ⟨fun _ => rfl, fun a b => by unfold ltK shK; simp only []; omega, fun a b => by unfold shK; simp only []; omega⟩
theorem findL_sh (n : Int) (b : Bd) (v : P6) : findL (mvB (shK n) b) v = findL b v := by
  unfold findL mvB
  rw [List.filter_map, List.map_map]
  rfl
end Go.Proofs.YtddcnafocohghaaDoor
