/-
  Plain: greater keyboards, keyboards that are moved.
-/
import Derived.Test.YtddcnafocohghaaDoorQP5
set_option linter.unusedSimpArgs false
set_option linter.unusedVariables false
namespace Go.Proofs.YtddcnafocohghaaDoor
structure Mv (f : Ky → Ky) : Prop where
  id : ∀ k, (f k).id = k.id
  lt : ∀ a b, ltK (f a) (f b) ↔ ltK a b
  far : ∀ a b, (f b).x - (f a).x = b.x - a.x
def mvB (f : Ky → Ky) (b : Bd) : Bd := ⟨b.ks.map f, b.span, b.tol⟩
theorem spanB_mv {f : Ky → Ky} (hf : Mv f) (s : Int) (l : List Ky) : spanB s (l.map f) = spanB s l := by
  unfold spanB
  rw [List.head?_map, List.getLast?_map]
  cases l.head? <;> cases l.getLast? <;> simp [hf.far]
theorem divB_mv {f : Ky → Ky} (hf : Mv f) (s : Int) (l : List Ky) (k : Nat) : divB s (l.map f) k = divB s l k := by
  unfold divB
  rw [← List.map_take, ← List.map_drop, spanB_mv hf, spanB_mv hf, List.length_map]
theorem divR_mv {f : Ky → Ky} (hf : Mv f) (s : Int) (l : List Ky) : divR s (l.map f) = divR s l := by
  unfold divR
  rw [List.length_map]
  generalize l.length = n
  induction n with
  | zero => unfold divN; rw [divB_mv hf]
  | succ n ih => unfold divN; rw [divB_mv hf, ih]
theorem keyOf_mv {f : Ky → Ky} (hf : Mv f) (ks : List Ky) (id : Int) : keyOf (ks.map f) id = (keyOf ks id).map f := by
  unfold keyOf
  rw [List.find?_map]
  congr 2
  funext k
  simp [hf.id]
theorem diffP_mv {f : Ky → Ky} (hf : Mv f) (b : Bd) (ids : List Int) : diffP (mvB f b) ids ↔ diffP b ids := by
  unfold diffP mvB
  simp only [keyOf_mv hf, Option.isSome_map]
theorem ordK_mv {f : Ky → Ky} (hf : Mv f) {b : Bd} (hg : Good b) (hgc : Good (mvB f b)) (ids : List Int) : ordK (mvB f b) ids = (ordK b ids).map f := by
  refine (ordK_lr hgc ids).uniq ?_ fun k => ?_
  · unfold Lr
    rw [List.pairwise_map]
    exact (ordK_lr hg ids).imp fun {a c} h => (hf.lt a c).2 h
  · rw [ordK_mem, List.mem_map]
    show k ∈ b.ks.map f ∧ k.id ∈ ids ↔ _
    rw [List.mem_map]
    constructor
    · rintro ⟨⟨y, h1, rfl⟩, h2⟩
      exact ⟨y, ordK_mem.2 ⟨h1, by rw [← hf.id y]; exact h2⟩, rfl⟩
    · rintro ⟨y, h1, rfl⟩
      have := ordK_mem.1 h1
      exact ⟨⟨y, this.1, rfl⟩, by rw [hf.id]; exact this.2⟩
theorem playP_mv {f : Ky → Ky} (hf : Mv f) {b : Bd} (hg : Good b) (hgc : Good (mvB f b)) (ids : List Int) : playP (mvB f b) ids ↔ playP b ids := by
  unfold playP
  rw [diffP_mv hf, ordK_mv hf hg hgc, show (mvB f b).span = b.span from rfl, divR_mv hf]
theorem chordR_mv {f : Ky → Ky} (hf : Mv f) {g : P6 → P6} {b : Bd} (hb : bdB b = true) (hc : bdB (mvB f b) = true) {vs : List P6} (hv : ∀ v ∈ vs, vOk (g v) = vOk v) (hfind : ∀ v ∈ vs, findL (mvB f b) (g v) = findL b v) : chordR (mvB f b) (vs.map g) = chordR b vs := by
  have hg := bdB_iff.1 hb
  have hgc := bdB_iff.1 hc
  have e1 : optL (mvB f b) (vs.map g) = optL b vs := by
    unfold optL
    rw [List.map_map]
    exact List.map_congr_left hfind
  have e2 : (vs.map g).all vOk = vs.all vOk := by
    rw [List.all_map, Bool.eq_iff_iff, List.all_eq_true, List.all_eq_true]
    exact ⟨fun h v hm => by rw [← hv v hm]; exact h v hm, fun h v hm => by show vOk (g v) = true; rw [hv v hm]; exact h v hm⟩
  have e3 : optR (mvB f b) (vs.map g) = optR b vs := by
    unfold optR
    rw [e1, e2, List.length_map]
  have e4 : goodC (mvB f b) = goodC b := by
    funext c
    unfold goodC
    exact decide_eq_decide.2 (playP_mv hf hg hgc c)
  unfold chordR
  rw [if_pos (show bdB (mvB f b) = true from hc), if_pos (show bdB b = true from hb), e3, e4]
def trK (w : P6) (k : Ky) : Ky := ⟨k.id, k.x, k.row, k.p.add w.x12⟩
theorem trK_mv (w : P6) : Mv (trK w) := ⟨fun _ => rfl, fun a b => Iff.rfl, fun a b => rfl⟩
theorem sub_tr (v w p : P6) : (v.add w).x12.sub (p.add w.x12) = v.x12.sub p := by
  unfold P6.sub P6.add P6.x12 P6.map2
  simp only [P6.mk.injEq]
  omega
theorem findL_tr (w : P6) (b : Bd) (v : P6) : findL (mvB (trK w) b) (v.add w) = findL b v := by
  unfold findL mvB
  rw [List.filter_map, List.map_map]
  have e : ((fun k : Ky => near1 (v.add w).x12 k.p b.tol) ∘ trK w) = fun k => near1 v.x12 k.p b.tol := by
    funext k
    show near1 (v.add w).x12 (k.p.add w.x12) b.tol = _
    unfold near1
    rw [sub_tr]
  rw [e]
  rfl
end Go.Proofs.YtddcnafocohghaaDoor
