/-
  Plain: chords. The search in depth finds the first list of the product that can be played.
-/
import Derived.Test.YtddcnafocohghaaDoorQP2
set_option linter.unusedSimpArgs false
set_option linter.unusedVariables false
namespace Go.Proofs.YtddcnafocohghaaDoor
def prodL : List (List Int) → List (List Int)
  | [] => [[]]
  | l :: r => l.flatMap fun x => (prodL r).map fun t => x :: t
theorem prodL_mem : ∀ {L : List (List Int)} {t : List Int}, t ∈ prodL L ↔ t.length = L.length ∧ ∀ i (h : i < L.length) (h2 : i < t.length), t[i] ∈ L[i]
  | [], t => by
    simp [prodL]
  | l :: r, t => by
    simp only [prodL, List.mem_flatMap, List.mem_map]
    constructor
    · rintro ⟨x, hx, s, hs, rfl⟩
      have := prodL_mem.1 hs
      refine ⟨by simp [this.1], fun i h h2 => ?_⟩
      cases i with
      | zero => exact hx
      | succ i => exact this.2 i (by simpa using h) (by simpa using h2)
    · rintro ⟨h1, h2⟩
      cases t with
      | nil => simp at h1
      | cons x s =>
        refine ⟨x, h2 0 (by simp) (by simp), s, prodL_mem.2 ⟨by simpa using h1, fun i h h3 => ?_⟩, rfl⟩
        exact h2 (i + 1) (by simpa using h) (by simpa using h3)
def dfs (ok : List Int → Bool) : List (List Int) → List Int → Option (List Int)
  | [], c => some c
  | l :: r, c => l.findSome? fun id => if id ∈ c then none else if ok (c ++ [id]) = true then dfs ok r (c ++ [id]) else none
theorem find_flat {α β : Type} (p : β → Bool) (f : α → List β) : ∀ l : List α, (l.flatMap f).find? p = l.findSome? fun a => (f a).find? p
  | [] => rfl
  | a :: l => by
    rw [List.flatMap_cons, List.find?_append, find_flat p f l, List.findSome?_cons]
    cases (f a).find? p <;> rfl
def optL (b : Bd) (vs : List P6) : List (List Int) := vs.map (findL b)
def capI (n : Int) (l : List Int) : Int := if 10001 < n * (l.length : Int) then 10001 else n * (l.length : Int)
def limC (L : List (List Int)) : Int := L.foldl capI 1
def optR (b : Bd) (vs : List P6) : List (List Int) × Int :=
  if vs.all vOk = false then ([], 1) else if (optL b vs).any (fun l => l.isEmpty) = true then ([], 4)
  else if vs.length > 12 ∨ 10000 < limC (optL b vs) then ([], 2) else (optL b vs, 0)
def okC (b : Bd) (c : List Int) : Bool := decide (0 ≤ divR b.span (ordK b c))
def goodC (b : Bd) (c : List Int) : Bool := decide (playP b c)
def chordR (b : Bd) (vs : List P6) : List Int × Int :=
  if bdB b = true then
    (if (optR b vs).2 = 0 then (match (prodL (optR b vs).1).find? (goodC b) with | some l => (l, 0) | none => ([], 20)) else ([], (optR b vs).2))
  else ([], 1)
theorem findL_ids {b : Bd} (h : Good b) {v : P6} {id : Int} (hi : id ∈ findL b v) : (keyOf b.ks id).isSome = true := by
  unfold findL at hi
  obtain ⟨k, hk, rfl⟩ := List.mem_map.1 hi
  rw [keyOf_mem h.rise (List.mem_filter.1 hk).1]; rfl
theorem findL_len {b : Bd} (h : Good b) (v : P6) : (findL b v).length ≤ 120 := by
  unfold findL
  rw [List.length_map]
  exact Nat.le_trans (List.length_filter_le _ _) h.len
theorem goodC_snoc {b : Bd} (h : Good b) (c : List Int) (id : Int) (hk : (keyOf b.ks id).isSome = true) : goodC b (c ++ [id]) = true ↔ goodC b c = true ∧ id ∉ c ∧ okC b (c ++ [id]) = true := by
  unfold goodC okC
  simp only [decide_eq_true_eq]
  constructor
  · intro hp
    refine ⟨hp.sub h (List.sublist_append_left _ _), fun hm => ?_, hp.2⟩
    have := (List.nodup_append.1 hp.1.1).2.2 id hm id (by simp)
    exact this rfl
  · rintro ⟨h1, h2, h3⟩
    refine ⟨⟨?_, fun x hx => ?_⟩, h3⟩
    · rw [List.nodup_append]
      exact ⟨h1.1.1, by simp, fun a ha d hd e => by simp at hd; subst hd; subst e; exact h2 ha⟩
    · rcases List.mem_append.1 hx with hx | hx
      · exact h1.1.2 x hx
      · simp at hx; subst hx; exact hk
theorem dfs_find' {good ok : List Int → Bool} {kn : Int → Prop} (hg : ∀ c id, kn id → (good (c ++ [id]) = true ↔ good c = true ∧ id ∉ c ∧ ok (c ++ [id]) = true)) (L : List (List Int)) (hL : ∀ l ∈ L, ∀ id ∈ l, kn id) (c : List Int) (h : good c = true) :
    dfs ok L c = ((prodL L).map fun t => c ++ t).find? good := by
  induction L generalizing c with
  | nil => simp [dfs, prodL, h]
  | cons l r ih =>
    rw [dfs, prodL, List.map_flatMap, find_flat]
    have hl := hL l (by simp)
    have hr := ih fun m hm => hL m (List.mem_cons_of_mem _ hm)
    have down : ∀ (t : List Int), (∀ x ∈ t, kn x) → ∀ (d : List Int), good (d ++ t) = true → good d = true := by
      intro t
      induction t with
      | nil => intro _ d h; simpa using h
      | cons x t ih =>
        intro hk d h
        have := ih (fun y hy => hk y (List.mem_cons_of_mem _ hy)) (d ++ [x]) (by simpa using h)
        exact ((hg d x (hk x (by simp))).1 this).1
    have hmem : ∀ s ∈ prodL r, ∀ x ∈ s, kn x := by
      intro s hs x hx
      have h2 := prodL_mem.1 hs
      obtain ⟨i, hi, rfl⟩ := List.mem_iff_getElem.1 hx
      have := h2.2 i (by omega) hi
      exact hL _ (List.mem_cons_of_mem _ (List.getElem_mem (by omega))) _ this
    have key : ∀ id ∈ l, (if id ∈ c then none else if ok (c ++ [id]) = true then dfs ok r (c ++ [id]) else none) = (((prodL r).map fun t => id :: t).map fun t => c ++ t).find? good := by
      intro id hid
      have e : (((prodL r).map fun t => id :: t).map fun t => c ++ t) = (prodL r).map fun t => (c ++ [id]) ++ t := by
        rw [List.map_map]; congr 1; funext t; simp
      rw [e]
      have hq := hg c id (hl id hid)
      by_cases h1 : id ∈ c
      · rw [if_pos h1, eq_comm, List.find?_eq_none]
        intro t ht hgt
        obtain ⟨s, hs, rfl⟩ := List.mem_map.1 ht
        exact (hq.1 (down s (hmem s hs) _ hgt)).2.1 h1
      · rw [if_neg h1]
        by_cases h2 : ok (c ++ [id]) = true
        · rw [if_pos h2]
          exact hr (c ++ [id]) (hq.2 ⟨h, h1, h2⟩)
        · rw [if_neg h2, eq_comm, List.find?_eq_none]
          intro t ht hgt
          obtain ⟨s, hs, rfl⟩ := List.mem_map.1 ht
          exact h2 (hq.1 (down s (hmem s hs) _ hgt)).2.2
    clear down hmem hr ih hL
    induction l with
    | nil => rfl
    | cons x l ih => rw [List.findSome?_cons, List.findSome?_cons, key x (by simp), ih (fun y hy => hl y (List.mem_cons_of_mem _ hy)) fun y hy => key y (List.mem_cons_of_mem _ hy)]
theorem goodC_nil (b : Bd) (h : Good b) : goodC b [] = true := by
  unfold goodC
  simp only [decide_eq_true_eq]
  rw [playP_can h]
  have e : ordK b [] = [] := by unfold ordK; simp
  rw [e]
  exact ⟨⟨by simp, by simp⟩, 0, by simp, ⟨by simp, by simp⟩, ⟨by simp, by simp⟩⟩
theorem dfs_chord {b : Bd} (h : Good b) (vs : List P6) : dfs (okC b) (optL b vs) [] = (prodL (optL b vs)).find? (goodC b) := by
  rw [dfs_find' (kn := fun id => (keyOf b.ks id).isSome = true) (fun c id hk => goodC_snoc h c id hk) (optL b vs) (fun l hl id hid => ?_) [] (goodC_nil b h)]
  · simp
  · obtain ⟨v, _, rfl⟩ := List.mem_map.1 hl
    exact findL_ids h hid
end Go.Proofs.YtddcnafocohghaaDoor
