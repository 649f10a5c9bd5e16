/-
  Plain: keys from left to right; what two hands can reach; fewer keys can be reached, too.
-/
set_option linter.unusedSimpArgs false
set_option linter.unusedVariables false
namespace Go.Proofs.YtonmienclploaaaGreatDoor
structure P6 where
  a : Int
  b : Int
  c : Int
  d : Int
  e : Int
  f : Int
deriving DecidableEq
structure Ky where
  id : Int
  x : Int
  row : Int
  p : P6
deriving DecidableEq
structure Bd where
  ks : List Ky
  span : Int
  tol : Int
def ltK (a b : Ky) : Prop := a.x < b.x ∨ a.x = b.x ∧ a.row < b.row
instance (a b : Ky) : Decidable (ltK a b) := by unfold ltK; exact inferInstance
theorem ltK_irr (a : Ky) : ¬ ltK a a := by unfold ltK; omega
theorem ltK_trans {a b c : Ky} (h : ltK a b) (k : ltK b c) : ltK a c := by unfold ltK at *; omega
theorem ltK_x {a b : Ky} (h : ltK a b) : a.x ≤ b.x := by unfold ltK at h; omega
def Lr (l : List Ky) : Prop := l.Pairwise ltK
theorem Lr.uniq : ∀ {l m : List Ky}, Lr l → Lr m → (∀ k, k ∈ l ↔ k ∈ m) → l = m
  | [], [], _, _, _ => rfl
  | [], k :: m, _, _, h => by have := (h k).2 (by simp); cases this
  | k :: l, [], _, _, h => by have := (h k).1 (by simp); cases this
  | a :: l, b :: m, hl, hm, h => by
    have h1 := List.pairwise_cons.1 hl
    have h2 := List.pairwise_cons.1 hm
    have e : a = b := by
      rcases List.mem_cons.1 ((h a).1 (by simp)) with e | e
      · exact e
      · rcases List.mem_cons.1 ((h b).2 (by simp)) with e' | e'
        · exact e'.symm
        · exact absurd (ltK_trans (h2.1 a e) (h1.1 b e')) (ltK_irr b)
    subst e
    rw [Lr.uniq h1.2 h2.2 fun k => ⟨fun hk => ?_, fun hk => ?_⟩]
    · rcases List.mem_cons.1 ((h k).1 (List.mem_cons_of_mem _ hk)) with e | e
      · subst e; exact absurd (h1.1 k hk) (ltK_irr k)
      · exact e
    · rcases List.mem_cons.1 ((h k).2 (List.mem_cons_of_mem _ hk)) with e | e
      · subst e; exact absurd (h2.1 k hk) (ltK_irr k)
      · exact e
def insK (k : Ky) : List Ky → List Ky
  | [] => [k]
  | a :: l => if ltK k a then k :: a :: l else a :: insK k l
def srtK (l : List Ky) : List Ky := l.foldr insK []
theorem insK_mem {k x : Ky} : ∀ {l : List Ky}, x ∈ insK k l ↔ x = k ∨ x ∈ l
  | [] => by simp [insK]
  | a :: l => by
    unfold insK
    split
    · simp
    · simp only [List.mem_cons, insK_mem (l := l)]
      constructor
      · rintro (h | h | h) <;> simp [h]
      · rintro (h | h | h) <;> simp [h]
theorem srtK_mem {x : Ky} : ∀ {l : List Ky}, x ∈ srtK l ↔ x ∈ l
  | [] => by simp [srtK]
  | a :: l => by
    show x ∈ insK a (srtK l) ↔ _
    rw [insK_mem, srtK_mem]; simp
def Apart (l : List Ky) : Prop := l.Pairwise fun a b => ¬ (a.x = b.x ∧ a.row = b.row)
theorem ltK_tri {a b : Ky} (h : ¬ (a.x = b.x ∧ a.row = b.row)) (h1 : ¬ ltK a b) : ltK b a := by unfold ltK at *; omega
theorem insK_lr {k : Ky} : ∀ {l : List Ky}, Lr l → (∀ y ∈ l, ¬ (k.x = y.x ∧ k.row = y.row)) → Lr (insK k l)
  | [], _, _ => by simp [insK, Lr]
  | a :: l, hl, h => by
    have h1 := List.pairwise_cons.1 hl
    unfold insK
    split
    · rename_i hk
      refine List.pairwise_cons.2 ⟨fun y hy => ?_, hl⟩
      rcases List.mem_cons.1 hy with rfl | hy
      · exact hk
      · exact ltK_trans hk (h1.1 y hy)
    · rename_i hk
      refine List.pairwise_cons.2 ⟨fun y hy => ?_, insK_lr h1.2 fun y hy => h y (List.mem_cons_of_mem _ hy)⟩
      rcases insK_mem.1 hy with rfl | hy
      · exact ltK_tri (h a (by simp)) hk
      · exact h1.1 y hy
theorem srtK_lr : ∀ {l : List Ky}, Apart l → Lr (srtK l)
  | [], _ => by simp [srtK, Lr]
  | a :: l, h => by
    have h1 := List.pairwise_cons.1 h
    exact insK_lr (srtK_lr h1.2) fun y hy => h1.1 y (srtK_mem.1 hy)
def okH (s : Int) (l : List Ky) : Prop := l.length ≤ 5 ∧ ∀ a ∈ l, ∀ b ∈ l, b.x - a.x ≤ s
theorem okH.sub {s : Int} {l m : List Ky} (h : okH s m) (hs : List.Sublist l m) : okH s l :=
  ⟨Nat.le_trans hs.length_le h.1, fun a ha b hb => h.2 a (hs.subset ha) b (hs.subset hb)⟩
theorem okH.wide {s t : Int} {l : List Ky} (h : okH s l) (hs : s ≤ t) : okH t l :=
  ⟨h.1, fun a ha b hb => by have := h.2 a ha b hb; omega⟩
def can (s : Int) (l : List Ky) : Prop := ∃ k, k ≤ l.length ∧ okH s (l.take k) ∧ okH s (l.drop k)
theorem can.sub {s : Int} {l m : List Ky} (h : can s m) (hs : List.Sublist l m) : can s l := by
  obtain ⟨k, hk, h1, h2⟩ := h
  rw [← List.take_append_drop k m] at hs
  obtain ⟨l1, l2, rfl, s1, s2⟩ := List.sublist_append_iff.1 hs
  exact ⟨l1.length, by simp, by rw [List.take_left]; exact h1.sub s1, by rw [List.drop_left]; exact h2.sub s2⟩
theorem can.wide {s t : Int} {l : List Ky} (h : can s l) (hs : s ≤ t) : can t l := by
  obtain ⟨k, hk, h1, h2⟩ := h
  exact ⟨k, hk, h1.wide hs, h2.wide hs⟩
def spanB (s : Int) (l : List Ky) : Bool := match l.head?, l.getLast? with
  | some a, some b => decide (b.x - a.x ≤ s)
  | _, _ => true
theorem Lr.le_last {l : List Ky} (h : Lr l) {a z : Ky} (hz : l.getLast? = some z) (ha : a ∈ l) : a.x ≤ z.x := by
  obtain ⟨ys, rfl⟩ := List.getLast?_eq_some_iff.1 hz
  rcases List.mem_append.1 ha with h1 | h1
  · have := List.pairwise_append.1 h
    exact ltK_x (this.2.2 a h1 z (by simp))
  · simp at h1; subst h1; omega
theorem Lr.ge_head {l : List Ky} (h : Lr l) {a z : Ky} (hz : l.head? = some z) (ha : a ∈ l) : z.x ≤ a.x := by
  cases l with
  | nil => cases hz
  | cons y l =>
    simp at hz; subst hz
    rcases List.mem_cons.1 ha with rfl | ha
    · omega
    · exact ltK_x ((List.pairwise_cons.1 h).1 a ha)
theorem spanB_iff {s : Int} (hs : 0 ≤ s) {l : List Ky} (h : Lr l) : spanB s l = true ↔ ∀ a ∈ l,∀ b ∈ l,b.x - a.x ≤ s := by
  unfold spanB
  cases l with
  | nil => simp
  | cons y l =>
    obtain ⟨z, hz⟩ : ∃ z, (y :: l).getLast? = some z := ⟨_, List.getLast?_eq_some_getLast (by simp)⟩
    simp only [List.head?_cons, hz, decide_eq_true_eq]
    constructor
    · intro hsp a ha b hb
      have h1 := h.le_last hz hb
      have h2 := h.ge_head (List.head?_cons) ha
      omega
    · intro hall
      exact hall y (by simp) z (List.mem_of_getLast? hz)
def divB (s : Int) (l : List Ky) (k : Nat) : Bool := decide (k ≤ 5) && decide (l.length - k ≤ 5) && spanB s (l.take k) && spanB s (l.drop k)
theorem divB_iff {s : Int} (hs : 0 ≤ s) {l : List Ky} (h : Lr l) {k : Nat} (hk : k ≤ l.length) : divB s l k = true ↔ okH s (l.take k) ∧ okH s (l.drop k) := by
  unfold divB okH
  simp only [Bool.and_eq_true, decide_eq_true_eq]
  rw [spanB_iff hs (h.sublist (List.take_sublist k l)),spanB_iff hs (h.sublist (List.drop_sublist k l)),List.length_take,List.length_drop,Nat.min_eq_left hk]
  grind
def divN (s : Int) (l : List Ky) : Nat → Int
  | 0 => if divB s l 0 then 0 else -1
  | k + 1 => if divB s l (k + 1) then (k + 1 : Nat) else divN s l k
theorem divN_cases (s : Int) (l : List Ky) : ∀ k,(divN s l k = -1 ∧ ∀ j,j ≤ k → divB s l j = false) ∨ ∃ j,j ≤ k ∧ divN s l k = (j : Int) ∧ divB s l j = true ∧ ∀ i,j < i → i ≤ k → divB s l i = false
  | 0 => by
    unfold divN
    split
    · rename_i h; exact .inr ⟨0, Nat.le_refl _, rfl, h, fun i h1 h2 => by omega⟩
    · rename_i h; exact .inl ⟨rfl, fun j hj => by obtain rfl : j = 0 := by omega
                                                  simpa using h⟩
  | k + 1 => by
    unfold divN
    split
    · rename_i h; exact .inr ⟨k + 1, Nat.le_refl _, rfl, h, fun i h1 h2 => by omega⟩
    · rename_i h
      rcases divN_cases s l k with ⟨h1, h2⟩ | ⟨j, h1, h2, h3, h4⟩
      · exact .inl ⟨h1, fun j hj => by
          by_cases e : j = k + 1
          · subst e; simpa using h
          · exact h2 j (by omega)⟩
      · exact .inr ⟨j, by omega, h2, h3, fun i hi hk => by
          by_cases e : i = k + 1
          · subst e; simpa using h
          · exact h4 i hi (by omega)⟩
def divR (s : Int) (l : List Ky) : Int := divN s l l.length
theorem divR_nonneg {s : Int} (hs : 0 ≤ s) {l : List Ky} (h : Lr l) : 0 ≤ divR s l ↔ can s l := by
  unfold divR can
  rcases divN_cases s l l.length with ⟨h1, h2⟩ | ⟨j, h1, h2, h3, h4⟩
  · rw [h1]
    constructor
    · intro h0; omega
    · rintro ⟨k, hk, h3⟩
      have := (divB_iff hs h hk).2 h3
      rw [h2 k hk] at this; cases this
  · rw [h2]
    exact ⟨fun _ => ⟨j, h1, (divB_iff hs h h1).1 h3⟩, fun _ => by omega⟩
end Go.Proofs.YtonmienclploaaaGreatDoor
