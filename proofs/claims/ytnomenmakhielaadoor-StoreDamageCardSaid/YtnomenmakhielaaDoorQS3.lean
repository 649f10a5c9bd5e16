/-
  Records and their frames: what store.sealed, store.frame and the reference's Frame answer.
-/
import Derived.Test.YtnomenmakhielaaDoorQGo
import Derived.Test.YtnomenmakhielaaDoorQS2
import Derived.Test.YtnomenmakhielaaDoorQL5
set_option linter.unusedSimpArgs false
set_option linter.unusedVariables false
namespace Go.Proofs.YtnomenmakhielaaDoor
open Go.Ab

/-- A record: kind, section, ballot, value. -/
structure Rcd where
  k : Int
  s : Int
  b : Int
  x : Tk
@[go_sem, reducible] def rcL (r : Rcd) : List AV := [.imm (.int .i64 r.k), .imm (.int .i64 r.s), .imm (.int .i64 r.b), .imm (.int .i64 r.x.s), .imm (.int .i64 r.x.c), .imm (.int .i64 r.x.n), .imm (.int .i64 r.x.d)]
@[go_sem, reducible] def rcA (r : Rcd) : AV := .agg (rcL r)

/-- A body with its length and its checksum. -/
def sealN (b : List Nat) : List Nat :=
  b.length :: b ++ [sumN (b.length :: b) / 16777216 % 256, sumN (b.length :: b) / 65536 % 256, sumN (b.length :: b) / 256 % 256, sumN (b.length :: b) % 256]
theorem sealN_length (b : List Nat) : (sealN b).length = b.length + 5 := by simp [sealN]
theorem sealN_ok {b : List Nat} (h : ByOk b) (hl : b.length < 256) : ByOk (sealN b) := by
  intro x hx
  simp only [sealN, List.cons_append, List.mem_cons, List.mem_append, List.not_mem_nil, or_false] at hx
  rcases hx with rfl | hx | rfl | rfl | rfl | rfl
  · exact hl
  · exact h x hx
  all_goals exact Nat.mod_lt _ (by decide)

@[go_sem] theorem fd24 (a : Nat) : Int.fdiv (a : Int) (2 ^ min 24 32) = ((a / 16777216 : Nat) : Int) := by rw [Int.fdiv_eq_ediv_of_nonneg _ (by decide)]; simp
@[go_sem] theorem fd16 (a : Nat) : Int.fdiv (a : Int) (2 ^ min 16 32) = ((a / 65536 : Nat) : Int) := by rw [Int.fdiv_eq_ediv_of_nonneg _ (by decide)]; simp
@[go_sem] theorem fd8 (a : Nat) : Int.fdiv (a : Int) (2 ^ min 8 32) = ((a / 256 : Nat) : Int) := by rw [Int.fdiv_eq_ediv_of_nonneg _ (by decide)]; simp
@[go_sem] theorem gd16 (a : Nat) : Int.fdiv (a : Int) (2 ^ min 16 64) = ((a / 65536 : Nat) : Int) := by rw [Int.fdiv_eq_ediv_of_nonneg _ (by decide)]; simp
@[go_sem] theorem gd8 (a : Nat) : Int.fdiv (a : Int) (2 ^ min 8 64) = ((a / 256 : Nat) : Int) := by rw [Int.fdiv_eq_ediv_of_nonneg _ (by decide)]; simp

theorem byE_app {a b : List Nat} {f g : Nat → Nat → AV} (hf : ∀ i j, i < a.length → j < 1 → f i j = byE a i j) (hg : ∀ i j, i < b.length → j < 1 → g i j = byE b i j) {n : Nat} (hn : n = a.length) :
    ∀ i j, i < a.length + b.length → j < 1 → catE n f g i j = byE (a ++ b) i j := by
  subst hn
  intro i j hi hj
  unfold catE
  split
  · rename_i h
    rw [hf i j h hj]
    simp [byE, gb8, List.getElem?_append_left h]
  · rename_i h
    rw [hg (i - a.length) j (by omega) hj]
    simp [byE, gb8, List.getElem?_append_right (Nat.le_of_not_lt h)]
/-- Bytes that are written out. -/
def lit8 (l : List Nat) : List AV := l.map fun x => .imm (.int .u8 ((x : Nat) : Int))
theorem lit8_get : ∀ (l : List Nat) (i : Nat), i < l.length → nth (lit8 l) i = .imm (.int .u8 ((gb8 l i : Nat) : Int))
  | x :: l, 0, _ => by simp [lit8, nth, gb8]
  | x :: l, i + 1, h => by
    have := lit8_get l i (by simpa using h)
    simpa [lit8, nth, gb8] using this
  | [], _, h => by simp at h
theorem lit8_E {l : List Nat} {vs : List AV} (h : vs = lit8 l) : ∀ i j, i < l.length → j < 1 → nth vs (i * 1 + j) = byE l i j := by
  subst h
  intro i j hi hj
  have : i * 1 + j = i := by omega
  rw [this, lit8_get l i hi]
  rfl

set_option maxRecDepth 100000 in
set_option maxHeartbeats 400000 in
theorem sealed_raw (b : List Nat) (hb : ByOk b) (hl : b.length < 256) : TC Tryd.prog 60 [bys b] [] (fun v σ' => (v = .imm (.slice none 0 0) ∧ (sealN b).length = 0) ∨
    ∃ k E', v = .own k 0 (sealN b).length none ∧ nthO σ' k = .arr 5 1 (sealN b).length E' ∧ ∀ i j, i < (sealN b).length → j < 1 → E' i j = byE (sealN b) i j) := by
  have hb1 : ByOk (b.length :: b) := fun x hx => by rcases List.mem_cons.1 hx with rfl | hx; exact hl; exact hb x hx
  have hs := sum_tc (b.length :: b) hb1 (by simp; omega)
  rw [show bys (b.length :: b) = .view (1 + b.length) 1 (byE (b.length :: b)) by simp [bys, Nat.add_comm]] at hs
  have hv5 : ∀ i j, i < 1 + b.length → j < 1 → catE 1 (fun i j => nth [AV.imm (.int .u8 ((b.length % 256 : Nat) : Int))] (i * 1 + j)) (byE b) i j = byE (b.length :: b) i j := by
    have := byE_app (a := [b.length]) (b := b) (f := fun i j => nth [AV.imm (.int .u8 ((b.length % 256 : Nat) : Int))] (i * 1 + j)) (g := byE b) (lit8_E (by rw [Nat.mod_eq_of_lt hl]; rfl)) (fun _ _ _ _ => rfl) (n := 1) rfl
    simpa using this
  (refine TC_of_T Γ_ok Tryd.func60 rfl (by kernel_rfl) ?_; simp only [Tryd.ntmps60, Tryd.results60, List.length_cons, List.length_nil, Nat.reduceSub, Nat.reduceAdd, List.replicate, List.cons_append, List.nil_append])
  (have cl1 := hs; ((refine goR0 _ _ _ _ _ _ _ _ ?_ ?_ ?_ ?_ ?_ ?_ ?_ ?_) <;> (repeat intro hb) <;> first | exact True.intro | refine Lf.mk ?_))
  have e : 1 + b.length + 4 = (sealN b).length := by rw [sealN_length]; omega
  refine .inr ⟨3, _, by rw [← e], by rw [← e]; rfl, ?_⟩
  have h3 := byE_app (a := b.length :: b) (b := [sumN (b.length :: b) / 16777216 % 256, sumN (b.length :: b) / 65536 % 256, sumN (b.length :: b) / 256 % 256, sumN (b.length :: b) % 256]) (n := 1 + b.length)
    (fun i j hi hj => hv5 i j (by simpa [Nat.add_comm] using hi) hj) (lit8_E rfl) (by simp [Nat.add_comm])
  intro i j hi hj
  have := h3 i j (by rw [sealN_length] at hi; simp; omega) hj
  exact this
theorem sealed_tc (b : List Nat) (hb : ByOk b) (hl : b.length < 256) : Makes Tryd.prog 60 [bys b] (ownB (sealN b)) [byO (sealN b)] := Makes.lst1J (byE_pl _) (sealed_raw b hb hl)

/-- The body of a record's frame. -/
def bodyN (r : Rcd) : List Nat :=
  [r.k.toNat, r.s.toNat] ++ (if r.k = 3 then [] else [r.b.toNat / 65536 % 256, r.b.toNat / 256 % 256, r.b.toNat % 256]) ++ (if r.k = 1 then [] else [r.x.c.toNat, (r.x.n + 1).toNat, r.x.d.toNat])
def frameN (r : Rcd) : List Nat := sealN (bodyN r)
/-- Whether a record is valid. -/
def Rcd.ok (r : Rcd) : Bool :=
  if r.s < 1 ∨ 16 ≤ r.s then false
  else if r.k = 1 then decide (r.b ≥ 1) && decide (r.b ≤ 1000000) && (r.x.s == 0 && (r.x.c == 0 && (r.x.n == 0 && r.x.d == 0)))
  else if r.k = 2 then decide (r.b ≥ 1) && decide (r.b ≤ 1000000) && (takeB r.x.s r.x.c r.x.n r.x.d && r.x.s == r.s)
  else if r.k = 3 then r.b == 0 && (takeB r.x.s r.x.c r.x.n r.x.d && r.x.s == r.s)
  else false

set_option maxRecDepth 100000 in
set_option maxHeartbeats 400000 in
theorem valid1_tc (r : Rcd) : Look Tryd.prog 34 [rcA r] (.imm (.bool r.ok)) := by
  refine Look.mk trivial ?_
  obtain ⟨k, s, b, ⟨s', c, n, d⟩⟩ := r
  (refine TC_of_T Γ_ok Tryd.func34 rfl (by kernel_rfl) ?_; simp only [Tryd.ntmps34, Tryd.results34, List.length_cons, List.length_nil, Nat.reduceSub, Nat.reduceAdd, List.replicate, List.cons_append, List.nil_append])
  (have cl1 := fun u1 u2 u3 u4 => take_tc u1 u2 u3 u4; ((refine goR0 _ _ _ _ _ _ _ _ ?_ ?_ ?_ ?_ ?_ ?_ ?_ ?_) <;> (repeat intro hb) <;> first | exact True.intro | refine Lf.mk ?_))
  all_goals (congr 2; unfold Rcd.ok; simp only [])
  · rw [if_pos (by omega)]
  · rw [if_neg (by omega), if_pos (by omega)]
  · rw [if_neg (by omega), if_neg (by omega), if_pos (by omega)]
  · rw [if_neg (by omega), if_neg (by omega), if_neg (by omega), if_pos (by omega)]
  · rw [if_neg (by omega), if_neg (by omega), if_neg (by omega), if_neg (by omega)]

/-- What a valid record is, by kinds, its numbers those of bytes. -/
theorem takeB_spec {s c n d : Int} (h : takeB s c n d = true) : 1 ≤ s ∧ s < 16 ∧ 0 ≤ c ∧ c < 6 ∧ 0 ≤ d ∧ d < 8 ∧ (n = 0 ∧ c = 0 ∨ n = 1 ∨ n = -1) := by
  unfold takeB at h
  split at h
  · cases h
  · split at h <;> simp at h <;> omega
theorem Rcd.ok_spec {r : Rcd} (h : r.ok = true) : (1 ≤ r.s ∧ r.s < 16) ∧ ((r.k = 1 ∧ (1 ≤ r.b ∧ r.b ≤ 1000000) ∧ r.x = ⟨0, 0, 0, 0⟩) ∨ (r.k = 2 ∧ (1 ≤ r.b ∧ r.b ≤ 1000000) ∧ takeB r.x.s r.x.c r.x.n r.x.d = true ∧ r.x.s = r.s) ∨
    (r.k = 3 ∧ r.b = 0 ∧ takeB r.x.s r.x.c r.x.n r.x.d = true ∧ r.x.s = r.s)) := by
  obtain ⟨k, s, b, ⟨s', c, n, d⟩⟩ := r
  unfold Rcd.ok at h
  simp only [] at h ⊢
  split at h
  · cases h
  · refine ⟨by omega, ?_⟩
    split at h
    · simp at h; left; simp [*]
    · split at h
      · simp at h; right; left; simp [*]; rw [← h.2.2]; exact h.2.1
      · split at h
        · simp at h; right; right; simp [*]; rw [← h.2.2]; exact h.2.1
        · cases h

theorem bodyN_1 (s b : Nat) : bodyN ⟨1, s, b, ⟨0, 0, 0, 0⟩⟩ = [1, s, b / 65536 % 256, b / 256 % 256, b % 256] := by simp [bodyN]
theorem bodyN_2 (s b c n d : Nat) : bodyN ⟨2, s, b, ⟨s, c, (n : Int) - 1, d⟩⟩ = [2, s, b / 65536 % 256, b / 256 % 256, b % 256, c, n, d] := by simp [bodyN]
theorem bodyN_3 (s c n d : Nat) : bodyN ⟨3, s, 0, ⟨s, c, (n : Int) - 1, d⟩⟩ = [3, s, c, n, d] := by simp [bodyN]
@[go_sem] theorem wr8s (m : Nat) : IntKind.u8.wrap ((m : Int) - 1 + 1) = ((m % 256 : Nat) : Int) := by rw [Int.sub_add_cancel, wr8]
@[go_sem] theorem wr8k1 : IntKind.u8.wrap 1 = 1 := rfl
@[go_sem] theorem wr8k2 : IntKind.u8.wrap 2 = 2 := rfl
@[go_sem] theorem wr8k3 : IntKind.u8.wrap 3 = 3 := rfl

/-- The three kinds of valid records, in numbers of bytes. -/
theorem Rcd.ok_cases {r : Rcd} (h : r.ok = true) : (∃ s b : Nat, (1 ≤ s ∧ s < 16) ∧ (1 ≤ b ∧ b ≤ 1000000) ∧ r = ⟨1, s, b, ⟨0, 0, 0, 0⟩⟩) ∨
    (∃ s b c n d : Nat, (1 ≤ s ∧ s < 16) ∧ (1 ≤ b ∧ b ≤ 1000000) ∧ (c < 6 ∧ n < 3 ∧ d < 8 ∧ (n = 1 → c = 0)) ∧ r = ⟨2, s, b, ⟨s, c, (n : Int) - 1, d⟩⟩) ∨
    (∃ s c n d : Nat, (1 ≤ s ∧ s < 16) ∧ (c < 6 ∧ n < 3 ∧ d < 8 ∧ (n = 1 → c = 0)) ∧ r = ⟨3, s, 0, ⟨s, c, (n : Int) - 1, d⟩⟩) := by
  obtain ⟨k, s, b, ⟨s', c, n, d⟩⟩ := r
  obtain ⟨⟨h1, h2⟩, h3⟩ := Rcd.ok_spec h
  simp only [] at h1 h2 h3
  rcases h3 with ⟨rfl, hb, hx⟩ | ⟨rfl, hb, hx, rfl⟩ | ⟨rfl, rfl, hx, rfl⟩
  · left
    cases hx
    exact ⟨s.toNat, b.toNat, by omega, by omega, by rw [Int.toNat_of_nonneg (by omega), Int.toNat_of_nonneg (by omega)]⟩
  · right; left
    obtain ⟨_, _, g1, g2, g3, g4, g5⟩ := takeB_spec hx
    exact ⟨s'.toNat, b.toNat, c.toNat, (n + 1).toNat, d.toNat, by omega, by omega, by omega, by
      rw [Int.toNat_of_nonneg (a := s') (by omega), Int.toNat_of_nonneg (a := b) (by omega), Int.toNat_of_nonneg (a := c) (by omega), Int.toNat_of_nonneg (a := n + 1) (by omega), Int.toNat_of_nonneg (a := d) (by omega), Int.add_sub_cancel]⟩
  · right; right
    obtain ⟨_, _, g1, g2, g3, g4, g5⟩ := takeB_spec hx
    exact ⟨s'.toNat, c.toNat, (n + 1).toNat, d.toNat, by omega, by omega, by
      rw [Int.toNat_of_nonneg (a := s') (by omega), Int.toNat_of_nonneg (a := c) (by omega), Int.toNat_of_nonneg (a := n + 1) (by omega), Int.toNat_of_nonneg (a := d) (by omega), Int.add_sub_cancel]⟩
theorem bodyN_ok {r : Rcd} (h : r.ok = true) : ByOk (bodyN r) ∧ (bodyN r).length ≤ 8 := by
  rcases Rcd.ok_cases h with ⟨s, b, h1, h2, rfl⟩ | ⟨s, b, c, n, d, h1, h2, h3, rfl⟩ | ⟨s, c, n, d, h1, h3, rfl⟩
  · rw [bodyN_1]; exact ⟨fun x hx => by simp at hx; omega, by simp⟩
  · rw [bodyN_2]; exact ⟨fun x hx => by simp at hx; omega, by simp⟩
  · rw [bodyN_3]; exact ⟨fun x hx => by simp at hx; omega, by simp⟩

set_option maxRecDepth 100000 in
set_option maxHeartbeats 400000 in
theorem frame_raw (r : Rcd) (h : r.ok = true) : TC Tryd.prog 38 [rcA r] [] (fun v σ' => ∃ k, v = .own k 0 (frameN r).length none ∧ nthO σ' k = byO (frameN r)) := by
  have hbo := bodyN_ok h
  have hse := sealed_tc (bodyN r) hbo.1 (by omega)
  unfold frameN
  (refine TC_of_T Γ_ok Tryd.func38 rfl (by kernel_rfl) ?_; simp only [Tryd.ntmps38, Tryd.results38, List.length_cons, List.length_nil, Nat.reduceSub, Nat.reduceAdd, List.replicate, List.cons_append, List.nil_append])
  rcases Rcd.ok_cases h with ⟨s, b, h1, h2, rfl⟩ | ⟨s, b, c, n, d, h1, h2, h3, rfl⟩ | ⟨s, c, n, d, h1, h3, rfl⟩
  · rw [bodyN_1] at hse ⊢
    have hv5 : ∀ i j, i < 5 → j < 1 → catE 2 (fun i j => nth [AV.imm (.int .u8 1), AV.imm (.int .u8 ((s % 256 : Nat) : Int))] (i * 1 + j)) (fun i j => nth [AV.imm (.int .u8 ((b / 65536 % 256 : Nat) : Int)), AV.imm (.int .u8 ((b / 256 % 256 : Nat) : Int)), AV.imm (.int .u8 ((b % 256 : Nat) : Int))] (i * 1 + j)) i j = byE [1, s, b / 65536 % 256, b / 256 % 256, b % 256] i j :=
      byE_app (a := [1, s]) (b := [b / 65536 % 256, b / 256 % 256, b % 256]) (lit8_E (by rw [Nat.mod_eq_of_lt (by omega)]; rfl)) (lit8_E rfl) rfl
    (have cm1 := hse; ((refine goR0 _ _ _ _ _ _ _ _ ?_ ?_ ?_ ?_ ?_ ?_ ?_ ?_) <;> (repeat intro hb) <;> first | exact True.intro | refine Lf.mk ?_))
    exact ⟨_, rfl, rfl⟩
  · rw [bodyN_2] at hse ⊢
    have hv4 : ∀ i j, i < 5 → j < 1 → catE 2 (fun i j => nth [AV.imm (.int .u8 2), AV.imm (.int .u8 ((s % 256 : Nat) : Int))] (i * 1 + j)) (fun i j => nth [AV.imm (.int .u8 ((b / 65536 % 256 : Nat) : Int)), AV.imm (.int .u8 ((b / 256 % 256 : Nat) : Int)), AV.imm (.int .u8 ((b % 256 : Nat) : Int))] (i * 1 + j)) i j = byE [2, s, b / 65536 % 256, b / 256 % 256, b % 256] i j :=
      byE_app (a := [2, s]) (b := [b / 65536 % 256, b / 256 % 256, b % 256]) (lit8_E (by rw [Nat.mod_eq_of_lt (by omega)]; rfl)) (lit8_E rfl) rfl
    have hv5 := byE_app (a := [2, s, b / 65536 % 256, b / 256 % 256, b % 256]) (b := [c, n, d]) (n := 5) hv4 (g := fun i j => nth [AV.imm (.int .u8 ((c % 256 : Nat) : Int)), AV.imm (.int .u8 ((n % 256 : Nat) : Int)), AV.imm (.int .u8 ((d % 256 : Nat) : Int))] (i * 1 + j)) (lit8_E (by rw [Nat.mod_eq_of_lt (by omega), Nat.mod_eq_of_lt (by omega), Nat.mod_eq_of_lt (by omega)]; rfl)) rfl
    clear hv4
    (have cm1 := hse; ((refine goR0 _ _ _ _ _ _ _ _ ?_ ?_ ?_ ?_ ?_ ?_ ?_ ?_) <;> (repeat intro hb) <;> first | exact True.intro | refine Lf.mk ?_))
    exact ⟨_, rfl, rfl⟩
  · rw [bodyN_3] at hse ⊢
    have hv5 := byE_app (a := [3, s]) (b := [c, n, d]) (n := 2) (f := fun i j => nth [AV.imm (.int .u8 3), AV.imm (.int .u8 ((s % 256 : Nat) : Int))] (i * 1 + j)) (g := fun i j => nth [AV.imm (.int .u8 ((c % 256 : Nat) : Int)), AV.imm (.int .u8 ((n % 256 : Nat) : Int)), AV.imm (.int .u8 ((d % 256 : Nat) : Int))] (i * 1 + j))
      (lit8_E (by rw [Nat.mod_eq_of_lt (by omega)]; rfl)) (lit8_E (by rw [Nat.mod_eq_of_lt (by omega), Nat.mod_eq_of_lt (by omega), Nat.mod_eq_of_lt (by omega)]; rfl)) rfl
    (have cm1 := hse; ((refine goR0 _ _ _ _ _ _ _ _ ?_ ?_ ?_ ?_ ?_ ?_ ?_ ?_) <;> (repeat intro hb) <;> first | exact True.intro | refine Lf.mk ?_))
    exact ⟨_, rfl, rfl⟩
theorem frame_tc (r : Rcd) (h : r.ok = true) : Makes Tryd.prog 38 [rcA r] (ownB (frameN r)) [byO (frameN r)] :=
  Makes.lst1J (byE_pl _) ((frame_raw r h).mono fun v σ' ⟨k, h1, h2⟩ => .inr ⟨k, _, h1, h2, fun _ _ _ _ => rfl⟩)
end Go.Proofs.YtnomenmakhielaaDoor
