/-
  Abstract values and abstract objects over the model's memory: what a value means in a world, and how that is kept while the world grows.
  Plain theorems over any program; no program in sight.
-/
import Derived.WalkKit
import Derived.Test.YtnomenmakhielaaAb0
import Derived.WalkSpells
import Derived.Deep.QuietTactic
namespace Go.Ab

/-- Abstract values. -/
inductive AV where
  | top
  | imm (v : Value)
  | gd (g : Bool) (v : AV)
  | rptr (n : Nat) (cell : Nat → AV)
  | view (len esz : Nat) (elem : Nat → Nat → AV)
  | pv (len esz : Nat) (c : Option Nat) (elem : Nat → Nat → AV)
  | optr (o i off : Nat)
  | own (o s n : Nat) (c : Option Nat)
  | emp
  | bsl (o off esz n c : Nat)
  | map (o : Nat)
  | fn (f : Fn) (first captured : List AV)
  | agg (vs : List AV)
  | tup (vs : List AV)

/-- Where an object of the call's own lies: block, first cell, cells of the block, cells of an element. -/
structure Loc where
  b : Nat
  d : Nat
  n : Nat
  esz : Nat

abbrev Rho := List (Option Loc)
def Rho.has (ρ : Rho) (b : Nat) : Prop := ∃ (o : Nat) (l : Loc), ρ[o]? = some (some l) ∧ l.b = b

mutual
def Rv (ρ : Rho) (w : World) : AV → Value → Prop
  | .top, _ => True
  | .imm v, x => x = v
  | .gd g v, x => if g then Rv ρ w v x else x = undef
  | .rptr n cell, x => ∃ ad : Addr, x = .pointer (some ad) ∧ ad.block < w.heap.size ∧ ¬ ρ.has ad.block ∧ ∀ j, j < n → ∃ y, w.cell? (ad.add j) = some y ∧ y.oneCell' = true ∧ Rv ρ w (cell j) y
  | .view len esz elem, x => ∃ (a : Option Addr) (cap : Nat), x = .slice a len cap ∧ len ≤ cap ∧ (0 < len → ∃ ad, a = some ad ∧ ad.block < w.heap.size ∧ ¬ ρ.has ad.block ∧
      ∀ i, i < len → ∀ j, j < esz → ∃ y, w.cell? (ad.add (i * esz + j)) = some y ∧ y.oneCell' = true ∧ Rv ρ w (elem i j) y)
  | .pv len esz q elem, x => ∃ (b d cap : Nat) (c : Array Value) (ety : TypeId), x = .slice (some ⟨b, d, none⟩) len cap ∧ (len ≤ cap ∧ ∀ c', q = some c' → cap = c') ∧ ¬ ρ.has b ∧ w.heap[b]? = some (.cells c ety (0, 0)) ∧
      ∀ i, i < len → ∀ j, j < esz → ∃ y, c[d + (i * esz + j)]? = some y ∧ y.oneCell' = true ∧ Rv ρ w (elem i j) y
  | .optr o i off, x => ∃ l : Loc, ρ[o]? = some (some l) ∧ x = .pointer (some ⟨l.b, l.d + i * l.esz + off, none⟩)
  | .own o s n c, x => (∃ (l : Loc) (cap : Nat), ρ[o]? = some (some l) ∧ x = .slice (some ⟨l.b, l.d + s * l.esz, none⟩) n cap ∧ n ≤ cap ∧ l.d + (s + cap) * l.esz ≤ l.n ∧ (∀ c', c = some c' → cap = c')) ∨
      (n = 0 ∧ (∃ a, x = .slice a 0 0) ∧ (∀ c', c = some c' → c' = 0))
  | .emp, x => ∃ a, x = .slice a 0 0
  | .bsl o off _ n c, x => n ≤ c ∧ ∃ l : Loc, ρ[o]? = some (some l) ∧ x = .slice (some ⟨l.b, l.d + off, none⟩) n c
  | .map o, x => ∃ l : Loc, ρ[o]? = some (some l) ∧ x = .map (some l.b)
  | .fn f first captured, x => ∃ fs cs : List Value, x = .func f fs.toArray cs.toArray ∧ RvL ρ w first fs ∧ RvL ρ w captured cs
  | .agg vs, x => ∃ cs : List Value, x = .agg cs.toArray ∧ RvL ρ w vs cs
  | .tup vs, x => ∃ cs : List Value, x = .tuple cs.toArray ∧ RvL ρ w vs cs
def RvL (ρ : Rho) (w : World) : List AV → List Value → Prop
  | [], [] => True
  | v :: vs, x :: xs => Rv ρ w v x ∧ RvL ρ w vs xs
  | _, _ => False
end

/-- From (ρ, w) to (ρ', w'): what was there and is none of ρ's blocks has not turned; ρ has grown. -/
structure Step (ρ : Rho) (w : World) (ρ' : Rho) (w' : World) : Prop where
  os : w'.os = w.os
  tape : w'.tape = w.tape
  output : w'.output = w.output
  size : w.heap.size ≤ w'.heap.size
  same : ∀ b, b < w.heap.size → ¬ ρ.has b → w'.heap[b]? = w.heap[b]?
  pre : ρ <+: ρ'
  own : ∀ b, ρ'.has b → ρ.has b ∨ w.heap.size ≤ b

theorem Rho.pre_get {ρ ρ' : Rho} (h : ρ <+: ρ') {o : Nat} {x : Option Loc} (hx : ρ[o]? = some x) : ρ'[o]? = some x := by
  obtain ⟨t, rfl⟩ := h
  rw [List.getElem?_append_left]
  · exact hx
  · exact (List.getElem?_eq_some_iff.1 hx).1

theorem Rho.pre_has {ρ ρ' : Rho} (h : ρ <+: ρ') {b : Nat} (hb : ρ.has b) : ρ'.has b := by
  obtain ⟨o, l, ho, rfl⟩ := hb
  exact ⟨o, l, Rho.pre_get h ho, rfl⟩

theorem Step.refl (ρ : Rho) (w : World) : Step ρ w ρ w := ⟨rfl, rfl, rfl, Nat.le_refl _, fun _ _ _ => rfl, List.prefix_refl _, fun _ h => .inl h⟩

theorem Step.trans {ρ ρ' ρ'' : Rho} {w w' w'' : World} (h : Step ρ w ρ' w') (k : Step ρ' w' ρ'' w'') : Step ρ w ρ'' w'' := by
  refine ⟨k.os.trans h.os, k.tape.trans h.tape, k.output.trans h.output, Nat.le_trans h.size k.size, fun b hb hn => ?_, h.pre.trans k.pre, fun b hb => ?_⟩
  · refine (k.same b (Nat.lt_of_lt_of_le hb h.size) (fun hh => ?_)).trans (h.same b hb hn)
    rcases h.own b hh with h1 | h1
    · exact hn h1
    · omega
  · rcases k.own b hb with h1 | h1
    · exact h.own b h1
    · exact .inr (Nat.le_trans h.size h1)

theorem Step.has_old {ρ ρ' : Rho} {w w' : World} (h : Step ρ w ρ' w') {b : Nat} (hb : b < w.heap.size) (hn : ¬ ρ.has b) : ¬ ρ'.has b := fun hh => by
  rcases h.own b hh with h1 | h1
  · exact hn h1
  · omega

theorem Step.drewN {ρ ρ' : Rho} {w w' : World} (h : Step ρ w ρ' w') (n : Nat) : Step ρ w ρ' (w'.drewN n) := ⟨h.os, h.tape, h.output, h.size, h.same, h.pre, h.own⟩

theorem add_block (a : Addr) (n : Nat) : (a.add n).block = a.block := by unfold Addr.add; split <;> rfl
theorem add_add (a : Addr) (i j : Nat) : (a.add i).add j = a.add (i + j) := by
  unfold Addr.add
  by_cases hi : i = 0 <;> by_cases hj : j = 0 <;> simp [hi, hj, Nat.add_assoc]
theorem add_lit (b o n : Nat) : (⟨b, o, none⟩ : Addr).add n = ⟨b, o + n, none⟩ := by unfold Addr.add; split <;> simp_all

mutual
theorem Rv.mono {ρ ρ' : Rho} {w w' : World} (h : Step ρ w ρ' w') : (v : AV) → {x : Value} → Rv ρ w v x → Rv ρ' w' v x
  | .top, _, _ => trivial
  | .imm _, _, hx => hx
  | .gd g v, x, hx => by
    simp only [Rv] at hx ⊢
    split
    · rename_i hg; rw [if_pos hg] at hx; exact Rv.mono h v hx
    · rename_i hg; rw [if_neg hg] at hx; exact hx
  | .rptr n cell, x, hx => by
    simp only [Rv] at hx ⊢
    obtain ⟨ad, rfl, hlt, hn, hc⟩ := hx
    refine ⟨ad, rfl, Nat.lt_of_lt_of_le hlt h.size, h.has_old hlt hn, fun j hj => ?_⟩
    obtain ⟨y, hy, h1, hr⟩ := hc j hj
    refine ⟨y, ?_, h1, Rv.mono h (cell j) hr⟩
    rw [World.cell?_of_block (w := w)]
    · exact hy
    · rw [add_block]; exact h.same _ hlt hn
  | .view len esz elem, x, hx => by
    simp only [Rv] at hx ⊢
    obtain ⟨a, cap, rfl, hlc, hc⟩ := hx
    refine ⟨a, cap, rfl, hlc, fun hpos => ?_⟩
    obtain ⟨ad, rfl, hlt, hn, hc⟩ := hc hpos
    refine ⟨ad, rfl, Nat.lt_of_lt_of_le hlt h.size, h.has_old hlt hn, fun i hi j hj => ?_⟩
    obtain ⟨y, hy, h1, hr⟩ := hc i hi j hj
    refine ⟨y, ?_, h1, Rv.mono h (elem i j) hr⟩
    rw [World.cell?_of_block (w := w)]
    · exact hy
    · rw [add_block]; exact h.same _ hlt hn
  | .pv len esz _ elem, x, hx => by
    simp only [Rv] at hx ⊢
    obtain ⟨b, d, cap, c, ety, rfl, hlc, hn, hh, hc⟩ := hx
    have hlt : b < w.heap.size := by
      rcases Nat.lt_or_ge b w.heap.size with h1 | h1
      · exact h1
      · rw [Array.getElem?_eq_none h1] at hh; cases hh
    refine ⟨b, d, cap, c, ety, rfl, hlc, h.has_old hlt hn, (h.same b hlt hn).trans hh, fun i hi j hj => ?_⟩
    obtain ⟨y, hy, h1, hr⟩ := hc i hi j hj
    exact ⟨y, hy, h1, Rv.mono h (elem i j) hr⟩
  | .optr o i off, x, hx => by
    simp only [Rv] at hx ⊢
    obtain ⟨l, hl, rfl⟩ := hx
    exact ⟨l, Rho.pre_get h.pre hl, rfl⟩
  | .own o s n c, x, hx => by
    simp only [Rv] at hx ⊢
    rcases hx with ⟨l, cap, hl, hr⟩ | hr
    · exact .inl ⟨l, cap, Rho.pre_get h.pre hl, hr⟩
    · exact .inr hr
  | .emp, _, hx => by simpa only [Rv] using hx
  | .bsl o off esz n c, x, hx => by
    simp only [Rv] at hx ⊢
    obtain ⟨hc, l, hl, rfl⟩ := hx
    exact ⟨hc, l, Rho.pre_get h.pre hl, rfl⟩
  | .map o, x, hx => by
    simp only [Rv] at hx ⊢
    obtain ⟨l, hl, rfl⟩ := hx
    exact ⟨l, Rho.pre_get h.pre hl, rfl⟩
  | .fn f first captured, x, hx => by
    simp only [Rv] at hx ⊢
    obtain ⟨fs, cs, rfl, h1, h2⟩ := hx
    exact ⟨fs, cs, rfl, RvL.mono h first h1, RvL.mono h captured h2⟩
  | .agg vs, x, hx => by
    simp only [Rv] at hx ⊢
    obtain ⟨cs, rfl, h1⟩ := hx
    exact ⟨cs, rfl, RvL.mono h vs h1⟩
  | .tup vs, x, hx => by
    simp only [Rv] at hx ⊢
    obtain ⟨cs, rfl, h1⟩ := hx
    exact ⟨cs, rfl, RvL.mono h vs h1⟩
theorem RvL.mono {ρ ρ' : Rho} {w w' : World} (h : Step ρ w ρ' w') : (vs : List AV) → {xs : List Value} → RvL ρ w vs xs → RvL ρ' w' vs xs
  | [], [], _ => by simp [RvL]
  | v :: vs, x :: xs, hx => by
    simp only [RvL] at hx ⊢
    exact ⟨Rv.mono h v hx.1, RvL.mono h vs hx.2⟩
  | [], _ :: _, hx => by simp [RvL] at hx
  | _ :: _, [], hx => by simp [RvL] at hx
end

theorem cell_plain {w : World} {b d j : Nat} {c : Array Value} {ety : TypeId} (h : w.heap[b]? = some (.cells c ety (0, 0))) : w.cell? ((⟨b, d, none⟩ : Addr).add j) = c[d + j]? := by
  rw [add_lit]
  simp [World.cell?, h]

/-- A plain slice is one that is only read. -/
theorem pv_view {ρ : Rho} {w : World} {len esz : Nat} {q : Option Nat} {elem : Nat → Nat → AV} {x : Value} (h : Rv ρ w (.pv len esz q elem) x) : Rv ρ w (.view len esz elem) x := by
  simp only [Rv] at h ⊢
  obtain ⟨b, d, cap, c, ety, rfl, ⟨hlc, _⟩, hn, hh, hc⟩ := h
  have hlt : b < w.heap.size := by
    rcases Nat.lt_or_ge b w.heap.size with h1 | h1
    · exact h1
    · rw [Array.getElem?_eq_none h1] at hh; cases hh
  refine ⟨_, cap, rfl, hlc, fun _ => ⟨_, rfl, hlt, hn, fun i hi j hj => ?_⟩⟩
  obtain ⟨y, hy, h1, hr⟩ := hc i hi j hj
  exact ⟨y, by rw [cell_plain hh]; exact hy, h1, hr⟩

theorem RvL.length {ρ : Rho} {w : World} : {vs : List AV} → {xs : List Value} → RvL ρ w vs xs → vs.length = xs.length
  | [], [], _ => rfl
  | _ :: _, _ :: _, h => by simp only [RvL] at h; simp [RvL.length h.2]
  | [], _ :: _, h => by simp [RvL] at h
  | _ :: _, [], h => by simp [RvL] at h

theorem RvL.get {ρ : Rho} {w : World} : {vs : List AV} → {xs : List Value} → RvL ρ w vs xs → ∀ {i : Nat} {v : AV}, vs[i]? = some v → ∃ x, xs[i]? = some x ∧ Rv ρ w v x
  | [], [], _, i, v, h => by simp at h
  | a :: vs, x :: xs, h, 0, v, hv => by
    simp only [RvL] at h
    simp at hv
    subst hv
    exact ⟨x, by simp, h.1⟩
  | a :: vs, x :: xs, h, i + 1, v, hv => by
    simp only [RvL] at h
    simp only [List.getElem?_cons_succ] at hv ⊢
    exact RvL.get h.2 hv
  | [], _ :: _, h, _, _, _ => by simp [RvL] at h
  | _ :: _, [], h, _, _, _ => by simp [RvL] at h

theorem RvL.of_get {ρ : Rho} {w : World} : {vs : List AV} → {xs : List Value} → vs.length = xs.length → (∀ (i : Nat) (v : AV) (x : Value), vs[i]? = some v → xs[i]? = some x → Rv ρ w v x) → RvL ρ w vs xs
  | [], [], _, _ => by simp [RvL]
  | v :: vs, x :: xs, hl, h => by
    simp only [RvL]
    exact ⟨h 0 v x (by simp) (by simp), RvL.of_get (by simpa using hl) fun i v x hv hx => h (i + 1) v x (by simpa using hv) (by simpa using hx)⟩
  | [], _ :: _, hl, _ => by simp at hl
  | _ :: _, [], hl, _ => by simp at hl

theorem RvL.set {ρ : Rho} {w : World} {v : AV} {x : Value} (hv : Rv ρ w v x) : {vs : List AV} → {xs : List Value} → (i : Nat) → RvL ρ w vs xs → RvL ρ w (vs.set i v) (xs.set i x)
  | [], [], _, h => by simpa using h
  | _ :: _, _ :: _, 0, h => by simp only [RvL, List.set_cons_zero] at h ⊢; exact ⟨hv, h.2⟩
  | _ :: _, _ :: _, i + 1, h => by simp only [RvL, List.set_cons_succ] at h ⊢; exact ⟨h.1, RvL.set hv i h.2⟩
  | [], _ :: _, _, h => by simp [RvL] at h
  | _ :: _, [], _, h => by simp [RvL] at h

theorem RvL.append {ρ : Rho} {w : World} : {vs vs' : List AV} → {xs xs' : List Value} → RvL ρ w vs xs → RvL ρ w vs' xs' → RvL ρ w (vs ++ vs') (xs ++ xs')
  | [], _, [], _, _, h' => by simpa using h'
  | _ :: _, _, _ :: _, _, h, h' => by simp only [RvL, List.cons_append] at h ⊢; exact ⟨h.1, RvL.append h.2 h'⟩
  | [], _, _ :: _, _, h, _ => by simp [RvL] at h
  | _ :: _, _, [], _, h, _ => by simp [RvL] at h

theorem RvL.tops {ρ : Rho} {w : World} : (xs : List Value) → RvL ρ w (List.replicate xs.length .top) xs
  | [] => by simp [RvL]
  | _ :: xs => by simp only [List.length_cons, List.replicate_succ, RvL, Rv]; exact ⟨trivial, RvL.tops xs⟩

/-- The shape of a map's keys (none: a bool). -/
inductive KS where
  | int (k : IntKind)
  | bool
  | str
  | agg (ls : List (Option IntKind))

def leafK : List (Option IntKind) → List Value → Prop
  | [], [] => True
  | some k :: ls, .int k' _ :: vs => k' = k ∧ leafK ls vs
  | none :: ls, .bool _ :: vs => leafK ls vs
  | _, _ => False

def KS.ok : KS → Value → Prop
  | .int k, .int k' _ => k' = k
  | .bool, .bool _ => True
  | .str, .string _ => True
  | .agg ls, .agg cs => leafK ls cs.toList
  | _, _ => False

/-- Abstract objects. 'box': a block whose cells are listed; 'arr': elements of esz cells each, told by a function; 'mp': a map, told by what it holds at each key. -/
inductive AObj where
  | dead
  | box (ety : TypeId) (cells : List AV)
  | arr (ety : TypeId) (esz len : Nat) (elem : Nat → Nat → AV)
  | mp (sh : KS) (es : List (Value × AV))

def AObj.alive : AObj → Bool
  | .dead => false
  | _ => true

def RO (ρ : Rho) (w : World) (o : Nat) : AObj → Prop
  | .dead => True
  | .box ety cells => ∃ (l : Loc) (c : Array Value), ρ[o]? = some (some l) ∧ l.d = 0 ∧ l.esz = cells.length ∧ l.n = cells.length ∧ w.heap[l.b]? = some (.cells c ety (0, 0)) ∧ (∀ y ∈ c.toList, y.oneCell' = true) ∧ RvL ρ w cells c.toList
  | .arr ety esz len elem => (∃ (l : Loc) (c : Array Value), ρ[o]? = some (some l) ∧ l.esz = esz ∧ w.heap[l.b]? = some (.cells c ety (0, 0)) ∧ (c.size = l.n ∧ ∀ y ∈ c.toList, y.oneCell' = true) ∧ l.d + len * esz ≤ l.n ∧
      ∀ i, i < len → ∀ j, j < esz → ∃ y, c[l.d + i * esz + j]? = some y ∧ y.oneCell' = true ∧ Rv ρ w (elem i j) y) ∨ (ρ[o]? = some none ∧ len = 0)
  | .mp sh es => ∃ (l : Loc) (a : Array MapEntry) (clock : Nat), ρ[o]? = some (some l) ∧ w.heap[l.b]? = some (.map a clock) ∧ ((∀ e ∈ a.toList, e.born < clock) ∧ (a.toList.map (·.born)).Nodup) ∧
      (∀ e ∈ es, sh.ok e.1) ∧ a.toList.map (·.key) = es.map (·.1) ∧ RvL ρ w (es.map (·.2)) (a.toList.map (·.val))

/-- The package-level variables hold what they were laid with. -/
def gcell (k : IntKind) (vs : List Int) (j : Nat) : AV := .imm (.int k (vs.getD j 0))
def Glob (ρ : Rho) (w : World) : Prop := ∀ g k vs, (g, k, vs) ∈ gtab → Rv ρ w (.rptr vs.length (gcell k vs)) (.pointer (some ⟨g, 0, none⟩))
theorem Glob.step {ρ ρ' : Rho} {w w' : World} (h : Glob ρ w) (hs : Step ρ w ρ' w') : Glob ρ' w' := fun g k vs hm => Rv.mono hs _ (h g k vs hm)
theorem Glob.sub {ρ ρ' : Rho} {w : World} (h : Glob ρ w) (hs : ∀ b, ρ'.has b → ρ.has b) : Glob ρ' w := fun g k vs hm => by
  have := h g k vs hm
  simp only [Rv] at this ⊢
  obtain ⟨ad, e, h1, h2, h3⟩ := this
  exact ⟨ad, e, h1, fun hb => h2 (hs _ hb), h3⟩

structure RH (ρ : Rho) (w : World) (σ : List AObj) : Prop where
  len : ρ.length = σ.length
  lt : ∀ (o : Nat) (l : Loc), ρ[o]? = some (some l) → l.b < w.heap.size
  obj : ∀ (o : Nat) (a : AObj), σ[o]? = some a → RO ρ w o a
  apart : ∀ (o o' : Nat) (l l' : Loc) (a a' : AObj), o ≠ o' → σ[o]? = some a → a.alive = true → σ[o']? = some a' → a'.alive = true → ρ[o]? = some (some l) → ρ[o']? = some (some l') → l.b ≠ l'.b
  glob : Glob ρ w

theorem RH.glob_nil {ρ : Rho} {w : World} {σ : List AObj} (h : RH ρ w σ) : Glob [] w := h.glob.sub fun b hb => by obtain ⟨o, l, hl, _⟩ := hb; simp at hl
theorem RH.nil (w : World) (h : Glob [] w) : RH [] w [] := ⟨rfl, by simp, by simp, by simp, h⟩

/-- An object whose block has not turned is kept. -/
theorem RO.keep {ρ ρ' : Rho} {w w' : World} (h : Step ρ w ρ' w') {o : Nat} {a : AObj} (ho : RO ρ w o a) (hb' : ∀ l : Loc, ρ[o]? = some (some l) → w'.heap[l.b]? = w.heap[l.b]?) : RO ρ' w' o a := by
  cases a with
  | dead => trivial
  | box ety cells =>
    obtain ⟨l, c, hl, h0, h1, h2, hh, h3, hr⟩ := ho
    exact ⟨l, c, Rho.pre_get h.pre hl, h0, h1, h2, (hb' l hl).trans hh, h3, RvL.mono h cells hr⟩
  | arr ety esz len elem =>
    rcases ho with ⟨l, c, hl, he, hh, hc, hd, hr⟩ | ⟨hn, h0⟩
    · refine .inl ⟨l, c, Rho.pre_get h.pre hl, he, (hb' l hl).trans hh, hc, hd, fun i hi j hj => ?_⟩
      obtain ⟨y, hy, h1, hv⟩ := hr i hi j hj
      exact ⟨y, hy, h1, Rv.mono h _ hv⟩
    · exact .inr ⟨Rho.pre_get h.pre hn, h0⟩
  | mp sh es =>
    obtain ⟨l, a, clock, hl, hh, hb, hk, hks, hv⟩ := ho
    exact ⟨l, a, clock, Rho.pre_get h.pre hl, (hb' l hl).trans hh, hb, hk, hks, RvL.mono h _ hv⟩

/-- A new block, of whatever kind: what it is comes as 'ro'. -/
theorem RH.push {ρ : Rho} {w w' : World} {σ : List AObj} (h : RH ρ w σ) (l : Loc) (a : AObj) (hs : Step ρ w (ρ ++ [some l]) w') (hb : l.b = w.heap.size) (hlt : l.b < w'.heap.size)
    (hold : ∀ b, b < w.heap.size → w'.heap[b]? = w.heap[b]?) (ro : RO (ρ ++ [some l]) w' ρ.length a) : RH (ρ ++ [some l]) w' (σ ++ [a]) := by
  refine ⟨by simp [h.len], fun o l' hl' => ?_, fun o a' ha' => ?_, fun o o' l1 l2 a1 a2 hne h1 k1 h2 k2 r1 r2 => ?_, h.glob.step hs⟩
  · rw [List.getElem?_append] at hl'
    split at hl'
    · exact Nat.lt_of_lt_of_le (h.lt o l' hl') hs.size
    · rename_i hge
      have : o - ρ.length = 0 := by
        rcases Nat.eq_zero_or_pos (o - ρ.length) with h0 | h0
        · exact h0
        · rw [List.getElem?_eq_none (by simp; omega)] at hl'; cases hl'
      rw [this] at hl'
      simp at hl'
      subst hl'
      exact hlt
  · rw [List.getElem?_append] at ha'
    split at ha'
    · rename_i hlo
      exact RO.keep hs (h.obj o a' ha') fun l' hl' => hold _ (h.lt o l' hl')
    · rename_i hge
      have h0 : o - σ.length = 0 := by
        rcases Nat.eq_zero_or_pos (o - σ.length) with h0 | h0
        · exact h0
        · rw [List.getElem?_eq_none (by simp; omega)] at ha'; cases ha'
      rw [h0] at ha'
      simp at ha'
      subst ha'
      have : o = ρ.length := by rw [h.len]; omega
      rw [this]
      exact ro
  · have key : ∀ (o : Nat) (l' : Loc), (ρ ++ [some l])[o]? = some (some l') → (o < ρ.length ∧ ρ[o]? = some (some l')) ∨ (o = ρ.length ∧ l' = l) := by
      intro o l' hl'
      rw [List.getElem?_append] at hl'
      split at hl'
      · rename_i hlo; exact .inl ⟨hlo, hl'⟩
      · have h0 : o - ρ.length = 0 := by
          rcases Nat.eq_zero_or_pos (o - ρ.length) with h0 | h0
          · exact h0
          · rw [List.getElem?_eq_none (by simp; omega)] at hl'; cases hl'
        rw [h0] at hl'
        simp at hl'
        exact .inr ⟨by omega, hl'.symm⟩
    rcases key o l1 r1 with ⟨q1, r1'⟩ | ⟨q1, rfl⟩ <;> rcases key o' l2 r2 with ⟨q2, r2'⟩ | ⟨q2, rfl⟩
    · rw [List.getElem?_append_left (by rw [← h.len]; exact q1)] at h1
      rw [List.getElem?_append_left (by rw [← h.len]; exact q2)] at h2
      exact h.apart o o' l1 l2 a1 a2 hne h1 k1 h2 k2 r1' r2'
    · have := h.lt o l1 r1'; omega
    · have := h.lt o' l2 r2'; omega
    · omega

theorem Step.push {ρ : Rho} {w w' : World} (l : Loc) (os : w'.os = w.os) (tape : w'.tape = w.tape) (output : w'.output = w.output) (hb : l.b = w.heap.size) (hsz : w.heap.size ≤ w'.heap.size)
    (hold : ∀ b, b < w.heap.size → w'.heap[b]? = w.heap[b]?) : Step ρ w (ρ ++ [some l]) w' := by
  refine ⟨os, tape, output, hsz, fun b hlt _ => hold b hlt, List.prefix_append _ _, fun b hh => ?_⟩
  obtain ⟨o, l', hl', rfl⟩ := hh
  rw [List.getElem?_append] at hl'
  split at hl'
  · exact .inl ⟨o, l', hl', rfl⟩
  · have h0 : o - ρ.length = 0 := by
      rcases Nat.eq_zero_or_pos (o - ρ.length) with h0 | h0
      · exact h0
      · rw [List.getElem?_eq_none (by simp; omega)] at hl'; cases hl'
    rw [h0] at hl'
    simp at hl'
    subst hl'
    exact .inr (Nat.le_of_eq hb.symm)

theorem getElem?_snoc {α : Type} (l : List α) (x : α) : (l ++ [x])[l.length]? = some x := by simp

/-- An object's block is turned, the others are left. -/
theorem RH.turn {ρ : Rho} {w w' : World} {σ : List AObj} (h : RH ρ w σ) {o : Nat} {a a' : AObj} (ho : σ[o]? = some a) (hal : a.alive = true) {l : Loc} (hl : ρ[o]? = some (some l)) (hs : Step ρ w ρ w')
    (hold : ∀ b, b ≠ l.b → w'.heap[b]? = w.heap[b]?) (ro : RO ρ w' o a') : RH ρ w' (σ.set o a') := by
  have hlo : o < σ.length := (List.getElem?_eq_some_iff.1 ho).1
  refine ⟨by simp [h.len], fun o' l' hl' => Nat.lt_of_lt_of_le (h.lt o' l' hl') hs.size, fun o' b hb => ?_, fun o1 o2 l1 l2 a1 a2 hne h1 k1 h2 k2 r1 r2 => ?_, h.glob.step hs⟩
  · rw [List.getElem?_set] at hb
    split at hb
    · rename_i heq
      subst heq
      simp at hb
      subst hb
      exact ro
    · rename_i hne
      by_cases hlive : b.alive = true
      · exact RO.keep hs (h.obj o' b hb) fun l' hl' => hold _ (h.apart o' o l' l b a (fun e => hne e.symm) hb hlive ho hal hl' hl)
      · cases b <;> simp [AObj.alive] at hlive
        trivial
  · have back : ∀ (q : Nat) (b : AObj), (σ.set o a')[q]? = some b → b.alive = true → ∃ b', σ[q]? = some b' ∧ b'.alive = true := by
      intro q b hb hk
      rw [List.getElem?_set] at hb
      split at hb
      · rename_i heq; subst heq; exact ⟨a, ho, hal⟩
      · exact ⟨b, hb, hk⟩
    obtain ⟨b1, q1, p1⟩ := back o1 a1 h1 k1
    obtain ⟨b2, q2, p2⟩ := back o2 a2 h2 k2
    exact h.apart o1 o2 l1 l2 b1 b2 hne q1 p1 q2 p2 r1 r2

theorem Step.turn {ρ : Rho} {w w' : World} {l : Loc} {o : Nat} (hl : ρ[o]? = some (some l)) (os : w'.os = w.os) (tape : w'.tape = w.tape) (output : w'.output = w.output) (hsz : w.heap.size ≤ w'.heap.size)
    (hold : ∀ b, b ≠ l.b → w'.heap[b]? = w.heap[b]?) : Step ρ w ρ w' :=
  ⟨os, tape, output, hsz, fun b _ hn => hold b (fun e => hn ⟨o, l, hl, e.symm⟩), List.prefix_refl _, fun _ hb => .inl hb⟩

/-- An object is forgotten. -/
theorem RH.kill {ρ : Rho} {w : World} {σ : List AObj} (h : RH ρ w σ) (o : Nat) : RH ρ w (σ.set o .dead) := by
  refine ⟨by simp [h.len], h.lt, fun o' b hb => ?_, fun o1 o2 l1 l2 a1 a2 hne h1 k1 h2 k2 r1 r2 => ?_, h.glob⟩
  · rw [List.getElem?_set] at hb
    split at hb
    · split at hb
      · simp at hb; subst hb; trivial
      · cases hb
    · exact h.obj o' b hb
  · have back : ∀ (q : Nat) (b : AObj), (σ.set o .dead)[q]? = some b → b.alive = true → σ[q]? = some b := by
      intro q b hb hk
      rw [List.getElem?_set] at hb
      split at hb
      · split at hb
        · simp at hb; subst hb; simp [AObj.alive] at hk
        · cases hb
      · exact hb
    exact h.apart o1 o2 l1 l2 a1 a2 hne (back o1 a1 h1 k1) k1 (back o2 a2 h2 k2) k2 r1 r2

theorem RH.drewN {ρ : Rho} {w : World} {σ : List AObj} (h : RH ρ w σ) (n : Nat) : RH ρ (w.drewN n) σ := by
  have hs : Step ρ w ρ (w.drewN n) := (Step.refl ρ w).drewN n
  exact ⟨h.len, h.lt, fun o a ha => RO.keep hs (h.obj o a ha) fun _ _ => rfl, h.apart, h.glob.step hs⟩
end Go.Ab
