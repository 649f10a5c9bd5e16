/-
  Parts joined: Ab0 Ab1 Ab2 Ab3 Ab4 Ab5.
-/
import Derived.WalkKit
import Derived.WalkSpells
import Derived.Deep.QuietTactic
set_option linter.unusedSimpArgs false
set_option linter.unusedVariables false
namespace Go.Ab
def primL : List Int := [2, 3, 5, 7, 11, 13]
def logL : List Int := [1000000000,1000000000,1584962500,1584962501,2321928094,2321928095,2807354922,2807354923,3459431618,3459431619,3700439718,3700439719]
def gtab : List (Nat × IntKind × List Int) := [(0, .i64, primL), (1, .i64, logL), (2, .i64, primL)]
end Go.Ab
namespace Go.Ab
inductive KS where
  | int (k : IntKind)
  | bool
  | str
  | agg (ls : List (Option IntKind))
def leafK : List (Option IntKind) → List Value → Prop
  | [], [] => True
  | some k :: ls, .int k' _ :: vs => k' = k ∧ leafK ls vs
  | none :: ls, .bool _ :: vs => leafK ls vs
  | _, _ => False
def KS.ok : KS → Value → Prop
  | .int k, .int k' _ => k' = k
  | .bool, .bool _ => True
  | .str, .string _ => True
  | .agg ls, .agg cs => leafK ls cs.toList
  | _, _ => False
inductive AV where
  | top
  | imm (v : Value)
  | gd (g : Bool) (v : AV)
  | rptr (n : Nat) (cell : Nat → AV)
  | view (len esz : Nat) (elem : Nat → Nat → AV)
  | pv (len esz : Nat) (c : Option Nat) (elem : Nat → Nat → AV)
  | optr (o i off : Nat)
  | own (o s n : Nat) (c : Option Nat)
  | emp
  | bsl (o off esz n c : Nat)
  | map (o : Nat)
  | vmap (sh : KS) (ks : List Value) (vs : List AV)
  | fn (f : Fn) (first captured : List AV)
  | agg (vs : List AV)
  | tup (vs : List AV)
  | ifc (t : TypeId) (v : AV)
structure Loc where
  b : Nat
  d : Nat
  n : Nat
  esz : Nat
abbrev Rho := List (Option Loc)
def Rho.has (ρ : Rho) (b : Nat) : Prop := ∃ (o : Nat) (l : Loc), ρ[o]? = some (some l) ∧ l.b = b
mutual
def Rv (ρ : Rho) (w : World) : AV → Value → Prop
  | .top, _ => True
  | .imm v, x => x = v
  | .gd g v, x => if g then Rv ρ w v x else x = undef
  | .rptr n cell,x => ∃ ad : Addr,x = .pointer (some ad) ∧ ad.block < w.heap.size ∧ ¬ ρ.has ad.block ∧ ∀ j,j < n → ∃ y,w.cell? (ad.add j) = some y ∧ y.oneCell' = true ∧ Rv ρ w (cell j) y
  | .view len esz elem,x => ∃ (a : Option Addr) (cap : Nat),x = .slice a len cap ∧ len ≤ cap ∧ (0 < len → ∃ ad,a = some ad ∧ ad.block < w.heap.size ∧ ¬ ρ.has ad.block ∧
      ∀ i,i < len → ∀ j,j < esz → ∃ y,w.cell? (ad.add (i * esz + j)) = some y ∧ y.oneCell' = true ∧ Rv ρ w (elem i j) y)
  | .pv len esz q elem,x=>∃ (b d cap : Nat) (c : Array Value) (ety : TypeId),x = .slice (some ⟨b,d,none⟩) len cap ∧ (len ≤ cap ∧ ∀ c',q = some c' → cap = c') ∧ ¬ ρ.has b ∧ w.heap[b]? = some (.cells c ety (0,0)) ∧
      ∀ i, i < len → ∀ j, j < esz → ∃ y, c[d + (i * esz + j)]? = some y ∧ y.oneCell' = true ∧ Rv ρ w (elem i j) y
  | .optr o i off, x => ∃ l : Loc, ρ[o]? = some (some l) ∧ x = .pointer (some ⟨l.b, l.d + i * l.esz + off, none⟩)
  | .own o s n c,x=>(∃ (l : Loc) (cap : Nat),ρ[o]? = some (some l) ∧ x = .slice (some ⟨l.b,l.d + s * l.esz,none⟩) n cap ∧ n ≤ cap ∧ l.d + (s + cap) * l.esz ≤ l.n ∧ (∀ c',c = some c' → cap = c')) ∨
      (n = 0 ∧ (∃ a, x = .slice a 0 0) ∧ (∀ c', c = some c' → c' = 0))
  | .emp, x => ∃ a, x = .slice a 0 0
  | .bsl o off _ n c, x => n ≤ c ∧ ∃ l : Loc, ρ[o]? = some (some l) ∧ x = .slice (some ⟨l.b, l.d + off, none⟩) n c
  | .map o, x => ∃ l : Loc, ρ[o]? = some (some l) ∧ x = .map (some l.b)
  | .vmap kd ks vs,x=>∃ (b : Nat) (a : Array MapEntry) (clock : Nat),x = .map (some b) ∧ ¬ ρ.has b ∧ w.heap[b]? = some (.map a clock) ∧ ((∀ e ∈ a.toList,e.born < clock) ∧ (a.toList.map (·.born)).Nodup) ∧
      (∀ k ∈ ks, kd.ok k) ∧ a.toList.map (·.key) = ks ∧ RvL ρ w vs (a.toList.map (·.val))
  | .fn f first captured,x => ∃ fs cs : List Value,x = .func f fs.toArray cs.toArray ∧ RvL ρ w first fs ∧ RvL ρ w captured cs
  | .agg vs, x => ∃ cs : List Value, x = .agg cs.toArray ∧ RvL ρ w vs cs
  | .tup vs, x => ∃ cs : List Value, x = .tuple cs.toArray ∧ RvL ρ w vs cs
  | .ifc t v, x => ∃ y, x = .iface t y ∧ Rv ρ w v y
def RvL (ρ : Rho) (w : World) : List AV → List Value → Prop
  | [], [] => True
  | v :: vs, x :: xs => Rv ρ w v x ∧ RvL ρ w vs xs
  | _, _ => False
end
structure Step (ρ : Rho) (w : World) (ρ' : Rho) (w' : World) : Prop where
  os : w'.os = w.os
  tape : w'.tape = w.tape
  output : w'.output = w.output
  size : w.heap.size ≤ w'.heap.size
  same : ∀ b, b < w.heap.size → ¬ ρ.has b → w'.heap[b]? = w.heap[b]?
  pre : ρ <+: ρ'
  own : ∀ b, ρ'.has b → ρ.has b ∨ w.heap.size ≤ b
theorem Rho.pre_get {ρ ρ' : Rho} (h : ρ <+: ρ') {o : Nat} {x : Option Loc} (hx : ρ[o]? = some x) : ρ'[o]? = some x := by
  obtain ⟨t, rfl⟩ := h
  rw [List.getElem?_append_left]
  · exact hx
  · exact (List.getElem?_eq_some_iff.1 hx).1
theorem Step.refl (ρ : Rho) (w : World) : Step ρ w ρ w := ⟨rfl,rfl,rfl,Nat.le_refl _,fun _ _ _ => rfl,List.prefix_refl _,fun _ h => .inl h⟩
theorem Step.trans {ρ ρ' ρ'' : Rho} {w w' w'' : World} (h : Step ρ w ρ' w') (k : Step ρ' w' ρ'' w'') : Step ρ w ρ'' w'' := by
  refine ⟨k.os.trans h.os,k.tape.trans h.tape,k.output.trans h.output,Nat.le_trans h.size k.size,fun b hb hn => ?_,h.pre.trans k.pre,fun b hb => ?_⟩
  · refine (k.same b (Nat.lt_of_lt_of_le hb h.size) (fun hh => ?_)).trans (h.same b hb hn)
    rcases h.own b hh with h1 | h1
    · exact hn h1
    · omega
  · rcases k.own b hb with h1 | h1
    · exact h.own b h1
    · exact .inr (Nat.le_trans h.size h1)
theorem Step.has_old {ρ ρ' : Rho} {w w' : World} (h : Step ρ w ρ' w') {b : Nat} (hb : b < w.heap.size) (hn : ¬ ρ.has b) : ¬ ρ'.has b := fun hh => by
  rcases h.own b hh with h1 | h1
  · exact hn h1
  · omega
theorem Step.drewN {ρ ρ' : Rho} {w w' : World} (h : Step ρ w ρ' w') (n : Nat) : Step ρ w ρ' (w'.drewN n) := ⟨h.os,h.tape,h.output,h.size,h.same,h.pre,h.own⟩
theorem add_block (a : Addr) (n : Nat) : (a.add n).block = a.block := by unfold Addr.add; split <;> rfl
theorem add_add (a : Addr) (i j : Nat) : (a.add i).add j = a.add (i + j) := by
  unfold Addr.add
  by_cases hi : i = 0 <;> by_cases hj : j = 0 <;> simp [hi, hj, Nat.add_assoc]
theorem add_lit (b o n : Nat) : (⟨b, o, none⟩ : Addr).add n = ⟨b, o + n, none⟩ := by unfold Addr.add; split <;> simp_all
mutual
theorem Rv.mono {ρ ρ' : Rho} {w w' : World} (h : Step ρ w ρ' w') : (v : AV) → {x : Value} → Rv ρ w v x → Rv ρ' w' v x
  | .top, _, _ => trivial
  | .imm _, _, hx => hx
  | .gd g v, x, hx => by
    simp only [Rv] at hx ⊢
    split
    · rename_i hg; rw [if_pos hg] at hx; exact Rv.mono h v hx
    · rename_i hg; rw [if_neg hg] at hx; exact hx
  | .rptr n cell, x, hx => by
    simp only [Rv] at hx ⊢
    obtain ⟨ad, rfl, hlt, hn, hc⟩ := hx
    refine ⟨ad, rfl, Nat.lt_of_lt_of_le hlt h.size, h.has_old hlt hn, fun j hj => ?_⟩
    obtain ⟨y, hy, h1, hr⟩ := hc j hj
    refine ⟨y, ?_, h1, Rv.mono h (cell j) hr⟩
    rw [World.cell?_of_block (w := w)]
    · exact hy
    · rw [add_block]; exact h.same _ hlt hn
  | .view len esz elem, x, hx => by
    simp only [Rv] at hx ⊢
    obtain ⟨a, cap, rfl, hlc, hc⟩ := hx
    refine ⟨a, cap, rfl, hlc, fun hpos => ?_⟩
    obtain ⟨ad, rfl, hlt, hn, hc⟩ := hc hpos
    refine ⟨ad, rfl, Nat.lt_of_lt_of_le hlt h.size, h.has_old hlt hn, fun i hi j hj => ?_⟩
    obtain ⟨y, hy, h1, hr⟩ := hc i hi j hj
    refine ⟨y, ?_, h1, Rv.mono h (elem i j) hr⟩
    rw [World.cell?_of_block (w := w)]
    · exact hy
    · rw [add_block]; exact h.same _ hlt hn
  | .pv len esz _ elem, x, hx => by
    simp only [Rv] at hx ⊢
    obtain ⟨b, d, cap, c, ety, rfl, hlc, hn, hh, hc⟩ := hx
    have hlt : b < w.heap.size := by
      rcases Nat.lt_or_ge b w.heap.size with h1 | h1
      · exact h1
      · rw [Array.getElem?_eq_none h1] at hh; cases hh
    refine ⟨b, d, cap, c, ety, rfl, hlc, h.has_old hlt hn, (h.same b hlt hn).trans hh, fun i hi j hj => ?_⟩
    obtain ⟨y, hy, h1, hr⟩ := hc i hi j hj
    exact ⟨y, hy, h1, Rv.mono h (elem i j) hr⟩
  | .optr o i off, x, hx => by
    simp only [Rv] at hx ⊢
    obtain ⟨l, hl, rfl⟩ := hx
    exact ⟨l, Rho.pre_get h.pre hl, rfl⟩
  | .own o s n c, x, hx => by
    simp only [Rv] at hx ⊢
    rcases hx with ⟨l, cap, hl, hr⟩ | hr
    · exact .inl ⟨l, cap, Rho.pre_get h.pre hl, hr⟩
    · exact .inr hr
  | .emp, _, hx => by simpa only [Rv] using hx
  | .bsl o off esz n c, x, hx => by
    simp only [Rv] at hx ⊢
    obtain ⟨hc, l, hl, rfl⟩ := hx
    exact ⟨hc, l, Rho.pre_get h.pre hl, rfl⟩
  | .map o, x, hx => by
    simp only [Rv] at hx ⊢
    obtain ⟨l, hl, rfl⟩ := hx
    exact ⟨l, Rho.pre_get h.pre hl, rfl⟩
  | .vmap kd ks vs, x, hx => by
    simp only [Rv] at hx ⊢
    obtain ⟨b, a, clock, rfl, hn, hh, hb, hk, hks, hc⟩ := hx
    have hlt : b < w.heap.size := by
      rcases Nat.lt_or_ge b w.heap.size with h1 | h1
      · exact h1
      · rw [Array.getElem?_eq_none h1] at hh; cases hh
    exact ⟨b, a, clock, rfl, h.has_old hlt hn, (h.same b hlt hn).trans hh, hb, hk, hks, RvL.mono h vs hc⟩
  | .fn f first captured, x, hx => by
    simp only [Rv] at hx ⊢
    obtain ⟨fs, cs, rfl, h1, h2⟩ := hx
    exact ⟨fs, cs, rfl, RvL.mono h first h1, RvL.mono h captured h2⟩
  | .agg vs, x, hx => by
    simp only [Rv] at hx ⊢
    obtain ⟨cs, rfl, h1⟩ := hx
    exact ⟨cs, rfl, RvL.mono h vs h1⟩
  | .tup vs, x, hx => by
    simp only [Rv] at hx ⊢
    obtain ⟨cs, rfl, h1⟩ := hx
    exact ⟨cs, rfl, RvL.mono h vs h1⟩
  | .ifc t v, x, hx => by
    simp only [Rv] at hx ⊢
    obtain ⟨y, rfl, h1⟩ := hx
    exact ⟨y, rfl, Rv.mono h v h1⟩
theorem RvL.mono {ρ ρ' : Rho} {w w' : World} (h : Step ρ w ρ' w') : (vs : List AV) → {xs : List Value} → RvL ρ w vs xs → RvL ρ' w' vs xs
  | [], [], _ => by simp [RvL]
  | v :: vs, x :: xs, hx => by
    simp only [RvL] at hx ⊢
    exact ⟨Rv.mono h v hx.1, RvL.mono h vs hx.2⟩
  | [], _ :: _, hx => by simp [RvL] at hx
  | _ :: _, [], hx => by simp [RvL] at hx
end
theorem cell_plain {w : World} {b d j : Nat} {c : Array Value} {ety : TypeId} (h : w.heap[b]? = some (.cells c ety (0,0))) : w.cell? ((⟨b,d,none⟩ : Addr).add j) = c[d + j]? := by
  rw [add_lit]
  simp [World.cell?, h]
theorem pv_view {ρ : Rho} {w : World} {len esz : Nat} {q : Option Nat} {elem : Nat → Nat → AV} {x : Value} (h : Rv ρ w (.pv len esz q elem) x) : Rv ρ w (.view len esz elem) x := by
  simp only [Rv] at h ⊢
  obtain ⟨b, d, cap, c, ety, rfl, ⟨hlc, _⟩, hn, hh, hc⟩ := h
  have hlt : b < w.heap.size := by
    rcases Nat.lt_or_ge b w.heap.size with h1 | h1
    · exact h1
    · rw [Array.getElem?_eq_none h1] at hh; cases hh
  refine ⟨_, cap, rfl, hlc, fun _ => ⟨_, rfl, hlt, hn, fun i hi j hj => ?_⟩⟩
  obtain ⟨y, hy, h1, hr⟩ := hc i hi j hj
  exact ⟨y, by rw [cell_plain hh]; exact hy, h1, hr⟩
theorem RvL.length {ρ : Rho} {w : World} : {vs : List AV} → {xs : List Value} → RvL ρ w vs xs → vs.length = xs.length
  | [], [], _ => rfl
  | _ :: _, _ :: _, h => by simp only [RvL] at h; simp [RvL.length h.2]
  | [], _ :: _, h => by simp [RvL] at h
  | _ :: _, [], h => by simp [RvL] at h
theorem RvL.get {ρ : Rho} {w : World} : {vs : List AV} → {xs : List Value} → RvL ρ w vs xs → ∀ {i : Nat} {v : AV},vs[i]? = some v → ∃ x,xs[i]? = some x ∧ Rv ρ w v x
  | [], [], _, i, v, h => by simp at h
  | a :: vs, x :: xs, h, 0, v, hv => by
    simp only [RvL] at h
    simp at hv
    subst hv
    exact ⟨x, by simp, h.1⟩
  | a :: vs, x :: xs, h, i + 1, v, hv => by
    simp only [RvL] at h
    simp only [List.getElem?_cons_succ] at hv ⊢
    exact RvL.get h.2 hv
  | [], _ :: _, h, _, _, _ => by simp [RvL] at h
  | _ :: _, [], h, _, _, _ => by simp [RvL] at h
theorem RvL.of_get {ρ : Rho} {w : World} : {vs : List AV} → {xs : List Value} → vs.length = xs.length → (∀ (i : Nat) (v : AV) (x : Value),vs[i]? = some v → xs[i]? = some x → Rv ρ w v x) → RvL ρ w vs xs
  | [], [], _, _ => by simp [RvL]
  | v :: vs, x :: xs, hl, h => by
    simp only [RvL]
    exact ⟨h 0 v x (by simp) (by simp),RvL.of_get (by simpa using hl) fun i v x hv hx => h (i + 1) v x (by simpa using hv) (by simpa using hx)⟩
  | [], _ :: _, hl, _ => by simp at hl
  | _ :: _, [], hl, _ => by simp at hl
theorem RvL.set {ρ : Rho} {w : World} {v : AV} {x : Value} (hv : Rv ρ w v x) : {vs : List AV} → {xs : List Value} → (i : Nat) → RvL ρ w vs xs → RvL ρ w (vs.set i v) (xs.set i x)
  | [], [], _, h => by simpa using h
  | _ :: _, _ :: _, 0, h => by simp only [RvL, List.set_cons_zero] at h ⊢; exact ⟨hv, h.2⟩
  | _ :: _, _ :: _, i + 1, h => by simp only [RvL, List.set_cons_succ] at h ⊢; exact ⟨h.1, RvL.set hv i h.2⟩
  | [], _ :: _, _, h => by simp [RvL] at h
  | _ :: _, [], _, h => by simp [RvL] at h
theorem RvL.append {ρ : Rho} {w : World} : {vs vs' : List AV} → {xs xs' : List Value} → RvL ρ w vs xs → RvL ρ w vs' xs' → RvL ρ w (vs ++ vs') (xs ++ xs')
  | [], _, [], _, _, h' => by simpa using h'
  | _ :: _, _, _ :: _, _, h, h' => by simp only [RvL, List.cons_append] at h ⊢; exact ⟨h.1, RvL.append h.2 h'⟩
  | [], _, _ :: _, _, h, _ => by simp [RvL] at h
  | _ :: _, _, [], _, h, _ => by simp [RvL] at h
theorem RvL.tops {ρ : Rho} {w : World} : (xs : List Value) → RvL ρ w (List.replicate xs.length .top) xs
  | [] => by simp [RvL]
  | _ :: xs => by simp only [List.length_cons, List.replicate_succ, RvL, Rv]; exact ⟨trivial, RvL.tops xs⟩
inductive AObj where
  | dead
  | box (ety : TypeId) (cells : List AV)
  | arr (ety : TypeId) (esz len : Nat) (elem : Nat → Nat → AV)
  | mp (sh : KS) (es : List (Value × AV))
  | raw (b : Nat) (ob : Obj)
  | ghost (vs : List AV) (xs : List Value) (lo hi : Nat) (ds : List Deferred)
def AObj.alive : AObj → Bool
  | .dead => false
  | .ghost _ _ _ _ _ => false
  | _ => true
def Marks (ρ : Rho) (w : World) (lo hi : Nat) (ds : List Deferred) : Prop :=
  (∀ d ∈ ds,∃ D,d = { target := .collected D,args := #[] } ∧ lo ≤ D ∧ D < hi ∧ w.heap[D]? = some (.deferred (some [])) ∧ ¬ ρ.has D) ∧ ds.Nodup
theorem Marks.step {ρ ρ' : Rho} {w w' : World} {lo hi : Nat} {ds : List Deferred} (h : Marks ρ w lo hi ds) (hs : Step ρ w ρ' w') : Marks ρ' w' lo hi ds := by
  refine ⟨fun d hd => ?_, h.2⟩
  obtain ⟨D, e, h1, h2, h3, h4⟩ := h.1 d hd
  have hlt : D < w.heap.size := (Array.getElem?_eq_some_iff.1 h3).1
  exact ⟨D, e, h1, h2, (hs.same D hlt h4).trans h3, hs.has_old hlt h4⟩
theorem Marks.nil {ρ : Rho} {w : World} {lo hi : Nat} : Marks ρ w lo hi [] := ⟨fun _ h => (by cases h), List.nodup_nil⟩
theorem Marks.sub {ρ ρ' : Rho} {w : World} {lo hi : Nat} {ds : List Deferred} (h : Marks ρ w lo hi ds) (hs : ∀ b,ρ'.has b → ρ.has b) : Marks ρ' w lo hi ds := by
  refine ⟨fun d hd => ?_, h.2⟩
  obtain ⟨D, e, h1, h2, h3, h4⟩ := h.1 d hd
  exact ⟨D, e, h1, h2, h3, fun hb => h4 (hs D hb)⟩
theorem Marks.here {ρ : Rho} {w : World} {lo hi : Nat} {ds : List Deferred} (h : Marks ρ w lo hi ds) : Marks ρ w lo w.heap.size ds := by
  refine ⟨fun d hd => ?_, h.2⟩
  obtain ⟨D, e, a, _, c, d⟩ := h.1 d hd
  exact ⟨D, e, a, (Array.getElem?_eq_some_iff.1 c).1, c, d⟩
theorem Marks.wider {ρ : Rho} {w : World} {lo lo' hi hi' : Nat} {ds : List Deferred} (h : Marks ρ w lo hi ds) (h1 : lo' ≤ lo) (h2 : hi ≤ hi') : Marks ρ w lo' hi' ds := by
  refine ⟨fun d hd => ?_, h.2⟩
  obtain ⟨D, e, a, b, c⟩ := h.1 d hd
  exact ⟨D, e, Nat.le_trans h1 a, Nat.lt_of_lt_of_le b h2, c⟩
def RO (ρ : Rho) (w : World) (o : Nat) : AObj → Prop
  | .dead => True
  | .box ety cells=>∃ (l : Loc) (c : Array Value),ρ[o]? = some (some l) ∧ l.d = 0 ∧ l.esz = cells.length ∧ l.n = cells.length ∧ w.heap[l.b]? = some (.cells c ety (0,0)) ∧ (∀ y ∈ c.toList,y.oneCell' = true) ∧ RvL ρ w cells c.toList
  | .arr ety esz len elem=>(∃ (l : Loc) (c : Array Value),ρ[o]? = some (some l) ∧ l.esz = esz ∧ w.heap[l.b]? = some (.cells c ety (0,0)) ∧ (c.size = l.n ∧ ∀ y ∈ c.toList,y.oneCell' = true) ∧ l.d + len * esz ≤ l.n ∧
      ∀ i,i < len → ∀ j,j < esz → ∃ y,c[l.d + i * esz + j]? = some y ∧ y.oneCell' = true ∧ Rv ρ w (elem i j) y) ∨ (ρ[o]? = some none ∧ len = 0)
  | .mp sh es => ∃ (l : Loc) (a : Array MapEntry) (clock : Nat),ρ[o]? = some (some l) ∧ w.heap[l.b]? = some (.map a clock) ∧ ((∀ e ∈ a.toList,e.born < clock) ∧ (a.toList.map (·.born)).Nodup) ∧
      (∀ e ∈ es, sh.ok e.1) ∧ a.toList.map (·.key) = es.map (·.1) ∧ RvL ρ w (es.map (·.2)) (a.toList.map (·.val))
  | .raw b ob => ∃ l : Loc, ρ[o]? = some (some l) ∧ l.b = b ∧ w.heap[b]? = some ob
  | .ghost vs xs lo hi ds => RvL ρ w vs xs ∧ Marks ρ w lo hi ds ∧ ρ[o]? = some none
def gcell (k : IntKind) (vs : List Int) (j : Nat) : AV := .imm (.int k (vs.getD j 0))
def Glob (ρ : Rho) (w : World) : Prop := ∀ g k vs,(g,k,vs) ∈ gtab → Rv ρ w (.rptr vs.length (gcell k vs)) (.pointer (some ⟨g,0,none⟩))
theorem Glob.step {ρ ρ' : Rho} {w w' : World} (h : Glob ρ w) (hs : Step ρ w ρ' w') : Glob ρ' w' := fun g k vs hm => Rv.mono hs _ (h g k vs hm)
theorem Glob.sub {ρ ρ' : Rho} {w : World} (h : Glob ρ w) (hs : ∀ b,ρ'.has b → ρ.has b) : Glob ρ' w := fun g k vs hm => by
  have := h g k vs hm
  simp only [Rv] at this ⊢
  obtain ⟨ad, e, h1, h2, h3⟩ := this
  exact ⟨ad, e, h1, fun hb => h2 (hs _ hb), h3⟩
structure RH (ρ : Rho) (w : World) (σ : List AObj) : Prop where
  len : ρ.length = σ.length
  lt : ∀ (o : Nat) (l : Loc), ρ[o]? = some (some l) → l.b < w.heap.size
  obj : ∀ (o : Nat) (a : AObj), σ[o]? = some a → RO ρ w o a
  apart : ∀ (o o' : Nat) (l l' : Loc) (a a' : AObj),o ≠ o' → σ[o]? = some a → a.alive = true → σ[o']? = some a' → a'.alive = true → ρ[o]? = some (some l) → ρ[o']? = some (some l') → l.b ≠ l'.b
  glob : Glob ρ w
theorem RH.glob_nil {ρ : Rho} {w : World} {σ : List AObj} (h : RH ρ w σ) : Glob [] w := h.glob.sub fun b hb => by obtain ⟨o,l,hl,_⟩ := hb;simp at hl
theorem RH.nil (w : World) (h : Glob [] w) : RH [] w [] := ⟨rfl, by simp, by simp, by simp, h⟩
theorem RO.keep {ρ ρ' : Rho} {w w' : World} (h : Step ρ w ρ' w') {o : Nat} {a : AObj} (ho : RO ρ w o a) (hb' : ∀ l : Loc,ρ[o]? = some (some l) → w'.heap[l.b]? = w.heap[l.b]?) : RO ρ' w' o a := by
  cases a with
  | dead => trivial
  | box ety cells =>
    obtain ⟨l, c, hl, h0, h1, h2, hh, h3, hr⟩ := ho
    exact ⟨l, c, Rho.pre_get h.pre hl, h0, h1, h2, (hb' l hl).trans hh, h3, RvL.mono h cells hr⟩
  | arr ety esz len elem =>
    rcases ho with ⟨l, c, hl, he, hh, hc, hd, hr⟩ | ⟨hn, h0⟩
    · refine .inl ⟨l, c, Rho.pre_get h.pre hl, he, (hb' l hl).trans hh, hc, hd, fun i hi j hj => ?_⟩
      obtain ⟨y, hy, h1, hv⟩ := hr i hi j hj
      exact ⟨y, hy, h1, Rv.mono h _ hv⟩
    · exact .inr ⟨Rho.pre_get h.pre hn, h0⟩
  | mp sh es =>
    obtain ⟨l, a, clock, hl, hh, hb, hk, hks, hv⟩ := ho
    exact ⟨l, a, clock, Rho.pre_get h.pre hl, (hb' l hl).trans hh, hb, hk, hks, RvL.mono h _ hv⟩
  | raw b ob =>
    obtain ⟨l, hl, rfl, hh⟩ := ho
    exact ⟨l, Rho.pre_get h.pre hl, rfl, (hb' l hl).trans hh⟩
  | ghost vs xs lo hi ds => exact ⟨RvL.mono h vs ho.1, ho.2.1.step h, Rho.pre_get h.pre ho.2.2⟩
theorem RO.keepD {ρ ρ' : Rho} {w w' : World} (h : Step ρ w ρ' w') {o : Nat} {a : AObj} (hd : a.alive = false) (ho : RO ρ w o a) : RO ρ' w' o a := by
  cases a <;> simp [AObj.alive] at hd
  · trivial
  · exact ⟨RvL.mono h _ ho.1, ho.2.1.step h, Rho.pre_get h.pre ho.2.2⟩
theorem RH.push {ρ : Rho} {w w' : World} {σ : List AObj} (h : RH ρ w σ) (l : Loc) (a : AObj) (hs : Step ρ w (ρ ++ [some l]) w') (hb : l.b = w.heap.size) (hlt : l.b < w'.heap.size)
    (hold : ∀ b,b < w.heap.size → w'.heap[b]? = w.heap[b]?) (ro : RO (ρ ++ [some l]) w' ρ.length a) : RH (ρ ++ [some l]) w' (σ ++ [a]) := by
  refine ⟨by simp [h.len],fun o l' hl' => ?_,fun o a' ha' => ?_,fun o o' l1 l2 a1 a2 hne h1 k1 h2 k2 r1 r2 => ?_,h.glob.step hs⟩
  · rw [List.getElem?_append] at hl'
    split at hl'
    · exact Nat.lt_of_lt_of_le (h.lt o l' hl') hs.size
    · rename_i hge
      have : o - ρ.length = 0 := by
        rcases Nat.eq_zero_or_pos (o - ρ.length) with h0 | h0
        · exact h0
        · rw [List.getElem?_eq_none (by simp; omega)] at hl'; cases hl'
      rw [this] at hl'
      simp at hl'
      subst hl'
      exact hlt
  · rw [List.getElem?_append] at ha'
    split at ha'
    · rename_i hlo
      exact RO.keep hs (h.obj o a' ha') fun l' hl' => hold _ (h.lt o l' hl')
    · rename_i hge
      have h0 : o - σ.length = 0 := by
        rcases Nat.eq_zero_or_pos (o - σ.length) with h0 | h0
        · exact h0
        · rw [List.getElem?_eq_none (by simp; omega)] at ha'; cases ha'
      rw [h0] at ha'
      simp at ha'
      subst ha'
      have : o = ρ.length := by rw [h.len]; omega
      rw [this]
      exact ro
  · have key : ∀ (o : Nat) (l' : Loc),(ρ ++ [some l])[o]? = some (some l') → (o < ρ.length ∧ ρ[o]? = some (some l')) ∨ (o = ρ.length ∧ l' = l) := by
      intro o l' hl'
      rw [List.getElem?_append] at hl'
      split at hl'
      · rename_i hlo; exact .inl ⟨hlo, hl'⟩
      · have h0 : o - ρ.length = 0 := by
          rcases Nat.eq_zero_or_pos (o - ρ.length) with h0 | h0
          · exact h0
          · rw [List.getElem?_eq_none (by simp; omega)] at hl'; cases hl'
        rw [h0] at hl'
        simp at hl'
        exact .inr ⟨by omega, hl'.symm⟩
    rcases key o l1 r1 with ⟨q1, r1'⟩ | ⟨q1, rfl⟩ <;> rcases key o' l2 r2 with ⟨q2, r2'⟩ | ⟨q2, rfl⟩
    · rw [List.getElem?_append_left (by rw [← h.len]; exact q1)] at h1
      rw [List.getElem?_append_left (by rw [← h.len]; exact q2)] at h2
      exact h.apart o o' l1 l2 a1 a2 hne h1 k1 h2 k2 r1' r2'
    · have := h.lt o l1 r1'; omega
    · have := h.lt o' l2 r2'; omega
    · omega
theorem Step.push {ρ : Rho} {w w' : World} (l : Loc) (os : w'.os = w.os) (tape : w'.tape = w.tape) (output : w'.output = w.output) (hb : l.b = w.heap.size) (hsz : w.heap.size ≤ w'.heap.size)
    (hold : ∀ b, b < w.heap.size → w'.heap[b]? = w.heap[b]?) : Step ρ w (ρ ++ [some l]) w' := by
  refine ⟨os, tape, output, hsz, fun b hlt _ => hold b hlt, List.prefix_append _ _, fun b hh => ?_⟩
  obtain ⟨o, l', hl', rfl⟩ := hh
  rw [List.getElem?_append] at hl'
  split at hl'
  · exact .inl ⟨o, l', hl', rfl⟩
  · have h0 : o - ρ.length = 0 := by
      rcases Nat.eq_zero_or_pos (o - ρ.length) with h0 | h0
      · exact h0
      · rw [List.getElem?_eq_none (by simp; omega)] at hl'; cases hl'
    rw [h0] at hl'
    simp at hl'
    subst hl'
    exact .inr (Nat.le_of_eq hb.symm)
theorem getElem?_snoc {α : Type} (l : List α) (x : α) : (l ++ [x])[l.length]? = some x := by simp
theorem RH.turn {ρ : Rho} {w w' : World} {σ : List AObj} (h : RH ρ w σ) {o : Nat} {a a' : AObj} (ho : σ[o]? = some a) (hal : a.alive = true) {l : Loc} (hl : ρ[o]? = some (some l)) (hs : Step ρ w ρ w')
    (hold : ∀ b, b ≠ l.b → w'.heap[b]? = w.heap[b]?) (ro : RO ρ w' o a') : RH ρ w' (σ.set o a') := by
  have hlo : o < σ.length := (List.getElem?_eq_some_iff.1 ho).1
  refine ⟨by simp [h.len],fun o' l' hl' => Nat.lt_of_lt_of_le (h.lt o' l' hl') hs.size,fun o' b hb => ?_,fun o1 o2 l1 l2 a1 a2 hne h1 k1 h2 k2 r1 r2 => ?_,h.glob.step hs⟩
  · rw [List.getElem?_set] at hb
    split at hb
    · rename_i heq
      subst heq
      simp at hb
      subst hb
      exact ro
    · rename_i hne
      by_cases hlive : b.alive = true
      · exact RO.keep hs (h.obj o' b hb) fun l' hl' => hold _ (h.apart o' o l' l b a (fun e => hne e.symm) hb hlive ho hal hl' hl)
      · exact RO.keepD hs (by simpa using hlive) (h.obj o' b hb)
  · have back : ∀ (q : Nat) (b : AObj),(σ.set o a')[q]? = some b → b.alive = true → ∃ b',σ[q]? = some b' ∧ b'.alive = true := by
      intro q b hb hk
      rw [List.getElem?_set] at hb
      split at hb
      · rename_i heq; subst heq; exact ⟨a, ho, hal⟩
      · exact ⟨b, hb, hk⟩
    obtain ⟨b1, q1, p1⟩ := back o1 a1 h1 k1
    obtain ⟨b2, q2, p2⟩ := back o2 a2 h2 k2
    exact h.apart o1 o2 l1 l2 b1 b2 hne q1 p1 q2 p2 r1 r2
theorem Step.turn {ρ : Rho} {w w' : World} {l : Loc} {o : Nat} (hl : ρ[o]? = some (some l)) (os : w'.os = w.os) (tape : w'.tape = w.tape) (output : w'.output = w.output) (hsz : w.heap.size ≤ w'.heap.size)
    (hold : ∀ b, b ≠ l.b → w'.heap[b]? = w.heap[b]?) : Step ρ w ρ w' :=
  ⟨os,tape,output,hsz,fun b _ hn => hold b (fun e => hn ⟨o,l,hl,e.symm⟩),List.prefix_refl _,fun _ hb => .inl hb⟩
theorem RH.kill {ρ : Rho} {w : World} {σ : List AObj} (h : RH ρ w σ) (o : Nat) : RH ρ w (σ.set o .dead) := by
  refine ⟨by simp [h.len], h.lt, fun o' b hb => ?_, fun o1 o2 l1 l2 a1 a2 hne h1 k1 h2 k2 r1 r2 => ?_, h.glob⟩
  · rw [List.getElem?_set] at hb
    split at hb
    · split at hb
      · simp at hb; subst hb; trivial
      · cases hb
    · exact h.obj o' b hb
  · have back : ∀ (q : Nat) (b : AObj), (σ.set o .dead)[q]? = some b → b.alive = true → σ[q]? = some b := by
      intro q b hb hk
      rw [List.getElem?_set] at hb
      split at hb
      · split at hb
        · simp at hb; subst hb; simp [AObj.alive] at hk
        · cases hb
      · exact hb
    exact h.apart o1 o2 l1 l2 a1 a2 hne (back o1 a1 h1 k1) k1 (back o2 a2 h2 k2) k2 r1 r2
theorem RH.drewN {ρ : Rho} {w : World} {σ : List AObj} (h : RH ρ w σ) (n : Nat) : RH ρ (w.drewN n) σ := by
  have hs : Step ρ w ρ (w.drewN n) := (Step.refl ρ w).drewN n
  exact ⟨h.len, h.lt, fun o a ha => RO.keep hs (h.obj o a ha) fun _ _ => rfl, h.apart, h.glob.step hs⟩
end Go.Ab
namespace Go.Ab
inductive ZC where
  | int (k : IntKind) | bool | str | slice | map | func | ptr | iface
def ZC.val : ZC → Value
  | .int k => .int k 0
  | .bool => .bool false
  | .str => .string ByteArray.empty
  | .slice => .slice none 0 0
  | .map => .map none
  | .func => .nilFunc
  | .ptr => .pointer none
  | .iface => .nilIface
def noAddr : Option Addr → Bool
  | none => true
  | some _ => false
def noNat : Option Nat → Bool
  | none => true
  | some _ => false
def ZC.chk : ZC → Value → Bool
  | .int k, .int k' n => k == k' && n == 0
  | .bool, .bool b => !b
  | .str, .string s => s.size == 0
  | .slice, .slice a l c => noAddr a && l == 0 && c == 0
  | .map, .map r => noNat r
  | .func, .nilFunc => true
  | .ptr, .pointer a => noAddr a
  | .iface, .nilIface => true
  | _, _ => false
theorem ZC.chk_val {z : ZC} {v : Value} (h : z.chk v = true) : v = z.val := by
  cases z <;> cases v <;> simp [ZC.chk, ZC.val] at h ⊢
  case int.int => exact ⟨h.1.symm, h.2⟩
  case bool.bool => exact h
  case str.string s =>
    cases s
    exact h
  case slice.slice a l c => cases a <;> simp [noAddr] at h ⊢; exact h
  case map.map r => cases r <;> simp [noNat] at h ⊢
  case ptr.pointer a => cases a <;> simp [noAddr] at h ⊢
inductive TD where
  | int (k : IntKind) | bool | str
  | strct (fs : List (TypeId × Nat))
  | array (len : Nat) (elem : TypeId)
  | slice (elem : TypeId)
  | ptr (elem : TypeId)
  | map (k e : TypeId)
  | func
  | iface
def TD.isAgg : TD → Bool
  | .strct _ | .array _ _ => true
  | _ => false
structure TI where
  d : TD
  size : Nat
  bytes : Nat
  zero : List ZC
  eqv : Option (List Bool)
abbrev Tab := List (TypeId × TI)
def Tab.get : Tab → TypeId → Option TI
  | [], _ => none
  | (u, i) :: r, t => if u = t then some i else Tab.get r t
def flatGo (P : Program) (r : TypeId → Option (List Bool)) : List Field → Nat → Option (List Bool)
  | [], _ => some []
  | f :: fs, off =>
    if f.name = "_" ∨ f.offset ≠ off then none else
    match r f.type with
    | some ls => if (P.info? f.type).map (·.size) = some ls.length then (flatGo P r fs (off + ls.length)).map (ls ++ ·) else none
    | none => none
def flatP (P : Program) : Nat → TypeId → Option (List Bool)
  | 0, _ => none
  | d + 1, t =>
    match P.underlying t with
    | some (.int _) => some [false]
    | some .bool => some [true]
    | some (.struct fs) => if P.stoodInHeld t then none else flatGo P (flatP P d) fs.toList 0
    | some (.array len e) =>
      match flatP P d e with
      | some ls => if (P.info? e).map (·.size) = some ls.length then some (List.replicate len ls).flatten else none
      | none => none
    | _ => none
def isAggV : Value → Bool
  | .agg _ => true
  | _ => false
def TI.chk (P : Program) (t : TypeId) (ti : TI) : Bool :=
  (match P.info? t with
   | some i => i.size == ti.size && i.bytes == ti.bytes &&
      (match i.zero with
       | some z => z.cells.size == ti.zero.length && (z.cells.toList.zip ti.zero).all (fun p => p.2.chk p.1) && isAggV z == ti.d.isAgg
       | none => false)
   | none => false) &&
  (match P.underlying t, ti.d with
   | some (.int k), .int k' => k == k'
   | some .bool, .bool => true
   | some .string, .str => true
   | some (.struct fs), .strct gs => fs.toList.map (fun f => (f.type, f.offset)) == gs
   | some (.array n e), .array n' e' => n == n' && e == e'
   | some (.slice e), .slice e' => e == e'
   | some (.pointer e), .ptr e' => e == e'
   | some (.map k e), .map k' e' => k == k' && e == e'
   | some (.func _ _ _), .func => true
   | some (.interface _), .iface => true
   | _, _ => false) &&
  (match ti.eqv with
   | none => true
   | some ls => flatP P 8 t == some ls && !(P.eqGuardType P.depth t) && ls.length == ti.size && ti.d.isAgg)
def Tab.chk (P : Program) (Γ : Tab) : Bool := Γ.all fun p => p.2.chk P p.1
def TD.holds (P : Program) (t : TypeId) : TD → Prop
  | .int k => P.underlying t = some (.int k)
  | .bool => P.underlying t = some .bool
  | .str => P.underlying t = some .string
  | .strct gs => ∃ fs, P.underlying t = some (.struct fs) ∧ fs.toList.map (fun f => (f.type, f.offset)) = gs
  | .array n e => P.underlying t = some (.array n e)
  | .slice e => P.underlying t = some (.slice e)
  | .ptr e => P.underlying t = some (.pointer e)
  | .map k e => P.underlying t = some (.map k e)
  | .func => ∃ a b c, P.underlying t = some (.func a b c)
  | .iface => ∃ ms, P.underlying t = some (.interface ms)
structure TIok (P : Program) (t : TypeId) (ti : TI) : Prop where
  info : ∃ i z,P.info? t = some i ∧ i.size = ti.size ∧ i.bytes = ti.bytes ∧ i.zero = some z ∧ z.cells = (ti.zero.map ZC.val).toArray
  desc : ti.d.holds P t
  zagg : ∀ i z, P.info? t = some i → i.zero = some z → isAggV z = ti.d.isAgg
  eqv : ∀ ls,ti.eqv = some ls → flatP P 8 t = some ls ∧ P.eqGuardType P.depth t = false ∧ ls.length = ti.size ∧ ti.d.isAgg = true
theorem zero_of_chk : ∀ (cs : List Value) (zs : List ZC),cs.length = zs.length → (cs.zip zs).all (fun p => p.2.chk p.1) = true → cs = zs.map ZC.val
  | [], [], _, _ => rfl
  | c :: cs, z :: zs, hl, h => by
    simp only [List.zip_cons_cons, List.all_cons, Bool.and_eq_true] at h
    rw [List.map_cons, ← ZC.chk_val h.1, ← zero_of_chk cs zs (by simpa using hl) h.2]
  | [], _ :: _, hl, _ => by simp at hl
  | _ :: _, [], hl, _ => by simp at hl
theorem TI.ok_of_chk {P : Program} {t : TypeId} {ti : TI} (h : ti.chk P t = true) : TIok P t ti := by
  unfold TI.chk at h
  simp only [Bool.and_eq_true] at h
  obtain ⟨⟨h1, h2⟩, h3⟩ := h
  refine ⟨?_, ?_, ?_, ?_⟩
  · split at h1
    · rename_i i hi
      simp only [Bool.and_eq_true, beq_iff_eq] at h1
      obtain ⟨⟨a, b⟩, c⟩ := h1
      split at c
      · rename_i z hz
        simp only [Bool.and_eq_true, beq_iff_eq] at c
        refine ⟨i, z, hi, a, b, hz, ?_⟩
        have := zero_of_chk z.cells.toList ti.zero (by simpa using c.1.1) c.1.2
        rw [← this]
      · cases c
    · cases h1
  · unfold TD.holds
    split at h2 <;> simp_all
  · intro i z hi hz
    rw [hi] at h1
    simp only [hz, Bool.and_eq_true, beq_iff_eq] at h1
    exact h1.2.2
  · intro ls hls
    rw [hls] at h3
    simpa [and_assoc] using h3
def TabOk (P : Program) (Γ : Tab) : Prop := ∀ t ti, Γ.get t = some ti → TIok P t ti
theorem tabOk_of_chk {P : Program} : ∀ {Γ : Tab}, Γ.chk P = true → TabOk P Γ
  | [], _, t, ti, h => by simp [Tab.get] at h
  | (u, i) :: r, hc, t, ti, h => by
    simp only [Tab.chk, List.all_cons, Bool.and_eq_true] at hc
    unfold Tab.get at h
    split at h
    · rename_i he
      subst he
      simp at h
      subst h
      exact TI.ok_of_chk hc.1
    · exact tabOk_of_chk (Γ := r) hc.2 t ti h
section
variable {P : Program} {Γ : Tab} (hΓ : TabOk P Γ) {t : TypeId} {ti : TI}
theorem TIok.sizeOf (h : TIok P t ti) (w : World) : (sizeOf t).run P w = .ok ti.size w := by
  obtain ⟨i, z, hi, hs, _⟩ := h.info
  simp [Go.sizeOf, typeInfo, hi, hs]
theorem TIok.bytesOf (h : TIok P t ti) : ∃ i, P.info? t = some i ∧ i.size = ti.size ∧ i.bytes = ti.bytes := by
  obtain ⟨i, z, hi, hs, hb, _⟩ := h.info
  exact ⟨i, hi, hs, hb⟩
theorem TIok.zeroValue (h : TIok P t ti) (w : World) : ∃ z,(zeroValue t).run P w = .ok z w ∧ z.cells = (ti.zero.map ZC.val).toArray := by
  obtain ⟨i, z, hi, _, _, hz, hc⟩ := h.info
  exact ⟨z, by simp [Go.zeroValue, typeInfo, hi, hz], hc⟩
theorem TIok.isAgg (h : TIok P t ti) (w : World) : (isAgg t).run P w = .ok ti.d.isAgg w := by
  have hd := h.desc
  unfold Go.isAgg
  rw [Sem.run_bind]
  cases hdd : ti.d <;> rw [hdd] at hd <;> simp only [TD.holds] at hd
  case strct => obtain ⟨fs, hu, _⟩ := hd; simp [run_underlying hu, TD.isAgg]
  case func => obtain ⟨a, b, c, hu⟩ := hd; simp [run_underlying hu, TD.isAgg]
  case iface => obtain ⟨ms, hu⟩ := hd; simp [run_underlying hu, TD.isAgg]
  all_goals simp [run_underlying hd, TD.isAgg]
end
def Leaf : Bool → Value → Prop
  | true, .bool _ => True
  | false, .int _ _ => True
  | _, _ => False
def Leafy : List Bool → List Value → Prop
  | [], [] => True
  | b :: bs, v :: vs => Leaf b v ∧ Leafy bs vs
  | _, _ => False
def ceq : Value → Value → Bool
  | .int _ a, .int _ b => a == b
  | .bool a, .bool b => a == b
  | _, _ => false
def ckind : Value → Value → Prop
  | .int k _, .int k' _ => k = k'
  | _, _ => True
def eqL : List Value → List Value → Bool
  | [], [] => true
  | x :: xs, y :: ys => ceq x y && eqL xs ys
  | _, _ => false
def kindL : List Value → List Value → Prop
  | x :: xs, y :: ys => ckind x y ∧ kindL xs ys
  | _, _ => True
theorem Leafy.length : ∀ {bs : List Bool} {vs : List Value}, Leafy bs vs → vs.length = bs.length
  | [], [], _ => rfl
  | _ :: _, _ :: _, h => by simp only [Leafy] at h; simp [Leafy.length h.2]
  | [], _ :: _, h => by simp [Leafy] at h
  | _ :: _, [], h => by simp [Leafy] at h
theorem Leafy.split : ∀ {a b : List Bool} {vs : List Value},Leafy (a ++ b) vs → Leafy a (vs.take a.length) ∧ Leafy b (vs.drop a.length)
  | [], b, vs, h => by simpa [Leafy] using h
  | x :: a, b, v :: vs, h => by
    simp only [List.cons_append, Leafy] at h
    have := Leafy.split h.2
    simpa [Leafy, and_assoc] using (⟨⟨h.1, this.1⟩, this.2⟩ : (_ ∧ _) ∧ _)
  | _ :: _, _, [], h => by simp [Leafy] at h
theorem eqL_append : ∀ (a b c d : List Value), a.length = c.length → eqL (a ++ b) (c ++ d) = (eqL a c && eqL b d)
  | [], b, [], d, _ => by simp [eqL]
  | x :: a, b, y :: c, d, h => by simp [eqL, eqL_append a b c d (by simpa using h), Bool.and_assoc]
  | [], _, _ :: _, _, h => by simp at h
  | _ :: _, _, [], _, h => by simp at h
theorem kindL.split : ∀ {vs ws : List Value} (n : Nat),kindL vs ws → kindL (vs.take n) (ws.take n) ∧ kindL (vs.drop n) (ws.drop n)
  | _, _, 0, h => by simpa [kindL] using h
  | [], ws, n + 1, _ => by simp [kindL]
  | x :: vs, [], n + 1, _ => by simp [kindL]
  | x :: vs, y :: ws, n + 1, h => by
    simp only [kindL] at h
    have := kindL.split n h.2
    simpa [kindL] using ⟨⟨h.1, this.1⟩, this.2⟩
def mkVal (agg : Bool) (cs : List Value) : Value := if agg then .agg cs.toArray else cs.getD 0 undef
def aggP (P : Program) (t : TypeId) : Bool :=
  match P.underlying t with
  | some (.struct _) | some (.array _ _) => true
  | _ => false
section
variable {P : Program}
theorem run_part (t : TypeId) (n : Nat) (hn : (P.info? t).map (·.size) = some n) (hu : (P.underlying t).isSome = true) (pre mid post : List Value) (hm : mid.length = n) (h1 : aggP P t = false → n = 1) (w : World) :
    (part t (pre ++ mid ++ post).toArray pre.length).run P w = .ok (mkVal (aggP P t) mid) w := by
  cases hd : P.underlying t with
  | none => simp [hd] at hu
  | some d =>
    have hs : (sizeOf t).run P w = .ok n w := by
      cases hi : P.info? t with
      | none => simp [hi] at hn
      | some i => simp [hi] at hn; simp [sizeOf, typeInfo, hi, hn]
    have ha : (isAgg t).run P w = .ok (aggP P t) w := by
      unfold isAgg aggP
      rw [Sem.run_bind, run_underlying hd]
      cases d <;> simp [hd]
    unfold part
    rw [Sem.run_bind, ha]
    simp only [Result.andThen_ok]
    cases hg : aggP P t with
    | true =>
      simp only [if_true, Sem.run_bind, hs, Result.andThen_ok, Sem.run_pure, mkVal]
      congr 2
      have e : (pre ++ mid ++ post).extract pre.length (pre.length + n) = mid := by
        rw [List.extract_eq_take_drop,List.append_assoc,List.drop_left,show pre.length + n - pre.length = mid.length by omega,List.take_left]
      rw [List.extract_toArray, e]
    | false =>
      have := h1 hg
      subst this
      match mid, hm with
      | [m], _ =>
        simp [mkVal]
theorem run_equalIn_flat : ∀ (d : Nat) (t : TypeId) (ls : List Bool),flatP P d t = some ls → (P.info? t).map (·.size) = some ls.length → ∀ (n : Nat) (xs ys : List Value),Leafy ls xs → Leafy ls ys → kindL xs ys →
    ∀ w, (Op.equalIn (d + n) t (mkVal (aggP P t) xs) (mkVal (aggP P t) ys)).run P w = .ok (eqL xs ys) w
  | 0, _, _, h, _ => by simp [flatP] at h
  | d + 1, t, ls, h, hsz => by
    intro n xs ys hx hy hk w
    unfold flatP at h
    rw [show d + 1 + n = (d + n) + 1 by omega]
    cases hd : P.underlying t with
    | none => simp [hd] at h
    | some u =>
      rw [hd] at h
      cases u <;> simp only [] at h <;> try (cases h; done)
      case int k =>
        injection h with h; subst h
        match xs, ys, hx, hy with
        | [x], [y], hx, hy =>
          simp only [Leafy, and_true] at hx hy
          cases x <;> simp [Leaf] at hx
          cases y <;> simp [Leaf] at hy
          simp [kindL, ckind] at hk
          subst hk
          have : aggP P t = false := by simp [aggP, hd]
          simp [mkVal, this, Op.equalIn, run_underlying hd, eqL, ceq]
        | _ :: _ :: _, _, hx, _ => simp [Leafy] at hx
        | _, _ :: _ :: _, _, hy => simp [Leafy] at hy
        | [], _, hx, _ => simp [Leafy] at hx
        | _, [], _, hy => simp [Leafy] at hy
      case bool =>
        injection h with h; subst h
        match xs, ys, hx, hy with
        | [x], [y], hx, hy =>
          simp only [Leafy, and_true] at hx hy
          cases x <;> simp [Leaf] at hx
          cases y <;> simp [Leaf] at hy
          have : aggP P t = false := by simp [aggP, hd]
          simp [mkVal, this, Op.equalIn, run_underlying hd, eqL, ceq]
        | _ :: _ :: _, _, hx, _ => simp [Leafy] at hx
        | _, _ :: _ :: _, _, hy => simp [Leafy] at hy
        | [], _, hx, _ => simp [Leafy] at hx
        | _, [], _, hy => simp [Leafy] at hy
      case struct fs =>
        split at h
        · cases h
        · rename_i hst
          have hst : P.stoodInHeld t = false := by simpa using hst
          have hagg : aggP P t = true := by simp [aggP, hd]
          have hfo : P.fieldsOf t = fs := by simp [Program.fieldsOf, hd]
          simp only [mkVal, hagg, if_true]
          rw [run_equalIn_struct w (d + n) t _ _ (by rw [hfo, hd]) hst, hfo]
          -- the fields, one after the other
          have key : ∀ (gs : List Field) (px py rx ry : List Value) (ls : List Bool),flatGo P (flatP P d) gs px.length = some ls → py.length = px.length → Leafy ls rx → Leafy ls ry → kindL rx ry →
              (Op.eqFields (d + n) (px ++ rx).toArray (py ++ ry).toArray gs).run P w = .ok (eqL rx ry) w := by
            intro gs
            induction gs with
            | nil =>
              intro px py rx ry ls hgo hpl hrx hry hkr
              simp [flatGo] at hgo
              subst hgo
              match rx, ry, hrx, hry with
              | [], [], _, _ => simp [Op.eqFields, eqL]
              | _ :: _, _, h, _ => simp [Leafy] at h
              | _, _ :: _, _, h => simp [Leafy] at h
            | cons f gs ih =>
              intro px py rx ry ls hgo hpl hrx hry hkr
              unfold flatGo at hgo
              split at hgo
              · cases hgo
              · rename_i hc
                simp only [not_or, Decidable.not_not] at hc
                obtain ⟨hname, hoff⟩ := hc
                split at hgo
                · rename_i l1 hl1
                  split at hgo
                  · rename_i hsz1
                    cases hgo2 : flatGo P (flatP P d) gs (px.length + l1.length) with
                    | none => simp [hgo2] at hgo
                    | some l2 =>
                      simp [hgo2] at hgo
                      subst hgo
                      have sx := Leafy.split hrx
                      have sy := Leafy.split hry
                      have sk := kindL.split l1.length hkr
                      have lx : (rx.take l1.length).length = l1.length := sx.1.length
                      have ly : (ry.take l1.length).length = l1.length := sy.1.length
                      have hu1 : (P.underlying f.type).isSome = true := by
                        cases d with
                        | zero => simp [flatP] at hl1
                        | succ d' =>
                          unfold flatP at hl1
                          cases hq : P.underlying f.type with
                          | none => simp [hq] at hl1
                          | some _ => rfl
                      have hone : aggP P f.type = false → l1.length = 1 := by
                        intro hg
                        cases d with
                        | zero => simp [flatP] at hl1
                        | succ d' =>
                          unfold flatP at hl1
                          unfold aggP at hg
                          cases hq : P.underlying f.type with
                          | none => simp [hq] at hl1
                          | some q => rw [hq] at hl1 hg; cases q <;> simp at hl1 hg <;> (subst hl1; rfl)
                      have ex : (px ++ rx) = px ++ rx.take l1.length ++ rx.drop l1.length := by simp
                      have ey : (py ++ ry) = py ++ ry.take l1.length ++ ry.drop l1.length := by simp
                      have p1 := run_part (P := P) f.type l1.length hsz1 hu1 px (rx.take l1.length) (rx.drop l1.length) lx hone w
                      have p2 := run_part (P := P) f.type l1.length hsz1 hu1 py (ry.take l1.length) (ry.drop l1.length) ly hone w
                      rw [hpl] at p2
                      have heq := run_equalIn_flat d f.type l1 hl1 hsz1 n (rx.take l1.length) (ry.take l1.length) sx.1 sy.1 sk.1 w
                      have hrec := ih (px ++ rx.take l1.length) (py ++ ry.take l1.length) (rx.drop l1.length) (ry.drop l1.length) l2 (by rw [List.length_append,lx];exact hgo2) (by simp only [List.length_append,lx,ly,hpl]) sx.2 sy.2 sk.2
                      rw [← ex, ← ey] at hrec
                      rw [← ex] at p1
                      rw [← ey] at p2
                      have e2 : eqL rx ry = (eqL (rx.take l1.length) (ry.take l1.length) && eqL (rx.drop l1.length) (ry.drop l1.length)) := by
                        rw [← eqL_append _ _ _ _ (by rw [lx, ly])]; simp
                      simp only [Op.eqFields, if_pos hname, hoff, Sem.run_bind, p1, p2, Result.andThen_ok, heq, e2]
                      cases eqL (rx.take l1.length) (ry.take l1.length)
                      · simp
                      · simpa using hrec
                  · cases hgo
                · cases hgo
          have := key fs.toList [] [] xs ys ls h rfl hx hy hk
          simpa using this
      case array len e =>
        have hagg : aggP P t = true := by simp [aggP, hd]
        simp only [mkVal, hagg, if_true]
        split at h
        · rename_i l1 hl1
          split at h
          · rename_i hsz1
            injection h with h
            subst h
            have hu1 : (P.underlying e).isSome = true := by
              cases d with
              | zero => simp [flatP] at hl1
              | succ d' =>
                unfold flatP at hl1
                cases hq : P.underlying e with
                | none => simp [hq] at hl1
                | some _ => rfl
            have hone : aggP P e = false → l1.length = 1 := by
              intro hg
              cases d with
              | zero => simp [flatP] at hl1
              | succ d' =>
                unfold flatP at hl1
                unfold aggP at hg
                cases hq : P.underlying e with
                | none => simp [hq] at hl1
                | some q => rw [hq] at hl1 hg; cases q <;> simp at hl1 hg <;> (subst hl1; rfl)
            have hso : (sizeOf e).run P w = .ok l1.length w := by
              cases hi : P.info? e with
              | none => simp [hi] at hsz1
              | some i => simp [hi] at hsz1; simp [sizeOf, typeInfo, hi, hsz1]
            simp only [Op.equalIn, Sem.run_bind, run_underlying hd, Result.andThen_ok, hso]
            have key : ∀ (m k : Nat) (px py rx ry : List Value),px.length = k * l1.length → py.length = px.length → Leafy (List.replicate m l1).flatten rx → Leafy (List.replicate m l1).flatten ry → kindL rx ry →
                (forIn (m := Sem) (List.range' k m) ((none : Option Bool), ()) fun i _ => do
                  let __do_lift ← part e (px ++ rx).toArray (i * l1.length)
                  let __do_lift_1 ← part e (py ++ ry).toArray (i * l1.length)
                  let __do_lift ← Op.equalIn (d + n) e __do_lift __do_lift_1
                  if (!__do_lift) = true then pure (ForInStep.done (some false,())) else pure (ForInStep.yield (none,()))).run P w =
                  .ok ((if eqL rx ry then none else some false), ()) w := by
              intro m
              induction m with
              | zero =>
                intro k px py rx ry hp hpl hrx hry hkr
                match rx, ry, hrx, hry with
                | [], [], _, _ => simp [eqL]
                | _ :: _, _, h, _ => simp [Leafy] at h
                | _, _ :: _, _, h => simp [Leafy] at h
              | succ m ih =>
                intro k px py rx ry hp hpl hrx hry hkr
                rw [List.replicate_succ, List.flatten_cons] at hrx hry
                have sx := Leafy.split hrx
                have sy := Leafy.split hry
                have sk := kindL.split l1.length hkr
                have lx : (rx.take l1.length).length = l1.length := sx.1.length
                have ly : (ry.take l1.length).length = l1.length := sy.1.length
                have ex : (px ++ rx) = px ++ rx.take l1.length ++ rx.drop l1.length := by simp
                have ey : (py ++ ry) = py ++ ry.take l1.length ++ ry.drop l1.length := by simp
                have p1 := run_part (P := P) e l1.length hsz1 hu1 px (rx.take l1.length) (rx.drop l1.length) lx hone w
                have p2 := run_part (P := P) e l1.length hsz1 hu1 py (ry.take l1.length) (ry.drop l1.length) ly hone w
                rw [hpl, hp] at p2
                rw [hp] at p1
                have heq := run_equalIn_flat d e l1 hl1 hsz1 n (rx.take l1.length) (ry.take l1.length) sx.1 sy.1 sk.1 w
                have hrec := ih (k + 1) (px ++ rx.take l1.length) (py ++ ry.take l1.length) (rx.drop l1.length) (ry.drop l1.length) (by rw [List.length_append,lx,hp,Nat.add_mul];omega) (by simp only [List.length_append,lx,ly,hpl]) sx.2 sy.2 sk.2
                rw [← ex, ← ey] at hrec
                rw [← ex] at p1
                rw [← ey] at p2
                have e2 : eqL rx ry = (eqL (rx.take l1.length) (ry.take l1.length) && eqL (rx.drop l1.length) (ry.drop l1.length)) := by
                  rw [← eqL_append _ _ _ _ (by rw [lx, ly])]; simp
                simp only [List.range'_succ, List.forIn_cons, Sem.run_bind, p1, p2, Result.andThen_ok, heq, e2]
                cases eqL (rx.take l1.length) (ry.take l1.length)
                · simp
                · simpa using hrec
            have := key len 0 [] [] xs ys (by simp) rfl hx hy hk
            rw [Std.Legacy.Range.forIn_eq_forIn_range']
            simp only [Std.Legacy.Range.size, Nat.sub_zero, Nat.add_sub_cancel, Nat.div_one, List.nil_append] at this ⊢
            rw [this]
            cases eqL xs ys <;> simp
          · cases h
        · cases h
end
end Go.Ab
namespace Go.Ab
structure St where
  env : List AV
  σ : List AObj
def nth : List AV → Nat → AV
  | [], _ => .top
  | x :: _, 0 => x
  | _ :: xs, n + 1 => nth xs n
def nthO : List AObj → Nat → AObj
  | [], _ => .dead
  | x :: _, 0 => x
  | _ :: xs, n + 1 => nthO xs n
def gLook : List (Nat × IntKind × List Int) → Nat → Option (IntKind × List Int)
  | [], _ => none
  | (g', k, vs) :: r, g => if g' = g then some (k, vs) else gLook r g
def gA (g : Nat) : AV := match gLook gtab g with | some (k, vs) => .rptr vs.length (gcell k vs) | none => .top
theorem gLook_mem : ∀ {t : List (Nat × IntKind × List Int)} {g : Nat} {k : IntKind} {vs : List Int},gLook t g = some (k,vs) → (g,k,vs) ∈ t
  | [], _, _, _, h => by simp [gLook] at h
  | (g', k', vs') :: r, g, k, vs, h => by
    unfold gLook at h
    split at h
    · rename_i e; simp at h; obtain ⟨rfl, rfl⟩ := h; subst e; simp
    · exact List.mem_cons_of_mem _ (gLook_mem h)
def opd (e : List AV) : Operand → AV
  | .tmp t => nth e t
  | .const v => .imm v
  | .func f => .fn (.func f) [] []
  | .global g => gA g
def kEq : IntKind → IntKind → Bool
  | .i8, .i8 | .i16, .i16 | .i32, .i32 | .i64, .i64 | .u8, .u8 | .u16, .u16 | .u32, .u32 | .u64, .u64 => true
  | _, _ => false
theorem kEq_eq {k k' : IntKind} (h : kEq k k' = true) : k = k' := by cases k <;> cases k' <;> simp_all [kEq]
def eqA : List Bool → List AV → List AV → Option Bool
  | [], [], [] => some true
  | false :: ls, .imm (.int k a) :: xs, .imm (.int k' b) :: ys =>
    if kEq k k' then (match eqA ls xs ys with | some r => some ((a == b) && r) | none => none) else none
  | true :: ls, .imm (.bool a) :: xs, .imm (.bool b) :: ys =>
    (match eqA ls xs ys with | some r => some ((a == b) && r) | none => none)
  | _, _, _ => none
def eInt (op : BinOp) (k : IntKind) (a : Int) (k' : IntKind) (b : Int) : Option (AV × Prop) :=
  match op with
  | .shl => some (.imm (.int k (k.wrap (a * 2 ^ (min b.toNat k.bits)))), 0 ≤ b)
  | .shr => some (.imm (.int k (a.fdiv (2 ^ (min b.toNat k.bits)))), 0 ≤ b)
  | op => if kEq k k' then
      match op with
      | .add => some (.imm (.int k (k.wrap (a + b))), True)
      | .sub => some (.imm (.int k (k.wrap (a - b))), True)
      | .mul => some (.imm (.int k (k.wrap (a * b))), True)
      | .quo => some (.imm (.int k (k.wrap (a.tdiv b))), b ≠ 0)
      | .rem => some (.imm (.int k (a.tmod b)), b ≠ 0)
      | .and => some (.imm (.int k (bits .and k a b)), True)
      | .or => some (.imm (.int k (bits .or k a b)), True)
      | .xor => some (.imm (.int k (bits .xor k a b)), True)
      | .andNot => some (.imm (.int k (bits .andNot k a b)), True)
      | .eql => some (.imm (.bool (a == b)), True)
      | .neq => some (.imm (.bool (a != b)), True)
      | .lss => some (.imm (.bool (decide (a < b))), True)
      | .leq => some (.imm (.bool (decide (a ≤ b))), True)
      | .gtr => some (.imm (.bool (decide (a > b))), True)
      | .geq => some (.imm (.bool (decide (a ≥ b))), True)
      | _ => none
    else none
def TD.isBool : TD → Bool
  | .bool => true
  | _ => false
def TD.isSlice : TD → Bool
  | .slice _ => true
  | _ => false
def TD.isFunc : TD → Bool
  | .func => true
  | _ => false
def isNilA : AV → Option (Bool × Prop)
  | .imm (.slice a _ _) => some (a.isNone, True)
  | .own _ _ n _ => some (false, 0 < n)
  | .view n _ _ => some (false, 0 < n)
  | _ => none
def isNilM : AV → Option Bool
  | .imm (.map a) => some a.isNone
  | .map _ => some false
  | .vmap _ _ _ => some false
  | _ => none
def TD.isMap : TD → Bool
  | .map _ _ => true
  | _ => false
def strEq (a b : ByteArray) : Bool := a.toList == b.toList
def eBin (Γ : Tab) (op : BinOp) (t : TypeId) : AV → AV → Option (AV × Prop)
  | .imm (.int k a), .imm (.int k' b) => eInt op k a k' b
  | .imm (.bool a), .imm (.bool b) =>
    match Γ.get t with
    | some ti => if ti.d.isBool then
        match op with
        | .eql => some (.imm (.bool (a == b)), True)
        | .neq => some (.imm (.bool (a != b)), True)
        | _ => none
      else none
    | none => none
  | .agg xs, .agg ys =>
    match Γ.get t with
    | some ti =>
      match ti.eqv with
      | some ls =>
        match eqA ls xs ys with
        | some r =>
          match op with
          | .eql => some (.imm (.bool r), True)
          | .neq => some (.imm (.bool (!r)), True)
          | _ => none
        | none => none
      | none => none
    | none => none
  | x, .imm (.slice none 0 0) =>
    match Γ.get t with
    | some ti => if ti.d.isSlice then
        match isNilA x with
        | some (b, c) =>
          match op with
          | .eql => some (.imm (.bool b), c)
          | .neq => some (.imm (.bool (!b)), c)
          | _ => none
        | none => none
      else none
    | none => none
  | x, .imm (.map none) =>
    match Γ.get t with
    | some ti => if ti.d.isMap then
        match isNilM x with
        | some b =>
          match op with
          | .eql => some (.imm (.bool b), True)
          | .neq => some (.imm (.bool (!b)), True)
          | _ => none
        | none => none
      else none
    | none => none
  | .imm (.string a), .imm (.string b) =>
    match op with
    | .eql => some (.imm (.bool (strEq a b)), True)
    | .neq => some (.imm (.bool (!strEq a b)), True)
    | _ => none
  | _, _ => none
def eUn (op : UnOp) : AV → Option (AV × Prop)
  | .imm (.bool b) => match op with | .not => some (.imm (.bool (!b)), True) | _ => none
  | .imm (.int k n) => match op with | .neg => some (.imm (.int k (k.wrap (0 - n))),True) | .xor => some (.imm (.int k (bits .xor k (if k.signed then -1 else k.max) n)),True) | _ => none
  | _ => none
def eConv (Γ : Tab) (dst : TypeId) : AV → Option (AV × Prop)
  | .imm (.int _ n) =>
    match Γ.get dst with
    | some ti => match ti.d with | .int k => some (.imm (.int k (k.wrap n)), True) | _ => none
    | none => none
  | _ => none
section
variable {P : Program} {Γ : Tab}
theorem eqA_sound {ρ : Rho} {w : World} : ∀ {ls : List Bool} {xs ys : List AV} {r : Bool} {cs ds : List Value},eqA ls xs ys = some r → RvL ρ w xs cs → RvL ρ w ys ds →
    Leafy ls cs ∧ Leafy ls ds ∧ kindL cs ds ∧ eqL cs ds = r := by
  intro ls
  induction ls with
  | nil =>
    intro xs ys r cs ds h hx hy
    match xs, ys, h with
    | [], [], h =>
      simp [eqA] at h
      subst h
      match cs, ds, hx, hy with
      | [], [], _, _ => simp [Leafy, kindL, eqL]
      | _ :: _, _, hx, _ => simp [RvL] at hx
      | _, _ :: _, _, hy => simp [RvL] at hy
  | cons l ls ih =>
    intro xs ys r cs ds h hx hy
    unfold eqA at h
    split at h
    · rename_i heq; cases heq
    · rename_i l2 k a xs k' b ys hl
      injection hl with hl1 hl2
      subst hl1; subst hl2
      split at h
      · rename_i hk
        have hk := kEq_eq hk
        subst hk
        split at h
        · rename_i r' hr
          injection h with h
          match cs, ds, hx, hy with
          | c :: cs, d :: ds, hx, hy =>
            simp only [RvL, Rv] at hx hy
            obtain ⟨rfl, hx⟩ := hx
            obtain ⟨rfl, hy⟩ := hy
            obtain ⟨h1, h2, h3, h4⟩ := ih hr hx hy
            subst h4
            exact ⟨⟨trivial, h1⟩, ⟨trivial, h2⟩, ⟨rfl, h3⟩, by simp [eqL, ceq, ← h]⟩
          | [], _, hx, _ => simp [RvL] at hx
          | _, [], _, hy => simp [RvL] at hy
        · cases h
      · cases h
    · rename_i l2 a xs b ys hl
      injection hl with hl1 hl2
      subst hl1; subst hl2
      split at h
      · rename_i r' hr
        injection h with h
        match cs, ds, hx, hy with
        | c :: cs, d :: ds, hx, hy =>
          simp only [RvL, Rv] at hx hy
          obtain ⟨rfl, hx⟩ := hx
          obtain ⟨rfl, hy⟩ := hy
          obtain ⟨h1, h2, h3, h4⟩ := ih hr hx hy
          subst h4
          exact ⟨⟨trivial, h1⟩, ⟨trivial, h2⟩, ⟨trivial, h3⟩, by simp [eqL, ceq, ← h]⟩
        | [], _, hx, _ => simp [RvL] at hx
        | _, [], _, hy => simp [RvL] at hy
      · cases h
    · cases h
theorem run_eInt {op : BinOp} {k k' : IntKind} {a b : Int} {v : AV} {C : Prop} (h : eInt op k a k' b = some (v,C)) (hC : C) (t : TypeId) (w : World) :
    ∃ r, (binOp op t (.int k a) (.int k' b)).run P w = .ok r w ∧ v = .imm r := by
  unfold eInt at h
  split at h
  · simp only [Option.some.injEq, Prod.mk.injEq] at h
    obtain ⟨rfl, rfl⟩ := h
    refine ⟨_, ?_, rfl⟩
    have : ¬ b < 0 := by omega
    simp [binOp, Op.shift, this]
  · simp only [Option.some.injEq, Prod.mk.injEq] at h
    obtain ⟨rfl, rfl⟩ := h
    refine ⟨_, ?_, rfl⟩
    have : ¬ b < 0 := by omega
    simp [binOp, Op.shift, this]
  · split at h
    · rename_i hk
      have hk := kEq_eq hk
      subst hk
      split at h <;> simp only [Option.some.injEq,Prod.mk.injEq,reduceCtorEq] at h <;> (try exact h.elim) <;> (obtain ⟨rfl,rfl⟩ := h;refine ⟨_,?_,rfl⟩) <;>
        first
        | (simp [binOp, Op.intArith]; done)
        | (simp [binOp, Op.intDiv, hC]; done)
        | (simp [binOp, Op.intCmp]; done)
        | (simp [binOp, Op.intBits, bits]; done)
    · cases h
theorem run_eql_of {op : BinOp} {t : TypeId} {x y : Value} {b : Bool} {w : World} (hop : op = .eql ∨ op = .neq) (hx : ∀ k n,x ≠ .int k n) (hx2 : ∀ s,x ≠ .string s) (hx3 : ∀ k n,x ≠ .float k n) (hx4 : ∀ k n m,x ≠ .complex k n m)
    (h : ∀ d,(Op.equalIn (d + 1) t x y).run P w = .ok b w) : (binOp op t x y).run P w = .ok (.bool (if op = .eql then b else !b)) w := by
  have h1 : (Op.equal t x y).run P w = .ok b w := h 9999
  rcases hop with rfl | rfl
  · have : binOp .eql t x y = (do pure (.bool (← Op.equal t x y))) := by
      unfold binOp
      cases x <;> first | rfl | exact absurd rfl (hx _ _) | exact absurd rfl (hx2 _) | exact absurd rfl (hx3 _ _) | exact absurd rfl (hx4 _ _ _)
    rw [this]
    simp [h1]
  · have : binOp .neq t x y = (do pure (.bool (!(← Op.equal t x y)))) := by
      unfold binOp
      cases x <;> first | rfl | exact absurd rfl (hx _ _) | exact absurd rfl (hx2 _) | exact absurd rfl (hx3 _ _) | exact absurd rfl (hx4 _ _ _)
    rw [this]
    simp [h1]
theorem mkVal_agg {P : Program} {t : TypeId} (h : aggP P t = true) (cs : List Value) : mkVal (aggP P t) cs = .agg cs.toArray := by simp [mkVal,h]
theorem TIok.aggP {t : TypeId} {ti : TI} (h : TIok P t ti) : aggP P t = ti.d.isAgg := by
  have hd := h.desc
  unfold Ab.aggP
  cases hdd : ti.d <;> rw [hdd] at hd <;> simp only [TD.holds] at hd
  case strct => obtain ⟨fs, hu, _⟩ := hd; simp [hu, TD.isAgg]
  case func => obtain ⟨a, b, c, hu⟩ := hd; simp [hu, TD.isAgg]
  case iface => obtain ⟨ms, hu⟩ := hd; simp [hu, TD.isAgg]
  all_goals simp [hd, TD.isAgg]
theorem isNilA_sound {ρ : Rho} {w : World} {x : AV} {vx : Value} {b : Bool} {c : Prop} (h : isNilA x = some (b,c)) (hc : c) (hx : Rv ρ w x vx) : ∃ a n m,vx = .slice a n m ∧ a.isNone = b := by
  unfold isNilA at h
  split at h <;> simp only [Option.some.injEq, Prod.mk.injEq, reduceCtorEq] at h
  · obtain ⟨rfl, rfl⟩ := h
    simp only [Rv] at hx
    exact ⟨_, _, _, hx, rfl⟩
  · obtain ⟨rfl, rfl⟩ := h
    simp only [Rv] at hx
    rcases hx with ⟨l, cap, _, rfl, _⟩ | ⟨h0, _⟩
    · exact ⟨_, _, _, rfl, rfl⟩
    · omega
  · obtain ⟨rfl, rfl⟩ := h
    simp only [Rv] at hx
    obtain ⟨a, cap, rfl, _, hr⟩ := hx
    obtain ⟨ad, rfl, _⟩ := hr hc
    exact ⟨_, _, _, rfl, rfl⟩
theorem isNilM_sound {ρ : Rho} {w : World} {x : AV} {vx : Value} {b : Bool} (h : isNilM x = some b) (hx : Rv ρ w x vx) : ∃ a,vx = .map a ∧ a.isNone = b := by
  unfold isNilM at h
  split at h <;> simp only [Option.some.injEq, reduceCtorEq] at h <;> subst h <;> simp only [Rv] at hx
  · exact ⟨_, hx, rfl⟩
  · obtain ⟨l, _, rfl⟩ := hx; exact ⟨_, rfl, rfl⟩
  · obtain ⟨b, a, clock, rfl, _⟩ := hx; exact ⟨_, rfl, rfl⟩
theorem eBin_sound (hΓ : TabOk P Γ) {op : BinOp} {t : TypeId} {x y : AV} {v : AV} {C : Prop} (h : eBin Γ op t x y = some (v,C)) (hC : C) {ρ : Rho} {w : World} {vx vy : Value}
    (hx : Rv ρ w x vx) (hy : Rv ρ w y vy) (ox oy : Operand) :
    ∃ r, (do eqGuard op t ox oy vx vy; binOp op t vx vy : Sem Value).run P w = .ok r w ∧ v = .imm r := by
  unfold eBin at h
  split at h
  · simp only [Rv] at hx hy
    subst hx; subst hy
    obtain ⟨r, hr, hv⟩ := run_eInt (P := P) h hC t w
    refine ⟨r, ?_, hv⟩
    have hg : ∀ k a k' b,(eqGuard op t ox oy (.int k a) (.int k' b)).run P w = .ok () w := by intro k a k' b;cases op <;> simp [eqGuard]
    simp [hg, hr]
  · rename_i a b
    simp only [Rv] at hx hy
    subst hx; subst hy
    split at h
    · rename_i ti hti
      have hd := (hΓ t ti hti).desc
      split at h
      · rename_i hb
        cases hdd : ti.d <;> rw [hdd] at hb hd <;> simp [TD.isBool] at hb
        simp only [TD.holds] at hd
        have hq : ∀ d,(Op.equalIn (d + 1) t (.bool a) (.bool b)).run P w = .ok (a == b) w := fun d => by simp [Op.equalIn,run_underlying hd]
        split at h <;> simp only [Option.some.injEq, Prod.mk.injEq, reduceCtorEq] at h
        · obtain ⟨rfl, rfl⟩ := h
          refine ⟨_, ?_, rfl⟩
          rw [Sem.run_bind, show (eqGuard .eql t ox oy (.bool a) (.bool b)).run P w = .ok () w by simp [eqGuard]]
          exact run_eql_of (.inl rfl) (by simp) (by simp) (by simp) (by simp) hq
        · obtain ⟨rfl, rfl⟩ := h
          refine ⟨_, ?_, rfl⟩
          rw [Sem.run_bind, show (eqGuard .neq t ox oy (.bool a) (.bool b)).run P w = .ok () w by simp [eqGuard]]
          exact run_eql_of (.inr rfl) (by simp) (by simp) (by simp) (by simp) hq
      · cases h
    · cases h
  · rename_i xs ys
    simp only [Rv] at hx hy
    obtain ⟨cs, rfl, hcs⟩ := hx
    obtain ⟨ds, rfl, hds⟩ := hy
    split at h
    · rename_i ti hti
      have hti := hΓ t ti hti
      split at h
      · rename_i ls hls
        obtain ⟨hf, hgd, hll, hia⟩ := hti.eqv ls hls
        split at h
        · rename_i r hr
          obtain ⟨h1, h2, h3, h4⟩ := eqA_sound hr hcs hds
          have hsz : (P.info? t).map (·.size) = some ls.length := by
            obtain ⟨i, hi, hs, _⟩ := hti.bytesOf
            simp [hi, hs, hll]
          have hag : aggP P t = true := hti.aggP.trans hia
          have he := run_equalIn_flat (P := P) 8 t ls hf hsz 9992 cs ds h1 h2 h3 w
          rw [mkVal_agg hag, mkVal_agg hag, h4] at he
          have hg := run_eqGuard_agg (P := P) w op t ox oy cs.toArray ds.toArray hgd
          split at h <;> simp only [Option.some.injEq, Prod.mk.injEq, reduceCtorEq] at h
          · obtain ⟨rfl, rfl⟩ := h
            exact ⟨_, by simp only [Sem.run_bind, hg, Result.andThen_ok, run_eql_struct]; rw [he]; rfl, rfl⟩
          · obtain ⟨rfl, rfl⟩ := h
            exact ⟨_, by simp only [Sem.run_bind, hg, Result.andThen_ok, run_neq_struct]; rw [he]; rfl, rfl⟩
        · cases h
      · cases h
    · cases h
  · simp only [Rv] at hy
    subst hy
    split at h
    · rename_i ti hti
      have hd := (hΓ t ti hti).desc
      split at h
      · rename_i hb
        cases hdd : ti.d <;> rw [hdd] at hb hd <;> simp [TD.isSlice] at hb
        simp only [TD.holds] at hd
        split at h
        · rename_i b c hnil
          split at h <;> simp only [Option.some.injEq, Prod.mk.injEq, reduceCtorEq] at h
          · obtain ⟨rfl, rfl⟩ := h
            obtain ⟨a, n, m, rfl, rfl⟩ := isNilA_sound hnil hC hx
            have hq : ∀ d,(Op.equalIn (d + 1) t (.slice a n m) (.slice none 0 0)).run P w = .ok a.isNone w := fun d => by cases a <;> simp [Op.equalIn,run_underlying hd]
            refine ⟨_, ?_, rfl⟩
            rw [Sem.run_bind,show (eqGuard .eql t ox oy (.slice a n m) (.slice none 0 0)).run P w = .ok () w by simp [eqGuard]]
            exact run_eql_of (.inl rfl) (by simp) (by simp) (by simp) (by simp) hq
          · obtain ⟨rfl, rfl⟩ := h
            obtain ⟨a, n, m, rfl, rfl⟩ := isNilA_sound hnil hC hx
            have hq : ∀ d,(Op.equalIn (d + 1) t (.slice a n m) (.slice none 0 0)).run P w = .ok a.isNone w := fun d => by cases a <;> simp [Op.equalIn,run_underlying hd]
            refine ⟨_, ?_, rfl⟩
            rw [Sem.run_bind,show (eqGuard .neq t ox oy (.slice a n m) (.slice none 0 0)).run P w = .ok () w by simp [eqGuard]]
            exact run_eql_of (.inr rfl) (by simp) (by simp) (by simp) (by simp) hq
        · cases h
      · cases h
    · cases h
  · simp only [Rv] at hy
    subst hy
    split at h
    · rename_i ti hti
      have hd := (hΓ t ti hti).desc
      split at h
      · rename_i hb
        cases hdd : ti.d <;> rw [hdd] at hb hd <;> simp [TD.isMap] at hb
        simp only [TD.holds] at hd
        split at h
        · rename_i b hnil
          obtain ⟨a, rfl, rfl⟩ := isNilM_sound hnil hx
          have hq : ∀ d,(Op.equalIn (d + 1) t (.map a) (.map none)).run P w = .ok a.isNone w := fun d => by cases a <;> simp [Op.equalIn,run_underlying hd]
          split at h <;> simp only [Option.some.injEq, Prod.mk.injEq, reduceCtorEq] at h
          · obtain ⟨rfl, rfl⟩ := h
            refine ⟨_, ?_, rfl⟩
            rw [Sem.run_bind, show (eqGuard .eql t ox oy (.map a) (.map none)).run P w = .ok () w by simp [eqGuard]]
            exact run_eql_of (.inl rfl) (by simp) (by simp) (by simp) (by simp) hq
          · obtain ⟨rfl, rfl⟩ := h
            refine ⟨_, ?_, rfl⟩
            rw [Sem.run_bind, show (eqGuard .neq t ox oy (.map a) (.map none)).run P w = .ok () w by simp [eqGuard]]
            exact run_eql_of (.inr rfl) (by simp) (by simp) (by simp) (by simp) hq
        · cases h
      · cases h
    · cases h
  · rename_i a b
    simp only [Rv] at hx hy
    subst hx; subst hy
    split at h <;> simp only [Option.some.injEq, Prod.mk.injEq, reduceCtorEq] at h
    · obtain ⟨rfl, rfl⟩ := h
      exact ⟨.bool (strEq a b), by simp [eqGuard, binOp, Op.stringOp, strEq], rfl⟩
    · obtain ⟨rfl, rfl⟩ := h
      exact ⟨.bool (!strEq a b), by simp [eqGuard, binOp, Op.stringOp, strEq], rfl⟩
  · cases h
theorem eUn_sound {op : UnOp} {x v : AV} {C : Prop} (h : eUn op x = some (v,C)) {ρ : Rho} {w : World} {vx : Value} (hx : Rv ρ w x vx) : ∃ r,(Op.unary op vx).run P w = .ok r w ∧ v = .imm r := by
  unfold eUn at h
  split at h
  · simp only [Rv] at hx
    subst hx
    split at h <;> simp only [Option.some.injEq, Prod.mk.injEq, reduceCtorEq] at h
    · obtain ⟨rfl, rfl⟩ := h
      exact ⟨_, by simp [Op.unary], rfl⟩
  · simp only [Rv] at hx
    subst hx
    split at h <;> simp only [Option.some.injEq, Prod.mk.injEq, reduceCtorEq] at h
    · obtain ⟨rfl, rfl⟩ := h
      exact ⟨_, by simp [Op.unary, Op.intArith], rfl⟩
    · obtain ⟨rfl, rfl⟩ := h
      exact ⟨_, by simp [Op.unary, Op.intBits, bits], rfl⟩
  · cases h
theorem eConv_sound (hΓ : TabOk P Γ) {src dst : TypeId} {x v : AV} {C : Prop} (h : eConv Γ dst x = some (v,C)) {ρ : Rho} {w : World} {vx : Value} (hx : Rv ρ w x vx)
    (hsrc : ∃ d, P.underlying src = some d) : ∃ r, (convert src dst vx).run P w = .ok r w ∧ v = .imm r := by
  unfold eConv at h
  split at h
  · simp only [Rv] at hx
    subst hx
    split at h
    · rename_i ti hti
      have hd := (hΓ dst ti hti).desc
      split at h
      · rename_i k hk
        rw [hk] at hd
        simp only [TD.holds] at hd
        simp only [Option.some.injEq, Prod.mk.injEq] at h
        obtain ⟨rfl, rfl⟩ := h
        obtain ⟨d, hs⟩ := hsrc
        refine ⟨_, ?_, rfl⟩
        simp only [convert, Sem.run_bind, run_underlying hd, run_underlying hs, Result.andThen_ok]
        simp [Conv.intToInt]
      · cases h
    · cases h
  · cases h
end
end Go.Ab
namespace Go.Ab
theorem nth_eq : ∀ {l : List AV} {i : Nat}, i < l.length → l[i]? = some (nth l i)
  | x :: _, 0, _ => by simp [nth]
  | x :: xs, i + 1, h => by simp only [List.getElem?_cons_succ, nth]; exact nth_eq (by simpa using h)
  | [], _, h => by simp at h
theorem nthO_eq : ∀ {σ : List AObj} {o : Nat} {a : AObj}, nthO σ o = a → a.alive = true → σ[o]? = some a
  | x :: _, 0, a, h, _ => by simpa [nthO] using h
  | x :: xs, o + 1, a, h, hl => by simp only [List.getElem?_cons_succ]; exact nthO_eq (by simpa [nthO] using h) hl
  | [], o, a, h, hl => by simp [nthO] at h; subst h; simp [AObj.alive] at hl
def oneC : AV → Bool
  | .imm v => v.oneCell'
  | .top | .gd _ _ | .agg _ | .tup _ => false
  | _ => true
def oneL : List AV → Bool
  | [] => true
  | v :: vs => oneC v && oneL vs
def cellsOf : AV → List AV
  | .agg vs => vs
  | v => [v]
theorem oneC_sound {ρ : Rho} {w : World} {v : AV} {x : Value} (h : oneC v = true) (hx : Rv ρ w v x) : x.oneCell' = true := by
  cases v <;> simp [oneC] at h <;> simp only [Rv] at hx
  case imm v => subst hx; exact h
  case rptr => obtain ⟨ad, rfl, _⟩ := hx; rfl
  case view => obtain ⟨a, cap, rfl, _⟩ := hx; rfl
  case pv => obtain ⟨b, d, cap, c, ety, rfl, _⟩ := hx; rfl
  case optr => obtain ⟨l, _, rfl⟩ := hx; rfl
  case own => rcases hx with ⟨l, cap, _, rfl, _⟩ | ⟨_, ⟨a, rfl⟩, _⟩ <;> rfl
  case emp => obtain ⟨a, rfl⟩ := hx; rfl
  case bsl => obtain ⟨_, l, _, rfl⟩ := hx; rfl
  case map => obtain ⟨l, _, rfl⟩ := hx; rfl
  case vmap => obtain ⟨b, a, c, rfl, _⟩ := hx; rfl
  case fn => obtain ⟨fs, cs, rfl, _⟩ := hx; rfl
  case ifc => obtain ⟨y, rfl, _⟩ := hx; rfl
theorem oneL_sound {ρ : Rho} {w : World} : ∀ {vs : List AV} {xs : List Value},oneL vs = true → RvL ρ w vs xs → ∀ y ∈ xs,y.oneCell' = true
  | [], [], _, _, y, hy => by cases hy
  | v :: vs, x :: xs, h, hx, y, hy => by
    simp only [oneL, Bool.and_eq_true] at h
    simp only [RvL] at hx
    cases hy with
    | head => exact oneC_sound h.1 hx.1
    | tail _ hm => exact oneL_sound h.2 hx.2 y hm
  | [], _ :: _, _, hx, _, _ => by simp [RvL] at hx
  | _ :: _, [], _, hx, _, _ => by simp [RvL] at hx
theorem cellsOf_sound {ρ : Rho} {w : World} {v : AV} {x : Value} (h1 : oneL (cellsOf v) = true) (hx : Rv ρ w v x) : RvL ρ w (cellsOf v) x.cells.toList := by
  cases v <;> (try (simp only [cellsOf] at *)) <;> try (simp [oneL, oneC] at h1; done)
  case agg vs =>
    simp only [Rv] at hx
    obtain ⟨cs, rfl, hc⟩ := hx
    simpa [Value.cells] using hc
  all_goals
    have hone : x.oneCell' = true := oneC_sound (by simpa [oneL] using h1) hx
    have : x.cells = #[x] := by cases x <;> first | rfl | simp [Value.oneCell'] at hone
    rw [this]
    simp only [RvL, and_true]
    exact hx
def rd (f : Nat → AV) : Nat → Nat → List AV
  | _, 0 => []
  | k, n + 1 => f k :: rd f (k + 1) n
theorem rd_length (f : Nat → AV) : ∀ (n k : Nat), (rd f k n).length = n
  | 0, _ => rfl
  | n + 1, k => by simp [rd, rd_length f n (k + 1)]
theorem rd_get (f : Nat → AV) : ∀ (n k j : Nat), j < n → (rd f k n)[j]? = some (f (k + j))
  | n + 1, k, 0, _ => by simp [rd]
  | n + 1,k,j + 1,h => by simp only [rd,List.getElem?_cons_succ];rw [rd_get f n (k + 1) j (by omega)];congr 2;omega
  | 0, _, _, h => by omega
def ptrCells (σ : List AObj) : AV → Option ((Nat → AV) × Nat × Prop)
  | .rptr n cell => some (cell, n, True)
  | .optr o i off =>
    match nthO σ o with
    | .box _ cells => some (fun j => nth cells (off + j), cells.length - off, i = 0)
    | .arr _ esz len elem => some (fun j => elem i (off + j), esz - off, i < len)
    | _ => none
  | _ => none
def eLoad (Γ : Tab) (σ : List AObj) (t : TypeId) (p : AV) : Option (AV × Prop) :=
  match Γ.get t with
  | some ti =>
    match ptrCells σ p with
    | some (f, n, c) => if ti.d.isAgg then some (.agg (rd f 0 ti.size), c ∧ ti.size ≤ n) else some (f 0, c ∧ 0 < n)
    | none => none
  | none => none
section
variable {P : Program} {Γ : Tab}
theorem ptrCells_sound {ρ : Rho} {w : World} {σ : List AObj} (hH : RH ρ w σ) {p : AV} {f : Nat → AV} {n : Nat} {c : Prop} (h : ptrCells σ p = some (f,n,c)) (hc : c) {x : Value} (hx : Rv ρ w p x) :
    ∃ ad : Addr,x = .pointer (some ad) ∧ ∀ j,j < n → ∃ y,w.cell? (ad.add j) = some y ∧ y.oneCell' = true ∧ Rv ρ w (f j) y := by
  unfold ptrCells at h
  split at h
  · simp only [Option.some.injEq, Prod.mk.injEq] at h
    obtain ⟨rfl, rfl, rfl⟩ := h
    simp only [Rv] at hx
    obtain ⟨ad, rfl, _, _, hr⟩ := hx
    exact ⟨ad, rfl, hr⟩
  · rename_i o i off
    simp only [Rv] at hx
    obtain ⟨l, hl, rfl⟩ := hx
    split at h
    · rename_i ety cells hob
      simp only [Option.some.injEq, Prod.mk.injEq] at h
      obtain ⟨rfl, rfl, rfl⟩ := h
      subst hc
      have ho := hH.obj o _ (nthO_eq hob rfl)
      obtain ⟨l', cs, hl', h0, h1, h2, hh, h3, hr⟩ := ho
      rw [hl] at hl'
      simp only [Option.some.injEq] at hl'
      subst hl'
      refine ⟨_, rfl, fun j hj => ?_⟩
      obtain ⟨y, hy, hv⟩ := RvL.get hr (nth_eq (l := cells) (i := off + j) (by omega))
      have hy' : cs[off + j]? = some y := by simpa using hy
      refine ⟨y, ?_, h3 y (List.mem_of_getElem? hy), hv⟩
      rw [add_lit, cell_of_row w l.b _ cs ety (0, 0) hh, h0]
      simpa using hy'
    · rename_i ety esz len elem hob
      simp only [Option.some.injEq, Prod.mk.injEq] at h
      obtain ⟨rfl, rfl, rfl⟩ := h
      have ho := hH.obj o _ (nthO_eq hob rfl)
      rcases ho with ⟨l', cs, hl', he, hh, ⟨hcs, hc1⟩, hd, hr⟩ | ⟨hn, h0⟩
      · rw [hl] at hl'
        simp only [Option.some.injEq] at hl'
        subst hl'
        refine ⟨_, rfl, fun j hj => ?_⟩
        obtain ⟨y, hy, h1, hv⟩ := hr i hc (off + j) (by omega)
        refine ⟨y, ?_, h1, hv⟩
        rw [add_lit, cell_of_row w l.b _ cs ety (0, 0) hh, he]
        rw [← hy]
        congr 1
        omega
      · omega
    · cases h
  · cases h
theorem run_loadCells_ex {ρ : Rho} {w : World} {f : Nat → AV} {n : Nat} {ad : Addr} (h : ∀ j,j < n → ∃ y,w.cell? (ad.add j) = some y ∧ y.oneCell' = true ∧ Rv ρ w (f j) y) :
    ∃ ys : List Value,(loadCells ad n).run P w = .ok ys.toArray w ∧ ys.length = n ∧ (∀ y ∈ ys,y.oneCell' = true) ∧ RvL ρ w (rd f 0 n) ys := by
  refine ⟨(List.range n).map (fun j => (w.cell? (ad.add j)).getD undef), ?_, by simp, ?_, ?_⟩
  · exact run_loadCells (P := P) w ad n (fun j => (w.cell? (ad.add j)).getD undef) (fun j hj => by obtain ⟨y,hy,_⟩ := h j hj;simp [hy])
  · intro y hy
    simp only [List.mem_map, List.mem_range] at hy
    obtain ⟨j, hj, rfl⟩ := hy
    obtain ⟨y, hy, h1, _⟩ := h j hj
    simpa [hy] using h1
  · refine RvL.of_get (by simp [rd_length]) fun i v x hv hx => ?_
    have hi : i < n := by
      have := (List.getElem?_eq_some_iff.1 hx).1
      simpa using this
    rw [rd_get f n 0 i hi] at hv
    simp only [Option.some.injEq, Nat.zero_add] at hv
    subst hv
    obtain ⟨y, hy, _, hr⟩ := h i hi
    simp [hi, hy] at hx
    subst hx
    exact hr
theorem eLoad_sound (hΓ : TabOk P Γ) {ρ : Rho} {w : World} {σ : List AObj} (hH : RH ρ w σ) {t : TypeId} {p v : AV} {C : Prop} (h : eLoad Γ σ t p = some (v,C)) (hC : C) {x : Value} (hx : Rv ρ w p x) :
    ∃ r, (Instr.loadAt t x).run P w = .ok r w ∧ Rv ρ w v r := by
  unfold eLoad at h
  split at h
  · rename_i ti hti
    have hti := hΓ t ti hti
    split at h
    · rename_i f n c hp
      split at h
      · rename_i hag
        simp only [Option.some.injEq, Prod.mk.injEq] at h
        obtain ⟨rfl, rfl⟩ := h
        obtain ⟨ad, rfl, hr⟩ := ptrCells_sound hH hp hC.1 hx
        obtain ⟨ys, h1, h2, _, h3⟩ := run_loadCells_ex (P := P) (n := ti.size) (fun j hj => hr j (by omega))
        refine ⟨.agg ys.toArray, ?_, ?_⟩
        · simp [Instr.loadAt, Instr.sureAddr, loadVar, hti.isAgg, hag, hti.sizeOf, h1]
        · simp only [Rv]
          exact ⟨ys, rfl, h3⟩
      · rename_i hag
        simp only [Option.some.injEq, Prod.mk.injEq] at h
        obtain ⟨rfl, rfl⟩ := h
        obtain ⟨ad, rfl, hr⟩ := ptrCells_sound hH hp hC.1 hx
        obtain ⟨y, hy, _, hv⟩ := hr 0 hC.2
        have h0 : ad.add 0 = ad := rfl
        rw [h0] at hy
        refine ⟨y, ?_, hv⟩
        simp [Instr.loadAt, Instr.sureAddr, loadVar, hti.isAgg, hag, hy]
    · cases h
  · cases h
def updE (elem : Nat → Nat → AV) (i off : Nat) (vs : List AV) : Nat → Nat → AV :=
  fun i' j' => if i' = i ∧ off ≤ j' ∧ j' < off + vs.length then nth vs (j' - off) else elem i' j'
def setC (cells : List AV) (off : Nat) (vs : List AV) : List AV := cells.take off ++ vs ++ cells.drop (off + vs.length)
def eStore (Γ : Tab) (σ : List AObj) (t : TypeId) (p v : AV) : Option (List AObj × Prop) :=
  match Γ.get t with
  | some ti =>
    match p with
    | .optr o i off =>
      match nthO σ o with
      | .box ety cells => some (σ.set o (.box ety (setC cells off (cellsOf v))),(cellsOf v).length = ti.size ∧ oneL (cellsOf v) = true ∧ i = 0 ∧ off + (cellsOf v).length ≤ cells.length)
      | .arr ety esz len elem => some (σ.set o (.arr ety esz len (updE elem i off (cellsOf v))),(cellsOf v).length = ti.size ∧ oneL (cellsOf v) = true ∧ i < len ∧ off + (cellsOf v).length ≤ esz)
      | _ => none
    | _ => none
  | none => none
theorem RvL.take {ρ : Rho} {w : World} : ∀ {vs : List AV} {xs : List Value} (n : Nat),RvL ρ w vs xs → RvL ρ w (vs.take n) (xs.take n)
  | _, _, 0, _ => by simp [RvL]
  | [], [], _ + 1, _ => by simp [RvL]
  | _ :: _, _ :: _, n + 1, h => by simp only [RvL, List.take_succ_cons] at h ⊢; exact ⟨h.1, RvL.take n h.2⟩
  | [], _ :: _, _ + 1, h => by simp [RvL] at h
  | _ :: _, [], _ + 1, h => by simp [RvL] at h
theorem RvL.drop {ρ : Rho} {w : World} : ∀ {vs : List AV} {xs : List Value} (n : Nat),RvL ρ w vs xs → RvL ρ w (vs.drop n) (xs.drop n)
  | _, _, 0, h => by simpa using h
  | [], [], _ + 1, _ => by simp [RvL]
  | _ :: _, _ :: _, n + 1, h => by simp only [RvL, List.drop_succ_cons] at h ⊢; exact RvL.drop n h.2
  | [], _ :: _, _ + 1, h => by simp [RvL] at h
  | _ :: _, [], _ + 1, h => by simp [RvL] at h
theorem setRow_step {ρ : Rho} {w : World} {o : Nat} {l : Loc} (hl : ρ[o]? = some (some l)) (c : Array Value) : Step ρ w ρ (w.setRow l.b c) :=
  Step.turn hl rfl rfl rfl (by simp) (fun b hb => setRow_other w l.b b c (by omega))
theorem eStore_sound (hΓ : TabOk P Γ) {ρ : Rho} {w : World} {σ σ' : List AObj} (hH : RH ρ w σ) {t : TypeId} {p v : AV} {C : Prop} (h : eStore Γ σ t p v = some (σ',C)) (hC : C) {x y : Value} (hx : Rv ρ w p x) (hy : Rv ρ w v y) :
    ∃ w', (Instr.storeAt t x y).run P w = .ok () w' ∧ RH ρ w' σ' ∧ Step ρ w ρ w' := by
  unfold eStore at h
  split at h
  · rename_i ti hti
    have hti := hΓ t ti hti
    split at h
    · rename_i o i off
      simp only [Rv] at hx
      obtain ⟨l, hl, rfl⟩ := hx
      split at h
      · rename_i ety cells hob
        simp only [Option.some.injEq, Prod.mk.injEq] at h
        obtain ⟨rfl, rfl⟩ := h
        obtain ⟨c1, c2, rfl, c4⟩ := hC
        have hso := nthO_eq hob rfl
        obtain ⟨l', cs, hl', h0, h1, h2, hh, h3, hr⟩ := hH.obj o _ hso
        rw [hl] at hl'
        simp only [Option.some.injEq] at hl'
        subst hl'
        have hcy := cellsOf_sound c2 hy
        have hyl := hcy.length
        have hcl := hr.length
        have hone := oneL_sound c2 hcy
        have hst := run_storeCells_at P l.b off ety y.cells.toList 0 cs w hh (by rw [Nat.add_zero,← hyl];simpa [hcl] using c4) hone
        simp only [Nat.add_zero] at hst
        have hstep := setRow_step (w := w) hl ((cs.toList.take off ++ y.cells.toList ++ cs.toList.drop (off + y.cells.toList.length)).toArray)
        refine ⟨_, ?_, ?_, hstep⟩
        · have hsz : y.cells.size = ti.size := by rw [← c1, hyl]; simp
          simp only [Instr.storeAt,Instr.sureAddr,Sem.run_bind,Sem.run_pure,Result.andThen_ok,storeVar,hti.sizeOf,h0,Nat.zero_mul,Nat.zero_add,hsz]
          simpa using hst
        · refine RH.turn hH hso rfl hl hstep (fun b hb => setRow_other w l.b b _ (by omega)) ?_
          refine ⟨l, _, hl, h0, ?_, ?_, setRow_heap w l.b cs _ ety _ hh, ?_, ?_⟩
          · rw [h1]; simp only [setC, List.length_append, List.length_take, List.length_drop]; omega
          · rw [h2]; simp only [setC, List.length_append, List.length_take, List.length_drop]; omega
          · intro z hz
            simp only [List.mem_append] at hz
            rcases hz with (hz | hz) | hz
            · exact h3 z (List.mem_of_mem_take hz)
            · exact hone z hz
            · exact h3 z (List.mem_of_mem_drop hz)
          · have hr' := RvL.mono hstep _ hr
            have hcy' := RvL.mono hstep _ hcy
            have e : setC cells off (cellsOf v) = cells.take off ++ cellsOf v ++ cells.drop (off + y.cells.toList.length) := by rw [setC,hyl]
            rw [e]
            exact RvL.append (RvL.append (RvL.take off hr') hcy') (RvL.drop _ hr')
      · rename_i ety esz len elem hob
        simp only [Option.some.injEq, Prod.mk.injEq] at h
        obtain ⟨rfl, rfl⟩ := h
        obtain ⟨c1, c2, c3, c4⟩ := hC
        have hso := nthO_eq hob rfl
        rcases hH.obj o _ hso with ⟨l', cs, hl', he, hh, ⟨hcs, hc1⟩, hd, hr⟩ | ⟨hn, h0⟩
        · rw [hl] at hl'
          simp only [Option.some.injEq] at hl'
          subst hl'
          have hcy := cellsOf_sound c2 hy
          have hyl := hcy.length
          have hone := oneL_sound c2 hcy
          have hib : i * esz + esz ≤ len * esz := by
            have := Nat.mul_le_mul_right esz (Nat.succ_le_of_lt c3)
            rwa [Nat.succ_mul] at this
          have hsz : y.cells.size = ti.size := by rw [← c1, hyl]; simp
          generalize hys : y.cells.toList = ys at hcy hyl hone
          have hcsl : cs.toList.length = cs.size := by simp
          have hfit : l.d + i * esz + off + ys.length ≤ cs.toList.length := by rw [hcsl, ← hyl, hcs]; omega
          have hst := run_storeCells_at P l.b (l.d + i * esz + off) ety ys 0 cs w hh (by rw [Nat.add_zero,← hcsl];exact hfit) hone
          simp only [Nat.add_zero] at hst
          have hstep := setRow_step (w := w) hl ((cs.toList.take (l.d + i * esz + off) ++ ys ++ cs.toList.drop (l.d + i * esz + off + ys.length)).toArray)
          refine ⟨_, ?_, ?_, hstep⟩
          · simp only [Instr.storeAt,Instr.sureAddr,Sem.run_bind,Sem.run_pure,Result.andThen_ok,storeVar,hti.sizeOf,he,hsz,hys]
            simpa using hst
          · refine RH.turn hH hso rfl hl hstep (fun b hb => setRow_other w l.b b _ (by omega)) ?_
            refine .inl ⟨l, _, hl, he, setRow_heap w l.b cs _ ety _ hh, ?_, hd, fun i' hi' j' hj' => ?_⟩
            · exact ⟨by simp only [List.size_toArray,List.length_append,List.length_take,List.length_drop];omega,fun y hy => by
                simp only [List.mem_append] at hy
                rcases hy with (hy | hy) | hy
                · exact hc1 y (List.mem_of_mem_take hy)
                · exact hone y hy
                · exact hc1 y (List.mem_of_mem_drop hy)⟩
            · obtain ⟨z, hz, hz1, hzv⟩ := hr i' hi' j' hj'
              simp only [List.getElem?_toArray]
              have hi'b : i' * esz + esz ≤ len * esz := by
                have := Nat.mul_le_mul_right esz (Nat.succ_le_of_lt hi')
                rwa [Nat.succ_mul] at this
              by_cases hin : i' = i ∧ off ≤ j' ∧ j' < off + (cellsOf v).length
              · obtain ⟨rfl, hj1, hj2⟩ := hin
                obtain ⟨u, hu, huv⟩ := RvL.get hcy (nth_eq (l := cellsOf v) (i := j' - off) (by omega))
                refine ⟨u, ?_, hone u (List.mem_of_getElem? hu), ?_⟩
                · rw [List.append_assoc,List.getElem?_append_right (by simp only [List.length_take];omega),List.getElem?_append_left (by simp only [List.length_take];omega)]
                  rw [← hu]
                  congr 1
                  simp only [List.length_take]
                  omega
                · unfold updE
                  rw [if_pos ⟨rfl, hj1, hj2⟩]
                  exact Rv.mono hstep _ huv
              · refine ⟨z, ?_, hz1, ?_⟩
                · have hz' : cs.toList[l.d + i' * esz + j']? = some z := by simpa using hz
                  rw [← hz']
                  have hne : l.d + i' * esz + j' < l.d + i * esz + off ∨ l.d + i * esz + off + (cellsOf v).length ≤ l.d + i' * esz + j' := by
                    by_cases hii : i' = i
                    · subst hii
                      have : ¬ (off ≤ j' ∧ j' < off + (cellsOf v).length) := fun q => hin ⟨rfl, q⟩
                      omega
                    · rcases Nat.lt_or_gt_of_ne hii with q | q
                      · have := Nat.mul_le_mul_right esz (Nat.succ_le_of_lt q)
                        rw [Nat.succ_mul] at this
                        omega
                      · have := Nat.mul_le_mul_right esz (Nat.succ_le_of_lt q)
                        rw [Nat.succ_mul] at this
                        omega
                  rcases hne with q | q
                  · rw [List.append_assoc,List.getElem?_append_left (by simp only [List.length_take];omega),List.getElem?_take,if_pos q]
                  · rw [List.getElem?_append_right (by simp only [List.length_append,List.length_take];omega),List.getElem?_drop]
                    congr 1
                    simp only [List.length_append, List.length_take]
                    omega
                · unfold updE
                  rw [if_neg hin]
                  exact Rv.mono hstep _ hzv
        · omega
      · cases h
    · cases h
  · cases h
end
end Go.Ab
namespace Go.Ab
def zeroL : List ZC → List AV
  | [] => []
  | z :: zs => .imm z.val :: zeroL zs
theorem zeroL_sound (ρ : Rho) (w : World) : ∀ zs : List ZC, RvL ρ w (zeroL zs) (zs.map ZC.val)
  | [] => by simp [zeroL, RvL]
  | z :: zs => by simp only [zeroL, List.map_cons, RvL, Rv, true_and]; exact zeroL_sound ρ w zs
theorem zeroL_one (zs : List ZC) : ∀ y ∈ zs.map ZC.val, y.oneCell' = true := by
  intro y hy
  simp only [List.mem_map] at hy
  obtain ⟨z, _, rfl⟩ := hy
  cases z <;> rfl
section
variable {P : Program} {Γ : Tab}
theorem new_cells {ρ : Rho} {w : World} {σ : List AObj} (hH : RH ρ w σ) (n esz : Nat) (cs : List Value) (ety : TypeId) (a : AObj)
    (ro : ∀ w' : World,Step ρ w (ρ ++ [some ⟨w.heap.size,0,n,esz⟩]) w' → w'.heap[w.heap.size]? = some (.cells cs.toArray ety (0,0)) → RO (ρ ++ [some ⟨w.heap.size,0,n,esz⟩]) w' ρ.length a) :
    RH (ρ ++ [some ⟨w.heap.size,0,n,esz⟩]) (w.alloc (.cells cs.toArray ety)) (σ ++ [a]) ∧ Step ρ w (ρ ++ [some ⟨w.heap.size,0,n,esz⟩]) (w.alloc (.cells cs.toArray ety)) := by
  have hs : Step ρ w (ρ ++ [some ⟨w.heap.size,0,n,esz⟩]) (w.alloc (.cells cs.toArray ety)) := Step.push _ rfl rfl rfl rfl (by simp) (fun b hb => RowKit.Below.heap_alloc w _ b hb)
  exact ⟨RH.push hH _ a hs rfl (by simp) (fun b hb => RowKit.Below.heap_alloc w _ b hb) (ro _ hs (heap_alloc_new w _)),hs⟩
theorem new_box {ρ : Rho} {w : World} {σ : List AObj} (hH : RH ρ w σ) (cells : List AV) (cs : List Value) (ety : TypeId) (h1 : ∀ y ∈ cs,y.oneCell' = true) (hr : RvL ρ w cells cs) :
    RH (ρ ++ [some ⟨w.heap.size,0,cells.length,cells.length⟩]) (w.alloc (.cells cs.toArray ety)) (σ ++ [.box ety cells]) ∧ Step ρ w (ρ ++ [some ⟨w.heap.size,0,cells.length,cells.length⟩]) (w.alloc (.cells cs.toArray ety)) :=
  new_cells hH _ _ cs ety _ fun _ hs hh => ⟨_,cs.toArray,getElem?_snoc _ _,rfl,rfl,rfl,hh,by simpa using h1,by simpa using RvL.mono hs _ hr⟩
theorem new_box_ptr {ρ : Rho} {w w' : World} {σ : List AObj} (hH : RH ρ w σ) (n : Nat) : Rv (ρ ++ [some ⟨w.heap.size,0,n,n⟩]) w' (.optr σ.length 0 0) (.pointer (some ⟨w.heap.size,0,none⟩)) := by
  simp only [Rv]
  exact ⟨_, by rw [← hH.len]; exact getElem?_snoc _ _, by simp⟩
def eAlloc (Γ : Tab) (σ : List AObj) (t : TypeId) : Option (AV × List AObj × Prop) :=
  match Γ.get t with
  | some ti => some (.optr σ.length 0 0, σ ++ [.box t (zeroL ti.zero)], True)
  | none => none
theorem eAlloc_sound (hΓ : TabOk P Γ) {ρ : Rho} {w : World} {σ σ' : List AObj} (hH : RH ρ w σ) {t : TypeId} {v : AV} {C : Prop} (h : eAlloc Γ σ t = some (v,σ',C)) :
    ∃ r ρ' w', (Instr.alloc t true (.tuple #[])).run P w = .ok r w' ∧ Rv ρ' w' v r ∧ RH ρ' w' σ' ∧ Step ρ w ρ' w' := by
  unfold eAlloc at h
  split at h
  · rename_i ti hti
    have hti := hΓ t ti hti
    simp only [Option.some.injEq, Prod.mk.injEq] at h
    obtain ⟨rfl, rfl, rfl⟩ := h
    obtain ⟨z, hz, hzc⟩ := hti.zeroValue w
    have hb := new_box hH (zeroL ti.zero) (ti.zero.map ZC.val) t (zeroL_one _) (zeroL_sound ρ w _)
    refine ⟨.pointer (some ⟨w.heap.size, 0, none⟩), _, _, ?_, new_box_ptr hH _, hb.1, hb.2⟩
    simp only [Instr.alloc, Sem.run_bind, hz, Result.andThen_ok, newVar, newRow, run_newObj, hzc, Sem.run_pure]
    rfl
  · cases h
def eBox (σ : List AObj) (t : TypeId) (x : AV) : Option (AV × List AObj × Prop) :=
  some (.optr σ.length 0 0, σ ++ [.box t (cellsOf x)], oneL (cellsOf x) = true)
theorem eBox_sound {ρ : Rho} {w : World} {σ σ' : List AObj} (hH : RH ρ w σ) {t : TypeId} {x v : AV} {C : Prop} (h : eBox σ t x = some (v,σ',C)) (hC : C) {vx : Value} (hx : Rv ρ w x vx) :
    ∃ r ρ' w', (Instr.box t vx).run P w = .ok r w' ∧ Rv ρ' w' v r ∧ RH ρ' w' σ' ∧ Step ρ w ρ' w' := by
  simp only [eBox, Option.some.injEq, Prod.mk.injEq] at h
  obtain ⟨rfl, rfl, rfl⟩ := h
  have hcy := cellsOf_sound hC hx
  have hb := new_box hH (cellsOf x) vx.cells.toList t (oneL_sound hC hcy) hcy
  refine ⟨.pointer (some ⟨w.heap.size, 0, none⟩), _, _, ?_, new_box_ptr hH _, hb.1, hb.2⟩
  simp [Instr.box, newVar, newRow]
def placesOf (Γ : Tab) : List (TypeId × Nat) → Option (List (Nat × Nat))
  | [] => some []
  | (t, off) :: fs =>
    match Γ.get t with
    | some ti => match placesOf Γ fs with | some r => some ((off, ti.size) :: r) | none => none
    | none => none
def nthP : List (Nat × Nat) → Nat → Option (Nat × Nat)
  | [], _ => none
  | x :: _, 0 => some x
  | _ :: xs, n + 1 => nthP xs n
theorem nthP_eq : ∀ (l : List (Nat × Nat)) (i : Nat), nthP l i = l[i]?
  | [], i => by simp [nthP]
  | x :: xs, 0 => by simp [nthP]
  | x :: xs, i + 1 => by simp [nthP, nthP_eq xs i]
def fillA (place : Nat → Option (Nat × Nat)) (cells : List AV) : List (Nat × AV) → Option (List AV × Prop)
  | [] => some (cells, True)
  | (i, v) :: rest =>
    match place i with
    | some (off, size) =>
      match fillA place (setC cells off (cellsOf v)) rest with
      | some (r,c) => some (r,(cellsOf v).length = size ∧ off + (cellsOf v).length ≤ cells.length ∧ oneL (cellsOf v) = true ∧ c)
      | none => none
    | none => none
def RvP (ρ : Rho) (w : World) : List (Nat × AV) → List (Nat × Value) → Prop
  | [], [] => True
  | (i, v) :: vs, (j, x) :: xs => i = j ∧ Rv ρ w v x ∧ RvP ρ w vs xs
  | _, _ => False
theorem foldl_set (vs : List Value) : ∀ (k off : Nat) (cs : Array Value), off + k + vs.length ≤ cs.size →
    (vs.zipIdx k).foldl (fun cs (p : Value × Nat) => cs.setIfInBounds (off + p.2) p.1) cs = (cs.toList.take (off + k) ++ vs ++ cs.toList.drop (off + k + vs.length)).toArray := by
  induction vs with
  | nil => intro k off cs _; simp
  | cons v vs ih =>
    intro k off cs h
    simp only [List.length_cons] at h
    simp only [List.zipIdx_cons, List.foldl_cons]
    rw [ih (k + 1) off _ (by simp; omega)]
    have e := list_seg_step cs.toList (off + k) v vs (by simp; omega)
    apply Array.ext'
    simpa [Array.toList_setIfInBounds, Nat.add_assoc] using e
theorem fillA_sound {ρ : Rho} {w : World} {place place' : Nat → Option (Nat × Nat)} (hp : ∀ i,place i = place' i) : ∀ {parts : List (Nat × AV)} {cells r : List AV} {c : Prop} {xs : List (Nat × Value)} {cs : Array Value},
    fillA place cells parts = some (r,c) → c → RvP ρ w parts xs → RvL ρ w cells cs.toList → (∀ y ∈ cs.toList,y.oneCell' = true) →
    ∃ cs' : Array Value,Instr.fill place' cs xs = some cs' ∧ RvL ρ w r cs'.toList ∧ (∀ y ∈ cs'.toList,y.oneCell' = true)
  | [], cells, r, c, [], cs, h, _, _, hr, h1 => by
    simp only [fillA, Option.some.injEq, Prod.mk.injEq] at h
    obtain ⟨rfl, _⟩ := h
    exact ⟨cs, rfl, hr, h1⟩
  | (i, v) :: rest, cells, r, c, (j, x) :: xs, cs, h, hc, hx, hr, h1 => by
    simp only [RvP] at hx
    obtain ⟨rfl, hvx, hxs⟩ := hx
    unfold fillA at h
    split at h
    · rename_i off size hpl
      split at h
      · rename_i r' c' hrec
        simp only [Option.some.injEq, Prod.mk.injEq] at h
        obtain ⟨rfl, rfl⟩ := h
        obtain ⟨e1, e2, e3, hc'⟩ := hc
        have hcy := cellsOf_sound e3 hvx
        have hyl := hcy.length
        have hcl := hr.length
        have hone := oneL_sound e3 hcy
        have hsz : x.cells.size = size := by rw [← e1, hyl]; simp
        have hcs : cs.toList.length = cs.size := by simp
        have hxl : x.cells.toList.length = x.cells.size := by simp
        have hfit : off + x.cells.size ≤ cs.size := by omega
        have hfold := foldl_set x.cells.toList 0 off cs (by rw [hxl]; omega)
        simp only [Nat.add_zero] at hfold
        have hf2 : x.cells.zipIdx.foldl (fun cs (c,j) => cs.setIfInBounds (off + j) c) cs = (cs.toList.take off ++ x.cells.toList ++ cs.toList.drop (off + x.cells.toList.length)).toArray := by
          rw [← hfold, ← Array.foldl_toList, Array.toList_zipIdx]
        obtain ⟨cs',g1,g2,g3⟩ := fillA_sound hp (cs := (cs.toList.take off ++ x.cells.toList ++ cs.toList.drop (off + x.cells.toList.length)).toArray) hrec hc' hxs (by
          have e : setC cells off (cellsOf v) = cells.take off ++ cellsOf v ++ cells.drop (off + x.cells.toList.length) := by rw [setC,hyl]
          rw [e]
          exact RvL.append (RvL.append (RvL.take off hr) hcy) (RvL.drop _ hr)) (by
          intro z hz
          simp only [List.mem_append] at hz
          rcases hz with (hz | hz) | hz
          · exact h1 z (List.mem_of_mem_take hz)
          · exact hone z hz
          · exact h1 z (List.mem_of_mem_drop hz))
        refine ⟨cs', ?_, g2, g3⟩
        unfold Instr.fill
        rw [← hp i, hpl]
        simp only []
        rw [if_neg (by simp [hsz]; omega), hf2]
        exact g1
      · cases h
    · cases h
  | [], _, _, _, _ :: _, _, _, _, hx, _, _ => by simp [RvP] at hx
  | _ :: _, _, _, _, [], _, _, _, hx, _, _ => by simp [RvP] at hx
def eBuild (Γ : Tab) (t : TypeId) (parts : List (Nat × AV)) : Option (AV × Prop) :=
  match Γ.get t with
  | some ti =>
    match ti.d with
    | .strct fs =>
      match placesOf Γ fs with
      | some ps => match fillA (nthP ps) (zeroL ti.zero) parts with | some (r, c) => some (.agg r, c) | none => none
      | none => none
    | .array _ e =>
      match Γ.get e with
      | some te => match fillA (fun i => some (i * te.size,te.size)) (zeroL ti.zero) parts with | some (r,c) => some (.agg r,c) | none => none
      | none => none
    | _ => none
  | none => none
theorem placesOf_sound (hΓ : TabOk P Γ) (w : World) : ∀ {fs : List Field} {ps : List (Nat × Nat)},placesOf Γ (fs.map fun f => (f.type,f.offset)) = some ps →
    (fs.mapM (fun f => (do pure (f.offset, ← sizeOf f.type) : Sem (Nat × Nat)))).run P w = .ok ps w
  | [], ps, h => by simp [placesOf] at h; subst h; simp
  | f :: fs, ps, h => by
    simp only [List.map_cons] at h
    unfold placesOf at h
    split at h
    · rename_i ti hti
      split at h
      · rename_i r hr
        simp only [Option.some.injEq] at h
        subst h
        have ih := placesOf_sound hΓ w hr
        simp only [List.mapM_cons, Sem.run_bind, (hΓ _ _ hti).sizeOf, Result.andThen_ok, Sem.run_pure, ih]
      · cases h
    · cases h
theorem eBuild_sound (hΓ : TabOk P Γ) {ρ : Rho} {w : World} {t : TypeId} {parts : List (Nat × AV)} {v : AV} {C : Prop} (h : eBuild Γ t parts = some (v,C)) (hC : C) {xs : Array (Nat × Value)} (hx : RvP ρ w parts xs.toList) :
    ∃ r, (Instr.build t xs).run P w = .ok r w ∧ Rv ρ w v r := by
  unfold eBuild at h
  split at h
  · rename_i ti hti
    have hti := hΓ t ti hti
    obtain ⟨z, hz, hzc⟩ := hti.zeroValue w
    have hd := hti.desc
    split at h
    · rename_i fs hfs
      rw [hfs] at hd
      simp only [TD.holds] at hd
      obtain ⟨F, hu, rfl⟩ := hd
      split at h
      · rename_i ps hps
        split at h
        · rename_i r c hfill
          simp only [Option.some.injEq, Prod.mk.injEq] at h
          obtain ⟨rfl, rfl⟩ := h
          have hm := placesOf_sound hΓ w hps
          have hm2 : (F.mapM (fun f => (do pure (f.offset,← sizeOf f.type) : Sem (Nat × Nat)))).run P w = .ok ps.toArray w := by
            rw [Array.mapM_eq_mapM_toList, Sem.run_map, hm]
            rfl
          obtain ⟨cs',g1,g2,_⟩ := fillA_sound (cs := z.cells) (place' := fun i=>ps.toArray[i]?) (by intro i;rw [nthP_eq];simp) hfill hC hx (by rw [hzc];exact zeroL_sound ρ w _) (by rw [hzc];exact zeroL_one _)
          refine ⟨.agg cs', ?_, ?_⟩
          · simp only [Instr.build, Sem.run_bind, hz, Result.andThen_ok, run_underlying hu, hm2, g1, Sem.run_pure]
          · simp only [Rv]
            exact ⟨cs'.toList, by simp, g2⟩
        · cases h
      · cases h
    · rename_i len e hfs
      rw [hfs] at hd
      simp only [TD.holds] at hd
      split at h
      · rename_i te hte
        have hte := hΓ e te hte
        split at h
        · rename_i r c hfill
          simp only [Option.some.injEq, Prod.mk.injEq] at h
          obtain ⟨rfl, rfl⟩ := h
          obtain ⟨cs',g1,g2,_⟩ := fillA_sound (cs := z.cells) (place' := fun i=>some (i * te.size,te.size)) (by intro i;rfl) hfill hC hx (by rw [hzc];exact zeroL_sound ρ w _) (by rw [hzc];exact zeroL_one _)
          refine ⟨.agg cs', ?_, ?_⟩
          · simp only [Instr.build,Sem.run_bind,hz,Result.andThen_ok,run_underlying hd,hte.sizeOf,g1,Sem.run_pure]
          · simp only [Rv]
            exact ⟨cs'.toList, by simp, g2⟩
        · cases h
      · cases h
    · cases h
  · cases h
def repL (zs : List AV) : Nat → List AV
  | 0 => []
  | n + 1 => zs ++ repL zs n
def eBuildSlice (Γ : Tab) (σ : List AObj) (t : TypeId) (len : Nat) (parts : List (Nat × AV)) : Option (AV × List AObj × Prop) :=
  match Γ.get t with
  | some ti =>
    match ti.d with
    | .slice e =>
      match Γ.get e with
      | some te =>
        match fillA (fun i => some (i * te.size, te.size)) (repL (zeroL te.zero) len) parts with
        | some (r,c)=>some (.own σ.length 0 len (some len),σ ++ [.arr e te.size len (fun i j=>nth r (i * te.size + j))],c ∧ len * te.size ≤ 16777216 ∧ te.zero.length = te.size ∧ r.length = len * te.size)
        | none => none
      | none => none
    | _ => none
  | none => none
theorem repL_sound {ρ : Rho} {w : World} {zs : List AV} {xs : List Value} (h : RvL ρ w zs xs) : ∀ n,RvL ρ w (repL zs n) (List.replicate n xs).flatten
  | 0 => by simp [repL, RvL]
  | n + 1 => by simp only [repL, List.replicate_succ, List.flatten_cons]; exact RvL.append h (repL_sound h n)
theorem made_eq (zs : List Value) (n : Nat) : (Array.range (n * zs.length)).map (fun i => zs.toArray[i % zs.length]!) = (List.replicate n zs).flatten.toArray := by
  apply Array.ext'
  simp only [Array.toList_map, Array.toList_range]
  induction n with
  | zero => simp
  | succ n ih =>
    rw [Nat.succ_mul,Nat.add_comm,List.range_add,List.map_append,List.replicate_succ,List.flatten_cons,List.map_map]
    congr 1
    · apply List.ext_getElem?
      intro i
      by_cases hi : i < zs.length
      · simp [hi, Nat.mod_eq_of_lt hi]
      · simp [hi]
    · rw [← ih]
      apply List.map_congr_left
      intro i _
      simp [Nat.add_mod_left]
theorem new_arr {ρ : Rho} {w : World} {σ : List AObj} (hH : RH ρ w σ) (e : TypeId) (esz len cap : Nat) (elem : Nat → Nat → AV) (cs : List Value) (hlen : cs.length = cap * esz) (hlc : len ≤ cap) (hone : ∀ y ∈ cs,y.oneCell' = true)
    (hr : ∀ w' : World,Step ρ w (ρ ++ [some ⟨w.heap.size,0,cs.length,esz⟩]) w' → ∀ i,i < len → ∀ j,j < esz → ∃ y,cs[i * esz + j]? = some y ∧ y.oneCell' = true ∧ Rv (ρ ++ [some ⟨w.heap.size,0,cs.length,esz⟩]) w' (elem i j) y) :
    RH (ρ ++ [some ⟨w.heap.size,0,cs.length,esz⟩]) (w.alloc (.cells cs.toArray e)) (σ ++ [.arr e esz len elem]) ∧ Step ρ w (ρ ++ [some ⟨w.heap.size,0,cs.length,esz⟩]) (w.alloc (.cells cs.toArray e)) ∧
      ∀ c,(∀ c',c = some c' → cap = c') → Rv (ρ ++ [some ⟨w.heap.size,0,cs.length,esz⟩]) (w.alloc (.cells cs.toArray e)) (.own σ.length 0 len c) (.slice (some ⟨w.heap.size,0,none⟩) len cap) := by
  have hb := new_cells hH cs.length esz cs e (.arr e esz len elem) fun w' hs hh => by
    refine .inl ⟨_, cs.toArray, getElem?_snoc _ _, rfl, hh, ⟨by simp, by simpa using hone⟩, ?_, fun i hi j hj => ?_⟩
    · have := Nat.mul_le_mul_right esz hlc
      simp only [Nat.zero_add]
      omega
    · obtain ⟨y, hy, h1, hv⟩ := hr w' hs i hi j hj
      exact ⟨y, by simpa using hy, h1, hv⟩
  refine ⟨hb.1, hb.2, fun c hc => ?_⟩
  simp only [Rv]
  exact .inl ⟨_, cap, by rw [← hH.len]; exact getElem?_snoc _ _, by simp, hlc, by simp [hlen], hc⟩
theorem eBuildSlice_sound (hΓ : TabOk P Γ) {ρ : Rho} {w : World} {σ σ' : List AObj} (hH : RH ρ w σ) {t : TypeId} {len : Nat} {parts : List (Nat × AV)} {v : AV} {C : Prop} (h : eBuildSlice Γ σ t len parts = some (v,σ',C)) (hC : C)
    {xs : Array (Nat × Value)} (hx : RvP ρ w parts xs.toList) :
    ∃ r ρ' w', (Instr.buildSlice t len xs).run P w = .ok r w' ∧ Rv ρ' w' v r ∧ RH ρ' w' σ' ∧ Step ρ w ρ' w' := by
  unfold eBuildSlice at h
  split at h
  · rename_i ti hti
    have hd := (hΓ t ti hti).desc
    split at h
    · rename_i e hfs
      rw [hfs] at hd
      simp only [TD.holds] at hd
      split at h
      · rename_i te hte
        have hte := hΓ e te hte
        split at h
        · rename_i r c hfill
          simp only [Option.some.injEq, Prod.mk.injEq] at h
          obtain ⟨rfl, rfl, rfl⟩ := h
          obtain ⟨hc, hsz, hzl, hrl⟩ := hC
          obtain ⟨z, hz, hzc⟩ := hte.zeroValue w
          have hz1 := zeroL_sound ρ w te.zero
          obtain ⟨cs',g1,g2,g3⟩ := fillA_sound (cs := (List.replicate len (te.zero.map ZC.val)).flatten.toArray) (place' := fun i=>some (i * te.size,te.size)) (by intro i;rfl) hfill hc hx (by simpa using repL_sound hz1 len)
            (by intro y hy;simp only [List.mem_flatten,List.mem_replicate] at hy;obtain ⟨l,⟨_,rfl⟩,hy⟩ := hy;exact zeroL_one _ y hy)
          have hmk : (Array.range (len * te.size)).map (fun i=>(if len * te.size = 0 then (#[] : Array Value) else z.cells)[i % (if len * te.size = 0 then (#[] : Array Value) else z.cells).size]!) = (List.replicate len (te.zero.map ZC.val)).flatten.toArray := by
            by_cases h0 : len * te.size = 0
            · have : (List.replicate len (te.zero.map ZC.val)).flatten = [] := by
                apply List.eq_nil_of_length_eq_zero
                simp [List.length_flatten, hzl, h0]
              rw [h0, this]
              simp
            · simp only [h0, if_false]
              have := made_eq (te.zero.map ZC.val) len
              simp only [List.length_map, hzl] at this
              rw [hzc]
              simpa [hzl] using this
          have hcl : cs'.toList.length = len * te.size := by rw [← g2.length, hrl]
          have hnew := new_arr hH e te.size len len (fun i j => nth r (i * te.size + j)) cs'.toList hcl (Nat.le_refl _) g3 (fun w' hs i hi j hj => by
            have hlt : i * te.size + j < len * te.size := by
              have := Nat.mul_le_mul_right te.size (Nat.succ_le_of_lt hi)
              rw [Nat.succ_mul] at this
              omega
            obtain ⟨y, hy, hv⟩ := RvL.get g2 (nth_eq (l := r) (i := i * te.size + j) (by omega))
            exact ⟨y, hy, g3 y (List.mem_of_getElem? hy), Rv.mono hs _ hv⟩)
          refine ⟨.slice (some ⟨w.heap.size,0,none⟩) len len,_,_,?_,hnew.2.2 (some len) (by simp),hnew.1,hnew.2.1⟩
          have hg : ¬ len * te.size > 2 ^ 24 := by simp; omega
          by_cases h0 : len * te.size = 0
          · simp only [h0, if_true] at hmk
            simp only [Instr.buildSlice,Sem.run_bind,run_underlying hd,Result.andThen_ok,hte.sizeOf,h0,if_true,Sem.run_pure,Sem.run_ite]
            simp only [hmk, g1, newRow, Sem.run_bind, run_newObj, Result.andThen_ok, Sem.run_pure]
            simp
          · simp only [h0, if_false] at hmk
            simp only [Instr.buildSlice,Sem.run_bind,run_underlying hd,Result.andThen_ok,hte.sizeOf,hg,if_false,h0,Sem.run_pure,Sem.run_ite,hz,hmk,g1,newRow,run_newObj]
            simp
        · cases h
      · cases h
    · cases h
  · cases h
end
end Go.Ab
