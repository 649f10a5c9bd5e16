/-
  make, slices of slices, append.
-/
import Derived.Test.YtnomenmakhielaaAb5
import Derived.Lib.AppendZerosOnto
namespace Go.Ab

section
variable {P : Program} {Γ : Tab}

def eMake (Γ : Tab) (σ : List AObj) (t : TypeId) (l c : AV) : Option (AV × List AObj × Prop) :=
  match l, c with
  | .imm (.int _ l), .imm (.int _ c) =>
    match Γ.get t with
    | some ti =>
      match ti.d with
      | .slice e =>
        match Γ.get e with
        | some te => some (.own σ.length 0 l.toNat (some c.toNat), σ ++ [.arr e te.size l.toNat (fun _ j => nth (zeroL te.zero) j)],
            0 ≤ l ∧ l ≤ c ∧ c ≤ 1099511627776 ∧ te.bytes ≤ 256 ∧ te.zero.length = te.size)
        | none => none
      | _ => none
    | none => none
  | _, _ => none

theorem eMake_sound (hΓ : TabOk P Γ) {ρ : Rho} {w : World} {σ σ' : List AObj} (hH : RH ρ w σ) {t : TypeId} {l c v : AV} {C : Prop} (h : eMake Γ σ t l c = some (v, σ', C)) (hC : C) {vl vc : Value} (hl : Rv ρ w l vl) (hc : Rv ρ w c vc) :
    ∃ r ρ' w', (Instr.makeSlice t vl vc).run P w = .ok r w' ∧ Rv ρ' w' v r ∧ RH ρ' w' σ' ∧ Step ρ w ρ' w' := by
  unfold eMake at h
  split at h
  · rename_i kl l kc c
    simp only [Rv] at hl hc
    subst hl; subst hc
    split at h
    · rename_i ti hti
      have hd := (hΓ t ti hti).desc
      split at h
      · rename_i e hfs
        rw [hfs] at hd
        simp only [TD.holds] at hd
        split at h
        · rename_i te hte
          have hte := hΓ e te hte
          simp only [Option.some.injEq, Prod.mk.injEq] at h
          obtain ⟨rfl, rfl, rfl⟩ := h
          obtain ⟨h0, hlc, hc1, hb, hzl⟩ := hC
          obtain ⟨i, z, hi, hs, hby, hz, hzc⟩ := hte.info
          have hbc : (i.bytes : Int) * c ≤ 281474976710656 := by
            rw [hby]
            have h1 : (te.bytes : Int) ≤ 256 := by omega
            have h2 : (te.bytes : Int) * c ≤ 256 * c := Int.mul_le_mul_of_nonneg_right h1 (by omega)
            omega
          have hr := run_make (P := P) w t e i z hd hi hz kl kc l c h0 hlc hbc (by omega)
          have hmk : madeCells z.cells (c.toNat * i.size) = (List.replicate c.toNat (te.zero.map ZC.val)).flatten.toArray := by
            have := made_eq (te.zero.map ZC.val) c.toNat
            simp only [List.length_map, hzl] at this
            rw [← this, madeCells, hzc, hs]
            simp [hzl]
          have hlen : ((List.replicate c.toNat (te.zero.map ZC.val)).flatten).length = c.toNat * te.size := by simp [List.length_flatten, hzl]
          have hnew := new_arr hH e te.size l.toNat c.toNat (fun _ j => nth (zeroL te.zero) j) (List.replicate c.toNat (te.zero.map ZC.val)).flatten hlen (by omega) (fun y hy => by
            simp only [List.mem_flatten, List.mem_replicate] at hy
            obtain ⟨l2, ⟨_, rfl⟩, hy⟩ := hy
            exact zeroL_one _ y hy) (fun w' hs i hi j hj => by
            have hzs := zeroL_sound ρ w te.zero
            have hzlen : (zeroL te.zero).length = te.size := by rw [hzs.length]; simp [hzl]
            obtain ⟨y, hy, hv⟩ := RvL.get hzs (nth_eq (l := zeroL te.zero) (i := j) (by omega))
            refine ⟨y, ?_, zeroL_one _ y (List.mem_of_getElem? hy), Rv.mono hs _ hv⟩
            have hic : i < c.toNat := by omega
            have key : ∀ (n i : Nat), i < n → ((List.replicate n (te.zero.map ZC.val)).flatten)[i * te.size + j]? = some y := by
              intro n
              induction n with
              | zero => intro i hi; omega
              | succ n ih =>
                intro i hi
                rw [List.replicate_succ, List.flatten_cons]
                cases i with
                | zero => rw [Nat.zero_mul, Nat.zero_add, List.getElem?_append_left (by simp [hzl]; omega)]; exact hy
                | succ i =>
                  rw [List.getElem?_append_right (by simp [hzl, Nat.succ_mul]; omega)]
                  rw [← ih i (by omega)]
                  congr 1
                  simp [hzl, Nat.succ_mul]
                  omega
            exact key c.toNat i hic)
          rw [hmk] at hr
          exact ⟨_, _, _, hr, hnew.2.2 (some c.toNat) (by simp), hnew.1, hnew.2.1⟩
        · cases h
      · cases h
    · cases h
  · cases h

/-- What a slice reads as: its length, the cells of an element, the elements. -/
def src (σ : List AObj) : AV → Option (Nat × Nat × (Nat → Nat → AV) × Prop)
  | .own o s n _ =>
    match nthO σ o with
    | .arr _ esz len elem => some (n, esz, fun i j => elem (s + i) j, s + n ≤ len)
    | _ => none
  | .emp => some (0, 0, fun _ _ => .top, True)
  | .view n esz elem => some (n, esz, elem, True)
  | .pv n esz _ elem => some (n, esz, elem, True)
  | .imm (.slice _ 0 _) => some (0, 0, fun _ _ => .top, True)
  | .bsl o off esz n _ =>
    match nthO σ o with
    | .box _ cells => some (n, esz, fun i j => nth cells (off + (i * esz + j)), off + n * esz ≤ cells.length)
    | _ => none
  | _ => none

theorem src_sound {ρ : Rho} {w : World} {σ : List AObj} (hH : RH ρ w σ) {x : AV} {n esz : Nat} {f : Nat → Nat → AV} {c : Prop} (h : src σ x = some (n, esz, f, c)) (hc : c) {vx : Value} (hx : Rv ρ w x vx) :
    ∃ (a : Option Addr) (cap : Nat), vx = .slice a n cap ∧ n ≤ cap ∧ (0 < n → ∃ ad, a = some ad ∧ ∀ i, i < n → ∀ j, j < esz → ∃ y, w.cell? (ad.add (i * esz + j)) = some y ∧ y.oneCell' = true ∧ Rv ρ w (f i j) y) := by
  unfold src at h
  split at h
  · rename_i o s n' c'
    simp only [Rv] at hx
    · split at h
      · rename_i ety esz' len elem hob
        simp only [Option.some.injEq, Prod.mk.injEq] at h
        obtain ⟨rfl, rfl, rfl, rfl⟩ := h
        rcases hx with ⟨l, cap, hl, rfl, h1, h2, h3⟩ | ⟨rfl, ⟨a, rfl⟩, _⟩
        · refine ⟨_, _, rfl, h1, fun h0 => ⟨_, rfl, fun i hi j hj => ?_⟩⟩
          rcases hH.obj o _ (nthO_eq hob rfl) with ⟨l', cs, hl', he, hh, ⟨hcs, _⟩, hd, hr⟩ | ⟨hn, h0'⟩
          · rw [hl] at hl'
            simp only [Option.some.injEq] at hl'
            subst hl'
            obtain ⟨y, hy, hy1, hv⟩ := hr (s + i) (by omega) j hj
            refine ⟨y, ?_, hy1, hv⟩
            rw [add_lit, cell_of_row w l.b _ cs ety (0, 0) hh, he, ← hy, Nat.add_mul]
            congr 1
            omega
          · rw [hl] at hn; simp at hn
        · exact ⟨_, _, rfl, Nat.le_refl _, fun h0 => by omega⟩
      · cases h
  · simp only [Option.some.injEq, Prod.mk.injEq] at h
    obtain ⟨rfl, rfl, rfl, rfl⟩ := h
    simp only [Rv] at hx
    obtain ⟨a, rfl⟩ := hx
    exact ⟨_, _, rfl, Nat.le_refl _, fun h0 => by omega⟩
  · rename_i n' esz' elem
    simp only [Option.some.injEq, Prod.mk.injEq] at h
    obtain ⟨rfl, rfl, rfl, rfl⟩ := h
    simp only [Rv] at hx
    obtain ⟨a, cap, rfl, h1, hr⟩ := hx
    refine ⟨a, cap, rfl, h1, fun h0 => ?_⟩
    obtain ⟨ad, rfl, _, _, hr⟩ := hr h0
    exact ⟨ad, rfl, hr⟩
  · rename_i n' esz' q elem
    simp only [Option.some.injEq, Prod.mk.injEq] at h
    obtain ⟨rfl, rfl, rfl, rfl⟩ := h
    obtain ⟨a, cap, rfl, h1, hr⟩ := pv_view hx
    refine ⟨a, cap, rfl, h1, fun h0 => ?_⟩
    obtain ⟨ad, rfl, _, _, hr⟩ := hr h0
    exact ⟨ad, rfl, hr⟩
  · simp only [Option.some.injEq, Prod.mk.injEq] at h
    obtain ⟨rfl, rfl, rfl, rfl⟩ := h
    simp only [Rv] at hx
    subst hx
    exact ⟨_, _, rfl, Nat.zero_le _, fun h0 => by omega⟩
  · rename_i o off esz' n' c'
    simp only [Rv] at hx
    obtain ⟨hnc, l, hl, rfl⟩ := hx
    split at h
    · rename_i ety cells hob
      simp only [Option.some.injEq, Prod.mk.injEq] at h
      obtain ⟨rfl, rfl, rfl, rfl⟩ := h
      refine ⟨_, _, rfl, hnc, fun h0 => ⟨_, rfl, fun i hi j hj => ?_⟩⟩
      obtain ⟨l', cs, hl', h0', h1, h2, hh, h3, hr⟩ := hH.obj o _ (nthO_eq hob rfl)
      rw [hl] at hl'
      simp only [Option.some.injEq] at hl'
      subst hl'
      have hlt : i * esz' + j < n' * esz' := by
        have := Nat.mul_le_mul_right esz' (Nat.succ_le_of_lt hi)
        rw [Nat.succ_mul] at this
        omega
      obtain ⟨y, hy, hv⟩ := RvL.get hr (nth_eq (l := cells) (i := off + (i * esz' + j)) (by omega))
      refine ⟨y, ?_, h3 y (List.mem_of_getElem? hy), hv⟩
      rw [add_lit, cell_of_row w l.b _ cs ety (0, 0) hh, h0']
      have : cs[off + (i * esz' + j)]? = some y := by simpa using hy
      rw [← this]
      congr 1
      omega
    · cases h
  · cases h

/-- The elements of a slice as one list of cells. -/
theorem src_cells {ρ : Rho} {w : World} {n esz : Nat} {f : Nat → Nat → AV} {ad : Addr} (h : ∀ i, i < n → ∀ j, j < esz → ∃ y, w.cell? (ad.add (i * esz + j)) = some y ∧ y.oneCell' = true ∧ Rv ρ w (f i j) y) :
    ∃ ys : List Value, ys.length = n * esz ∧ (∀ j u, ys[j]? = some u → w.cell? (ad.add j) = some u) ∧ (∀ u ∈ ys, u.oneCell' = true) ∧ ∀ i, i < n → ∀ j, j < esz → ∃ y, ys[i * esz + j]? = some y ∧ y.oneCell' = true ∧ Rv ρ w (f i j) y := by
  have split : ∀ k, k < n * esz → ∃ i j, i < n ∧ j < esz ∧ k = i * esz + j := by
    intro k hk
    have he : 0 < esz := by
      rcases Nat.eq_zero_or_pos esz with h0 | h0
      · subst h0; simp at hk
      · exact h0
    refine ⟨k / esz, k % esz, (Nat.div_lt_iff_lt_mul he).2 hk, Nat.mod_lt _ he, ?_⟩
    rw [Nat.mul_comm]; exact (Nat.div_add_mod k esz).symm
  have all : ∀ k, k < n * esz → ∃ y, w.cell? (ad.add k) = some y ∧ y.oneCell' = true := by
    intro k hk
    obtain ⟨i, j, hi, hj, rfl⟩ := split k hk
    obtain ⟨y, h1, h2, _⟩ := h i hi j hj
    exact ⟨y, h1, h2⟩
  refine ⟨(List.range (n * esz)).map (fun k => (w.cell? (ad.add k)).getD undef), by simp, fun j u hu => ?_, fun u hu => ?_, fun i hi j hj => ?_⟩
  · have hj : j < n * esz := by have := (List.getElem?_eq_some_iff.1 hu).1; simpa using this
    obtain ⟨y, hy, _⟩ := all j hj
    simp [hj, hy] at hu
    rw [hy, hu]
  · simp only [List.mem_map, List.mem_range] at hu
    obtain ⟨k, hk, rfl⟩ := hu
    obtain ⟨y, hy, h1⟩ := all k hk
    simpa [hy] using h1
  · obtain ⟨y, hy, h1, hv⟩ := h i hi j hj
    have hlt : i * esz + j < n * esz := by
      have := Nat.mul_le_mul_right esz (Nat.succ_le_of_lt hi)
      rw [Nat.succ_mul] at this
      omega
    exact ⟨y, by simp [hlt, hy], h1, hv⟩

theorem src_none {ρ : Rho} {w : World} {esz : Nat} {f : Nat → Nat → AV} : ∃ ys : List Value, ys.length = 0 * esz ∧ (∀ u ∈ ys, u.oneCell' = true) ∧ ∀ i, i < 0 → ∀ j, j < esz → ∃ y, ys[i * esz + j]? = some y ∧ y.oneCell' = true ∧ Rv ρ w (f i j) y :=
  ⟨[], by simp, by simp, by intro i hi; omega⟩

def catE (n : Nat) (f g : Nat → Nat → AV) : Nat → Nat → AV := fun i j => if i < n then f i j else g (i - n) j

/-- append(s, x...). What s was is not to be looked at any more. -/
def eApp (Γ : Tab) (σ : List AObj) (t : TypeId) (s x : AV) : Option (AV × List AObj × Prop) :=
  match Γ.get t with
  | some ti =>
    match ti.d with
    | .slice e =>
      match Γ.get e with
      | some te =>
        match src σ x with
        | some (m, ez, g, cx) =>
          match s with
          | .imm (.slice none 0 0) => some (.own σ.length 0 m none, σ ++ [.arr e te.size m g], cx ∧ m ≤ 1099511627776 ∧ te.bytes ≤ 128 ∧ 0 < te.size ∧ te.zero.length = te.size ∧ (m = 0 ∨ ez = te.size))
          | .emp => some (.own σ.length 0 m none, σ ++ [.arr e te.size m g], cx ∧ m ≤ 1099511627776 ∧ te.bytes ≤ 128 ∧ 0 < te.size ∧ te.zero.length = te.size ∧ (m = 0 ∨ ez = te.size))
          | .own o s0 n _ =>
              match nthO σ o with
              | .arr ety esz len elem => some (.own σ.length 0 (n + m) none, σ.set o .dead ++ [.arr e te.size (n + m) (catE n (fun i j => elem (s0 + i) j) g)],
                  cx ∧ n + m ≤ 1099511627776 ∧ te.bytes ≤ 128 ∧ 0 < te.size ∧ te.zero.length = te.size ∧ (m = 0 ∨ ez = te.size) ∧ esz = te.size ∧ ety = e ∧ s0 + n ≤ len)
              | _ => none
          | .pv n esz (some c) elem => some (.own σ.length 0 (n + m) none, σ ++ [.arr e te.size (n + m) (catE n elem g)],
              c < n + m ∧ cx ∧ n + m ≤ 1099511627776 ∧ te.bytes ≤ 128 ∧ 0 < te.size ∧ te.zero.length = te.size ∧ (m = 0 ∨ ez = te.size) ∧ esz = te.size)
          | _ => none
        | none => none
      | none => none
    | _ => none
  | none => none

/-- A new object that lies nowhere yet. -/
theorem RH.pushNone {ρ : Rho} {w : World} {σ : List AObj} (h : RH ρ w σ) (e : TypeId) (esz : Nat) (f : Nat → Nat → AV) : RH (ρ ++ [none]) w (σ ++ [.arr e esz 0 f]) ∧ Step ρ w (ρ ++ [none]) w := by
  have key : ∀ (o : Nat) (l : Loc), (ρ ++ [none])[o]? = some (some l) → ρ[o]? = some (some l) := by
    intro o l hl
    rw [List.getElem?_append] at hl
    split at hl
    · exact hl
    · have h0 : o - ρ.length = 0 := by
        rcases Nat.eq_zero_or_pos (o - ρ.length) with h0 | h0
        · exact h0
        · rw [List.getElem?_eq_none (by simp; omega)] at hl; cases hl
      rw [h0] at hl
      simp at hl
  have hs : Step ρ w (ρ ++ [none]) w := ⟨rfl, rfl, rfl, Nat.le_refl _, fun _ _ _ => rfl, List.prefix_append _ _, fun b hb => by
    obtain ⟨o, l, hl, rfl⟩ := hb
    exact .inl ⟨o, l, key o l hl, rfl⟩⟩
  refine ⟨⟨by simp [h.len], fun o l hl => h.lt o l (key o l hl), fun o a ha => ?_, fun o o' l l' a a' hne h1 k1 h2 k2 r1 r2 => ?_, h.glob.step hs⟩, hs⟩
  · rw [List.getElem?_append] at ha
    split at ha
    · exact RO.keep hs (h.obj o a ha) fun _ _ => rfl
    · have h0 : o - σ.length = 0 := by
        rcases Nat.eq_zero_or_pos (o - σ.length) with h0 | h0
        · exact h0
        · rw [List.getElem?_eq_none (by simp; omega)] at ha; cases ha
      rw [h0] at ha
      simp at ha
      subst ha
      have ho : o = ρ.length := by rw [h.len]; omega
      subst ho
      exact .inr ⟨by simp, rfl⟩
  · have q1 := key o l r1
    have q2 := key o' l' r2
    have lt1 : o < σ.length := by rw [← h.len]; exact (List.getElem?_eq_some_iff.1 q1).1
    have lt2 : o' < σ.length := by rw [← h.len]; exact (List.getElem?_eq_some_iff.1 q2).1
    rw [List.getElem?_append_left lt1] at h1
    rw [List.getElem?_append_left lt2] at h2
    exact h.apart o o' l l' a a' hne h1 k1 h2 k2 q1 q2

theorem snoc_cases {α : Type} {l : List α} {x y : α} {i : Nat} (h : (l ++ [x])[i]? = some y) : (i < l.length ∧ l[i]? = some y) ∨ (i = l.length ∧ y = x) := by
  rw [List.getElem?_append] at h
  split at h
  · rename_i hlt; exact .inl ⟨hlt, h⟩
  · have h0 : i - l.length = 0 := by
      rcases Nat.eq_zero_or_pos (i - l.length) with h0 | h0
      · exact h0
      · rw [List.getElem?_eq_none (by simp; omega)] at h; cases h
    rw [h0] at h
    simp at h
    exact .inr ⟨by omega, h.symm⟩

/-- A further object over a block that no living object has any more. -/
theorem RH.add {ρ : Rho} {w : World} {σ : List AObj} (h : RH ρ w σ) (l : Loc) (a : AObj) (hlt : l.b < w.heap.size) (hhas : ρ.has l.b)
    (hap : ∀ (o : Nat) (l' : Loc) (a' : AObj), σ[o]? = some a' → a'.alive = true → ρ[o]? = some (some l') → l'.b ≠ l.b) (ro : RO (ρ ++ [some l]) w ρ.length a) :
    RH (ρ ++ [some l]) w (σ ++ [a]) ∧ Step ρ w (ρ ++ [some l]) w := by
  have hs : Step ρ w (ρ ++ [some l]) w := ⟨rfl, rfl, rfl, Nat.le_refl _, fun _ _ _ => rfl, List.prefix_append _ _, fun b hb => by
    obtain ⟨q, lq, hlq, rfl⟩ := hb
    rcases snoc_cases hlq with ⟨_, h1⟩ | ⟨_, h1⟩
    · exact .inl ⟨q, lq, h1, rfl⟩
    · simp at h1; subst h1; exact .inl hhas⟩
  refine ⟨⟨by simp [h.len], fun o l' hl' => ?_, fun o a' ha' => ?_, fun o o' l1 l2 a1 a2 hne h1 k1 h2 k2 r1 r2 => ?_, h.glob.step hs⟩, hs⟩
  · rcases snoc_cases hl' with ⟨_, h1⟩ | ⟨_, h1⟩
    · exact h.lt o l' h1
    · simp at h1; subst h1; exact hlt
  · rcases snoc_cases ha' with ⟨_, h1⟩ | ⟨h0, rfl⟩
    · exact RO.keep hs (h.obj o a' h1) fun _ _ => rfl
    · rw [h0, ← h.len]; exact ro
  · rcases snoc_cases h1 with ⟨q1, p1⟩ | ⟨q1, rfl⟩ <;> rcases snoc_cases h2 with ⟨q2, p2⟩ | ⟨q2, rfl⟩ <;> rcases snoc_cases r1 with ⟨u1, v1⟩ | ⟨u1, v1⟩ <;> rcases snoc_cases r2 with ⟨u2, v2⟩ | ⟨u2, v2⟩ <;>
      (try (have := h.len; omega))
    · exact h.apart o o' l1 l2 a1 a2 hne p1 k1 p2 k2 v1 v2
    · simp at v2; subst v2; exact hap o l1 a1 p1 k1 v1
    · simp at v1; subst v1; exact fun e => hap o' l2 a2 p2 k2 v2 e.symm

/-- An object gives its block to a new one, which may have turned it. -/
theorem RH.rehome {ρ : Rho} {w w' : World} {σ : List AObj} (h : RH ρ w σ) {o : Nat} {a a' : AObj} (ho : σ[o]? = some a) (hal : a.alive = true) {l l2 : Loc} (hl : ρ[o]? = some (some l)) (hb : l2.b = l.b) (hs : Step ρ w ρ w')
    (hold : ∀ b, b ≠ l.b → w'.heap[b]? = w.heap[b]?) (ro : Step ρ w (ρ ++ [some l2]) w' → RO (ρ ++ [some l2]) w' ρ.length a') :
    RH (ρ ++ [some l2]) w' (σ.set o .dead ++ [a']) ∧ Step ρ w (ρ ++ [some l2]) w' := by
  have h1 : RH ρ w' (σ.set o .dead) := RH.turn h ho hal hl hs hold trivial
  have hst : Step ρ w' (ρ ++ [some l2]) w' := ⟨rfl, rfl, rfl, Nat.le_refl _, fun _ _ _ => rfl, List.prefix_append _ _, fun b hb' => by
    obtain ⟨q, lq, hlq, rfl⟩ := hb'
    rcases snoc_cases hlq with ⟨_, h1⟩ | ⟨_, h1⟩
    · exact .inl ⟨q, lq, h1, rfl⟩
    · simp at h1; subst h1; exact .inl ⟨o, l, hl, hb.symm⟩⟩
  obtain ⟨g1, g2⟩ := RH.add h1 l2 a' (by rw [hb]; exact h1.lt o l hl) ⟨o, l, hl, hb.symm⟩ (fun q lq aq hq hk hr => by
    rw [List.getElem?_set] at hq
    split at hq
    · split at hq
      · simp at hq; subst hq; simp [AObj.alive] at hk
      · cases hq
    · rename_i hne
      rw [hb]
      exact h.apart q o lq l aq a (fun e => hne e.symm) hq hk ho hal hr hl) (ro (hs.trans hst))
  exact ⟨g1, hs.trans g2⟩

theorem run_append_zero (w : World) (t ty e : TypeId) (i : TypeInfo) (ht : P.underlying t = some (.slice e)) (hi : P.info? e = some i) (base a : Option Addr) (n cap c : Nat) (hnc : n ≤ cap) :
    (Builtin.append_ #[t, t] ty #[.slice base n cap, .slice a 0 c]).run P w = .ok (.slice base n cap) w := by
  have hf : (Builtin.firstCells i.size 0 (.slice a 0 c)).run P w = .ok #[] w := by
    cases a <;> simp [Builtin.firstCells, loadCells, loadCellsFrom]
  cases base <;> simp [Builtin.append_, run_underlying ht, sizeOf, typeInfo, hi, Builtin.lenOf, hnc, hf, storeCells]

theorem grownCap_ge' (w : World) (need old : Nat) (e : TypeId) : need ≤ grownCap w need old e := by simp [grownCap, Question.cut]

theorem run_append_new (w : World) (t ty e : TypeId) (i : TypeInfo) (z : Value) (ht : P.underlying t = some (.slice e)) (hi : P.info? e = some i) (hz : i.zero = some z)
    (base : Option Addr) (n cap : Nat) (olds : List Value) (hlo : olds.length = n * i.size) (holds : 0 < n → ∃ b, base = some b ∧ ∀ j v, olds[j]? = some v → w.cell? (b.add j) = some v)
    (a : Addr) (m c : Nat) (news : List Value) (hl : news.length = m * i.size) (hnews : ∀ j v, news[j]? = some v → w.cell? (a.add j) = some v)
    (hg : cap < n + m) (h63 : ((n + m : Nat) : Int) ≤ 9223372036854775807) (hfit : Builtin.nextslicecap (n + m) cap * i.bytes ≤ 281474976710656) :
    (Builtin.append_ #[t, t] ty #[.slice base n cap, .slice (some a) m c]).run P w =
      .ok (.slice (some ⟨w.heap.size, 0, none⟩) (n + m) (grownCap w (n + m) cap e))
        (w.drew.alloc (.cells (olds ++ news ++ (Builtin.zeroCells z.cells (grownCap w (n + m) cap e - (n + m))).toList).toArray e)) := by
  have hn : ¬ (n + m ≤ cap) := by omega
  have h63' : ¬ (9223372036854775807 < ((n : Int) + (m : Int))) := by omega
  have h48' : ¬ (281474976710656 < Builtin.nextslicecap (n + m) cap * i.bytes) := by omega
  have hf := run_firstCells_some (P := P) w.drew i.size m a m c news hl (by simpa using hnews)
  have hfo : (Builtin.firstCells i.size n (.slice base n cap)).run P w.drew = .ok olds.toArray w.drew := by
    rcases Nat.eq_zero_or_pos n with h0 | h0
    · subst h0
      have : olds = [] := List.eq_nil_of_length_eq_zero (by simpa using hlo)
      subst this
      cases base <;> simp [Builtin.firstCells, loadCells, loadCellsFrom]
    · obtain ⟨b, rfl, hb⟩ := holds h0
      exact run_firstCells_some (P := P) w.drew i.size n b n cap olds hlo (by simpa using hb)
  simp [Builtin.append_, run_underlying ht, sizeOf, typeInfo, zeroValue, hi, hz, Builtin.lenOf, hn, h63', h48', Question.forced, hf, hfo, newRow, grownCap]
  congr 2
  apply Array.ext'
  simp

theorem run_append_in (w : World) (t ty e : TypeId) (i : TypeInfo) (ht : P.underlying t = some (.slice e)) (hi : P.info? e = some i)
    (g d n cap : Nat) (ety : TypeId) (cur : Array Value) (hg : w.heap[g]? = some (.cells cur ety (0, 0)))
    (a : Addr) (m c : Nat) (news : List Value) (hl : news.length = m * i.size) (hnews : ∀ j u, news[j]? = some u → w.cell? (a.add j) = some u) (h1 : ∀ u ∈ news, u.oneCell' = true)
    (hroom : n + m ≤ cap) (hfit : d + n * i.size + news.length ≤ cur.size) :
    (Builtin.append_ #[t, t] ty #[.slice (some ⟨g, d, none⟩) n cap, .slice (some a) m c]).run P w =
      .ok (.slice (some ⟨g, d, none⟩) (n + m) cap) (w.setRow g (cur.toList.take (d + n * i.size) ++ news ++ cur.toList.drop (d + n * i.size + news.length)).toArray) := by
  have hf := run_firstCells_some (P := P) w i.size m a m c news hl hnews
  have hst := run_storeCells_at P g (d + n * i.size) ety news 0 cur w hg (by simpa using hfit) h1
  simp only [Nat.add_zero] at hst
  simp [Builtin.append_, run_underlying ht, sizeOf, typeInfo, hi, Builtin.lenOf, hroom, hf, add_lit, hst]

theorem zeroCells_one {z : Value} {zs : List ZC} (hz : z.cells = (zs.map ZC.val).toArray) {k : Nat} : ∀ y ∈ (Builtin.zeroCells z.cells k).toList, y.oneCell' = true := by
  intro y hy
  have h := made_eq (zs.map ZC.val) k
  unfold Builtin.zeroCells at hy
  rw [hz, show (zs.map ZC.val).toArray.size = (zs.map ZC.val).length by simp, h] at hy
  simp only [List.mem_flatten, List.mem_replicate] at hy
  obtain ⟨l2, ⟨_, rfl⟩, hy⟩ := hy
  exact zeroL_one _ y hy

theorem rep_flat_get {α : Type} (zs : List α) : ∀ (n i j : Nat), i < n → j < zs.length → (List.replicate n zs).flatten[i * zs.length + j]? = zs[j]?
  | n + 1, 0, j, _, hj => by rw [List.replicate_succ, List.flatten_cons, Nat.zero_mul, Nat.zero_add, List.getElem?_append_left hj]
  | n + 1, i + 1, j, hi, hj => by
    rw [List.replicate_succ, List.flatten_cons, List.getElem?_append_right (by rw [Nat.succ_mul]; omega), Nat.succ_mul, show i * zs.length + zs.length + j - zs.length = i * zs.length + j by omega]
    exact rep_flat_get zs n i j (by omega) hj

theorem zeroCells_get {z : Value} {zs : List ZC} {size : Nat} (hz : z.cells = (zs.map ZC.val).toArray) (hl : zs.length = size) {k i j : Nat} (h : i * size + j < k * size) (hj : j < size) : (Builtin.zeroCells z.cells k).toList[i * size + j]? = (zs.map ZC.val)[j]? := by
  have h1 := made_eq (zs.map ZC.val) k
  unfold Builtin.zeroCells
  rw [hz, show (zs.map ZC.val).toArray.size = (zs.map ZC.val).length by simp, h1]
  have e : size = (zs.map ZC.val).length := by simp [hl]
  have hik : i < k := by
    rcases Nat.lt_or_ge i k with h0 | h0
    · exact h0
    · have := Nat.mul_le_mul_right size h0; omega
  rw [e]
  exact rep_flat_get _ k i j hik (by rw [← e]; exact hj)

/-- The new block of an append. -/
theorem app_new {ρ : Rho} {w : World} {σ : List AObj} (hH : RH ρ w σ) (e : TypeId) (esz len cap : Nat) (elem : Nat → Nat → AV) (cs : List Value) (hlen : cs.length = cap * esz) (hlc : len ≤ cap) (hone : ∀ y ∈ cs, y.oneCell' = true)
    (hr : ∀ i, i < len → ∀ j, j < esz → ∃ y, cs[i * esz + j]? = some y ∧ y.oneCell' = true ∧ Rv ρ w (elem i j) y) :
    ∃ ρ', RH ρ' (w.drew.alloc (.cells cs.toArray e)) (σ ++ [.arr e esz len elem]) ∧ Step ρ w ρ' (w.drew.alloc (.cells cs.toArray e)) ∧
      Rv ρ' (w.drew.alloc (.cells cs.toArray e)) (.own σ.length 0 len none) (.slice (some ⟨w.heap.size, 0, none⟩) len cap) := by
  have hd : Step ρ w ρ w.drew := (Step.refl ρ w).drewN 1
  have hH' : RH ρ w.drew σ := hH.drewN 1
  obtain ⟨a, b, c⟩ := new_arr hH' e esz len cap elem cs hlen hlc hone (fun w' hs i hi j hj => by
    obtain ⟨y, h1, h2, h3⟩ := hr i hi j hj
    exact ⟨y, h1, h2, Rv.mono (hd.trans hs) _ h3⟩)
  exact ⟨_, a, hd.trans b, c none (by simp)⟩

theorem eApp_fresh {ρ : Rho} {w : World} {σ : List AObj} (hH : RH ρ w σ) {t ty e : TypeId} {te : TI} (ht : P.underlying t = some (.slice e)) (hte : TIok P e te) {m ez : Nat} {g : Nat → Nat → AV} (hm : m ≤ 1099511627776) (hb : te.bytes ≤ 128)
    (hzl : te.zero.length = te.size) (hez : m = 0 ∨ ez = te.size) {a : Option Addr} {cap : Nat}
    (hx : 0 < m → ∃ ad, a = some ad ∧ ∀ i, i < m → ∀ j, j < ez → ∃ y, w.cell? (ad.add (i * ez + j)) = some y ∧ y.oneCell' = true ∧ Rv ρ w (g i j) y) (base : Option Addr) :
    ∃ r ρ' w', (Builtin.append_ #[t, t] ty #[.slice base 0 0, .slice a m cap]).run P w = .ok r w' ∧ Rv ρ' w' (.own σ.length 0 m none) r ∧ RH ρ' w' (σ ++ [.arr e te.size m g]) ∧ Step ρ w ρ' w' := by
  obtain ⟨i, z, hi, hs, hby, hz, hzc⟩ := hte.info
  rcases Nat.eq_zero_or_pos m with h0 | h0
  · subst h0
    have hp := RH.pushNone hH e te.size g
    refine ⟨_, _, _, run_append_zero w t ty e i ht hi base a 0 0 cap (Nat.le_refl _), ?_, hp.1, hp.2⟩
    simp only [Rv]
    exact .inr ⟨by simp, ⟨base, rfl⟩, by simp⟩
  · have hez : ez = te.size := by omega
    subst hez
    obtain ⟨ad, rfl, hr⟩ := hx h0
    obtain ⟨ys, hl, h1, h2, h3⟩ := src_cells hr
    have hmb : m * i.bytes ≤ 140737488355328 := by rw [hby]; exact Nat.le_trans (Nat.mul_le_mul hm hb) (by decide)
    have hrun := run_append_new (P := P) w t ty e i z ht hi hz base 0 0 [] (by simp) (by omega) ad m cap ys (by rw [hs]; exact hl) h1 (by omega) (by omega) (growslice_fits (by omega) (by rw [Nat.zero_add]; exact hmb))
    simp only [Nat.zero_add, List.nil_append] at hrun
    have hzs : z.cells.size = te.size := by rw [hzc]; simp [hzl]
    have hge := grownCap_ge' w m 0 e
    obtain ⟨ρ', g1, g2, g3⟩ := app_new hH e te.size m (grownCap w m 0 e) g (ys ++ (Builtin.zeroCells z.cells (grownCap w m 0 e - m)).toList)
      (by rw [List.length_append, hl, Array.length_toList, size_zeroCells, hzs, ← Nat.add_mul]; congr 1; omega) hge (fun y hy => by
        rcases List.mem_append.1 hy with hy | hy
        · exact h2 y hy
        · exact zeroCells_one hzc y hy) (fun i' hi' j hj => by
        obtain ⟨y, q1, q2, q3⟩ := h3 i' hi' j hj
        have hlt : i' * te.size + j < ys.length := (List.getElem?_eq_some_iff.1 q1).1
        exact ⟨y, by rw [List.getElem?_append_left hlt]; exact q1, q2, q3⟩)
    exact ⟨_, ρ', _, hrun, g3, g1, g2⟩

theorem eApp_sound (hΓ : TabOk P Γ) {ρ : Rho} {w : World} {σ σ' : List AObj} (hH : RH ρ w σ) {t ty : TypeId} {s x v : AV} {C : Prop} (h : eApp Γ σ t s x = some (v, σ', C)) (hC : C) {vs vx : Value} (hs : Rv ρ w s vs) (hx : Rv ρ w x vx) :
    ∃ r ρ' w', (Builtin.append_ #[t, t] ty #[vs, vx]).run P w = .ok r w' ∧ Rv ρ' w' v r ∧ RH ρ' w' σ' ∧ Step ρ w ρ' w' := by
  unfold eApp at h
  split at h
  case h_2 => cases h
  rename_i ti hti
  have hd := (hΓ t ti hti).desc
  split at h
  case h_2 => cases h
  rename_i e hfs
  rw [hfs] at hd
  simp only [TD.holds] at hd
  split at h
  case h_2 => cases h
  rename_i te hte
  have hte := hΓ e te hte
  split at h
  case h_2 => cases h
  rename_i m ez g cx hsrc
  split at h
  · simp only [Option.some.injEq, Prod.mk.injEq] at h
    obtain ⟨rfl, rfl, rfl⟩ := h
    obtain ⟨c1, c2, c3, c4, c5, c6⟩ := hC
    obtain ⟨a, cap, rfl, hnc, hr⟩ := src_sound hH hsrc c1 hx
    simp only [Rv] at hs
    subst hs
    exact eApp_fresh hH hd hte c2 c3 c5 c6 hr none
  · simp only [Option.some.injEq, Prod.mk.injEq] at h
    obtain ⟨rfl, rfl, rfl⟩ := h
    obtain ⟨c1, c2, c3, c4, c5, c6⟩ := hC
    obtain ⟨a, cap, rfl, hnc, hr⟩ := src_sound hH hsrc c1 hx
    simp only [Rv] at hs
    obtain ⟨b, rfl⟩ := hs
    exact eApp_fresh hH hd hte c2 c3 c5 c6 hr _
  · rename_i o s0 n c
    · split at h
      case h_2 => cases h
      rename_i ety esz len elem hob
      simp only [Option.some.injEq, Prod.mk.injEq] at h
      obtain ⟨rfl, rfl, rfl⟩ := h
      obtain ⟨c1, c2, c3, c4, c5, c6, rfl, rfl, c8⟩ := hC
      obtain ⟨a, cap, rfl, hnc, hr⟩ := src_sound hH hsrc c1 hx
      have hso := nthO_eq hob rfl
      have hkill := RH.kill hH o
      simp only [Rv] at hs
      rcases hs with ⟨l, cap', hl, rfl, hs1, hs2, _⟩ | ⟨rfl, ⟨b, rfl⟩, _⟩
      case inr =>
        have := eApp_fresh (P := P) (ty := ty) (g := catE 0 (fun i j => elem (s0 + i) j) g) hkill hd hte (m := m) (by omega) c3 c5 c6 (a := a) (cap := cap) (fun h0 => by
          obtain ⟨ad, rfl, hr2⟩ := hr h0
          exact ⟨ad, rfl, fun i hi j hj => by simpa [catE] using hr2 i hi j hj⟩) b
        simpa using this
      case inl =>
        rcases hH.obj o _ hso with ⟨l', cs, hl', he, hh, ⟨hcs, hc1⟩, hdl, hro⟩ | ⟨hn, _⟩
        case inr => rw [hl] at hn; simp at hn
        rw [hl] at hl'
        simp only [Option.some.injEq] at hl'
        subst hl'
        obtain ⟨i, z, hi, hsz, hby, hz, hzc⟩ := hte.info
        have holdc : ∀ i', i' < n → ∀ j, j < te.size → ∃ y, w.cell? ((⟨l.b, l.d + s0 * l.esz, none⟩ : Addr).add (i' * te.size + j)) = some y ∧ y.oneCell' = true ∧ Rv ρ w (elem (s0 + i') j) y := by
          intro i' hi' j hj
          obtain ⟨y, hy, hy1, hv⟩ := hro (s0 + i') (by omega) j hj
          refine ⟨y, ?_, hy1, hv⟩
          rw [add_lit, cell_of_row w l.b _ cs _ (0, 0) hh, he, ← hy, Nat.add_mul]
          congr 1
          omega
        have hsl : s0 * te.size + n * te.size ≤ len * te.size := by rw [← Nat.add_mul]; exact Nat.mul_le_mul_right _ c8
        rw [he] at hs2 holdc ⊢
        rw [Nat.add_mul] at hs2
        rcases Nat.eq_zero_or_pos m with h0 | h0
        · -- nothing is added
          subst h0
          have hrun := run_append_zero (P := P) w t ty _ i hd hi (some ⟨l.b, l.d + s0 * te.size, none⟩) a n cap' cap hs1
          obtain ⟨g1, g2⟩ := RH.rehome hH (l2 := ⟨l.b, l.d + s0 * te.size, l.n, te.size⟩) (a' := .arr _ te.size (n + 0) (catE n (fun i j => elem (s0 + i) j) g)) hso rfl hl rfl (Step.refl ρ w) (fun _ _ => rfl) (fun hst => by
            refine .inl ⟨_, cs, getElem?_snoc _ _, rfl, hh, ⟨hcs, hc1⟩, by simp only [Nat.add_zero]; omega, fun i' hi' j hj => ?_⟩
            obtain ⟨y, hy, hy1, hv⟩ := hro (s0 + i') (by omega) j hj
            refine ⟨y, ?_, hy1, ?_⟩
            · rw [← hy, Nat.add_mul]; congr 1; simp only []; omega
            · unfold catE
              rw [if_pos (by omega)]
              exact Rv.mono hst _ hv)
          refine ⟨_, _, _, hrun, ?_, g1, g2⟩
          simp only [Rv]
          exact .inl ⟨_, cap', by rw [← hH.len]; exact getElem?_snoc _ _, by simp, by omega, by simp only [Nat.zero_add]; omega, by simp⟩
        · have hez : ez = te.size := by omega
          subst hez
          obtain ⟨ad, rfl, hr2⟩ := hr h0
          obtain ⟨ys, hyl, hy1, hy2, hy3⟩ := src_cells hr2
          have hcat : ∀ (ρ' : Rho) (w' : World), Step ρ w ρ' w' → ∀ (pre : List Value), pre.length = n * te.size → (∀ i', i' < n → ∀ j, j < te.size → ∃ y, pre[i' * te.size + j]? = some y ∧ y.oneCell' = true ∧ Rv ρ w (elem (s0 + i') j) y) →
              ∀ i', i' < n + m → ∀ j, j < te.size → ∃ y, (pre ++ ys)[i' * te.size + j]? = some y ∧ y.oneCell' = true ∧ Rv ρ' w' (catE n (fun i j => elem (s0 + i) j) g i' j) y := by
            intro ρ' w' hst pre hpl hpr i' hi' j hj
            unfold catE
            by_cases hin : i' < n
            · obtain ⟨y, q1, q2, q3⟩ := hpr i' hin j hj
              have hlt := (List.getElem?_eq_some_iff.1 q1).1
              refine ⟨y, by rw [List.getElem?_append_left hlt]; exact q1, q2, ?_⟩
              rw [if_pos hin]
              exact Rv.mono hst _ q3
            · obtain ⟨y, q1, q2, q3⟩ := hy3 (i' - n) (by omega) j hj
              have e1 : i' * te.size = n * te.size + (i' - n) * te.size := by rw [← Nat.add_mul]; congr 1; omega
              refine ⟨y, by rw [List.getElem?_append_right (by omega), ← q1]; congr 1; omega, q2, ?_⟩
              rw [if_neg hin]
              exact Rv.mono hst _ q3
          by_cases hroom : n + m ≤ cap'
          · have hms : n * te.size + m * te.size ≤ cap' * te.size := by rw [← Nat.add_mul]; exact Nat.mul_le_mul_right _ hroom
            have hcsl : cs.toList.length = cs.size := by simp
            have hrun := run_append_in (P := P) w t ty _ i hd hi l.b (l.d + s0 * te.size) n cap' _ cs hh ad m cap ys (by rw [hsz]; exact hyl) hy1 hy2 hroom (by rw [hsz, hyl, hcs]; omega)
            rw [hsz] at hrun
            have hstep := setRow_step (w := w) hl ((cs.toList.take (l.d + s0 * te.size + n * te.size) ++ ys ++ cs.toList.drop (l.d + s0 * te.size + n * te.size + ys.length)).toArray)
            obtain ⟨g1, g2⟩ := RH.rehome hH (l2 := ⟨l.b, l.d + s0 * te.size, l.n, te.size⟩) (a' := .arr _ te.size (n + m) (catE n (fun i j => elem (s0 + i) j) g)) hso rfl hl rfl hstep (fun b hb => setRow_other w l.b b _ (by omega)) (fun hst => by
              refine .inl ⟨_, _, getElem?_snoc _ _, rfl, setRow_heap w l.b cs _ _ _ hh, ?_, ?_, fun i' hi' j hj => ?_⟩
              · exact ⟨by simp only [List.size_toArray, List.length_append, List.length_take, List.length_drop]; omega, fun y hy => by
                simp only [List.mem_append] at hy
                rcases hy with (hy | hy) | hy
                · exact hc1 y (List.mem_of_mem_take hy)
                · exact hy2 y hy
                · exact hc1 y (List.mem_of_mem_drop hy)⟩
              · simp only [Nat.add_mul]; omega
              · have hlt : i' * te.size + j < n * te.size + m * te.size := by
                  have := Nat.mul_le_mul_right te.size (Nat.succ_le_of_lt hi')
                  rw [Nat.succ_mul, Nat.add_mul] at this
                  omega
                obtain ⟨y, q1, q2, q3⟩ := hcat _ _ hst ((cs.toList.drop (l.d + s0 * te.size)).take (n * te.size)) (by simp only [List.length_take, List.length_drop]; omega) (fun i2 hi2 j2 hj2 => by
                  obtain ⟨y, q1, q2, q3⟩ := hro (s0 + i2) (by omega) j2 hj2
                  have hlt2 : i2 * te.size + j2 < n * te.size := by
                    have := Nat.mul_le_mul_right te.size (Nat.succ_le_of_lt hi2)
                    rw [Nat.succ_mul] at this
                    omega
                  refine ⟨y, ?_, q2, q3⟩
                  rw [List.getElem?_take, if_pos hlt2, List.getElem?_drop]
                  have : cs.toList[l.d + (s0 + i2) * te.size + j2]? = some y := by simpa using q1
                  rw [← this, Nat.add_mul]
                  congr 1
                  omega) i' hi' j hj
                refine ⟨y, ?_, q2, q3⟩
                rw [← q1]
                simp only [List.getElem?_toArray]
                have hpre : cs.toList.take (l.d + s0 * te.size + n * te.size) = cs.toList.take (l.d + s0 * te.size) ++ (cs.toList.drop (l.d + s0 * te.size)).take (n * te.size) := by
                  rw [List.take_add]
                rw [hpre, List.append_assoc, List.append_assoc, List.getElem?_append_right (by simp only [List.length_take]; omega)]
                rw [← List.append_assoc, List.getElem?_append_left (by simp only [List.length_append, List.length_take, List.length_drop]; omega)]
                congr 1
                simp only [List.length_take]
                omega)
            refine ⟨_, _, _, hrun, ?_, g1, g2⟩
            simp only [Rv]
            exact .inl ⟨_, cap', by rw [← hH.len]; exact getElem?_snoc _ _, by simp, hroom, by simp only [Nat.zero_add]; omega, by simp⟩
          · obtain ⟨olds, ol, o1, o2, o3⟩ := src_cells holdc
            have hmb : (n + m) * i.bytes ≤ 140737488355328 := by rw [hby]; exact Nat.le_trans (Nat.mul_le_mul c2 c3) (by decide)
            have hrun := run_append_new (P := P) w t ty _ i z hd hi hz (some ⟨l.b, l.d + s0 * te.size, none⟩) n cap' olds (by rw [hsz]; exact ol) (fun _ => ⟨_, rfl, o1⟩) ad m cap ys (by rw [hsz]; exact hyl) hy1 (by omega) (by omega) (growslice_fits (by omega) hmb)
            have hzs : z.cells.size = te.size := by rw [hzc]; simp [c5]
            have hge := grownCap_ge' w (n + m) cap' ety
            have hkl : (σ.set o .dead).length = σ.length := by simp
            obtain ⟨ρ', g1, g2, g3⟩ := app_new hkill ety te.size (n + m) (grownCap w (n + m) cap' ety) (catE n (fun i j => elem (s0 + i) j) g) (olds ++ ys ++ (Builtin.zeroCells z.cells (grownCap w (n + m) cap' ety - (n + m))).toList)
              (by rw [List.length_append, List.length_append, ol, hyl, Array.length_toList, size_zeroCells, hzs, ← Nat.add_mul, ← Nat.add_mul]; congr 1; omega) hge (fun y hy => by
              rcases List.mem_append.1 hy with hy | hy
              · rcases List.mem_append.1 hy with hy | hy
                · exact o2 y hy
                · exact hy2 y hy
              · exact zeroCells_one hzc y hy) (fun i' hi' j hj => by
                obtain ⟨y, q1, q2, q3⟩ := hcat ρ w (Step.refl ρ w) olds ol o3 i' hi' j hj
                have hlt := (List.getElem?_eq_some_iff.1 q1).1
                exact ⟨y, by rw [List.getElem?_append_left hlt]; exact q1, q2, q3⟩)
            rw [hkl] at g3
            exact ⟨_, ρ', _, hrun, g3, g1, g2⟩
  · rename_i n esz c elem
    simp only [Option.some.injEq, Prod.mk.injEq] at h
    obtain ⟨rfl, rfl, rfl⟩ := h
    obtain ⟨c0, c1, c2, c3, c4, c5, c6, rfl⟩ := hC
    obtain ⟨a, cap, rfl, hnc, hr⟩ := src_sound hH hsrc c1 hx
    simp only [Rv] at hs
    obtain ⟨b, d, cap', cs, ety, rfl, ⟨hs1, hcc⟩, q1, q2, q3⟩ := hs
    have hcap := hcc _ rfl
    subst hcap
    obtain ⟨i, z, hi, hsz, hby, hz, hzc⟩ := hte.info
    have holdc : ∀ i', i' < n → ∀ j, j < te.size → ∃ y, w.cell? ((⟨b, d, none⟩ : Addr).add (i' * te.size + j)) = some y ∧ y.oneCell' = true ∧ Rv ρ w (elem i' j) y := by
      intro i' hi' j hj
      obtain ⟨y, hy, hy1, hv⟩ := q3 i' hi' j hj
      exact ⟨y, by rw [cell_plain q2]; exact hy, hy1, hv⟩
    obtain ⟨olds, ol, o1, o2, o3⟩ := src_cells holdc
    have hzs : z.cells.size = te.size := by rw [hzc]; simp [c5]
    have hmb : (n + m) * i.bytes ≤ 140737488355328 := by rw [hby]; exact Nat.le_trans (Nat.mul_le_mul c2 c3) (by decide)
    have h0 : 0 < m := by omega
    have hez : ez = te.size := by omega
    subst hez
    obtain ⟨ad, rfl, hr2⟩ := hr h0
    obtain ⟨ys, hyl, hy1, hy2, hy3⟩ := src_cells hr2
    have hrun := run_append_new (P := P) w t ty _ i z hd hi hz (some ⟨b, d, none⟩) n cap' olds (by rw [hsz]; exact ol) (fun _ => ⟨_, rfl, o1⟩) ad m cap ys (by rw [hsz]; exact hyl) hy1 c0 (by omega) (growslice_fits (by omega) hmb)
    have hge := grownCap_ge' w (n + m) cap' e
    obtain ⟨ρ', g1, g2, g3⟩ := app_new hH e te.size (n + m) (grownCap w (n + m) cap' e) (catE n elem g) (olds ++ ys ++ (Builtin.zeroCells z.cells (grownCap w (n + m) cap' e - (n + m))).toList)
      (by rw [List.length_append, List.length_append, ol, hyl, Array.length_toList, size_zeroCells, hzs, ← Nat.add_mul, ← Nat.add_mul]; congr 1; omega) hge (fun y hy => by
      rcases List.mem_append.1 hy with hy | hy
      · rcases List.mem_append.1 hy with hy | hy
        · exact o2 y hy
        · exact hy2 y hy
      · exact zeroCells_one hzc y hy) (fun i' hi' j hj => by
        have hcat : ∃ y, (olds ++ ys)[i' * te.size + j]? = some y ∧ y.oneCell' = true ∧ Rv ρ w (catE n elem g i' j) y := by
          unfold catE
          by_cases hin : i' < n
          · obtain ⟨y, q1, q2, q3⟩ := o3 i' hin j hj
            have hlt := (List.getElem?_eq_some_iff.1 q1).1
            refine ⟨y, by rw [List.getElem?_append_left hlt]; exact q1, q2, ?_⟩
            rw [if_pos hin]
            exact q3
          · obtain ⟨y, q1, q2, q3⟩ := hy3 (i' - n) (by omega) j hj
            have e1 : i' * te.size = n * te.size + (i' - n) * te.size := by rw [← Nat.add_mul]; congr 1; omega
            refine ⟨y, by rw [List.getElem?_append_right (by omega), ← q1]; congr 1; omega, q2, ?_⟩
            rw [if_neg hin]
            exact q3
        obtain ⟨y, q1, q2, q3⟩ := hcat
        have hlt := (List.getElem?_eq_some_iff.1 q1).1
        exact ⟨y, by rw [List.getElem?_append_left hlt]; exact q1, q2, q3⟩)
    exact ⟨_, ρ', _, hrun, g3, g1, g2⟩
  · cases h

theorem Oapp {w : World} {n esz : Nat} {b : Addr} {olds : List Value} (hl : olds.length = n * esz) (h : ∀ j v, olds[j]? = some v → w.cell? (b.add j) = some v) {cap : Nat} :
    (Builtin.firstCells esz n (.slice (some b) n cap)).run P w.drew = .ok olds.toArray w.drew := run_firstCells_some (P := P) w.drew esz n b n cap olds hl (by simpa using h)

/-- append(s, make(T, k)...) where there is no room: s itself is left as it was. -/
def eAppZ (Γ : Tab) (σ : List AObj) (t t' : TypeId) (s x : AV) : Option (AV × List AObj × Prop) :=
  match Γ.get t, Γ.get t' with
  | some ti, some ti' =>
    match ti.d, ti'.d, x with
    | .slice e, .int _, .imm (.int _ k) =>
      match Γ.get e with
      | some te =>
        match s with
        | .own o s0 n (some c) =>
          match nthO σ o with
          | .arr ety esz len elem => some (.own σ.length 0 (n + k.toNat) none, σ ++ [.arr e te.size (n + k.toNat) (catE n (fun i j => elem (s0 + i) j) (fun _ j => nth (zeroL te.zero) j))],
              0 < k ∧ c < n + k.toNat ∧ n + k.toNat ≤ 1099511627776 ∧ te.bytes ≤ 128 ∧ 0 < te.size ∧ te.zero.length = te.size ∧ esz = te.size ∧ ety = e ∧ s0 + n ≤ len)
          | _ => none
        | _ => none
      | none => none
    | _, _, _ => none
  | _, _ => none

theorem eAppZ_sound (hΓ : TabOk P Γ) {ρ : Rho} {w : World} {σ σ' : List AObj} (hH : RH ρ w σ) {t t' ty : TypeId} {s x v : AV} {C : Prop} (h : eAppZ Γ σ t t' s x = some (v, σ', C)) (hC : C) {vs vx : Value} (hs : Rv ρ w s vs) (hx : Rv ρ w x vx) :
    ∃ r ρ' w', (Builtin.append_ #[t, t'] ty #[vs, vx]).run P w = .ok r w' ∧ Rv ρ' w' v r ∧ RH ρ' w' σ' ∧ Step ρ w ρ' w' := by
  unfold eAppZ at h
  split at h
  case h_2 => cases h
  rename_i ti ti' hti hti'
  have hd := (hΓ t ti hti).desc
  have hd' := (hΓ t' ti' hti').desc
  split at h
  case h_2 => cases h
  rename_i e kn kq k hfs hfs'
  rw [hfs] at hd
  rw [hfs'] at hd'
  simp only [TD.holds] at hd hd'
  split at h
  case h_2 => cases h
  rename_i te hte
  have hte := hΓ e te hte
  split at h
  case h_2 => cases h
  rename_i o s0 n c
  split at h
  case h_2 => cases h
  rename_i ety esz len elem hob
  simp only [Option.some.injEq, Prod.mk.injEq] at h
  obtain ⟨rfl, rfl, rfl⟩ := h
  obtain ⟨k0, c0, c2, c3, c4, c5, rfl, rfl, c8⟩ := hC
  simp only [Rv] at hx hs
  subst hx
  obtain ⟨K, rfl⟩ : ∃ K : Nat, k = K := ⟨k.toNat, by omega⟩
  simp only [Int.toNat_natCast] at c0 c2 ⊢
  obtain ⟨i, z, hi, hsz, hby, hz, hzc⟩ := hte.info
  have hzs : z.cells.size = te.size := by rw [hzc]; simp [c5]
  -- the old elements
  obtain ⟨base, cap, olds, rfl, hcc, ol, o2, o3, hold⟩ : ∃ (base : Option Addr) (cap : Nat) (olds : List Value), vs = .slice base n cap ∧ cap = c ∧ olds.length = n * te.size ∧ (∀ y ∈ olds, y.oneCell' = true) ∧
      (∀ i', i' < n → ∀ j, j < te.size → ∃ y, olds[i' * te.size + j]? = some y ∧ y.oneCell' = true ∧ Rv ρ w (elem (s0 + i') j) y) ∧ (Builtin.firstCells i.size n (.slice base n cap)).run P w.drew = .ok olds.toArray w.drew := by
    rcases hs with ⟨l, cap', hl, rfl, hs1, hs2, hc'⟩ | ⟨rfl, ⟨b, rfl⟩, hc'⟩
    · rcases hH.obj o _ (nthO_eq hob rfl) with ⟨l', cs, hl', he, hh, ⟨hcs, hc1⟩, hdl, hro⟩ | ⟨hn, _⟩
      · rw [hl] at hl'
        simp only [Option.some.injEq] at hl'
        subst hl'
        have holdc : ∀ i', i' < n → ∀ j, j < te.size → ∃ y, w.cell? ((⟨l.b, l.d + s0 * l.esz, none⟩ : Addr).add (i' * te.size + j)) = some y ∧ y.oneCell' = true ∧ Rv ρ w (elem (s0 + i') j) y := by
          intro i' hi' j hj
          obtain ⟨y, hy, hy1, hv⟩ := hro (s0 + i') (by omega) j hj
          refine ⟨y, ?_, hy1, hv⟩
          rw [cell_plain hh, he, ← hy, Nat.add_mul]
          congr 1
          omega
        obtain ⟨olds, ol, o1, o2, o3⟩ := src_cells holdc
        exact ⟨_, cap', olds, rfl, hc' c rfl, ol, o2, o3, Oapp (by rw [hsz]; exact ol) o1⟩
      · rw [hl] at hn; simp at hn
    · refine ⟨b, 0, [], rfl, (hc' c rfl).symm, by simp, by simp, fun i' hi' => by omega, ?_⟩
      cases b <;> simp [Builtin.firstCells, loadCells, loadCellsFrom]
  subst hcc
  have hmb : (n + K) * i.bytes ≤ 140737488355328 := by rw [hby]; exact Nat.le_trans (Nat.mul_le_mul c2 c3) (by decide)
  have hkb : K * i.bytes ≤ 281474976710656 := Nat.le_trans (Nat.mul_le_mul_right _ (by omega : K ≤ n + K)) (by omega)
  have hrun := Go.Lib.run_append_grow_zeros (P := P) w t t' ty _ i z kq kn hd hd' hi hz base n cap olds hold K (by omega) (by omega) c0 (by omega) hkb (growslice_fits (by omega) hmb)
  have hge := grownCap_ge' w (n + K) cap ety
  obtain ⟨ρ', g1, g2, g3⟩ := app_new hH ety te.size (n + K) (grownCap w (n + K) cap ety) (catE n (fun i j => elem (s0 + i) j) (fun _ j => nth (zeroL te.zero) j)) (olds ++ (Builtin.zeroCells z.cells K).toList ++ (Builtin.zeroCells z.cells (grownCap w (n + K) cap ety - (n + K))).toList)
    (by rw [List.length_append, List.length_append, ol, Array.length_toList, size_zeroCells, Array.length_toList, size_zeroCells, hzs, ← Nat.add_mul, ← Nat.add_mul]; congr 1; omega) hge (fun y hy => by
    rcases List.mem_append.1 hy with hy | hy
    · rcases List.mem_append.1 hy with hy | hy
      · exact o2 y hy
      · exact zeroCells_one hzc y hy
    · exact zeroCells_one hzc y hy) (fun i' hi' j hj => by
      unfold catE
      by_cases hin : i' < n
      · obtain ⟨y, q1, q2, q3⟩ := o3 i' hin j hj
        have hlt := (List.getElem?_eq_some_iff.1 q1).1
        refine ⟨y, by rw [List.append_assoc, List.getElem?_append_left hlt]; exact q1, q2, ?_⟩
        rw [if_pos hin]
        exact q3
      · have e1 : i' * te.size = n * te.size + (i' - n) * te.size := by rw [← Nat.add_mul]; congr 1; omega
        have hlt : (i' - n) * te.size + j < K * te.size := by
          have := Nat.mul_le_mul_right te.size (show (i' - n) + 1 ≤ K by omega)
          rw [Nat.succ_mul] at this
          omega
        obtain ⟨y, hy, hv⟩ := RvL.get (zeroL_sound ρ w te.zero) (nth_eq (l := zeroL te.zero) (i := j) (by have := (zeroL_sound ρ w te.zero).length; simp at this; omega))
        refine ⟨y, ?_, zeroL_one te.zero y (List.mem_of_getElem? hy), ?_⟩
        · rw [List.getElem?_append_left (by rw [List.length_append, ol, Array.length_toList, size_zeroCells, hzs]; omega), List.getElem?_append_right (by omega), ol, show i' * te.size + j - n * te.size = (i' - n) * te.size + j by omega, zeroCells_get hzc c5 hlt hj]
          exact hy
        · rw [if_neg hin]; exact hv)
  refine ⟨_, ρ', _, hrun, g3, ?_, ?_⟩
  · have e : (olds.toArray ++ Builtin.zeroCells z.cells K ++ Builtin.zeroCells z.cells (grownCap w (n + K) cap ety - (n + K))) = (olds ++ (Builtin.zeroCells z.cells K).toList ++ (Builtin.zeroCells z.cells (grownCap w (n + K) cap ety - (n + K))).toList).toArray := by
      apply Array.ext'; simp
    rw [e]; exact g1
  · have e : (olds.toArray ++ Builtin.zeroCells z.cells K ++ Builtin.zeroCells z.cells (grownCap w (n + K) cap ety - (n + K))) = (olds ++ (Builtin.zeroCells z.cells K).toList ++ (Builtin.zeroCells z.cells (grownCap w (n + K) cap ety - (n + K))).toList).toArray := by
      apply Array.ext'; simp
    rw [e]; exact g2
end
end Go.Ab
