/-
  len, cap, min, max, copy; then all operations together: 'eOp', and a list of operations with guards: 'evL'.
-/
import Derived.Test.YtnomenmakhielaaAb7
namespace Go.Ab

section
variable {P : Program} {Γ : Tab}

def eLen (Γ : Tab) (σ : List AObj) (t : TypeId) (x : AV) : Option (AV × Prop) :=
  match Γ.get t with
  | some ti =>
    match ti.d with
    | .slice _ =>
      match x with
      | .own _ _ n _ => some (.imm (.int .i64 n), True)
      | .view n _ _ => some (.imm (.int .i64 n), True)
      | .pv n _ _ _ => some (.imm (.int .i64 n), True)
      | .emp => some (.imm (.int .i64 0), True)
      | .bsl _ _ _ n _ => some (.imm (.int .i64 n), True)
      | .imm (.slice none 0 0) => some (.imm (.int .i64 0), True)
      | _ => none
    | .array n _ => some (.imm (.int .i64 n), True)
    | .map _ _ =>
      match x with
      | .map o => match nthO σ o with | .mp _ es => some (.imm (.int .i64 es.length), True) | _ => none
      | _ => none
    | _ => none
  | none => none

theorem eLen_sound (hΓ : TabOk P Γ) {ρ : Rho} {w : World} {σ : List AObj} (hH : RH ρ w σ) {t ty : TypeId} {x v : AV} {C : Prop} (h : eLen Γ σ t x = some (v, C)) {vx : Value} (hx : Rv ρ w x vx) :
    ∃ r, (Builtin.len_ #[t] ty #[vx]).run P w = .ok r w ∧ Rv ρ w v r := by
  unfold eLen at h
  split at h
  case h_2 => cases h
  rename_i ti hti
  have hd := (hΓ t ti hti).desc
  split at h
  · rename_i e hfs
    rw [hfs] at hd
    simp only [TD.holds] at hd
    have run : ∀ (a : Option Addr) (n c : Nat), (Builtin.len_ #[t] ty #[.slice a n c]).run P w = .ok (.int .i64 n) w := by
      intro a n c
      simp [Builtin.len_, run_underlying hd, goInt]
    split at h <;> simp only [Option.some.injEq, Prod.mk.injEq, reduceCtorEq] at h <;> (try exact h.elim) <;> obtain ⟨rfl, rfl⟩ := h <;> simp only [Rv] at hx
    · rcases hx with ⟨l, cap, _, rfl, _⟩ | ⟨rfl, ⟨a, rfl⟩, _⟩
      · exact ⟨_, run _ _ _, by simp [Rv]⟩
      · exact ⟨_, run _ _ _, by simp [Rv]⟩
    · obtain ⟨a, cap, rfl, _⟩ := hx
      exact ⟨_, run _ _ _, by simp [Rv]⟩
    · obtain ⟨b, d, cap, c, ety, rfl, _⟩ := hx
      exact ⟨_, run _ _ _, by simp [Rv]⟩
    · obtain ⟨a, rfl⟩ := hx
      exact ⟨_, run _ _ _, by simp [Rv]⟩
    · obtain ⟨_, l, _, rfl⟩ := hx
      exact ⟨_, run _ _ _, by simp [Rv]⟩
    · subst hx
      exact ⟨_, run _ _ _, by simp [Rv]⟩
  · rename_i n e hfs
    rw [hfs] at hd
    simp only [TD.holds] at hd
    simp only [Option.some.injEq, Prod.mk.injEq] at h
    obtain ⟨rfl, rfl⟩ := h
    exact ⟨_, by simp [Builtin.len_, run_underlying hd, goInt]; rfl, by simp [Rv]⟩
  · rename_i k e hfs
    rw [hfs] at hd
    simp only [TD.holds] at hd
    split at h
    case h_2 => cases h
    rename_i o
    split at h
    case h_2 => cases h
    rename_i sh es hob
    simp only [Option.some.injEq, Prod.mk.injEq] at h
    obtain ⟨rfl, rfl⟩ := h
    simp only [Rv] at hx
    obtain ⟨l, hl, rfl⟩ := hx
    obtain ⟨l', a, clock, hl', hh, _, _, hks, _⟩ := hH.obj o _ (nthO_eq hob rfl)
    have hn : a.size = es.length := by simpa using congrArg List.length hks
    rw [hl] at hl'
    simp only [Option.some.injEq] at hl'
    subst hl'
    refine ⟨.int .i64 es.length, ?_, by simp [Rv]⟩
    have hg : (getObj l.b).run P w = .ok (.map a clock) w := by simp [getObj, Sem.run, hh]
    simp [Builtin.len_, run_underlying hd, hg, goInt, hn]
  · cases h

def eCap (Γ : Tab) (t : TypeId) (x : AV) : Option (AV × Prop) :=
  match Γ.get t with
  | some ti =>
    match ti.d with
    | .slice _ =>
      match x with
      | .own _ _ _ (some c) => some (.imm (.int .i64 c), True)
      | .pv _ _ (some c) _ => some (.imm (.int .i64 c), True)
      | .emp => some (.imm (.int .i64 0), True)
      | .bsl _ _ _ _ c => some (.imm (.int .i64 c), True)
      | .imm (.slice none 0 0) => some (.imm (.int .i64 0), True)
      | _ => none
    | _ => none
  | none => none

theorem eCap_sound (hΓ : TabOk P Γ) {ρ : Rho} {w : World} {t ty : TypeId} {x v : AV} {C : Prop} (h : eCap Γ t x = some (v, C)) {vx : Value} (hx : Rv ρ w x vx) :
    ∃ r, (Builtin.cap_ #[t] ty #[vx]).run P w = .ok r w ∧ Rv ρ w v r := by
  unfold eCap at h
  split at h
  case h_2 => cases h
  rename_i ti hti
  have hd := (hΓ t ti hti).desc
  split at h
  case h_2 => cases h
  rename_i e hfs
  rw [hfs] at hd
  simp only [TD.holds] at hd
  have run : ∀ (a : Option Addr) (n c : Nat), (Builtin.cap_ #[t] ty #[.slice a n c]).run P w = .ok (.int .i64 c) w := by
    intro a n c
    simp [Builtin.cap_, run_underlying hd, goInt]
  split at h <;> simp only [Option.some.injEq, Prod.mk.injEq, reduceCtorEq] at h <;> (try exact h.elim) <;> obtain ⟨rfl, rfl⟩ := h <;> simp only [Rv] at hx
  · rcases hx with ⟨l, cap, _, rfl, _, _, hc⟩ | ⟨rfl, ⟨a, rfl⟩, hc⟩
    · have := hc _ rfl
      subst this
      exact ⟨_, run _ _ _, by simp [Rv]⟩
    · have := hc _ rfl
      subst this
      exact ⟨_, run _ _ _, by simp [Rv]⟩
  · obtain ⟨b, d, cap, cs, ety, rfl, ⟨_, hc⟩, _⟩ := hx
    have := hc _ rfl
    subst this
    exact ⟨_, run _ _ _, by simp [Rv]⟩
  · obtain ⟨a, rfl⟩ := hx
    exact ⟨_, run _ _ _, by simp [Rv]⟩
  · obtain ⟨_, l, _, rfl⟩ := hx
    exact ⟨_, run _ _ _, by simp [Rv]⟩
  · subst hx
    exact ⟨_, run _ _ _, by simp [Rv]⟩

def eMin : AV → AV → Option (AV × Prop)
  | .imm (.int k a), .imm (.int k' b) => if kEq k k' then some (.imm (.int k (if b < a then b else a)), True) else none
  | _, _ => none
def eMax : AV → AV → Option (AV × Prop)
  | .imm (.int k a), .imm (.int k' b) => if kEq k k' then some (.imm (.int k (if b > a then b else a)), True) else none
  | _, _ => none

theorem eMin_sound {ρ : Rho} {w : World} {ts : Array TypeId} {ty : TypeId} {x y v : AV} {C : Prop} (h : eMin x y = some (v, C)) {vx vy : Value} (hx : Rv ρ w x vx) (hy : Rv ρ w y vy) :
    ∃ r, (Builtin.min_ ts ty #[vx, vy]).run P w = .ok r w ∧ Rv ρ w v r := by
  unfold eMin at h
  split at h
  case h_2 => cases h
  simp only [Rv] at hx hy
  subst hx; subst hy
  split at h
  case isFalse => cases h
  rename_i hk
  have := kEq_eq hk
  subst this
  simp only [Option.some.injEq, Prod.mk.injEq] at h
  obtain ⟨rfl, rfl⟩ := h
  exact ⟨_, by simp [Builtin.min_, Builtin.min2]; rfl, by simp [Rv]⟩

theorem eMax_sound {ρ : Rho} {w : World} {ts : Array TypeId} {ty : TypeId} {x y v : AV} {C : Prop} (h : eMax x y = some (v, C)) {vx vy : Value} (hx : Rv ρ w x vx) (hy : Rv ρ w y vy) :
    ∃ r, (Builtin.max_ ts ty #[vx, vy]).run P w = .ok r w ∧ Rv ρ w v r := by
  unfold eMax at h
  split at h
  case h_2 => cases h
  simp only [Rv] at hx hy
  subst hx; subst hy
  split at h
  case isFalse => cases h
  rename_i hk
  have := kEq_eq hk
  subst this
  simp only [Option.some.injEq, Prod.mk.injEq] at h
  obtain ⟨rfl, rfl⟩ := h
  exact ⟨_, by simp [Builtin.max_, Builtin.max2]; rfl, by simp [Rv]⟩

/-- The elements from a to b replaced. -/
def updR (elem : Nat → Nat → AV) (s k : Nat) (g : Nat → Nat → AV) : Nat → Nat → AV := fun i j => if s ≤ i ∧ i < s + k then g (i - s) j else elem i j

def rdE (g : Nat → Nat → AV) (esz : Nat) : Nat → Nat → List AV
  | _, 0 => []
  | i, k + 1 => rd (g i) 0 esz ++ rdE g esz (i + 1) k

def eCopy (Γ : Tab) (σ : List AObj) (t : TypeId) (d s : AV) : Option (AV × List AObj × Prop) :=
  match Γ.get t with
  | some ti =>
    match ti.d with
    | .slice e =>
      match Γ.get e with
      | some te =>
        match src σ s with
        | some (m, ez, g, cx) =>
          match d with
          | .own o s0 n _ =>
            match nthO σ o with
            | .arr ety esz len elem => some (.imm (.int .i64 (min m n : Nat)), σ.set o (.arr ety esz len (updR elem s0 (min m n) g)), cx ∧ esz = te.size ∧ (m = 0 ∨ ez = te.size) ∧ s0 + n ≤ len)
            | _ => none
          | .bsl o off _ n _ =>
            match nthO σ o with
            | .box ety cells => some (.imm (.int .i64 (min m n : Nat)), σ.set o (.box ety (setC cells off (rdE g te.size 0 (min m n)))), cx ∧ (m = 0 ∨ ez = te.size) ∧ off + n * te.size ≤ cells.length)
            | _ => none
          | _ => none
        | none => none
      | none => none
    | _ => none
  | none => none

theorem rdE_sound {ρ : Rho} {w : World} {g : Nat → Nat → AV} {esz : Nat} : ∀ (k i0 : Nat) (ys : List Value), ys.length = k * esz → (∀ i, i < k → ∀ j, j < esz → ∃ y, ys[i * esz + j]? = some y ∧ Rv ρ w (g (i0 + i) j) y) → RvL ρ w (rdE g esz i0 k) ys
  | 0, i0, ys, hl, _ => by
    have : ys = [] := List.eq_nil_of_length_eq_zero (by simpa using hl)
    subst this
    simp [rdE, RvL]
  | k + 1, i0, ys, hl, h => by
    simp only [rdE]
    rw [← List.take_append_drop esz ys]
    rw [Nat.succ_mul] at hl
    refine RvL.append (RvL.of_get (by simp only [rd_length, List.length_take]; omega) fun j v x hv hx => ?_) (rdE_sound k (i0 + 1) (ys.drop esz) (by simp only [List.length_drop]; omega) fun i hi j hj => ?_)
    · have hj : j < esz := by
        have := (List.getElem?_eq_some_iff.1 hv).1
        simpa [rd_length] using this
      rw [rd_get _ _ _ _ hj] at hv
      simp only [Option.some.injEq, Nat.zero_add] at hv
      subst hv
      rw [List.getElem?_take, if_pos hj] at hx
      obtain ⟨y, hy, hv⟩ := h 0 (by omega) j hj
      rw [Nat.zero_mul, Nat.zero_add, hx] at hy
      simp only [Option.some.injEq] at hy
      subst hy
      exact hv
    · obtain ⟨y, hy, hv⟩ := h (i + 1) (by omega) j hj
      refine ⟨y, ?_, by rw [show i0 + 1 + i = i0 + (i + 1) by omega]; exact hv⟩
      rw [List.getElem?_drop, ← hy]
      congr 1
      rw [Nat.succ_mul]
      omega

theorem eCopy_sound (hΓ : TabOk P Γ) {ρ : Rho} {w : World} {σ σ' : List AObj} (hH : RH ρ w σ) {t t2 ty : TypeId} {d s v : AV} {C : Prop} (h : eCopy Γ σ t d s = some (v, σ', C)) (hC : C) {vd vs : Value} (hd : Rv ρ w d vd) (hs : Rv ρ w s vs) :
    ∃ r w', (Builtin.copy_ #[t, t2] ty #[vd, vs]).run P w = .ok r w' ∧ Rv ρ w' v r ∧ RH ρ w' σ' ∧ Step ρ w ρ w' := by
  unfold eCopy at h
  split at h
  case h_2 => cases h
  rename_i ti hti
  have hdd := (hΓ t ti hti).desc
  split at h
  case h_2 => cases h
  rename_i e hfs
  rw [hfs] at hdd
  simp only [TD.holds] at hdd
  split at h
  case h_2 => cases h
  rename_i te hte
  have hte := hΓ e te hte
  split at h
  case h_2 => cases h
  rename_i m ez g cx hsrc
  have main : ∀ (n dcap : Nat) (base : Option Addr), cx → (m = 0 ∨ ez = te.size) → ∃ ys : List Value, ys.length = min m n * te.size ∧ (∀ u ∈ ys, u.oneCell' = true) ∧
      (∀ i, i < min m n → ∀ j, j < te.size → ∃ y, ys[i * te.size + j]? = some y ∧ y.oneCell' = true ∧ Rv ρ w (g i j) y) ∧
      (Builtin.copy_ #[t, t2] ty #[.slice base n dcap, vs]).run P w = ((match base with | some a => storeCells a ys | none => pure ()).run P w).andThen fun _ w' => .ok (.int .i64 (min m n : Nat)) w' := by
    intro n dcap base hcx hez
    obtain ⟨a, cap, rfl, hnc, hr⟩ := src_sound hH hsrc hcx hs
    rcases Nat.eq_zero_or_pos (min m n) with h0 | h0
    · refine ⟨[], by simp [h0], by simp, fun i hi => by omega, ?_⟩
      have hm : Nat.min m n = 0 := h0
      have hf : (Builtin.firstCells te.size 0 (.slice a m cap)).run P w = .ok #[] w := by cases a <;> simp [Builtin.firstCells, loadCells, loadCellsFrom]
      cases base <;> simp [Builtin.copy_, run_underlying hdd, Builtin.lenOf, hm, hte.sizeOf, hf, goInt]
    · have hez : ez = te.size := by omega
      subst hez
      obtain ⟨ad, rfl, hr2⟩ := hr (by omega)
      obtain ⟨ys, hl, h1, h2, h3⟩ := src_cells (n := min m n) (fun i hi j hj => hr2 i (by omega) j hj)
      refine ⟨ys, hl, h2, h3, ?_⟩
      have hf := run_firstCells_some (P := P) w te.size (min m n) ad m cap ys hl h1
      have hmm : Nat.min m n = min m n := rfl
      cases base <;> simp [Builtin.copy_, run_underlying hdd, Builtin.lenOf, hte.sizeOf, hmm, hf, goInt]
  split at h
  · rename_i o s0 n c
    split at h
    case h_2 => cases h
    rename_i ety esz len elem hob
    simp only [Option.some.injEq, Prod.mk.injEq] at h
    obtain ⟨rfl, rfl, rfl⟩ := h
    obtain ⟨c1, rfl, c3, c4⟩ := hC
    have hso := nthO_eq hob rfl
    simp only [Rv] at hd
    rcases hd with ⟨l, cap, hl, rfl, hn, hcap, _⟩ | ⟨rfl, ⟨a, rfl⟩, _⟩
    · obtain ⟨ys, y1, y2, y3, y4⟩ := main n cap (some ⟨l.b, l.d + s0 * l.esz, none⟩) c1 c3
      rcases hH.obj o _ hso with ⟨l', cs, hl', he, hh, ⟨hcs, hc1⟩, hdl, hr⟩ | ⟨hn', _⟩
      case inr => rw [hl] at hn'; simp at hn'
      rw [hl] at hl'
      simp only [Option.some.injEq] at hl'
      subst hl'
      have hcsl : cs.toList.length = cs.size := by simp
      have hk : s0 * te.size + min m n * te.size ≤ len * te.size := by rw [← Nat.add_mul]; exact Nat.mul_le_mul_right _ (by omega)
      rw [he] at y4
      have hst := run_storeCells_at P l.b (l.d + s0 * te.size) ety ys 0 cs w hh (by rw [Nat.add_zero, y1, hcs]; omega) y2
      simp only [Nat.add_zero] at hst
      have hstep := setRow_step (w := w) hl ((cs.toList.take (l.d + s0 * te.size) ++ ys ++ cs.toList.drop (l.d + s0 * te.size + ys.length)).toArray)
      refine ⟨.int .i64 (min m n : Nat), _, by rw [he, y4]; simp only [hst, Result.andThen_ok], by simp [Rv], ?_, hstep⟩
      refine RH.turn hH hso rfl hl hstep (fun b hb => setRow_other w l.b b _ (by omega)) ?_
      refine .inl ⟨l, _, hl, he, setRow_heap w l.b cs _ ety _ hh, ?_, hdl, fun i' hi' j' hj' => ?_⟩
      · exact ⟨by simp only [List.size_toArray, List.length_append, List.length_take, List.length_drop]; omega, fun y hy => by
                simp only [List.mem_append] at hy
                rcases hy with (hy | hy) | hy
                · exact hc1 y (List.mem_of_mem_take hy)
                · exact y2 y hy
                · exact hc1 y (List.mem_of_mem_drop hy)⟩
      · simp only [List.getElem?_toArray]
        have hi'b : i' * te.size + te.size ≤ len * te.size := by
          have := Nat.mul_le_mul_right te.size (Nat.succ_le_of_lt hi')
          rwa [Nat.succ_mul] at this
        by_cases hin : s0 ≤ i' ∧ i' < s0 + min m n
        · obtain ⟨y, q1, q2, q3⟩ := y3 (i' - s0) (by omega) j' hj'
          refine ⟨y, ?_, q2, ?_⟩
          · have e1 : i' * te.size = s0 * te.size + (i' - s0) * te.size := by rw [← Nat.add_mul]; congr 1; omega
            have hlt := (List.getElem?_eq_some_iff.1 q1).1
            rw [List.append_assoc, List.getElem?_append_right (by simp only [List.length_take]; omega), List.getElem?_append_left (by simp only [List.length_take]; omega), ← q1]
            congr 1
            simp only [List.length_take]
            omega
          · unfold updR
            rw [if_pos hin]
            exact Rv.mono hstep _ q3
        · obtain ⟨z, hz, hz1, hzv⟩ := hr i' hi' j' hj'
          refine ⟨z, ?_, hz1, ?_⟩
          · have hz' : cs.toList[l.d + i' * te.size + j']? = some z := by simpa using hz
            rw [← hz']
            have hne : l.d + i' * te.size + j' < l.d + s0 * te.size ∨ l.d + s0 * te.size + ys.length ≤ l.d + i' * te.size + j' := by
              by_cases hlt : i' < s0
              · have := Nat.mul_le_mul_right te.size (Nat.succ_le_of_lt hlt)
                rw [Nat.succ_mul] at this
                omega
              · have : (s0 + min m n) * te.size ≤ i' * te.size := Nat.mul_le_mul_right _ (by omega)
                rw [Nat.add_mul] at this
                omega
            rcases hne with q | q
            · rw [List.append_assoc, List.getElem?_append_left (by simp only [List.length_take]; omega), List.getElem?_take, if_pos q]
            · rw [List.getElem?_append_right (by simp only [List.length_append, List.length_take]; omega), List.getElem?_drop]
              congr 1
              simp only [List.length_append, List.length_take]
              omega
          · unfold updR
            rw [if_neg hin]
            exact Rv.mono hstep _ hzv
    · obtain ⟨ys, y1, y2, y3, y4⟩ := main 0 0 a c1 c3
      have : ys = [] := List.eq_nil_of_length_eq_zero (by rw [y1]; simp)
      subst this
      refine ⟨.int .i64 (min m 0 : Nat), w, by rw [y4]; cases a <;> simp [storeCells], by simp [Rv], ?_, Step.refl _ _⟩
      have e : updR elem s0 (min m 0) g = elem := by
        funext i j
        unfold updR
        rw [if_neg (by omega)]
      rw [e]
      have e2 : σ.set o (.arr ety te.size len elem) = σ := by
        apply List.ext_getElem?
        intro k
        rw [List.getElem?_set]
        split
        · rename_i hk; subst hk; rw [hso]; simp [(List.getElem?_eq_some_iff.1 hso).1]
        · rfl
      rw [e2]
      exact hH
  · rename_i o off esz n c
    split at h
    case h_2 => cases h
    rename_i ety cells hob
    simp only [Option.some.injEq, Prod.mk.injEq] at h
    obtain ⟨rfl, rfl, rfl⟩ := h
    obtain ⟨c1, c3, c4⟩ := hC
    have hso := nthO_eq hob rfl
    simp only [Rv] at hd
    obtain ⟨_, l, hl, rfl⟩ := hd
    obtain ⟨ys, y1, y2, y3, y4⟩ := main n c (some ⟨l.b, l.d + off, none⟩) c1 c3
    obtain ⟨l', cs, hl', h0, h1, h2, hh, h3, hr⟩ := hH.obj o _ hso
    rw [hl] at hl'
    simp only [Option.some.injEq] at hl'
    subst hl'
    have hcy := rdE_sound (ρ := ρ) (w := w) (g := g) (esz := te.size) (min m n) 0 ys y1 (fun i hi j hj => by
      obtain ⟨y, q1, _, q3⟩ := y3 i hi j hj
      exact ⟨y, q1, by rw [Nat.zero_add]; exact q3⟩)
    have hyl := hcy.length
    have hcl := hr.length
    have hmn : min m n * te.size ≤ n * te.size := Nat.mul_le_mul_right _ (Nat.min_le_right _ _)
    have hcsl : cs.toList.length = cs.size := by simp
    have hst := run_storeCells_at P l.b off ety ys 0 cs w hh (by omega) y2
    simp only [Nat.add_zero] at hst
    have hstep := setRow_step (w := w) hl ((cs.toList.take off ++ ys ++ cs.toList.drop (off + ys.length)).toArray)
    rw [h0, Nat.zero_add] at y4 ⊢
    refine ⟨.int .i64 (min m n : Nat), _, by rw [y4]; simp only [hst, Result.andThen_ok], by simp [Rv], ?_, hstep⟩
    refine RH.turn hH hso rfl hl hstep (fun b hb => setRow_other w l.b b _ (by omega)) ?_
    refine ⟨l, _, hl, h0, ?_, ?_, setRow_heap w l.b cs _ ety _ hh, ?_, ?_⟩
    · rw [h1]; simp only [setC, List.length_append, List.length_take, List.length_drop]; omega
    · rw [h2]; simp only [setC, List.length_append, List.length_take, List.length_drop]; omega
    · intro z hz
      simp only [List.mem_append] at hz
      rcases hz with (hz | hz) | hz
      · exact h3 z (List.mem_of_mem_take hz)
      · exact y2 z hz
      · exact h3 z (List.mem_of_mem_drop hz)
    · have hr' := RvL.mono hstep _ hr
      have hcy' := RvL.mono hstep _ hcy
      have e : setC cells off (rdE g te.size 0 (min m n)) = cells.take off ++ rdE g te.size 0 (min m n) ++ cells.drop (off + ys.length) := by rw [setC, hyl]
      rw [e]
      exact RvL.append (RvL.append (RvL.take off hr') hcy') (RvL.drop _ hr')
  · cases h
end
end Go.Ab
