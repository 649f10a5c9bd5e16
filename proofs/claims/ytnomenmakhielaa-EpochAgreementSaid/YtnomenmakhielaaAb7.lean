/-
  Addresses of fields and elements, parts of values, slice expressions, len and its like, copy.
-/
import Derived.Test.YtnomenmakhielaaAb6
namespace Go.Ab

section
variable {P : Program} {Γ : Tab}

def nthF : List (TypeId × Nat) → Nat → Option (TypeId × Nat)
  | [], _ => none
  | x :: _, 0 => some x
  | _ :: xs, n + 1 => nthF xs n

theorem nthF_eq : ∀ (l : List (TypeId × Nat)) (i : Nat), nthF l i = l[i]?
  | [], i => by simp [nthF]
  | x :: xs, 0 => by simp [nthF]
  | x :: xs, i + 1 => by simp [nthF, nthF_eq xs i]

def eFieldAddr (Γ : Tab) (t : TypeId) (p : AV) (f : Nat) : Option (AV × Prop) :=
  match Γ.get t with
  | some ti =>
    match ti.d with
    | .strct fs =>
      match nthF fs f with
      | some (ft, off) =>
        match Γ.get ft with
        | some tf =>
          match p with
          | .optr o i off' => some (.optr o i (off' + off), tf.size ≠ 0)
          | .rptr n cell => some (.rptr (n - off) (fun j => cell (off + j)), tf.size ≠ 0)
          | _ => none
        | none => none
      | none => none
    | _ => none
  | none => none

theorem eFieldAddr_sound (hΓ : TabOk P Γ) {ρ : Rho} {w : World} {t : TypeId} {p v : AV} {f : Nat} {C : Prop} (h : eFieldAddr Γ t p f = some (v, C)) (hC : C) {x : Value} (hx : Rv ρ w p x) :
    ∃ r, (Instr.fieldAt t x f).run P w = .ok r w ∧ Rv ρ w v r := by
  unfold eFieldAddr at h
  split at h
  case h_2 => cases h
  rename_i ti hti
  have hd := (hΓ t ti hti).desc
  split at h
  case h_2 => cases h
  rename_i fs hfs
  rw [hfs] at hd
  simp only [TD.holds] at hd
  obtain ⟨F, hu, rfl⟩ := hd
  split at h
  case h_2 => cases h
  rename_i ft off hf
  rw [nthF_eq, List.getElem?_map] at hf
  cases hF : F.toList[f]? with
  | none => simp [hF] at hf
  | some fd =>
    simp only [hF, Option.map_some, Option.some.injEq, Prod.mk.injEq] at hf
    obtain ⟨rfl, rfl⟩ := hf
    have hF' : F[f]? = some fd := by simpa using hF
    split at h
    case h_2 => cases h
    rename_i tf htf
    have htf := hΓ _ tf htf
    split at h
    · simp only [Option.some.injEq, Prod.mk.injEq] at h
      obtain ⟨rfl, rfl⟩ := h
      simp only [Rv] at hx
      obtain ⟨l, hl, rfl⟩ := hx
      refine ⟨_, by simp [Instr.fieldAt, run_underlying hu, hF', Instr.sureAddr, fieldPlace, htf.sizeOf, hC, add_lit]; rfl, ?_⟩
      simp only [Rv]
      exact ⟨l, hl, by rw [Nat.add_assoc]⟩
    · simp only [Option.some.injEq, Prod.mk.injEq] at h
      obtain ⟨rfl, rfl⟩ := h
      simp only [Rv] at hx
      obtain ⟨ad, rfl, h1, h2, h3⟩ := hx
      refine ⟨_, by simp [Instr.fieldAt, run_underlying hu, hF', Instr.sureAddr, fieldPlace, htf.sizeOf, hC]; rfl, ?_⟩
      simp only [Rv]
      refine ⟨_, rfl, by rw [add_block]; exact h1, by rw [add_block]; exact h2, fun j hj => ?_⟩
      rw [add_add]
      exact h3 _ (by omega)
    · cases h

def eIndexAddr (Γ : Tab) (σ : List AObj) (t : TypeId) (p ix : AV) : Option (AV × Prop) :=
  match ix with
  | .imm (.int _ i) =>
    match Γ.get t with
    | some ti =>
      match ti.d with
      | .slice e =>
        match Γ.get e with
        | some te =>
          match p with
          | .own o s n _ =>
            match nthO σ o with
            | .arr _ esz _ _ => some (.optr o (s + i.toNat) 0, 0 ≤ i ∧ i < n ∧ esz = te.size)
            | _ => none
          | .view n esz elem => some (.rptr esz (fun j => elem i.toNat j), 0 ≤ i ∧ i < n ∧ esz = te.size)
          | .pv n esz _ elem => some (.rptr esz (fun j => elem i.toNat j), 0 ≤ i ∧ i < n ∧ esz = te.size)
          | .bsl o off _ n _ => some (.optr o 0 (off + i.toNat * te.size), 0 ≤ i ∧ i < n)
          | _ => none
        | none => none
      | .array len e =>
        match Γ.get e with
        | some te =>
          match p with
          | .optr o k off => some (.optr o k (off + i.toNat * te.size), 0 ≤ i ∧ i < len)
          | .rptr n cell => some (.rptr te.size (fun j => cell (i.toNat * te.size + j)), 0 ≤ i ∧ i < len ∧ len * te.size ≤ n)
          | _ => none
        | none => none
      | _ => none
    | none => none
  | _ => none

theorem eIndexAddr_sound (hΓ : TabOk P Γ) {ρ : Rho} {w : World} {σ : List AObj} (hH : RH ρ w σ) {t : TypeId} {p ix v : AV} {C : Prop} (h : eIndexAddr Γ σ t p ix = some (v, C)) (hC : C) {x y : Value} (hx : Rv ρ w p x) (hy : Rv ρ w ix y) :
    ∃ r, (Instr.indexAt t x y).run P w = .ok r w ∧ Rv ρ w v r := by
  unfold eIndexAddr at h
  split at h
  case h_2 => cases h
  rename_i k i
  simp only [Rv] at hy
  subst hy
  split at h
  case h_2 => cases h
  rename_i ti hti
  have hd := (hΓ t ti hti).desc
  split at h
  · rename_i e hfs
    rw [hfs] at hd
    simp only [TD.holds] at hd
    split at h
    case h_2 => cases h
    rename_i te hte
    have hte := hΓ e te hte
    have run : ∀ (ad : Addr) (n c : Nat), 0 ≤ i → i < n → (Instr.indexAt t (.slice (some ad) n c) (.int k i)).run P w = .ok (.pointer (some (ad.add (i.toNat * te.size)))) w := by
      intro ad n c h0 h1
      simp [Instr.indexAt, asIntOf, run_underlying hd, h0, h1, hte.sizeOf]
    split at h
    · rename_i o s n c
      simp only [Rv] at hx
      split at h
      case h_2 => cases h
      rename_i ety esz len elem hob
      simp only [Option.some.injEq, Prod.mk.injEq] at h
      obtain ⟨rfl, rfl⟩ := h
      obtain ⟨h0, h1, h2⟩ := hC
      rcases hx with ⟨l, cap, hl, rfl, hn, _, _⟩ | ⟨h3, _⟩
      · refine ⟨_, run _ _ _ h0 h1, ?_⟩
        rcases hH.obj o _ (nthO_eq hob rfl) with ⟨l', cs, hl', he, _⟩ | ⟨hn', _⟩
        · rw [hl] at hl'
          simp only [Option.some.injEq] at hl'
          subst hl'
          simp only [Rv]
          exact ⟨l, hl, by rw [add_lit, he, ← h2, Nat.add_mul]; congr 3; omega⟩
        · rw [hl] at hn'; simp at hn'
      · omega
    · simp only [Option.some.injEq, Prod.mk.injEq] at h
      obtain ⟨rfl, rfl⟩ := h
      obtain ⟨h0, h1, h2⟩ := hC
      simp only [Rv] at hx
      obtain ⟨a, cap, rfl, hn, hr⟩ := hx
      obtain ⟨ad, rfl, q1, q2, q3⟩ := hr (by omega)
      refine ⟨_, run _ _ _ h0 h1, ?_⟩
      simp only [Rv]
      refine ⟨_, rfl, by rw [add_block]; exact q1, by rw [add_block]; exact q2, fun j hj => ?_⟩
      rw [add_add, ← h2]
      exact q3 _ (by omega) j hj
    · simp only [Option.some.injEq, Prod.mk.injEq] at h
      obtain ⟨rfl, rfl⟩ := h
      obtain ⟨h0, h1, h2⟩ := hC
      have hx := pv_view hx
      simp only [Rv] at hx
      obtain ⟨a, cap, rfl, hn, hr⟩ := hx
      obtain ⟨ad, rfl, q1, q2, q3⟩ := hr (by omega)
      refine ⟨_, run _ _ _ h0 h1, ?_⟩
      simp only [Rv]
      refine ⟨_, rfl, by rw [add_block]; exact q1, by rw [add_block]; exact q2, fun j hj => ?_⟩
      rw [add_add, ← h2]
      exact q3 _ (by omega) j hj
    · simp only [Option.some.injEq, Prod.mk.injEq] at h
      obtain ⟨rfl, rfl⟩ := h
      obtain ⟨h0, h1⟩ := hC
      simp only [Rv] at hx
      obtain ⟨_, l, hl, rfl⟩ := hx
      refine ⟨_, run _ _ _ h0 h1, ?_⟩
      simp only [Rv]
      exact ⟨l, hl, by rw [add_lit]; congr 3; omega⟩
    · cases h
  · rename_i len e hfs
    rw [hfs] at hd
    simp only [TD.holds] at hd
    split at h
    case h_2 => cases h
    rename_i te hte
    have hte := hΓ e te hte
    have run : ∀ (ad : Addr), 0 ≤ i → i < len → (Instr.indexAt t (.pointer (some ad)) (.int k i)).run P w = .ok (.pointer (some (ad.add (i.toNat * te.size)))) w := by
      intro ad h0 h1
      simp [Instr.indexAt, asIntOf, run_underlying hd, h0, h1, hte.sizeOf, Instr.sureAddr]
    split at h
    · simp only [Option.some.injEq, Prod.mk.injEq] at h
      obtain ⟨rfl, rfl⟩ := h
      obtain ⟨h0, h1⟩ := hC
      simp only [Rv] at hx
      obtain ⟨l, hl, rfl⟩ := hx
      refine ⟨_, run _ h0 h1, ?_⟩
      simp only [Rv]
      exact ⟨l, hl, by rw [add_lit]; congr 3; omega⟩
    · simp only [Option.some.injEq, Prod.mk.injEq] at h
      obtain ⟨rfl, rfl⟩ := h
      obtain ⟨h0, h1, h2⟩ := hC
      simp only [Rv] at hx
      obtain ⟨ad, rfl, q1, q2, q3⟩ := hx
      refine ⟨_, run _ h0 h1, ?_⟩
      simp only [Rv]
      refine ⟨_, rfl, by rw [add_block]; exact q1, by rw [add_block]; exact q2, fun j hj => ?_⟩
      rw [add_add]
      have hlt : i.toNat * te.size + j < len * te.size := by
        have := Nat.mul_le_mul_right te.size (Nat.succ_le_of_lt (show i.toNat < len by omega))
        rw [Nat.succ_mul] at this
        omega
      exact q3 _ (by omega)
    · cases h
  · cases h

def takeL (xs : List AV) (off n : Nat) : List AV := (xs.drop off).take n

/-- A part of an agg. -/
def ePart (Γ : Tab) (t : TypeId) (xs : List AV) (off : Nat) : Option (AV × Prop) :=
  match Γ.get t with
  | some ti => if ti.d.isAgg then some (.agg (takeL xs off ti.size), off + ti.size ≤ xs.length) else some (nth xs off, off < xs.length)
  | none => none

theorem ePart_sound (hΓ : TabOk P Γ) {ρ : Rho} {w : World} {t : TypeId} {xs : List AV} {off : Nat} {v : AV} {C : Prop} (h : ePart Γ t xs off = some (v, C)) (hC : C) {cs : List Value} (hx : RvL ρ w xs cs) :
    ∃ r, (part t cs.toArray off).run P w = .ok r w ∧ Rv ρ w v r := by
  unfold ePart at h
  split at h
  case h_2 => cases h
  rename_i ti hti
  have hti := hΓ t ti hti
  split at h
  · rename_i hag
    simp only [Option.some.injEq, Prod.mk.injEq] at h
    obtain ⟨rfl, rfl⟩ := h
    refine ⟨.agg ((cs.drop off).take ti.size).toArray, ?_, ?_⟩
    · simp only [part, Sem.run_bind, hti.isAgg, hag, Result.andThen_ok, if_true, hti.sizeOf, Sem.run_pure]
      congr 2
      apply Array.ext'
      simp [List.extract_eq_take_drop]
    · simp only [Rv]
      exact ⟨_, rfl, RvL.take _ (RvL.drop _ hx)⟩
  · rename_i hag
    simp only [Option.some.injEq, Prod.mk.injEq] at h
    obtain ⟨rfl, rfl⟩ := h
    obtain ⟨y, hy, hv⟩ := RvL.get hx (nth_eq hC)
    refine ⟨y, ?_, hv⟩
    simp [part, hti.isAgg, hag, hy]

def eField (Γ : Tab) (t : TypeId) (x : AV) (f : Nat) : Option (AV × Prop) :=
  match x with
  | .agg xs =>
    match Γ.get t with
    | some ti =>
      match ti.d with
      | .strct fs => match nthF fs f with | some (ft, off) => ePart Γ ft xs off | none => none
      | _ => none
    | none => none
  | _ => none

theorem eField_sound (hΓ : TabOk P Γ) {ρ : Rho} {w : World} {t : TypeId} {x v : AV} {f : Nat} {C : Prop} (h : eField Γ t x f = some (v, C)) (hC : C) {vx : Value} (hx : Rv ρ w x vx) :
    ∃ r, (Instr.field t vx f).run P w = .ok r w ∧ Rv ρ w v r := by
  unfold eField at h
  split at h
  case h_2 => cases h
  rename_i xs
  simp only [Rv] at hx
  obtain ⟨cs, rfl, hcs⟩ := hx
  split at h
  case h_2 => cases h
  rename_i ti hti
  have hd := (hΓ t ti hti).desc
  split at h
  case h_2 => cases h
  rename_i fs hfs
  rw [hfs] at hd
  simp only [TD.holds] at hd
  obtain ⟨F, hu, rfl⟩ := hd
  split at h
  case h_2 => cases h
  rename_i ft off hf
  rw [nthF_eq, List.getElem?_map] at hf
  cases hF : F.toList[f]? with
  | none => simp [hF] at hf
  | some fd =>
    simp only [hF, Option.map_some, Option.some.injEq, Prod.mk.injEq] at hf
    obtain ⟨rfl, rfl⟩ := hf
    have hF' : F[f]? = some fd := by simpa using hF
    obtain ⟨r, hr, hv⟩ := ePart_sound hΓ h hC hcs
    exact ⟨r, by simp [Instr.field, run_underlying hu, hF', asAgg, hr], hv⟩

def eIndex (Γ : Tab) (t : TypeId) (x ix : AV) : Option (AV × Prop) :=
  match x, ix with
  | .agg xs, .imm (.int _ i) =>
    match Γ.get t with
    | some ti =>
      match ti.d with
      | .array len e =>
        match Γ.get e with
        | some te => match ePart Γ e xs (i.toNat * te.size) with | some (v, c) => some (v, 0 ≤ i ∧ i < len ∧ c) | none => none
        | none => none
      | _ => none
    | none => none
  | _, _ => none

theorem eIndex_sound (hΓ : TabOk P Γ) {ρ : Rho} {w : World} {t : TypeId} {x ix v : AV} {C : Prop} (h : eIndex Γ t x ix = some (v, C)) (hC : C) {vx vi : Value} (hx : Rv ρ w x vx) (hi : Rv ρ w ix vi) :
    ∃ r, (Instr.index t vx vi).run P w = .ok r w ∧ Rv ρ w v r := by
  unfold eIndex at h
  split at h
  case h_2 => cases h
  rename_i xs k i
  simp only [Rv] at hx hi
  subst hi
  obtain ⟨cs, rfl, hcs⟩ := hx
  split at h
  case h_2 => cases h
  rename_i ti hti
  have hd := (hΓ t ti hti).desc
  split at h
  case h_2 => cases h
  rename_i len e hfs
  rw [hfs] at hd
  simp only [TD.holds] at hd
  split at h
  case h_2 => cases h
  rename_i te hte
  split at h
  case h_2 => cases h
  rename_i v' c hp
  simp only [Option.some.injEq, Prod.mk.injEq] at h
  obtain ⟨rfl, rfl⟩ := h
  obtain ⟨h0, h1, hc⟩ := hC
  obtain ⟨r, hr, hv⟩ := ePart_sound hΓ hp hc hcs
  exact ⟨r, by simp [Instr.index, asIntOf, run_underlying hd, h0, h1, (hΓ e te hte).sizeOf, hr], hv⟩

def eExtract (x : AV) (i : Nat) : Option (AV × Prop) :=
  match x with
  | .tup xs => some (nth xs i, i < xs.length)
  | _ => none

theorem eExtract_sound {ρ : Rho} {w : World} {x v : AV} {i : Nat} {C : Prop} (h : eExtract x i = some (v, C)) (hC : C) {vx : Value} (hx : Rv ρ w x vx) : ∃ r, (Instr.extract vx i).run P w = .ok r w ∧ Rv ρ w v r := by
  unfold eExtract at h
  split at h
  case h_2 => cases h
  simp only [Option.some.injEq, Prod.mk.injEq] at h
  obtain ⟨rfl, rfl⟩ := h
  simp only [Rv] at hx
  obtain ⟨cs, rfl, hcs⟩ := hx
  obtain ⟨y, hy, hv⟩ := RvL.get hcs (nth_eq hC)
  exact ⟨y, by simp [Instr.extract, hy], hv⟩

def eNilCheck (x : AV) : Option (AV × Prop) :=
  match x with
  | .optr o i off => some (.optr o i off, True)
  | .rptr n c => some (.rptr n c, True)
  | .fn (.func f) a b => some (.fn (.func f) a b, True)
  | _ => none

/-- A bound of a slice expression. -/
def bnd : Option AV → Option (Option Int)
  | none => some none
  | some (.imm (.int _ n)) => some (some n)
  | _ => none

def RvO (ρ : Rho) (w : World) : Option AV → Option Value → Prop
  | none, none => True
  | some a, some x => Rv ρ w a x
  | _, _ => False

theorem bnd_sound {ρ : Rho} {w : World} {a : Option AV} {x : Option Value} {b : Option Int} (h : bnd a = some b) (hx : RvO ρ w a x) : (b = none ∧ x = none) ∨ ∃ k n, b = some n ∧ x = some (.int k n) := by
  unfold bnd at h
  split at h
  · simp only [Option.some.injEq] at h
    subst h
    cases x
    · exact .inl ⟨rfl, rfl⟩
    · simp [RvO] at hx
  · rename_i k n
    simp only [Option.some.injEq] at h
    subst h
    cases x
    · simp [RvO] at hx
    · simp only [RvO, Rv] at hx
      subst hx
      exact .inr ⟨k, n, rfl, rfl⟩
  · cases h

def loOf : Option Int → Int
  | none => 0
  | some n => n
def hiOf (d : Nat) : Option Int → Int
  | none => d
  | some n => n

def capLe (c : Option Nat) (n : Nat) (h : Int) : Prop :=
  match c with
  | some cap => h ≤ cap
  | none => h ≤ n

def eSlice (Γ : Tab) (σ : List AObj) (t : TypeId) (x : AV) (lo hi mx : Option AV) : Option (AV × Prop) :=
  match bnd lo, bnd hi, bnd mx with
  | some lo, some hi, some (some m) =>
    match Γ.get t with
    | some ti =>
      match ti.d with
      | .slice e =>
        match Γ.get e with
        | some _ =>
          match x with
          | .own _ _ _ _ | .view _ _ _ | .imm (.slice none 0 0) => some (.emp, loOf lo = 0 ∧ hi = some 0 ∧ m = 0)
          | _ => none
        | none => none
      | _ => none
    | none => none
  | some lo, some hi, some none =>
    match Γ.get t with
    | some ti =>
      match ti.d with
      | .slice e =>
        match Γ.get e with
        | some te =>
          match x with
          | .own o s n c =>
            match nthO σ o with
            | .arr _ esz _ _ => some (.own o (s + (loOf lo).toNat) ((hiOf n hi).toNat - (loOf lo).toNat) (match c with | some c => some (c - (loOf lo).toNat) | none => none),
                esz = te.size ∧ 0 ≤ loOf lo ∧ loOf lo ≤ hiOf n hi ∧ capLe c n (hiOf n hi))
            | _ => none
          | .view n esz elem => some (.view ((hiOf n hi).toNat - (loOf lo).toNat) esz (fun i j => elem ((loOf lo).toNat + i) j), esz = te.size ∧ 0 ≤ loOf lo ∧ loOf lo ≤ hiOf n hi ∧ hiOf n hi ≤ n)
          | .pv n esz c elem => some (.pv ((hiOf n hi).toNat - (loOf lo).toNat) esz (match c with | some c => some (c - (loOf lo).toNat) | none => none) (fun i j => elem ((loOf lo).toNat + i) j), esz = te.size ∧ 0 ≤ loOf lo ∧ loOf lo ≤ hiOf n hi ∧ hiOf n hi ≤ n)
          | .emp => some (.emp, loOf lo = 0 ∧ hiOf 0 hi = 0)
          | .imm (.slice none 0 0) => some (.imm (.slice none 0 0), loOf lo = 0 ∧ hiOf 0 hi = 0)
          | .bsl o off esz n c => some (.bsl o (off + (loOf lo).toNat * te.size) esz ((hiOf n hi).toNat - (loOf lo).toNat) (c - (loOf lo).toNat), 0 ≤ loOf lo ∧ loOf lo ≤ hiOf n hi ∧ hiOf n hi ≤ c ∧ loOf lo < c)
          | _ => none
        | none => none
      | .array len e =>
        match Γ.get e with
        | some te =>
          match x with
          | .optr o i off => some (.bsl o (off + (loOf lo).toNat * te.size) te.size ((hiOf len hi).toNat - (loOf lo).toNat) (len - (loOf lo).toNat), i = 0 ∧ 0 ≤ loOf lo ∧ loOf lo ≤ hiOf len hi ∧ hiOf len hi ≤ len ∧ loOf lo < len)
          | .rptr n cell => some (.view ((hiOf len hi).toNat - (loOf lo).toNat) te.size (fun i j => cell (((loOf lo).toNat + i) * te.size + j)), 0 ≤ loOf lo ∧ loOf lo ≤ hiOf len hi ∧ hiOf len hi ≤ len ∧ len * te.size ≤ n)
          | _ => none
        | none => none
      | _ => none
    | none => none
  | _, _, _ => none

theorem run_bounds {w : World} {ρ : Rho} (isSlice : Bool) (n cap : Nat) {lo hi : Option AV} {l h : Option Int} {vl vh : Option Value} (h1 : bnd lo = some l) (h2 : bnd hi = some h) (r1 : RvO ρ w lo vl) (r2 : RvO ρ w hi vh)
    (q1 : 0 ≤ loOf l) (q2 : loOf l ≤ hiOf n h) (q3 : hiOf n h ≤ cap) : (Instr.sliceBounds isSlice n cap vl vh none).run P w = .ok ((loOf l).toNat, (hiOf n h).toNat, cap) w := by
  rcases bnd_sound h1 r1 with ⟨rfl, rfl⟩ | ⟨k, a, rfl, rfl⟩ <;> rcases bnd_sound h2 r2 with ⟨rfl, rfl⟩ | ⟨k2, b, rfl, rfl⟩ <;> simp only [loOf, hiOf] at q1 q2 q3 ⊢
  · simp [Instr.sliceBounds]
  · have e0 : 0 ≤ b := by omega
    simp [Instr.sliceBounds, run_sliceBound (P := P) w k2 b cap _ e0 q3]
  · simp [Instr.sliceBounds, run_sliceBound (P := P) w k a n _ q1 q2]
  · have e0 : 0 ≤ b := by omega
    have e1 : a ≤ (b.toNat : Int) := by omega
    simp [Instr.sliceBounds, run_sliceBound (P := P) w k2 b cap _ e0 q3, run_sliceBound (P := P) w k a b.toNat _ q1 e1]

theorem eSlice_sound (hΓ : TabOk P Γ) {ρ : Rho} {w : World} {σ : List AObj} (hH : RH ρ w σ) {t : TypeId} {x v : AV} {lo hi mx : Option AV} {C : Prop} (h : eSlice Γ σ t x lo hi mx = some (v, C)) (hC : C)
    {vx : Value} {vl vh vm : Option Value} (hx : Rv ρ w x vx) (r1 : RvO ρ w lo vl) (r2 : RvO ρ w hi vh) (r3 : RvO ρ w mx vm) :
    ∃ r, (Instr.sliceAt t vx vl vh vm).run P w = .ok r w ∧ Rv ρ w v r := by
  unfold eSlice at h
  split at h
  · -- the full form: s[:0:0]
    rename_i l hb m hl hh hm
    rcases bnd_sound hm r3 with ⟨h0, _⟩ | ⟨k3, m', hm1, rfl⟩
    · cases h0
    · simp only [Option.some.injEq] at hm1
      subst hm1
      split at h
      case h_2 => cases h
      rename_i ti hti
      have hd := (hΓ t ti hti).desc
      split at h
      case h_2 => cases h
      rename_i e hfs
      rw [hfs] at hd
      simp only [TD.holds] at hd
      split at h
      case h_2 => cases h
      rename_i te hte
      have hte := hΓ e te hte
      have key : ∀ (a : Option Addr) (n cap : Nat), loOf l = 0 ∧ hb = some 0 ∧ m = 0 → (Instr.sliceAt t (.slice a n cap) vl vh (some (.int k3 m))).run P w = .ok (.slice a 0 0) w := by
        intro a n cap ⟨q1, q2, q3⟩
        subst q2; subst q3
        rcases bnd_sound hh r2 with ⟨h0, _⟩ | ⟨k2, b, hb1, rfl⟩
        · cases h0
        · simp only [Option.some.injEq] at hb1
          subst hb1
          rcases bnd_sound hl r1 with ⟨rfl, rfl⟩ | ⟨k1, a1, rfl, rfl⟩
          · simp [Instr.sliceAt, run_underlying hd, Instr.slice, Instr.sliceBounds, Instr.sliceBound, asIntOf, hte.sizeOf]
          · simp only [loOf] at q1
            subst q1
            simp [Instr.sliceAt, run_underlying hd, Instr.slice, Instr.sliceBounds, Instr.sliceBound, asIntOf, hte.sizeOf]
      have fin : ∀ a : Option Addr, Rv ρ w .emp (.slice a 0 0) := fun a => by simp only [Rv]; exact ⟨a, rfl⟩
      split at h
      · simp only [Option.some.injEq, Prod.mk.injEq] at h
        obtain ⟨rfl, rfl⟩ := h
        simp only [Rv] at hx
        rcases hx with ⟨l', cap, _, rfl, _⟩ | ⟨_, ⟨a, rfl⟩, _⟩
        · exact ⟨_, key _ _ _ hC, fin _⟩
        · exact ⟨_, key _ _ _ hC, fin _⟩
      · simp only [Option.some.injEq, Prod.mk.injEq] at h
        obtain ⟨rfl, rfl⟩ := h
        simp only [Rv] at hx
        obtain ⟨a, cap, rfl, _⟩ := hx
        exact ⟨_, key _ _ _ hC, fin _⟩
      · simp only [Option.some.injEq, Prod.mk.injEq] at h
        obtain ⟨rfl, rfl⟩ := h
        simp only [Rv] at hx
        subst hx
        exact ⟨_, key _ _ _ hC, fin _⟩
      · cases h
  · rename_i l hb hl hh hm
    rcases bnd_sound hm r3 with ⟨_, rfl⟩ | ⟨k3, m', hm1, _⟩
    case inr => cases hm1
    split at h
    case h_2 => cases h
    rename_i ti hti
    have hd := (hΓ t ti hti).desc
    split at h
    · rename_i e hfs
      rw [hfs] at hd
      simp only [TD.holds] at hd
      split at h
      case h_2 => cases h
      rename_i te hte
      have hte := hΓ e te hte
      have key : ∀ (a : Option Addr) (n cap : Nat), 0 ≤ loOf l → loOf l ≤ hiOf n hb → hiOf n hb ≤ cap → (Instr.sliceAt t (.slice a n cap) vl vh none).run P w =
          .ok (.slice (if cap = (loOf l).toNat then a else a.map (·.add ((loOf l).toNat * te.size))) ((hiOf n hb).toNat - (loOf l).toNat) (cap - (loOf l).toNat)) w := by
        intro a n cap q1 q2 q3
        have hbd := run_bounds (P := P) true n cap hl hh r1 r2 q1 q2 q3
        simp only [Instr.sliceAt, Sem.run_bind, run_underlying hd, Result.andThen_ok, Instr.slice, hbd, hte.sizeOf, Sem.run_pure]
      split at h
      · rename_i o s n c
        split at h
        case h_2 => cases h
        rename_i ety esz len elem hob
        simp only [Option.some.injEq, Prod.mk.injEq] at h
        obtain ⟨rfl, rfl⟩ := h
        obtain ⟨c1, c2, c3, c4⟩ := hC
        simp only [Rv] at hx
        rcases hx with ⟨l', cap, hl', rfl, hn, hcap, hcc⟩ | ⟨rfl, ⟨a, rfl⟩, hcc⟩
        · have hle : hiOf n hb ≤ cap := by
            cases c with
            | none => simp only [capLe] at c4; omega
            | some c => simp only [capLe] at c4; have := hcc c rfl; omega
          refine ⟨_, key _ _ _ c2 c3 hle, ?_⟩
          have hesz : l'.esz = te.size := by
            rcases hH.obj o _ (nthO_eq hob rfl) with ⟨l2, cs, hl2, he, _⟩ | ⟨hn', _⟩
            · rw [hl'] at hl2
              simp only [Option.some.injEq] at hl2
              subst hl2
              exact he.trans c1
            · rw [hl'] at hn'; simp at hn'
          simp only [Rv]
          by_cases hcl : cap = (loOf l).toNat
          · rw [if_pos hcl]
            refine .inr ⟨by omega, ⟨_, by rw [show (hiOf n hb).toNat - (loOf l).toNat = 0 by omega, show cap - (loOf l).toNat = 0 by omega]⟩, fun c' hc' => ?_⟩
            cases c with
            | none => cases hc'
            | some c => simp only [Option.some.injEq] at hc'; have := hcc c rfl; omega
          · rw [if_neg hcl]
            refine .inl ⟨l', cap - (loOf l).toNat, hl', by simp only [Option.map_some, add_lit, hesz, Nat.add_mul, Nat.add_assoc], by omega, ?_, fun c' hc' => ?_⟩
            · have : s + (loOf l).toNat + (cap - (loOf l).toNat) = s + cap := by omega
              rw [this]; exact hcap
            · cases c with
              | none => cases hc'
              | some c => simp only [Option.some.injEq] at hc'; have := hcc c rfl; omega
        · have hle : hiOf 0 hb ≤ (0 : Nat) := by
            cases c with
            | none => simp only [capLe] at c4; omega
            | some c => simp only [capLe] at c4; have := hcc c rfl; omega
          refine ⟨_, key _ _ _ c2 c3 hle, ?_⟩
          simp only [Rv]
          refine .inr ⟨by omega, ⟨if (0 : Nat) = (loOf l).toNat then a else a.map (·.add ((loOf l).toNat * te.size)), by rw [show (hiOf 0 hb).toNat - (loOf l).toNat = 0 by omega, show 0 - (loOf l).toNat = 0 by omega]⟩, fun c' hc' => ?_⟩
          cases c with
          | none => cases hc'
          | some c => simp only [Option.some.injEq] at hc'; have := hcc c rfl; omega
      · rename_i n esz elem
        simp only [Option.some.injEq, Prod.mk.injEq] at h
        obtain ⟨rfl, rfl⟩ := h
        obtain ⟨c1, c2, c3, c4⟩ := hC
        simp only [Rv] at hx
        obtain ⟨a, cap, rfl, hn, hr⟩ := hx
        refine ⟨_, key _ _ _ c2 c3 (by omega), ?_⟩
        simp only [Rv]
        refine ⟨_, _, rfl, by omega, fun hpos => ?_⟩
        have hlen : 0 < n := by clear hr; omega
        have hcl : ¬ cap = (loOf l).toNat := by clear hr; omega
        obtain ⟨ad, rfl, q1, q2, q3⟩ := hr hlen
        clear hr
        rw [if_neg hcl]
        refine ⟨_, rfl, by rw [add_block]; exact q1, by rw [add_block]; exact q2, fun i hi j hj => ?_⟩
        rw [add_add, ← c1, show (loOf l).toNat * esz + (i * esz + j) = ((loOf l).toNat + i) * esz + j by rw [Nat.add_mul]; omega]
        exact q3 _ (by omega) j hj
      · rename_i n esz c elem
        simp only [Option.some.injEq, Prod.mk.injEq] at h
        obtain ⟨rfl, rfl⟩ := h
        obtain ⟨c1, c2, c3, c4⟩ := hC
        simp only [Rv] at hx
        obtain ⟨b, d, cap, cs, ety, rfl, ⟨hn, hcc⟩, q1, q2, q3⟩ := hx
        refine ⟨_, key _ _ _ c2 c3 (by omega), ?_⟩
        have hcq : ∀ c', (match c with | some c => some (c - (loOf l).toNat) | none => none) = some c' → cap - (loOf l).toNat = c' := by
          intro c' hc'
          cases c with
          | none => cases hc'
          | some c => simp only [Option.some.injEq] at hc'; have := hcc c rfl; omega
        simp only [Rv]
        by_cases hcl : cap = (loOf l).toNat
        · rw [if_pos hcl]
          exact ⟨b, d, _, cs, ety, rfl, ⟨by omega, hcq⟩, q1, q2, fun i hi => by omega⟩
        · rw [if_neg hcl]
          refine ⟨b, d + (loOf l).toNat * te.size, _, cs, ety, by simp only [Option.map_some, add_lit], ⟨by omega, hcq⟩, q1, q2, fun i hi j hj => ?_⟩
          have := q3 ((loOf l).toNat + i) (by omega) j hj
          rw [Nat.add_mul] at this
          rw [← c1, show d + (loOf l).toNat * esz + (i * esz + j) = d + ((loOf l).toNat * esz + i * esz + j) by omega]
          exact this
      · simp only [Option.some.injEq, Prod.mk.injEq] at h
        obtain ⟨rfl, rfl⟩ := h
        simp only [Rv] at hx
        obtain ⟨a, rfl⟩ := hx
        have e1 := hC.1
        have e2 := hC.2
        have hk := key a 0 0 (by omega) (by omega) (by omega)
        refine ⟨_, hk, ?_⟩
        simp [Rv, e1, e2]
      · simp only [Option.some.injEq, Prod.mk.injEq] at h
        obtain ⟨rfl, rfl⟩ := h
        simp only [Rv] at hx
        subst hx
        have e1 := hC.1
        have e2 := hC.2
        have hk := key none 0 0 (by omega) (by omega) (by omega)
        refine ⟨_, hk, ?_⟩
        simp [Rv, e1, e2]
      · rename_i o off esz n c
        simp only [Option.some.injEq, Prod.mk.injEq] at h
        obtain ⟨rfl, rfl⟩ := h
        obtain ⟨c2, c3, c4, c5⟩ := hC
        simp only [Rv] at hx
        obtain ⟨hnc, l', hl', rfl⟩ := hx
        refine ⟨_, key _ _ _ c2 c3 c4, ?_⟩
        rw [if_neg (by omega)]
        simp only [Rv]
        exact ⟨by omega, l', hl', by simp only [Option.map_some, add_lit, Nat.add_assoc]⟩
      · cases h
    · rename_i len e hfs
      rw [hfs] at hd
      simp only [TD.holds] at hd
      split at h
      case h_2 => cases h
      rename_i te hte
      have hte := hΓ e te hte
      have key : ∀ (a : Addr), 0 ≤ loOf l → loOf l ≤ hiOf len hb → hiOf len hb ≤ len → (Instr.sliceAt t (.pointer (some a)) vl vh none).run P w =
          .ok (.slice (some (if len = (loOf l).toNat then a else a.add ((loOf l).toNat * te.size))) ((hiOf len hb).toNat - (loOf l).toNat) (len - (loOf l).toNat)) w := by
        intro a q1 q2 q3
        have hbd := run_bounds (P := P) false len len hl hh r1 r2 q1 q2 q3
        simp only [Instr.sliceAt, Sem.run_bind, run_underlying hd, Result.andThen_ok, Instr.sureAddr, hbd, hte.sizeOf, Sem.run_pure]
      split at h
      · rename_i o i off
        simp only [Option.some.injEq, Prod.mk.injEq] at h
        obtain ⟨rfl, rfl⟩ := h
        obtain ⟨rfl, c2, c3, c4, c5⟩ := hC
        simp only [Rv] at hx
        obtain ⟨l', hl', rfl⟩ := hx
        refine ⟨_, key _ c2 c3 c4, ?_⟩
        rw [if_neg (by omega)]
        simp only [Rv]
        exact ⟨by omega, l', hl', by simp only [add_lit, Nat.zero_mul, Nat.add_zero, Nat.add_assoc]⟩
      · rename_i n cell
        simp only [Option.some.injEq, Prod.mk.injEq] at h
        obtain ⟨rfl, rfl⟩ := h
        obtain ⟨c2, c3, c4, c5⟩ := hC
        simp only [Rv] at hx
        obtain ⟨ad, rfl, q1, q2, q3⟩ := hx
        refine ⟨_, key _ c2 c3 c4, ?_⟩
        simp only [Rv]
        refine ⟨_, _, rfl, by omega, fun hpos => ?_⟩
        rw [if_neg (by omega)]
        refine ⟨_, rfl, by rw [add_block]; exact q1, by rw [add_block]; exact q2, fun i hi j hj => ?_⟩
        rw [add_add, show (loOf l).toNat * te.size + (i * te.size + j) = ((loOf l).toNat + i) * te.size + j by rw [Nat.add_mul]; omega]
        have hlt : ((loOf l).toNat + i) * te.size + j < len * te.size := by
          have := Nat.mul_le_mul_right te.size (Nat.succ_le_of_lt (show (loOf l).toNat + i < len by omega))
          rw [Nat.succ_mul] at this
          omega
        exact q3 _ (by omega)
      · cases h
    · cases h
  · cases h
end
end Go.Ab
