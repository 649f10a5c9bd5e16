/-
  What each operation computes on abstract values and objects, and that the model's operation does just that.
-/
import Derived.Test.YtnomenmakhielaaAb2
namespace Go.Ab

structure St where
  env : List AV
  σ : List AObj

def nth : List AV → Nat → AV
  | [], _ => .top
  | x :: _, 0 => x
  | _ :: xs, n + 1 => nth xs n

def nthO : List AObj → Nat → AObj
  | [], _ => .dead
  | x :: _, 0 => x
  | _ :: xs, n + 1 => nthO xs n

/-- A package-level variable. -/
def gLook : List (Nat × IntKind × List Int) → Nat → Option (IntKind × List Int)
  | [], _ => none
  | (g', k, vs) :: r, g => if g' = g then some (k, vs) else gLook r g
def gA (g : Nat) : AV := match gLook gtab g with | some (k, vs) => .rptr vs.length (gcell k vs) | none => .top
theorem gLook_mem : ∀ {t : List (Nat × IntKind × List Int)} {g : Nat} {k : IntKind} {vs : List Int}, gLook t g = some (k, vs) → (g, k, vs) ∈ t
  | [], _, _, _, h => by simp [gLook] at h
  | (g', k', vs') :: r, g, k, vs, h => by
    unfold gLook at h
    split at h
    · rename_i e; simp at h; obtain ⟨rfl, rfl⟩ := h; subst e; simp
    · exact List.mem_cons_of_mem _ (gLook_mem h)
def opd (e : List AV) : Operand → AV
  | .tmp t => nth e t
  | .const v => .imm v
  | .func f => .fn (.func f) [] []
  | .global g => gA g

def kEq : IntKind → IntKind → Bool
  | .i8, .i8 | .i16, .i16 | .i32, .i32 | .i64, .i64 | .u8, .u8 | .u16, .u16 | .u32, .u32 | .u64, .u64 => true
  | _, _ => false
theorem kEq_eq {k k' : IntKind} (h : kEq k k' = true) : k = k' := by cases k <;> cases k' <;> simp_all [kEq]

/-- Equality of cells that are integers and bools. -/
def eqA : List Bool → List AV → List AV → Option Bool
  | [], [], [] => some true
  | false :: ls, .imm (.int k a) :: xs, .imm (.int k' b) :: ys =>
    if kEq k k' then (match eqA ls xs ys with | some r => some ((a == b) && r) | none => none) else none
  | true :: ls, .imm (.bool a) :: xs, .imm (.bool b) :: ys =>
    (match eqA ls xs ys with | some r => some ((a == b) && r) | none => none)
  | _, _, _ => none

def eInt (op : BinOp) (k : IntKind) (a : Int) (k' : IntKind) (b : Int) : Option (AV × Prop) :=
  match op with
  | .shl => some (.imm (.int k (k.wrap (a * 2 ^ (min b.toNat k.bits)))), 0 ≤ b)
  | .shr => some (.imm (.int k (a.fdiv (2 ^ (min b.toNat k.bits)))), 0 ≤ b)
  | op => if kEq k k' then
      match op with
      | .add => some (.imm (.int k (k.wrap (a + b))), True)
      | .sub => some (.imm (.int k (k.wrap (a - b))), True)
      | .mul => some (.imm (.int k (k.wrap (a * b))), True)
      | .quo => some (.imm (.int k (k.wrap (a.tdiv b))), b ≠ 0)
      | .rem => some (.imm (.int k (a.tmod b)), b ≠ 0)
      | .and => some (.imm (.int k (bits .and k a b)), True)
      | .or => some (.imm (.int k (bits .or k a b)), True)
      | .xor => some (.imm (.int k (bits .xor k a b)), True)
      | .andNot => some (.imm (.int k (bits .andNot k a b)), True)
      | .eql => some (.imm (.bool (a == b)), True)
      | .neq => some (.imm (.bool (a != b)), True)
      | .lss => some (.imm (.bool (decide (a < b))), True)
      | .leq => some (.imm (.bool (decide (a ≤ b))), True)
      | .gtr => some (.imm (.bool (decide (a > b))), True)
      | .geq => some (.imm (.bool (decide (a ≥ b))), True)
      | _ => none
    else none

def TD.isBool : TD → Bool
  | .bool => true
  | _ => false
def TD.isSlice : TD → Bool
  | .slice _ => true
  | _ => false
def TD.isFunc : TD → Bool
  | .func => true
  | _ => false

/-- Is a value nil? (where it can be told) -/
def isNilA : AV → Option (Bool × Prop)
  | .imm (.slice a _ _) => some (a.isNone, True)
  | .own _ _ n _ => some (false, 0 < n)
  | .view n _ _ => some (false, 0 < n)
  | _ => none

def eBin (Γ : Tab) (op : BinOp) (t : TypeId) : AV → AV → Option (AV × Prop)
  | .imm (.int k a), .imm (.int k' b) => eInt op k a k' b
  | .imm (.bool a), .imm (.bool b) =>
    match Γ.get t with
    | some ti => if ti.d.isBool then
        match op with
        | .eql => some (.imm (.bool (a == b)), True)
        | .neq => some (.imm (.bool (a != b)), True)
        | _ => none
      else none
    | none => none
  | .agg xs, .agg ys =>
    match Γ.get t with
    | some ti =>
      match ti.eqv with
      | some ls =>
        match eqA ls xs ys with
        | some r =>
          match op with
          | .eql => some (.imm (.bool r), True)
          | .neq => some (.imm (.bool (!r)), True)
          | _ => none
        | none => none
      | none => none
    | none => none
  | x, .imm (.slice none 0 0) =>
    match Γ.get t with
    | some ti => if ti.d.isSlice then
        match isNilA x with
        | some (b, c) =>
          match op with
          | .eql => some (.imm (.bool b), c)
          | .neq => some (.imm (.bool (!b)), c)
          | _ => none
        | none => none
      else none
    | none => none
  | _, _ => none

def eUn (op : UnOp) : AV → Option (AV × Prop)
  | .imm (.bool b) => match op with | .not => some (.imm (.bool (!b)), True) | _ => none
  | .imm (.int k n) => match op with | .neg => some (.imm (.int k (k.wrap (0 - n))), True) | _ => none
  | _ => none

def eConv (Γ : Tab) (dst : TypeId) : AV → Option (AV × Prop)
  | .imm (.int _ n) =>
    match Γ.get dst with
    | some ti => match ti.d with | .int k => some (.imm (.int k (k.wrap n)), True) | _ => none
    | none => none
  | _ => none

section
variable {P : Program} {Γ : Tab}

theorem eqA_sound {ρ : Rho} {w : World} : ∀ {ls : List Bool} {xs ys : List AV} {r : Bool} {cs ds : List Value}, eqA ls xs ys = some r → RvL ρ w xs cs → RvL ρ w ys ds →
    Leafy ls cs ∧ Leafy ls ds ∧ kindL cs ds ∧ eqL cs ds = r := by
  intro ls
  induction ls with
  | nil =>
    intro xs ys r cs ds h hx hy
    match xs, ys, h with
    | [], [], h =>
      simp [eqA] at h
      subst h
      match cs, ds, hx, hy with
      | [], [], _, _ => simp [Leafy, kindL, eqL]
      | _ :: _, _, hx, _ => simp [RvL] at hx
      | _, _ :: _, _, hy => simp [RvL] at hy
  | cons l ls ih =>
    intro xs ys r cs ds h hx hy
    unfold eqA at h
    split at h
    · rename_i heq; cases heq
    · rename_i l2 k a xs k' b ys hl
      injection hl with hl1 hl2
      subst hl1; subst hl2
      split at h
      · rename_i hk
        have hk := kEq_eq hk
        subst hk
        split at h
        · rename_i r' hr
          injection h with h
          match cs, ds, hx, hy with
          | c :: cs, d :: ds, hx, hy =>
            simp only [RvL, Rv] at hx hy
            obtain ⟨rfl, hx⟩ := hx
            obtain ⟨rfl, hy⟩ := hy
            obtain ⟨h1, h2, h3, h4⟩ := ih hr hx hy
            subst h4
            exact ⟨⟨trivial, h1⟩, ⟨trivial, h2⟩, ⟨rfl, h3⟩, by simp [eqL, ceq, ← h]⟩
          | [], _, hx, _ => simp [RvL] at hx
          | _, [], _, hy => simp [RvL] at hy
        · cases h
      · cases h
    · rename_i l2 a xs b ys hl
      injection hl with hl1 hl2
      subst hl1; subst hl2
      split at h
      · rename_i r' hr
        injection h with h
        match cs, ds, hx, hy with
        | c :: cs, d :: ds, hx, hy =>
          simp only [RvL, Rv] at hx hy
          obtain ⟨rfl, hx⟩ := hx
          obtain ⟨rfl, hy⟩ := hy
          obtain ⟨h1, h2, h3, h4⟩ := ih hr hx hy
          subst h4
          exact ⟨⟨trivial, h1⟩, ⟨trivial, h2⟩, ⟨trivial, h3⟩, by simp [eqL, ceq, ← h]⟩
        | [], _, hx, _ => simp [RvL] at hx
        | _, [], _, hy => simp [RvL] at hy
      · cases h
    · cases h

theorem run_eInt {op : BinOp} {k k' : IntKind} {a b : Int} {v : AV} {C : Prop} (h : eInt op k a k' b = some (v, C)) (hC : C) (t : TypeId) (w : World) :
    ∃ r, (binOp op t (.int k a) (.int k' b)).run P w = .ok r w ∧ v = .imm r := by
  unfold eInt at h
  split at h
  · simp only [Option.some.injEq, Prod.mk.injEq] at h
    obtain ⟨rfl, rfl⟩ := h
    refine ⟨_, ?_, rfl⟩
    have : ¬ b < 0 := by omega
    simp [binOp, Op.shift, this]
  · simp only [Option.some.injEq, Prod.mk.injEq] at h
    obtain ⟨rfl, rfl⟩ := h
    refine ⟨_, ?_, rfl⟩
    have : ¬ b < 0 := by omega
    simp [binOp, Op.shift, this]
  · split at h
    · rename_i hk
      have hk := kEq_eq hk
      subst hk
      split at h <;> simp only [Option.some.injEq, Prod.mk.injEq, reduceCtorEq] at h <;> (try exact h.elim) <;> (obtain ⟨rfl, rfl⟩ := h; refine ⟨_, ?_, rfl⟩) <;>
        first
        | (simp [binOp, Op.intArith]; done)
        | (simp [binOp, Op.intDiv, hC]; done)
        | (simp [binOp, Op.intCmp]; done)
        | (simp [binOp, Op.intBits, bits]; done)
    · cases h

theorem run_eql_of {op : BinOp} {t : TypeId} {x y : Value} {b : Bool} {w : World} (hop : op = .eql ∨ op = .neq) (hx : ∀ k n, x ≠ .int k n) (hx2 : ∀ s, x ≠ .string s) (hx3 : ∀ k n, x ≠ .float k n) (hx4 : ∀ k n m, x ≠ .complex k n m)
    (h : ∀ d, (Op.equalIn (d + 1) t x y).run P w = .ok b w) : (binOp op t x y).run P w = .ok (.bool (if op = .eql then b else !b)) w := by
  have h1 : (Op.equal t x y).run P w = .ok b w := h 9999
  rcases hop with rfl | rfl
  · have : binOp .eql t x y = (do pure (.bool (← Op.equal t x y))) := by
      unfold binOp
      cases x <;> first | rfl | exact absurd rfl (hx _ _) | exact absurd rfl (hx2 _) | exact absurd rfl (hx3 _ _) | exact absurd rfl (hx4 _ _ _)
    rw [this]
    simp [h1]
  · have : binOp .neq t x y = (do pure (.bool (!(← Op.equal t x y)))) := by
      unfold binOp
      cases x <;> first | rfl | exact absurd rfl (hx _ _) | exact absurd rfl (hx2 _) | exact absurd rfl (hx3 _ _) | exact absurd rfl (hx4 _ _ _)
    rw [this]
    simp [h1]

theorem mkVal_agg {P : Program} {t : TypeId} (h : aggP P t = true) (cs : List Value) : mkVal (aggP P t) cs = .agg cs.toArray := by simp [mkVal, h]

theorem TIok.aggP {t : TypeId} {ti : TI} (h : TIok P t ti) : aggP P t = ti.d.isAgg := by
  have hd := h.desc
  unfold Ab.aggP
  cases hdd : ti.d <;> rw [hdd] at hd <;> simp only [TD.holds] at hd
  case strct => obtain ⟨fs, hu, _⟩ := hd; simp [hu, TD.isAgg]
  case func => obtain ⟨a, b, c, hu⟩ := hd; simp [hu, TD.isAgg]
  case iface => obtain ⟨ms, hu⟩ := hd; simp [hu, TD.isAgg]
  all_goals simp [hd, TD.isAgg]

theorem isNilA_sound {ρ : Rho} {w : World} {x : AV} {vx : Value} {b : Bool} {c : Prop} (h : isNilA x = some (b, c)) (hc : c) (hx : Rv ρ w x vx) : ∃ a n m, vx = .slice a n m ∧ a.isNone = b := by
  unfold isNilA at h
  split at h <;> simp only [Option.some.injEq, Prod.mk.injEq, reduceCtorEq] at h
  · obtain ⟨rfl, rfl⟩ := h
    simp only [Rv] at hx
    exact ⟨_, _, _, hx, rfl⟩
  · obtain ⟨rfl, rfl⟩ := h
    simp only [Rv] at hx
    rcases hx with ⟨l, cap, _, rfl, _⟩ | ⟨h0, _⟩
    · exact ⟨_, _, _, rfl, rfl⟩
    · omega
  · obtain ⟨rfl, rfl⟩ := h
    simp only [Rv] at hx
    obtain ⟨a, cap, rfl, _, hr⟩ := hx
    obtain ⟨ad, rfl, _⟩ := hr hc
    exact ⟨_, _, _, rfl, rfl⟩

theorem eBin_sound (hΓ : TabOk P Γ) {op : BinOp} {t : TypeId} {x y : AV} {v : AV} {C : Prop} (h : eBin Γ op t x y = some (v, C)) (hC : C) {ρ : Rho} {w : World} {vx vy : Value}
    (hx : Rv ρ w x vx) (hy : Rv ρ w y vy) (ox oy : Operand) :
    ∃ r, (do eqGuard op t ox oy vx vy; binOp op t vx vy : Sem Value).run P w = .ok r w ∧ v = .imm r := by
  unfold eBin at h
  split at h
  · simp only [Rv] at hx hy
    subst hx; subst hy
    obtain ⟨r, hr, hv⟩ := run_eInt (P := P) h hC t w
    refine ⟨r, ?_, hv⟩
    have hg : ∀ k a k' b, (eqGuard op t ox oy (.int k a) (.int k' b)).run P w = .ok () w := by intro k a k' b; cases op <;> simp [eqGuard]
    simp [hg, hr]
  · rename_i a b
    simp only [Rv] at hx hy
    subst hx; subst hy
    split at h
    · rename_i ti hti
      have hd := (hΓ t ti hti).desc
      split at h
      · rename_i hb
        cases hdd : ti.d <;> rw [hdd] at hb hd <;> simp [TD.isBool] at hb
        simp only [TD.holds] at hd
        have hq : ∀ d, (Op.equalIn (d + 1) t (.bool a) (.bool b)).run P w = .ok (a == b) w := fun d => by simp [Op.equalIn, run_underlying hd]
        split at h <;> simp only [Option.some.injEq, Prod.mk.injEq, reduceCtorEq] at h
        · obtain ⟨rfl, rfl⟩ := h
          refine ⟨_, ?_, rfl⟩
          rw [Sem.run_bind, show (eqGuard .eql t ox oy (.bool a) (.bool b)).run P w = .ok () w by simp [eqGuard]]
          exact run_eql_of (.inl rfl) (by simp) (by simp) (by simp) (by simp) hq
        · obtain ⟨rfl, rfl⟩ := h
          refine ⟨_, ?_, rfl⟩
          rw [Sem.run_bind, show (eqGuard .neq t ox oy (.bool a) (.bool b)).run P w = .ok () w by simp [eqGuard]]
          exact run_eql_of (.inr rfl) (by simp) (by simp) (by simp) (by simp) hq
      · cases h
    · cases h
  · rename_i xs ys
    simp only [Rv] at hx hy
    obtain ⟨cs, rfl, hcs⟩ := hx
    obtain ⟨ds, rfl, hds⟩ := hy
    split at h
    · rename_i ti hti
      have hti := hΓ t ti hti
      split at h
      · rename_i ls hls
        obtain ⟨hf, hgd, hll, hia⟩ := hti.eqv ls hls
        split at h
        · rename_i r hr
          obtain ⟨h1, h2, h3, h4⟩ := eqA_sound hr hcs hds
          have hsz : (P.info? t).map (·.size) = some ls.length := by
            obtain ⟨i, hi, hs, _⟩ := hti.bytesOf
            simp [hi, hs, hll]
          have hag : aggP P t = true := hti.aggP.trans hia
          have he := run_equalIn_flat (P := P) 8 t ls hf hsz 9992 cs ds h1 h2 h3 w
          rw [mkVal_agg hag, mkVal_agg hag, h4] at he
          have hg := run_eqGuard_agg (P := P) w op t ox oy cs.toArray ds.toArray hgd
          split at h <;> simp only [Option.some.injEq, Prod.mk.injEq, reduceCtorEq] at h
          · obtain ⟨rfl, rfl⟩ := h
            exact ⟨_, by simp only [Sem.run_bind, hg, Result.andThen_ok, run_eql_struct]; rw [he]; rfl, rfl⟩
          · obtain ⟨rfl, rfl⟩ := h
            exact ⟨_, by simp only [Sem.run_bind, hg, Result.andThen_ok, run_neq_struct]; rw [he]; rfl, rfl⟩
        · cases h
      · cases h
    · cases h
  · simp only [Rv] at hy
    subst hy
    split at h
    · rename_i ti hti
      have hd := (hΓ t ti hti).desc
      split at h
      · rename_i hb
        cases hdd : ti.d <;> rw [hdd] at hb hd <;> simp [TD.isSlice] at hb
        simp only [TD.holds] at hd
        split at h
        · rename_i b c hnil
          split at h <;> simp only [Option.some.injEq, Prod.mk.injEq, reduceCtorEq] at h
          · obtain ⟨rfl, rfl⟩ := h
            obtain ⟨a, n, m, rfl, rfl⟩ := isNilA_sound hnil hC hx
            have hq : ∀ d, (Op.equalIn (d + 1) t (.slice a n m) (.slice none 0 0)).run P w = .ok a.isNone w := fun d => by cases a <;> simp [Op.equalIn, run_underlying hd]
            refine ⟨_, ?_, rfl⟩
            rw [Sem.run_bind, show (eqGuard .eql t ox oy (.slice a n m) (.slice none 0 0)).run P w = .ok () w by simp [eqGuard]]
            exact run_eql_of (.inl rfl) (by simp) (by simp) (by simp) (by simp) hq
          · obtain ⟨rfl, rfl⟩ := h
            obtain ⟨a, n, m, rfl, rfl⟩ := isNilA_sound hnil hC hx
            have hq : ∀ d, (Op.equalIn (d + 1) t (.slice a n m) (.slice none 0 0)).run P w = .ok a.isNone w := fun d => by cases a <;> simp [Op.equalIn, run_underlying hd]
            refine ⟨_, ?_, rfl⟩
            rw [Sem.run_bind, show (eqGuard .neq t ox oy (.slice a n m) (.slice none 0 0)).run P w = .ok () w by simp [eqGuard]]
            exact run_eql_of (.inr rfl) (by simp) (by simp) (by simp) (by simp) hq
        · cases h
      · cases h
    · cases h
  · cases h

theorem eUn_sound {op : UnOp} {x v : AV} {C : Prop} (h : eUn op x = some (v, C)) {ρ : Rho} {w : World} {vx : Value} (hx : Rv ρ w x vx) : ∃ r, (Op.unary op vx).run P w = .ok r w ∧ v = .imm r := by
  unfold eUn at h
  split at h
  · simp only [Rv] at hx
    subst hx
    split at h <;> simp only [Option.some.injEq, Prod.mk.injEq, reduceCtorEq] at h
    · obtain ⟨rfl, rfl⟩ := h
      exact ⟨_, by simp [Op.unary], rfl⟩
  · simp only [Rv] at hx
    subst hx
    split at h <;> simp only [Option.some.injEq, Prod.mk.injEq, reduceCtorEq] at h
    · obtain ⟨rfl, rfl⟩ := h
      exact ⟨_, by simp [Op.unary, Op.intArith], rfl⟩
  · cases h

theorem eConv_sound (hΓ : TabOk P Γ) {src dst : TypeId} {x v : AV} {C : Prop} (h : eConv Γ dst x = some (v, C)) {ρ : Rho} {w : World} {vx : Value} (hx : Rv ρ w x vx)
    (hsrc : ∃ d, P.underlying src = some d) : ∃ r, (convert src dst vx).run P w = .ok r w ∧ v = .imm r := by
  unfold eConv at h
  split at h
  · simp only [Rv] at hx
    subst hx
    split at h
    · rename_i ti hti
      have hd := (hΓ dst ti hti).desc
      split at h
      · rename_i k hk
        rw [hk] at hd
        simp only [TD.holds] at hd
        simp only [Option.some.injEq, Prod.mk.injEq] at h
        obtain ⟨rfl, rfl⟩ := h
        obtain ⟨d, hs⟩ := hsrc
        refine ⟨_, ?_, rfl⟩
        simp only [convert, Sem.run_bind, run_underlying hd, run_underlying hs, Result.andThen_ok]
        simp [Conv.intToInt]
      · cases h
    · cases h
  · cases h
end
end Go.Ab
