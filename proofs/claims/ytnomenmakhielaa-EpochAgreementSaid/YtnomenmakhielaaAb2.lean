/-
  The type table of a program as plain data, held against the program by one closed check; equality of structs of integers and bools.
-/
import Derived.Test.YtnomenmakhielaaAb1
namespace Go.Ab

inductive ZC where
  | int (k : IntKind) | bool | str | slice | map | func | ptr | iface

def ZC.val : ZC → Value
  | .int k => .int k 0
  | .bool => .bool false
  | .str => .string ByteArray.empty
  | .slice => .slice none 0 0
  | .map => .map none
  | .func => .nilFunc
  | .ptr => .pointer none
  | .iface => .nilIface

def noAddr : Option Addr → Bool
  | none => true
  | some _ => false
def noNat : Option Nat → Bool
  | none => true
  | some _ => false

def ZC.chk : ZC → Value → Bool
  | .int k, .int k' n => k == k' && n == 0
  | .bool, .bool b => !b
  | .str, .string s => s.size == 0
  | .slice, .slice a l c => noAddr a && l == 0 && c == 0
  | .map, .map r => noNat r
  | .func, .nilFunc => true
  | .ptr, .pointer a => noAddr a
  | .iface, .nilIface => true
  | _, _ => false

theorem ZC.chk_val {z : ZC} {v : Value} (h : z.chk v = true) : v = z.val := by
  cases z <;> cases v <;> simp [ZC.chk, ZC.val] at h ⊢
  case int.int => exact ⟨h.1.symm, h.2⟩
  case bool.bool => exact h
  case str.string s =>
    cases s
    exact h
  case slice.slice a l c => cases a <;> simp [noAddr] at h ⊢; exact h
  case map.map r => cases r <;> simp [noNat] at h ⊢
  case ptr.pointer a => cases a <;> simp [noAddr] at h ⊢

inductive TD where
  | int (k : IntKind) | bool | str
  | strct (fs : List (TypeId × Nat))
  | array (len : Nat) (elem : TypeId)
  | slice (elem : TypeId)
  | ptr (elem : TypeId)
  | map (k e : TypeId)
  | func
  | iface

def TD.isAgg : TD → Bool
  | .strct _ | .array _ _ => true
  | _ => false

structure TI where
  d : TD
  size : Nat
  bytes : Nat
  zero : List ZC
  eqv : Option (List Bool)

abbrev Tab := List (TypeId × TI)
def Tab.get : Tab → TypeId → Option TI
  | [], _ => none
  | (u, i) :: r, t => if u = t then some i else Tab.get r t

def flatGo (P : Program) (r : TypeId → Option (List Bool)) : List Field → Nat → Option (List Bool)
  | [], _ => some []
  | f :: fs, off =>
    if f.name = "_" ∨ f.offset ≠ off then none else
    match r f.type with
    | some ls => if (P.info? f.type).map (·.size) = some ls.length then (flatGo P r fs (off + ls.length)).map (ls ++ ·) else none
    | none => none

/-- The leaves of a type all of whose cells are integers and bools (true: a bool); none for any other type. -/
def flatP (P : Program) : Nat → TypeId → Option (List Bool)
  | 0, _ => none
  | d + 1, t =>
    match P.underlying t with
    | some (.int _) => some [false]
    | some .bool => some [true]
    | some (.struct fs) => if P.stoodInHeld t then none else flatGo P (flatP P d) fs.toList 0
    | some (.array len e) =>
      match flatP P d e with
      | some ls => if (P.info? e).map (·.size) = some ls.length then some (List.replicate len ls).flatten else none
      | none => none
    | _ => none

def isAggV : Value → Bool
  | .agg _ => true
  | _ => false

def TI.chk (P : Program) (t : TypeId) (ti : TI) : Bool :=
  (match P.info? t with
   | some i => i.size == ti.size && i.bytes == ti.bytes &&
      (match i.zero with
       | some z => z.cells.size == ti.zero.length && (z.cells.toList.zip ti.zero).all (fun p => p.2.chk p.1) && isAggV z == ti.d.isAgg
       | none => false)
   | none => false) &&
  (match P.underlying t, ti.d with
   | some (.int k), .int k' => k == k'
   | some .bool, .bool => true
   | some .string, .str => true
   | some (.struct fs), .strct gs => fs.toList.map (fun f => (f.type, f.offset)) == gs
   | some (.array n e), .array n' e' => n == n' && e == e'
   | some (.slice e), .slice e' => e == e'
   | some (.pointer e), .ptr e' => e == e'
   | some (.map k e), .map k' e' => k == k' && e == e'
   | some (.func _ _ _), .func => true
   | some (.interface _), .iface => true
   | _, _ => false) &&
  (match ti.eqv with
   | none => true
   | some ls => flatP P 8 t == some ls && !(P.eqGuardType P.depth t) && ls.length == ti.size && ti.d.isAgg)

def Tab.chk (P : Program) (Γ : Tab) : Bool := Γ.all fun p => p.2.chk P p.1

def TD.holds (P : Program) (t : TypeId) : TD → Prop
  | .int k => P.underlying t = some (.int k)
  | .bool => P.underlying t = some .bool
  | .str => P.underlying t = some .string
  | .strct gs => ∃ fs, P.underlying t = some (.struct fs) ∧ fs.toList.map (fun f => (f.type, f.offset)) = gs
  | .array n e => P.underlying t = some (.array n e)
  | .slice e => P.underlying t = some (.slice e)
  | .ptr e => P.underlying t = some (.pointer e)
  | .map k e => P.underlying t = some (.map k e)
  | .func => ∃ a b c, P.underlying t = some (.func a b c)
  | .iface => ∃ ms, P.underlying t = some (.interface ms)

structure TIok (P : Program) (t : TypeId) (ti : TI) : Prop where
  info : ∃ i z, P.info? t = some i ∧ i.size = ti.size ∧ i.bytes = ti.bytes ∧ i.zero = some z ∧ z.cells = (ti.zero.map ZC.val).toArray
  desc : ti.d.holds P t
  zagg : ∀ i z, P.info? t = some i → i.zero = some z → isAggV z = ti.d.isAgg
  eqv : ∀ ls, ti.eqv = some ls → flatP P 8 t = some ls ∧ P.eqGuardType P.depth t = false ∧ ls.length = ti.size ∧ ti.d.isAgg = true

theorem zero_of_chk : ∀ (cs : List Value) (zs : List ZC), cs.length = zs.length → (cs.zip zs).all (fun p => p.2.chk p.1) = true → cs = zs.map ZC.val
  | [], [], _, _ => rfl
  | c :: cs, z :: zs, hl, h => by
    simp only [List.zip_cons_cons, List.all_cons, Bool.and_eq_true] at h
    rw [List.map_cons, ← ZC.chk_val h.1, ← zero_of_chk cs zs (by simpa using hl) h.2]
  | [], _ :: _, hl, _ => by simp at hl
  | _ :: _, [], hl, _ => by simp at hl

theorem TI.ok_of_chk {P : Program} {t : TypeId} {ti : TI} (h : ti.chk P t = true) : TIok P t ti := by
  unfold TI.chk at h
  simp only [Bool.and_eq_true] at h
  obtain ⟨⟨h1, h2⟩, h3⟩ := h
  refine ⟨?_, ?_, ?_, ?_⟩
  · split at h1
    · rename_i i hi
      simp only [Bool.and_eq_true, beq_iff_eq] at h1
      obtain ⟨⟨a, b⟩, c⟩ := h1
      split at c
      · rename_i z hz
        simp only [Bool.and_eq_true, beq_iff_eq] at c
        refine ⟨i, z, hi, a, b, hz, ?_⟩
        have := zero_of_chk z.cells.toList ti.zero (by simpa using c.1.1) c.1.2
        rw [← this]
      · cases c
    · cases h1
  · unfold TD.holds
    split at h2 <;> simp_all
  · intro i z hi hz
    rw [hi] at h1
    simp only [hz, Bool.and_eq_true, beq_iff_eq] at h1
    exact h1.2.2
  · intro ls hls
    rw [hls] at h3
    simpa [and_assoc] using h3

def TabOk (P : Program) (Γ : Tab) : Prop := ∀ t ti, Γ.get t = some ti → TIok P t ti

theorem tabOk_of_chk {P : Program} : ∀ {Γ : Tab}, Γ.chk P = true → TabOk P Γ
  | [], _, t, ti, h => by simp [Tab.get] at h
  | (u, i) :: r, hc, t, ti, h => by
    simp only [Tab.chk, List.all_cons, Bool.and_eq_true] at hc
    unfold Tab.get at h
    split at h
    · rename_i he
      subst he
      simp at h
      subst h
      exact TI.ok_of_chk hc.1
    · exact tabOk_of_chk (Γ := r) hc.2 t ti h

section
variable {P : Program} {Γ : Tab} (hΓ : TabOk P Γ) {t : TypeId} {ti : TI}

theorem TIok.sizeOf (h : TIok P t ti) (w : World) : (sizeOf t).run P w = .ok ti.size w := by
  obtain ⟨i, z, hi, hs, _⟩ := h.info
  simp [Go.sizeOf, typeInfo, hi, hs]

theorem TIok.bytesOf (h : TIok P t ti) : ∃ i, P.info? t = some i ∧ i.size = ti.size ∧ i.bytes = ti.bytes := by
  obtain ⟨i, z, hi, hs, hb, _⟩ := h.info
  exact ⟨i, hi, hs, hb⟩

theorem TIok.zeroValue (h : TIok P t ti) (w : World) : ∃ z, (zeroValue t).run P w = .ok z w ∧ z.cells = (ti.zero.map ZC.val).toArray := by
  obtain ⟨i, z, hi, _, _, hz, hc⟩ := h.info
  exact ⟨z, by simp [Go.zeroValue, typeInfo, hi, hz], hc⟩

theorem TIok.isAgg (h : TIok P t ti) (w : World) : (isAgg t).run P w = .ok ti.d.isAgg w := by
  have hd := h.desc
  unfold Go.isAgg
  rw [Sem.run_bind]
  cases hdd : ti.d <;> rw [hdd] at hd <;> simp only [TD.holds] at hd
  case strct => obtain ⟨fs, hu, _⟩ := hd; simp [run_underlying hu, TD.isAgg]
  case func => obtain ⟨a, b, c, hu⟩ := hd; simp [run_underlying hu, TD.isAgg]
  case iface => obtain ⟨ms, hu⟩ := hd; simp [run_underlying hu, TD.isAgg]
  all_goals simp [run_underlying hd, TD.isAgg]
end

def Leaf : Bool → Value → Prop
  | true, .bool _ => True
  | false, .int _ _ => True
  | _, _ => False

/-- Cells that are integers (false) or bools (true). -/
def Leafy : List Bool → List Value → Prop
  | [], [] => True
  | b :: bs, v :: vs => Leaf b v ∧ Leafy bs vs
  | _, _ => False

def ceq : Value → Value → Bool
  | .int _ a, .int _ b => a == b
  | .bool a, .bool b => a == b
  | _, _ => false

/-- Kinds agree. -/
def ckind : Value → Value → Prop
  | .int k _, .int k' _ => k = k'
  | _, _ => True

def eqL : List Value → List Value → Bool
  | [], [] => true
  | x :: xs, y :: ys => ceq x y && eqL xs ys
  | _, _ => false

def kindL : List Value → List Value → Prop
  | x :: xs, y :: ys => ckind x y ∧ kindL xs ys
  | _, _ => True

theorem Leafy.length : ∀ {bs : List Bool} {vs : List Value}, Leafy bs vs → vs.length = bs.length
  | [], [], _ => rfl
  | _ :: _, _ :: _, h => by simp only [Leafy] at h; simp [Leafy.length h.2]
  | [], _ :: _, h => by simp [Leafy] at h
  | _ :: _, [], h => by simp [Leafy] at h

theorem Leafy.split : ∀ {a b : List Bool} {vs : List Value}, Leafy (a ++ b) vs → Leafy a (vs.take a.length) ∧ Leafy b (vs.drop a.length)
  | [], b, vs, h => by simpa [Leafy] using h
  | x :: a, b, v :: vs, h => by
    simp only [List.cons_append, Leafy] at h
    have := Leafy.split h.2
    simpa [Leafy, and_assoc] using (⟨⟨h.1, this.1⟩, this.2⟩ : (_ ∧ _) ∧ _)
  | _ :: _, _, [], h => by simp [Leafy] at h

theorem eqL_append : ∀ (a b c d : List Value), a.length = c.length → eqL (a ++ b) (c ++ d) = (eqL a c && eqL b d)
  | [], b, [], d, _ => by simp [eqL]
  | x :: a, b, y :: c, d, h => by simp [eqL, eqL_append a b c d (by simpa using h), Bool.and_assoc]
  | [], _, _ :: _, _, h => by simp at h
  | _ :: _, _, [], _, h => by simp at h

theorem kindL.split : ∀ {vs ws : List Value} (n : Nat), kindL vs ws → kindL (vs.take n) (ws.take n) ∧ kindL (vs.drop n) (ws.drop n)
  | _, _, 0, h => by simpa [kindL] using h
  | [], ws, n + 1, _ => by simp [kindL]
  | x :: vs, [], n + 1, _ => by simp [kindL]
  | x :: vs, y :: ws, n + 1, h => by
    simp only [kindL] at h
    have := kindL.split n h.2
    simpa [kindL] using ⟨⟨h.1, this.1⟩, this.2⟩

/-- The value that a part of n cells makes. -/
def mkVal (agg : Bool) (cs : List Value) : Value := if agg then .agg cs.toArray else cs.getD 0 undef

def aggP (P : Program) (t : TypeId) : Bool :=
  match P.underlying t with
  | some (.struct _) | some (.array _ _) => true
  | _ => false

section
variable {P : Program}

theorem run_part (t : TypeId) (n : Nat) (hn : (P.info? t).map (·.size) = some n) (hu : (P.underlying t).isSome = true) (pre mid post : List Value) (hm : mid.length = n) (h1 : aggP P t = false → n = 1) (w : World) :
    (part t (pre ++ mid ++ post).toArray pre.length).run P w = .ok (mkVal (aggP P t) mid) w := by
  cases hd : P.underlying t with
  | none => simp [hd] at hu
  | some d =>
    have hs : (sizeOf t).run P w = .ok n w := by
      cases hi : P.info? t with
      | none => simp [hi] at hn
      | some i => simp [hi] at hn; simp [sizeOf, typeInfo, hi, hn]
    have ha : (isAgg t).run P w = .ok (aggP P t) w := by
      unfold isAgg aggP
      rw [Sem.run_bind, run_underlying hd]
      cases d <;> simp [hd]
    unfold part
    rw [Sem.run_bind, ha]
    simp only [Result.andThen_ok]
    cases hg : aggP P t with
    | true =>
      simp only [if_true, Sem.run_bind, hs, Result.andThen_ok, Sem.run_pure, mkVal]
      congr 2
      have e : (pre ++ mid ++ post).extract pre.length (pre.length + n) = mid := by
        rw [List.extract_eq_take_drop, List.append_assoc, List.drop_left, show pre.length + n - pre.length = mid.length by omega, List.take_left]
      rw [List.extract_toArray, e]
    | false =>
      have := h1 hg
      subst this
      match mid, hm with
      | [m], _ =>
        simp [mkVal]

/-- Equality of values all of whose cells are integers and bools: cell by cell. -/
theorem run_equalIn_flat : ∀ (d : Nat) (t : TypeId) (ls : List Bool), flatP P d t = some ls → (P.info? t).map (·.size) = some ls.length → ∀ (n : Nat) (xs ys : List Value), Leafy ls xs → Leafy ls ys → kindL xs ys →
    ∀ w, (Op.equalIn (d + n) t (mkVal (aggP P t) xs) (mkVal (aggP P t) ys)).run P w = .ok (eqL xs ys) w
  | 0, _, _, h, _ => by simp [flatP] at h
  | d + 1, t, ls, h, hsz => by
    intro n xs ys hx hy hk w
    unfold flatP at h
    rw [show d + 1 + n = (d + n) + 1 by omega]
    cases hd : P.underlying t with
    | none => simp [hd] at h
    | some u =>
      rw [hd] at h
      cases u <;> simp only [] at h <;> try (cases h; done)
      case int k =>
        injection h with h; subst h
        match xs, ys, hx, hy with
        | [x], [y], hx, hy =>
          simp only [Leafy, and_true] at hx hy
          cases x <;> simp [Leaf] at hx
          cases y <;> simp [Leaf] at hy
          simp [kindL, ckind] at hk
          subst hk
          have : aggP P t = false := by simp [aggP, hd]
          simp [mkVal, this, Op.equalIn, run_underlying hd, eqL, ceq]
        | _ :: _ :: _, _, hx, _ => simp [Leafy] at hx
        | _, _ :: _ :: _, _, hy => simp [Leafy] at hy
        | [], _, hx, _ => simp [Leafy] at hx
        | _, [], _, hy => simp [Leafy] at hy
      case bool =>
        injection h with h; subst h
        match xs, ys, hx, hy with
        | [x], [y], hx, hy =>
          simp only [Leafy, and_true] at hx hy
          cases x <;> simp [Leaf] at hx
          cases y <;> simp [Leaf] at hy
          have : aggP P t = false := by simp [aggP, hd]
          simp [mkVal, this, Op.equalIn, run_underlying hd, eqL, ceq]
        | _ :: _ :: _, _, hx, _ => simp [Leafy] at hx
        | _, _ :: _ :: _, _, hy => simp [Leafy] at hy
        | [], _, hx, _ => simp [Leafy] at hx
        | _, [], _, hy => simp [Leafy] at hy
      case struct fs =>
        split at h
        · cases h
        · rename_i hst
          have hst : P.stoodInHeld t = false := by simpa using hst
          have hagg : aggP P t = true := by simp [aggP, hd]
          have hfo : P.fieldsOf t = fs := by simp [Program.fieldsOf, hd]
          simp only [mkVal, hagg, if_true]
          rw [run_equalIn_struct w (d + n) t _ _ (by rw [hfo, hd]) hst, hfo]
          -- the fields, one after the other
          have key : ∀ (gs : List Field) (px py rx ry : List Value) (ls : List Bool), flatGo P (flatP P d) gs px.length = some ls → py.length = px.length → Leafy ls rx → Leafy ls ry → kindL rx ry →
              (Op.eqFields (d + n) (px ++ rx).toArray (py ++ ry).toArray gs).run P w = .ok (eqL rx ry) w := by
            intro gs
            induction gs with
            | nil =>
              intro px py rx ry ls hgo hpl hrx hry hkr
              simp [flatGo] at hgo
              subst hgo
              match rx, ry, hrx, hry with
              | [], [], _, _ => simp [Op.eqFields, eqL]
              | _ :: _, _, h, _ => simp [Leafy] at h
              | _, _ :: _, _, h => simp [Leafy] at h
            | cons f gs ih =>
              intro px py rx ry ls hgo hpl hrx hry hkr
              unfold flatGo at hgo
              split at hgo
              · cases hgo
              · rename_i hc
                simp only [not_or, Decidable.not_not] at hc
                obtain ⟨hname, hoff⟩ := hc
                split at hgo
                · rename_i l1 hl1
                  split at hgo
                  · rename_i hsz1
                    cases hgo2 : flatGo P (flatP P d) gs (px.length + l1.length) with
                    | none => simp [hgo2] at hgo
                    | some l2 =>
                      simp [hgo2] at hgo
                      subst hgo
                      have sx := Leafy.split hrx
                      have sy := Leafy.split hry
                      have sk := kindL.split l1.length hkr
                      have lx : (rx.take l1.length).length = l1.length := sx.1.length
                      have ly : (ry.take l1.length).length = l1.length := sy.1.length
                      have hu1 : (P.underlying f.type).isSome = true := by
                        cases d with
                        | zero => simp [flatP] at hl1
                        | succ d' =>
                          unfold flatP at hl1
                          cases hq : P.underlying f.type with
                          | none => simp [hq] at hl1
                          | some _ => rfl
                      have hone : aggP P f.type = false → l1.length = 1 := by
                        intro hg
                        cases d with
                        | zero => simp [flatP] at hl1
                        | succ d' =>
                          unfold flatP at hl1
                          unfold aggP at hg
                          cases hq : P.underlying f.type with
                          | none => simp [hq] at hl1
                          | some q => rw [hq] at hl1 hg; cases q <;> simp at hl1 hg <;> (subst hl1; rfl)
                      have ex : (px ++ rx) = px ++ rx.take l1.length ++ rx.drop l1.length := by simp
                      have ey : (py ++ ry) = py ++ ry.take l1.length ++ ry.drop l1.length := by simp
                      have p1 := run_part (P := P) f.type l1.length hsz1 hu1 px (rx.take l1.length) (rx.drop l1.length) lx hone w
                      have p2 := run_part (P := P) f.type l1.length hsz1 hu1 py (ry.take l1.length) (ry.drop l1.length) ly hone w
                      rw [hpl] at p2
                      have heq := run_equalIn_flat d f.type l1 hl1 hsz1 n (rx.take l1.length) (ry.take l1.length) sx.1 sy.1 sk.1 w
                      have hrec := ih (px ++ rx.take l1.length) (py ++ ry.take l1.length) (rx.drop l1.length) (ry.drop l1.length) l2 (by rw [List.length_append, lx]; exact hgo2) (by simp only [List.length_append, lx, ly, hpl]) sx.2 sy.2 sk.2
                      rw [← ex, ← ey] at hrec
                      rw [← ex] at p1
                      rw [← ey] at p2
                      have e2 : eqL rx ry = (eqL (rx.take l1.length) (ry.take l1.length) && eqL (rx.drop l1.length) (ry.drop l1.length)) := by
                        rw [← eqL_append _ _ _ _ (by rw [lx, ly])]; simp
                      simp only [Op.eqFields, if_pos hname, hoff, Sem.run_bind, p1, p2, Result.andThen_ok, heq, e2]
                      cases eqL (rx.take l1.length) (ry.take l1.length)
                      · simp
                      · simpa using hrec
                  · cases hgo
                · cases hgo
          have := key fs.toList [] [] xs ys ls h rfl hx hy hk
          simpa using this
      case array len e =>
        have hagg : aggP P t = true := by simp [aggP, hd]
        simp only [mkVal, hagg, if_true]
        split at h
        · rename_i l1 hl1
          split at h
          · rename_i hsz1
            injection h with h
            subst h
            have hu1 : (P.underlying e).isSome = true := by
              cases d with
              | zero => simp [flatP] at hl1
              | succ d' =>
                unfold flatP at hl1
                cases hq : P.underlying e with
                | none => simp [hq] at hl1
                | some _ => rfl
            have hone : aggP P e = false → l1.length = 1 := by
              intro hg
              cases d with
              | zero => simp [flatP] at hl1
              | succ d' =>
                unfold flatP at hl1
                unfold aggP at hg
                cases hq : P.underlying e with
                | none => simp [hq] at hl1
                | some q => rw [hq] at hl1 hg; cases q <;> simp at hl1 hg <;> (subst hl1; rfl)
            have hso : (sizeOf e).run P w = .ok l1.length w := by
              cases hi : P.info? e with
              | none => simp [hi] at hsz1
              | some i => simp [hi] at hsz1; simp [sizeOf, typeInfo, hi, hsz1]
            simp only [Op.equalIn, Sem.run_bind, run_underlying hd, Result.andThen_ok, hso]
            have key : ∀ (m k : Nat) (px py rx ry : List Value), px.length = k * l1.length → py.length = px.length → Leafy (List.replicate m l1).flatten rx → Leafy (List.replicate m l1).flatten ry → kindL rx ry →
                (forIn (m := Sem) (List.range' k m) ((none : Option Bool), ()) fun i _ => do
                  let __do_lift ← part e (px ++ rx).toArray (i * l1.length)
                  let __do_lift_1 ← part e (py ++ ry).toArray (i * l1.length)
                  let __do_lift ← Op.equalIn (d + n) e __do_lift __do_lift_1
                  if (!__do_lift) = true then pure (ForInStep.done (some false, ())) else pure (ForInStep.yield (none, ()))).run P w =
                  .ok ((if eqL rx ry then none else some false), ()) w := by
              intro m
              induction m with
              | zero =>
                intro k px py rx ry hp hpl hrx hry hkr
                match rx, ry, hrx, hry with
                | [], [], _, _ => simp [eqL]
                | _ :: _, _, h, _ => simp [Leafy] at h
                | _, _ :: _, _, h => simp [Leafy] at h
              | succ m ih =>
                intro k px py rx ry hp hpl hrx hry hkr
                rw [List.replicate_succ, List.flatten_cons] at hrx hry
                have sx := Leafy.split hrx
                have sy := Leafy.split hry
                have sk := kindL.split l1.length hkr
                have lx : (rx.take l1.length).length = l1.length := sx.1.length
                have ly : (ry.take l1.length).length = l1.length := sy.1.length
                have ex : (px ++ rx) = px ++ rx.take l1.length ++ rx.drop l1.length := by simp
                have ey : (py ++ ry) = py ++ ry.take l1.length ++ ry.drop l1.length := by simp
                have p1 := run_part (P := P) e l1.length hsz1 hu1 px (rx.take l1.length) (rx.drop l1.length) lx hone w
                have p2 := run_part (P := P) e l1.length hsz1 hu1 py (ry.take l1.length) (ry.drop l1.length) ly hone w
                rw [hpl, hp] at p2
                rw [hp] at p1
                have heq := run_equalIn_flat d e l1 hl1 hsz1 n (rx.take l1.length) (ry.take l1.length) sx.1 sy.1 sk.1 w
                have hrec := ih (k + 1) (px ++ rx.take l1.length) (py ++ ry.take l1.length) (rx.drop l1.length) (ry.drop l1.length) (by rw [List.length_append, lx, hp, Nat.add_mul]; omega) (by simp only [List.length_append, lx, ly, hpl]) sx.2 sy.2 sk.2
                rw [← ex, ← ey] at hrec
                rw [← ex] at p1
                rw [← ey] at p2
                have e2 : eqL rx ry = (eqL (rx.take l1.length) (ry.take l1.length) && eqL (rx.drop l1.length) (ry.drop l1.length)) := by
                  rw [← eqL_append _ _ _ _ (by rw [lx, ly])]; simp
                simp only [List.range'_succ, List.forIn_cons, Sem.run_bind, p1, p2, Result.andThen_ok, heq, e2]
                cases eqL (rx.take l1.length) (ry.take l1.length)
                · simp
                · simpa using hrec
            have := key len 0 [] [] xs ys (by simp) rfl hx hy hk
            rw [Std.Legacy.Range.forIn_eq_forIn_range']
            simp only [Std.Legacy.Range.size, Nat.sub_zero, Nat.add_sub_cancel, Nat.div_one, List.nil_append] at this ⊢
            rw [this]
            cases eqL xs ys <;> simp
          · cases h
        · cases h
end
end Go.Ab
