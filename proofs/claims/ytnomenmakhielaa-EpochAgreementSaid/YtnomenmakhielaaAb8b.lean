/-
  Maps: make, look up (with and without 'ok'), store, delete.
-/
import Derived.Test.YtnomenmakhielaaAb8
import Derived.MapKept
namespace Go.Ab

def keqL : List Value → List Value → Bool
  | [], [] => true
  | .int _ a :: xs, .int _ b :: ys => (a == b) && keqL xs ys
  | .bool a :: xs, .bool b :: ys => (a == b) && keqL xs ys
  | _, _ => false

/-- Equality of keys of one shape. -/
def keq : Value → Value → Bool
  | .int _ a, .int _ b => a == b
  | .bool a, .bool b => a == b
  | .string a, .string b => a == b
  | .agg a, .agg b => keqL a.toList b.toList
  | _, _ => false

def mget : List (Value × AV) → Value → Option AV
  | [], _ => none
  | (k', v) :: r, k => if keq k k' then some v else mget r k

def mhas (es : List (Value × AV)) (k : Value) : Bool := (mget es k).isSome
def mval (es : List (Value × AV)) (z : AV) (k : Value) : AV := (mget es k).getD z

def mput : List (Value × AV) → Value → AV → List (Value × AV)
  | [], k, v => [(k, v)]
  | (k', v') :: r, k, v => if keq k k' then (k, v) :: r else (k', v') :: mput r k v

def mdel : List (Value × AV) → Value → List (Value × AV)
  | [], _ => []
  | (k', v') :: r, k => if keq k k' then r else (k', v') :: mdel r k

theorem leafK_keq : ∀ {ls : List (Option IntKind)} {xs ys : List Value}, leafK ls xs → leafK ls ys → keqL xs ys = true → xs = ys
  | [], [], [], _, _, _ => rfl
  | some k :: ls, .int k1 a :: xs, .int k2 b :: ys, hx, hy, h => by
    simp only [leafK] at hx hy
    simp only [keqL, Bool.and_eq_true, beq_iff_eq] at h
    rw [hx.1, hy.1, h.1, leafK_keq hx.2 hy.2 h.2]
  | none :: ls, .bool a :: xs, .bool b :: ys, hx, hy, h => by
    simp only [leafK] at hx hy
    simp only [keqL, Bool.and_eq_true, beq_iff_eq] at h
    rw [h.1, leafK_keq hx hy h.2]
  | [], [], _ :: _, _, hy, _ => by simp [leafK] at hy
  | [], _ :: _, _, hx, _, _ => by simp [leafK] at hx
  | some _ :: _, [], _, hx, _, _ => by simp [leafK] at hx
  | none :: _, [], _, hx, _, _ => by simp [leafK] at hx
  | some _ :: _, .int _ _ :: _, [], _, hy, _ => by simp [leafK] at hy
  | none :: _, .bool _ :: _, [], _, hy, _ => by simp [leafK] at hy

theorem KS.eq {sh : KS} {a b : Value} (ha : sh.ok a) (hb : sh.ok b) (h : keq a b = true) : a = b := by
  cases sh <;> cases a <;> simp only [KS.ok] at ha <;> cases b <;> simp only [KS.ok] at hb <;> simp only [keq, beq_iff_eq] at h
  · rw [ha, hb, h]
  · rw [h]
  · congr 1
    exact (MapKept.bytes_beq _ _).1 (by simpa using h)
  · congr 1
    exact Array.ext' (leafK_keq ha hb h)

/-- What a list of entries holds at a key: where, and what. -/
def entAt (k : Value) : List MapEntry → Nat → Option (Nat × Value)
  | [], _ => none
  | e :: es, i => if keq k e.key then some (i, e.val) else entAt k es (i + 1)

def KS.leaves : List (Option IntKind) → List Bool
  | [] => []
  | some _ :: ls => false :: KS.leaves ls
  | none :: ls => true :: KS.leaves ls

/-- The shape of the keys of a type, told by the type table. -/
def shapeZ : List ZC → Option (List (Option IntKind))
  | [] => some []
  | .int k :: zs => (shapeZ zs).map (some k :: ·)
  | .bool :: zs => (shapeZ zs).map (none :: ·)
  | _ => none

def boolsEq : List Bool → List Bool → Bool
  | [], [] => true
  | true :: a, true :: b => boolsEq a b
  | false :: a, false :: b => boolsEq a b
  | _, _ => false
theorem boolsEq_eq : ∀ {a b : List Bool}, boolsEq a b = true → a = b
  | [], [], _ => rfl
  | true :: a, true :: b, h => by simp only [boolsEq] at h; rw [boolsEq_eq h]
  | false :: a, false :: b, h => by simp only [boolsEq] at h; rw [boolsEq_eq h]
  | [], _ :: _, h => by simp [boolsEq] at h
  | true :: _, [], h => by simp [boolsEq] at h
  | false :: _, [], h => by simp [boolsEq] at h
  | true :: _, false :: _, h => by simp [boolsEq] at h
  | false :: _, true :: _, h => by simp [boolsEq] at h

def shapeA (eqv : Option (List Bool)) (s : Option (List (Option IntKind))) : Option KS :=
  match eqv, s with
  | some ls, some s => if boolsEq ls (KS.leaves s) then some (.agg s) else none
  | _, _ => none

def shapeT (ti : TI) : Option KS :=
  match ti.d with
  | .int k => some (.int k)
  | .bool => some .bool
  | .str => some .str
  | .strct _ => shapeA ti.eqv (shapeZ ti.zero)
  | .array _ _ => shapeA ti.eqv (shapeZ ti.zero)
  | _ => none

def shapeOf (Γ : Tab) (t : TypeId) : Option KS :=
  match Γ.get t with
  | some ti => shapeT ti
  | none => none

theorem leafK_leafy : ∀ {ls : List (Option IntKind)} {xs : List Value}, leafK ls xs → Leafy (KS.leaves ls) xs
  | [], [], _ => trivial
  | some k :: ls, .int k1 a :: xs, h => by simp only [leafK] at h; exact ⟨trivial, leafK_leafy h.2⟩
  | none :: ls, .bool a :: xs, h => by simp only [leafK] at h; exact ⟨trivial, leafK_leafy h⟩
  | [], _ :: _, h => by simp [leafK] at h
  | some _ :: _, [], h => by simp [leafK] at h
  | none :: _, [], h => by simp [leafK] at h

theorem leafK_kind : ∀ {ls : List (Option IntKind)} {xs ys : List Value}, leafK ls xs → leafK ls ys → kindL xs ys ∧ eqL xs ys = keqL xs ys
  | [], [], [], _, _ => ⟨trivial, rfl⟩
  | some k :: ls, .int k1 a :: xs, .int k2 b :: ys, hx, hy => by
    simp only [leafK] at hx hy
    obtain ⟨h1, h2⟩ := leafK_kind hx.2 hy.2
    exact ⟨⟨by rw [ckind]; exact hx.1.trans hy.1.symm, h1⟩, by simp [eqL, keqL, ceq, h2]⟩
  | none :: ls, .bool a :: xs, .bool b :: ys, hx, hy => by
    simp only [leafK] at hx hy
    obtain ⟨h1, h2⟩ := leafK_kind hx hy
    exact ⟨⟨trivial, h1⟩, by simp [eqL, keqL, ceq, h2]⟩
  | [], [], _ :: _, _, hy => by simp [leafK] at hy
  | [], _ :: _, _, hx, _ => by simp [leafK] at hx
  | some _ :: _, [], _, hx, _ => by simp [leafK] at hx
  | none :: _, [], _, hx, _ => by simp [leafK] at hx
  | some _ :: _, .int _ _ :: _, [], _, hy => by simp [leafK] at hy
  | none :: _, .bool _ :: _, [], _, hy => by simp [leafK] at hy

section
variable {P : Program} {Γ : Tab}

/-- A part of a flat value's cells. -/
theorem run_part_flat {d : Nat} {t : TypeId} {ls : List Bool} (h : flatP P d t = some ls) (hsz : (P.info? t).map (·.size) = some ls.length) (pre mid post : List Value) (hm : mid.length = ls.length) (w : World) :
    (part t (pre ++ mid ++ post).toArray pre.length).run P w = .ok (mkVal (aggP P t) mid) w := by
  cases d with
  | zero => simp [flatP] at h
  | succ d =>
    have hu : (P.underlying t).isSome = true := by
      unfold flatP at h
      cases hq : P.underlying t with
      | none => simp [hq] at h
      | some _ => rfl
    refine run_part t ls.length hsz hu pre mid post hm (fun hg => ?_) w
    unfold flatP at h
    unfold aggP at hg
    cases hq : P.underlying t with
    | none => simp [hq] at h
    | some q => rw [hq] at h hg; cases q <;> simp at h hg <;> (subst h; rfl)

/-- Values all of whose cells are integers and bools may be keys. -/
theorem run_checkKey_flat (em : Bool) : ∀ (d : Nat) (t : TypeId) (ls : List Bool), flatP P d t = some ls → (P.info? t).map (·.size) = some ls.length → ∀ (n : Nat) (xs : List Value), Leafy ls xs →
    ∀ w, (Instr.checkKey em (d + n) t (mkVal (aggP P t) xs)).run P w = .ok () w
  | 0, _, _, h, _ => by simp [flatP] at h
  | d + 1, t, ls, h, hsz => by
    intro n xs hx w
    unfold flatP at h
    rw [show d + 1 + n = (d + n) + 1 by omega, Instr.checkKey]
    cases hd : P.underlying t with
    | none => simp [hd] at h
    | some u =>
      rw [hd] at h
      simp only [Sem.run_bind, run_underlying hd, Result.andThen_ok]
      cases u <;> simp only [] at h <;> try (cases h; done)
      case int k => simp
      case bool => simp
      case struct fs =>
        split at h
        · cases h
        · have hagg : aggP P t = true := by simp [aggP, hd]
          simp only [mkVal, hagg, if_true]
          rw [← Array.forIn_toList]
          have key : ∀ (gs : List Field) (px rx : List Value) (ls : List Bool), flatGo P (flatP P d) gs px.length = some ls → Leafy ls rx →
              (forIn gs PUnit.unit (fun (f : Field) (_ : PUnit) => (do
                if f.name ≠ "_" then Instr.checkKey em (d + n) f.type (← part f.type (px ++ rx).toArray f.offset)
                pure (ForInStep.yield PUnit.unit) : Sem (ForInStep PUnit)))).run P w = .ok PUnit.unit w := by
            intro gs
            induction gs with
            | nil => intro px rx ls _ _; simp
            | cons f gs ih =>
              intro px rx ls hgo hrx
              unfold flatGo at hgo
              split at hgo
              · cases hgo
              · rename_i hc
                simp only [not_or, Decidable.not_not] at hc
                obtain ⟨hname, hoff⟩ := hc
                split at hgo
                · rename_i l1 hl1
                  split at hgo
                  · rename_i hsz1
                    cases hgo2 : flatGo P (flatP P d) gs (px.length + l1.length) with
                    | none => simp [hgo2] at hgo
                    | some l2 =>
                      simp [hgo2] at hgo
                      subst hgo
                      have sx := Leafy.split hrx
                      have lx : (rx.take l1.length).length = l1.length := sx.1.length
                      have p1 := run_part_flat hl1 hsz1 px (rx.take l1.length) (rx.drop l1.length) lx w
                      have e : px ++ rx.take l1.length ++ rx.drop l1.length = px ++ rx := by simp
                      rw [e] at p1
                      have c1 := run_checkKey_flat em d f.type l1 hl1 hsz1 n _ sx.1 w
                      have hrec := ih (px ++ rx.take l1.length) (rx.drop l1.length) l2 (by rw [List.length_append, lx]; exact hgo2) sx.2
                      rw [e] at hrec
                      simp only [List.forIn_cons, Sem.run_bind, hname, ne_eq, not_false_eq_true, if_true, hoff, Result.andThen_ok, p1, c1, Sem.run_pure]
                      exact hrec
                  · cases hgo
                · cases hgo
          have := key fs.toList [] xs ls h hx
          simpa using this
      case array len e =>
        split at h
        · rename_i l1 hl1
          split at h
          · rename_i hsz1
            injection h with h
            subst h
            have hagg : aggP P t = true := by simp [aggP, hd]
            have hso : (sizeOf e).run P w = .ok l1.length w := by
              cases hi : P.info? e with
              | none => simp [hi] at hsz1
              | some i => simp [hi] at hsz1; simp [sizeOf, typeInfo, hi, hsz1]
            simp only [mkVal, hagg, if_true]
            simp only [Std.Legacy.Range.forIn_eq_forIn_range', Std.Legacy.Range.size, Nat.sub_zero, Nat.add_one_sub_one, Nat.div_one]
            have key : ∀ (m k : Nat) (px rx : List Value), px.length = k * l1.length → Leafy (List.replicate m l1).flatten rx →
                (forIn (List.range' k m) PUnit.unit (fun (i : Nat) (_ : PUnit) => (do
                  Instr.checkKey em (d + n) e (← part e (px ++ rx).toArray (i * (← sizeOf e)))
                  pure (ForInStep.yield PUnit.unit) : Sem (ForInStep PUnit)))).run P w = .ok PUnit.unit w := by
              intro m
              induction m with
              | zero => intro k px rx _ _; simp
              | succ m ih =>
                intro k px rx hpx hrx
                rw [List.replicate_succ, List.flatten_cons] at hrx
                have sx := Leafy.split hrx
                have lx : (rx.take l1.length).length = l1.length := sx.1.length
                have p1 := run_part_flat hl1 hsz1 px (rx.take l1.length) (rx.drop l1.length) lx w
                have e2 : px ++ rx.take l1.length ++ rx.drop l1.length = px ++ rx := by simp
                rw [e2, hpx] at p1
                have c1 := run_checkKey_flat em d e l1 hl1 hsz1 n _ sx.1 w
                have hrec := ih (k + 1) (px ++ rx.take l1.length) (rx.drop l1.length) (by rw [List.length_append, lx, hpx, Nat.succ_mul]) sx.2
                rw [e2] at hrec
                simp only [List.range'_succ, List.forIn_cons, Sem.run_bind, hso, Result.andThen_ok, p1, c1, Sem.run_pure]
                exact hrec
            have := key len 0 [] xs (by simp) hx
            simpa using this
          · cases h
        · cases h

theorem two {α : Type} {x : α} {r : Option (Option α)} {y : Option α} (b : Bool) (_ : True := trivial) (h : r = some y) : (match some b with | some true => some (some x) | some false => r | none => none) = some (if b = true then some x else y) := by
  cases b <;> simp [h]

theorem findNow_ok {d : TypeDesc} {k : Value} (hk : MapKept.IsKey d k) : ∀ (es : List MapEntry) (i : Nat), (∀ e ∈ es, MapKept.IsKey d e.key) → Instr.findNow d k es i = some (entAt k es i)
  | [], i, _ => rfl
  | e :: es, i, h => by
    have he := h e (by simp)
    have ih := findNow_ok hk es (i + 1) (fun x hx => h x (by simp [hx]))
    obtain ⟨ek, ev, eb⟩ := e
    simp only [] at he
    unfold Instr.findNow entAt
    cases d <;> cases k <;> simp only [MapKept.IsKey] at hk <;> cases ek <;> simp only [MapKept.IsKey] at he <;> simp only [Instr.sameNow, keq]
    · exact two _ trivial ih
    · subst hk; subst he
      simp only [if_true]
      exact two _ trivial ih
    · exact two _ trivial ih

/-- A shape that is told is that of the type's values. -/
theorem shape_find (hΓ : TabOk P Γ) {t : TypeId} {sh : KS} (hs : shapeOf Γ t = some sh) {k : Value} (hk : sh.ok k) (es : List MapEntry) (hes : ∀ e ∈ es, sh.ok e.key) (w : World) :
    (∀ em, (Instr.checkKey em 10000 t k).run P w = .ok () w) ∧ (Instr.findKey t k es).run P w = .ok (entAt k es 0) w ∧ (Instr.keyThatStays k k).run P w = .ok k w := by
  unfold shapeOf at hs
  split at hs
  case h_2 => cases hs
  rename_i ti hti
  have hti := hΓ t ti hti
  have hd := hti.desc
  have plain : ∀ d : TypeDesc, P.underlying t = some d → (∀ v, sh.ok v → MapKept.IsKey d v) →
      (∀ em, (Instr.checkKey em 10000 t k).run P w = .ok () w) ∧ (Instr.findKey t k es).run P w = .ok (entAt k es 0) w ∧ (Instr.keyThatStays k k).run P w = .ok k w := fun d hu hv =>
    ⟨fun em => MapKept.run_checkKey hu (hv k hk) em 9999, MapKept.run_findKey hu (findNow_ok (hv k hk) es 0 fun e he => hv _ (hes e he)), MapKept.run_keyThatStays (hv k hk)⟩
  have wide : ∀ ls s, ti.eqv = some ls → boolsEq ls (KS.leaves s) = true → sh = .agg s →
      (∀ em, (Instr.checkKey em 10000 t k).run P w = .ok () w) ∧ (Instr.findKey t k es).run P w = .ok (entAt k es 0) w ∧ (Instr.keyThatStays k k).run P w = .ok k w := by
    intro ls s hls hb hsh
    subst hsh
    obtain ⟨hf, hgd, hll, hia⟩ := hti.eqv ls hls
    have hag : aggP P t = true := hti.aggP.trans hia
    have hsz : (P.info? t).map (·.size) = some ls.length := by
      obtain ⟨i, hi, hs, _⟩ := hti.bytesOf
      simp [hi, hs, hll]
    have hle := boolsEq_eq hb
    cases k <;> simp only [KS.ok] at hk
    rename_i ks
    have hmk : (Value.agg ks) = mkVal (aggP P t) ks.toList := by simp [mkVal, hag]
    refine ⟨fun em => ?_, ?_, ?_⟩
    · rw [hmk]
      exact run_checkKey_flat em 8 t ls hf hsz 9992 _ (hle ▸ leafK_leafy hk) w
    · have ask : ∀ (es : List MapEntry) (i : Nat), (∀ e ∈ es, (KS.agg s).ok e.key) → (Instr.findAsking t (.agg ks) es i).run P w = .ok (entAt (.agg ks) es i) w := by
        intro es
        induction es with
        | nil => intro i _; simp [Instr.findAsking, entAt]
        | cons e es ih =>
          intro i he
          have h0 := he e (by simp)
          have h1 := ih (i + 1) (fun x hx => he x (by simp [hx]))
          obtain ⟨ek, ev, eb⟩ := e
          simp only [] at h0
          cases ek <;> simp only [KS.ok] at h0
          rename_i cs
          have hmc : (Value.agg cs) = mkVal (aggP P t) cs.toList := by simp [mkVal, hag]
          obtain ⟨q1, q2⟩ := leafK_kind hk h0
          have heq := run_equalIn_flat (P := P) 8 t ls hf hsz 9992 ks.toList cs.toList (hle ▸ leafK_leafy hk) (hle ▸ leafK_leafy h0) q1 w
          rw [← hmk, ← hmc, q2] at heq
          have heq' : (Op.equal t (.agg ks) (.agg cs)).run P w = .ok (keqL ks.toList cs.toList) w := heq
          unfold Instr.findAsking entAt
          simp only [Sem.run_bind, heq', Result.andThen_ok, keq]
          by_cases hq : keqL ks.toList cs.toList = true
          · simp only [hq, if_true, Sem.run_pure]
          · simp only [hq, Bool.false_eq_true, if_false]; exact h1
      unfold Instr.findKey
      have hund : ∃ d, P.underlying t = some d ∧ ∀ e, Instr.sameNow d (.agg ks) e = none := by
        cases hdd : ti.d <;> rw [hdd] at hd hia <;> simp [TD.isAgg] at hia
        · obtain ⟨fs, hu, _⟩ := hd
          exact ⟨_, hu, fun e => by cases e <;> rfl⟩
        · exact ⟨_, hd, fun e => by cases e <;> rfl⟩
      obtain ⟨d, hu, hno⟩ := hund
      simp only [Sem.run_bind, run_underlying hu, Result.andThen_ok]
      cases es with
      | nil => simp [Instr.findNow, entAt]
      | cons e es =>
        have : Instr.findNow d (.agg ks) (e :: es) 0 = none := by simp [Instr.findNow, hno]
        rw [this]
        exact ask _ 0 hes
    · have self : ∀ (n : Nat) (ls : List (Option IntKind)) (xs : List Value), leafK ls xs → (xs.zip xs).all (fun x => Instr.sameBits n x.1 x.2) = true := by
        intro n ls
        induction ls with
        | nil => intro xs h; cases xs <;> simp [leafK] at h ⊢
        | cons l ls ih =>
          intro xs h
          cases xs with
          | nil => cases l <;> simp [leafK] at h
          | cons x xs =>
            cases l <;> cases x <;> simp only [leafK] at h
            · simp [Instr.sameBits, ih xs h]
            · simp [Instr.sameBits, ih xs h.2]
      have : Instr.sameBits 10000 (.agg ks) (.agg ks) = true := by
        unfold Instr.sameBits
        simp only [beq_self_eq_true, Bool.true_and]
        exact self 9999 s ks.toList hk
      simp [Instr.keyThatStays, this]
  unfold shapeT at hs
  cases hdd : ti.d <;> rw [hdd] at hs hd <;> simp only [TD.holds] at hd <;> simp only [] at hs <;> (try (cases hs; done))
  case int q =>
    injection hs with hs; subst hs
    exact plain _ hd fun v hv => by cases v <;> simp [KS.ok] at hv; subst hv; simp [MapKept.IsKey]
  case bool =>
    injection hs with hs; subst hs
    exact plain _ hd fun v hv => by cases v <;> simp [KS.ok] at hv; simp [MapKept.IsKey]
  case str =>
    injection hs with hs; subst hs
    exact plain _ hd fun v hv => by cases v <;> simp [KS.ok] at hv; simp [MapKept.IsKey]
  all_goals
    unfold shapeA at hs
    split at hs
    · rename_i ls s h1 h2
      split at hs
      · rename_i hb
        injection hs with hs
        exact wide ls s h1 hb hs.symm
      · cases hs
    · cases hs

/-- The key that an abstract value is. -/
def immL : List AV → Option (List Value)
  | [] => some []
  | .imm v :: vs => match immL vs with | some xs => some (v :: xs) | none => none
  | _ => none

def keyV : AV → Option Value
  | .imm v => some v
  | .agg vs => match immL vs with | some xs => some (.agg xs.toArray) | none => none
  | _ => none

theorem immL_sound {ρ : Rho} {w : World} : ∀ {vs : List AV} {xs ys : List Value}, immL vs = some xs → RvL ρ w vs ys → ys = xs
  | [], xs, ys, h, hr => by
    simp only [immL, Option.some.injEq] at h
    subst h
    cases ys <;> simp [RvL] at hr ⊢
  | v :: vs, xs, ys, h, hr => by
    cases ys with
    | nil => simp [RvL] at hr
    | cons y ys =>
      simp only [RvL] at hr
      cases v <;> simp only [immL] at h <;> (try (cases h; done))
      split at h
      · rename_i zs hz
        simp only [Option.some.injEq] at h
        subst h
        have h1 := hr.1
        simp only [Rv] at h1
        rw [h1, immL_sound hz hr.2]
      · cases h

theorem keyV_sound {ρ : Rho} {w : World} {v : AV} {k x : Value} (h : keyV v = some k) (hr : Rv ρ w v x) : x = k := by
  cases v <;> simp only [keyV] at h <;> (try (cases h; done))
  · simp only [Option.some.injEq] at h
    subst h
    simpa only [Rv] using hr
  · split at h
    · rename_i xs hx
      simp only [Option.some.injEq] at h
      subst h
      simp only [Rv] at hr
      obtain ⟨cs, rfl, hc⟩ := hr
      rw [immL_sound hx hc]
    · cases h

theorem entAt_none {k : Value} : ∀ {a : List MapEntry} {i : Nat} {es : List (Value × AV)}, a.map (·.key) = es.map (·.1) → entAt k a i = none → mget es k = none
  | [], i, [], _, _ => rfl
  | e :: a, i, (k', v) :: es, hk, h => by
    simp only [List.map_cons, List.cons.injEq] at hk
    unfold entAt at h
    unfold mget
    rw [← hk.1]
    split at h
    · cases h
    · rename_i hne
      rw [if_neg hne]
      exact entAt_none hk.2 h
  | [], _, _ :: _, hk, _ => by simp at hk
  | _ :: _, _, [], hk, _ => by simp at hk

theorem entAt_some {ρ : Rho} {w : World} {k : Value} : ∀ {a : List MapEntry} {i j : Nat} {x : Value} {es : List (Value × AV)}, a.map (·.key) = es.map (·.1) → RvL ρ w (es.map (·.2)) (a.map (·.val)) → entAt k a i = some (j, x) →
    ∃ v, mget es k = some v ∧ Rv ρ w v x ∧ i ≤ j ∧ ∃ e, a[j - i]? = some e ∧ keq k e.key = true ∧ e.val = x
  | [], i, j, x, [], _, _, h => by simp [entAt] at h
  | e :: a, i, j, x, (k', v) :: es, hk, hv, h => by
    simp only [List.map_cons, List.cons.injEq] at hk
    simp only [List.map_cons, RvL] at hv
    unfold entAt at h
    unfold mget
    rw [← hk.1]
    split at h
    · rename_i hq
      simp only [Option.some.injEq, Prod.mk.injEq] at h
      obtain ⟨rfl, rfl⟩ := h
      rw [if_pos hq]
      exact ⟨v, rfl, hv.1, Nat.le_refl _, e, by simp, hq, rfl⟩
    · rename_i hne
      rw [if_neg hne]
      obtain ⟨v', h1, h2, h3, e', h4, h5, h6⟩ := entAt_some hk.2 hv.2 h
      refine ⟨v', h1, h2, by omega, e', ?_, h5, h6⟩
      rw [show j - i = (j - (i + 1)) + 1 by omega, List.getElem?_cons_succ]
      exact h4
  | [], _, _, _, _ :: _, hk, _, _ => by simp at hk
  | _ :: _, _, _, _, [], hk, _, _ => by simp at hk

/-- A place of the kind 'm[k]'. -/
def eMakeMap (Γ : Tab) (σ : List AObj) (t : TypeId) : Option (AV × List AObj × Prop) :=
  match Γ.get t with
  | some ti =>
    match ti.d with
    | .map k _ =>
      match shapeOf Γ k with
      | some sh => some (.map σ.length, σ ++ [.mp sh []], True)
      | none => none
    | _ => none
  | none => none

def zeroA (te : TI) : Option AV := if te.d.isAgg then some (.agg (zeroL te.zero)) else match te.zero with | [z] => some (.imm z.val) | _ => none

def eLookup (Γ : Tab) (σ : List AObj) (t : TypeId) (m ix : AV) (ok : Bool) : Option (AV × Prop) :=
  match Γ.get t with
  | some ti =>
    match ti.d with
    | .map k e =>
      match shapeOf Γ k, Γ.get e, m, keyV ix with
      | some sh, some te, .map o, some kv =>
        match nthO σ o, zeroA te with
        | .mp sh' es, some z => some (if ok then .tup [mval es z kv, .imm (.bool (mhas es kv))] else mval es z kv, sh' = sh ∧ sh.ok kv)
        | _, _ => none
      | _, _, _, _ => none
    | _ => none
  | none => none

def eMapUpdate (Γ : Tab) (σ : List AObj) (t : TypeId) (m ix v : AV) : Option (List AObj × Prop) :=
  match Γ.get t with
  | some ti =>
    match ti.d with
    | .map k _ =>
      match shapeOf Γ k, m, keyV ix with
      | some sh, .map o, some kv =>
        match nthO σ o with
        | .mp sh' es => some (σ.set o (.mp sh (mput es kv v)), sh' = sh ∧ sh.ok kv)
        | _ => none
      | _, _, _ => none
    | _ => none
  | none => none

theorem zeroA_sound {t : TypeId} {te : TI} (hte : TIok P t te) {z : AV} (hz : zeroA te = some z) (ρ : Rho) (w : World) : ∃ x, (zeroValue t).run P w = .ok x w ∧ Rv ρ w z x := by
  obtain ⟨i, x, hi, _, _, hx, hc⟩ := hte.info
  have hag := hte.zagg i x hi hx
  refine ⟨x, by simp [Go.zeroValue, typeInfo, hi, hx], ?_⟩
  unfold zeroA at hz
  split at hz
  · rename_i h1
    simp only [Option.some.injEq] at hz
    subst hz
    rw [h1] at hag
    cases x <;> simp [isAggV] at hag
    rename_i cs
    simp only [Rv]
    refine ⟨te.zero.map ZC.val, ?_, zeroL_sound ρ w _⟩
    simp only [Value.cells] at hc
    rw [hc]
  · rename_i h1
    split at hz
    case h_2 => cases hz
    rename_i zc hzc
    simp only [Option.some.injEq] at hz
    subst hz
    simp only [Bool.not_eq_true] at h1
    rw [h1] at hag
    rw [hzc] at hc
    have : x.cells = #[x] := by cases x <;> simp [isAggV] at hag <;> rfl
    rw [this] at hc
    simp only [Rv]
    simpa using hc

def eMakeMapO (Γ : Tab) (σ : List AObj) (t : TypeId) : Option AV → Option (AV × List AObj × Prop)
  | none => eMakeMap Γ σ t
  | some (.imm (.int _ _)) => eMakeMap Γ σ t
  | _ => none

theorem eMakeMap_sound (hΓ : TabOk P Γ) {ρ : Rho} {w : World} {σ σ' : List AObj} (hH : RH ρ w σ) {t : TypeId} {v : AV} {C : Prop} (h : eMakeMap Γ σ t = some (v, σ', C)) {r : Option Value} (hr : r = none ∨ ∃ k n, r = some (.int k n)) :
    ∃ x ρ' w', (Instr.makeMap t r).run P w = .ok x w' ∧ Rv ρ' w' v x ∧ RH ρ' w' σ' ∧ Step ρ w ρ' w' := by
  unfold eMakeMap at h
  split at h
  case h_2 => cases h
  rename_i ti hti
  have hd := (hΓ t ti hti).desc
  split at h
  case h_2 => cases h
  rename_i k e hfs
  rw [hfs] at hd
  simp only [TD.holds] at hd
  split at h
  case h_2 => cases h
  rename_i sh hsh
  simp only [Option.some.injEq, Prod.mk.injEq] at h
  obtain ⟨rfl, rfl, rfl⟩ := h
  have hrun : (Instr.makeMap t r).run P w = .ok (.map (some w.heap.size)) (w.alloc (.map #[] 0)) := by
    rcases hr with rfl | ⟨q, n, rfl⟩
    · rfl
    · simp [Instr.makeMap, run_underlying hd, asInt, asIntOf]
  have hs : Step ρ w (ρ ++ [some ⟨w.heap.size, 0, 0, 0⟩]) (w.alloc (.map #[] 0)) := Step.push _ rfl rfl rfl rfl (by simp) (fun b hb => RowKit.Below.heap_alloc w _ b hb)
  refine ⟨_, _, _, hrun, ?_, RH.push hH _ _ hs rfl (by simp) (fun b hb => RowKit.Below.heap_alloc w _ b hb) ?_, hs⟩
  · simp only [Rv]
    exact ⟨_, by rw [← hH.len]; exact getElem?_snoc _ _, rfl⟩
  · exact ⟨_, #[], 0, getElem?_snoc _ _, (MapKept.heap_alloc w _).1, ⟨by simp, by simp⟩, by simp, by simp, by simp [RvL]⟩

/-- What is known of a map object. -/
theorem map_obj {ρ : Rho} {w : World} {σ : List AObj} (hH : RH ρ w σ) {o : Nat} {sh : KS} {es : List (Value × AV)} (ho : nthO σ o = .mp sh es) {x : Value} (hx : Rv ρ w (.map o) x) :
    ∃ (l : Loc) (a : Array MapEntry) (clock : Nat), ρ[o]? = some (some l) ∧ x = .map (some l.b) ∧ w.heap[l.b]? = some (.map a clock) ∧ ((∀ e ∈ a.toList, e.born < clock) ∧ (a.toList.map (·.born)).Nodup) ∧
      (∀ e ∈ es, sh.ok e.1) ∧ a.toList.map (·.key) = es.map (·.1) ∧ RvL ρ w (es.map (·.2)) (a.toList.map (·.val)) ∧ ∀ e ∈ a.toList, sh.ok e.key := by
  simp only [Rv] at hx
  obtain ⟨l, hl, rfl⟩ := hx
  obtain ⟨l', a, clock, hl', hh, hb, hk, hks, hv⟩ := hH.obj o _ (nthO_eq ho rfl)
  rw [hl] at hl'
  simp only [Option.some.injEq] at hl'
  subst hl'
  refine ⟨l, a, clock, hl, rfl, hh, hb, hk, hks, hv, fun e he => ?_⟩
  have : e.key ∈ es.map (·.1) := by rw [← hks]; exact List.mem_map_of_mem he
  obtain ⟨e1, h4, h5⟩ := List.mem_map.1 this
  rw [← h5]; exact hk e1 h4

theorem eLookup_sound (hΓ : TabOk P Γ) {ρ : Rho} {w : World} {σ : List AObj} (hH : RH ρ w σ) {t : TypeId} {m ix v : AV} {ok : Bool} {C : Prop} (h : eLookup Γ σ t m ix ok = some (v, C)) (hC : C) {vm vi : Value} (hm : Rv ρ w m vm) (hi : Rv ρ w ix vi) :
    ∃ r, (Instr.lookup t vm vi ok).run P w = .ok r w ∧ Rv ρ w v r := by
  unfold eLookup at h
  split at h
  case h_2 => cases h
  rename_i ti hti
  have hd := (hΓ t ti hti).desc
  split at h
  case h_2 => cases h
  rename_i k e hfs
  rw [hfs] at hd
  simp only [TD.holds] at hd
  split at h
  case h_2 => cases h
  rename_i sh te o kv hsh hte hkv
  split at h
  case h_2 => cases h
  rename_i sh' es z hob hz
  simp only [Option.some.injEq, Prod.mk.injEq] at h
  obtain ⟨rfl, rfl⟩ := h
  obtain ⟨rfl, hok⟩ := hC
  obtain rfl := keyV_sound hkv hi
  obtain ⟨l, a, clock, hl, rfl, hh, hb, hk, hks, hv, hke⟩ := map_obj hH hob hm
  obtain ⟨c1, c2, c3⟩ := shape_find hΓ hsh hok a.toList hke w
  have hg := MapKept.run_getObj_map (P := P) hh
  obtain ⟨zv, hzr, hzv⟩ := zeroA_sound (hΓ e te hte) hz ρ w
  unfold mval mhas
  cases hq : entAt vi a.toList 0 with
  | none =>
    have hn := entAt_none hks hq
    rw [hq] at c2
    refine ⟨if ok then .tuple #[zv, .bool false] else zv, ?_, ?_⟩
    · simp [Instr.lookup, run_underlying hd, hg, c1, c2, hzr, Result.andThen]
    · rw [hn]
      cases ok
      · simpa using hzv
      · simp only [if_true, Rv, Option.getD_none, Option.isSome_none]
        exact ⟨[zv, .bool false], rfl, by simp only [RvL, Rv, and_true]; exact hzv⟩
  | some q =>
    obtain ⟨j, x⟩ := q
    obtain ⟨u, g1, g2, _⟩ := entAt_some hks hv hq
    rw [hq] at c2
    refine ⟨if ok then .tuple #[x, .bool true] else x, ?_, ?_⟩
    · simp [Instr.lookup, run_underlying hd, hg, c1, c2, Result.andThen]
    · rw [g1]
      cases ok
      · simpa using g2
      · simp only [if_true, Rv, Option.getD_some, Option.isSome_some]
        exact ⟨[x, .bool true], rfl, by simp only [RvL, Rv, and_true]; exact g2⟩

theorem entAt_put {k : Value} {x : Value} {av : AV} {ρ : Rho} {w : World} (hv : Rv ρ w av x) : ∀ {a : List MapEntry} {i j : Nat} {y : Value} {es : List (Value × AV)}, a.map (·.key) = es.map (·.1) → RvL ρ w (es.map (·.2)) (a.map (·.val)) → entAt k a i = some (j, y) →
    i ≤ j ∧ j - i < a.length ∧ (∃ e, a[j - i]? = some e ∧ keq k e.key = true) ∧ ((a.modify (j - i) fun e => { e with key := k, val := x }).map (·.key) = (mput es k av).map (·.1)) ∧ RvL ρ w ((mput es k av).map (·.2)) ((a.modify (j - i) fun e => { e with key := k, val := x }).map (·.val))
  | [], i, j, y, es, _, _, h => by simp [entAt] at h
  | e :: a, i, j, y, (k', v') :: es, hk, hr, h => by
    simp only [List.map_cons, List.cons.injEq] at hk
    simp only [List.map_cons, RvL] at hr
    unfold entAt at h
    unfold mput
    rw [← hk.1]
    split at h
    · rename_i hq
      simp only [Option.some.injEq, Prod.mk.injEq] at h
      obtain ⟨rfl, rfl⟩ := h
      rw [if_pos hq]
      simp only [Nat.sub_self, List.modify_zero_cons, List.map_cons, RvL, List.length_cons, List.getElem?_cons_zero]
      exact ⟨Nat.le_refl _, by omega, ⟨e, rfl, hq⟩, by rw [hk.2], hv, hr.2⟩
    · rename_i hne
      rw [if_neg hne]
      obtain ⟨h1, h2, h3, h4, h5⟩ := entAt_put hv hk.2 hr.2 h
      rw [show j - i = (j - (i + 1)) + 1 by omega]
      simp only [List.modify_succ_cons, List.map_cons, RvL, List.length_cons, List.getElem?_cons_succ]
      exact ⟨by omega, by omega, h3, by rw [h4], hr.1, h5⟩
  | _ :: _, _, _, _, [], hk, _, _ => by simp at hk

theorem mput_none {ρ : Rho} {w : World} {k : Value} {av : AV} : ∀ {es : List (Value × AV)}, mget es k = none → mput es k av = es ++ [(k, av)]
  | [], _ => rfl
  | (k', v') :: es, h => by
    unfold mget at h
    unfold mput
    split at h
    · cases h
    · rename_i hne
      rw [if_neg hne, mput_none (ρ := ρ) (w := w) h]; rfl

theorem mput_keys {sh : KS} {k : Value} {av : AV} (hk : sh.ok k) : ∀ {es : List (Value × AV)}, (∀ e ∈ es, sh.ok e.1) → ∀ e ∈ mput es k av, sh.ok e.1
  | [], _, e, he => by simp [mput] at he; rw [he]; exact hk
  | (k', v') :: es, h, e, he => by
    unfold mput at he
    split at he
    · rcases List.mem_cons.1 he with rfl | he
      · exact hk
      · exact h e (by simp [he])
    · rcases List.mem_cons.1 he with rfl | he
      · exact h _ (by simp)
      · exact mput_keys hk (fun e he => h e (by simp [he])) e he

theorem mapStep {ρ : Rho} {w : World} {o : Nat} {l : Loc} (hl : ρ[o]? = some (some l)) (ob : Obj) : Step ρ w ρ { w with heap := w.heap.setIfInBounds l.b ob } :=
  ⟨rfl, rfl, rfl, by simp, fun b hb hn => by
    have : l.b ≠ b := fun e => hn ⟨o, l, hl, e⟩
    simp [this], List.prefix_refl _, fun b hb => .inl hb⟩

theorem born_modify (k x : Value) : ∀ (a : List MapEntry) (j : Nat), (a.modify j fun e => { e with key := k, val := x }).map (·.born) = a.map (·.born)
  | [], _ => by simp
  | e :: a, 0 => by simp
  | e :: a, j + 1 => by simp [born_modify k x a j]

theorem eMapUpdate_sound (hΓ : TabOk P Γ) {ρ : Rho} {w : World} {σ σ' : List AObj} (hH : RH ρ w σ) {t : TypeId} {m ix v : AV} {C : Prop} (h : eMapUpdate Γ σ t m ix v = some (σ', C)) (hC : C) {vm vi vv : Value} (hm : Rv ρ w m vm) (hi : Rv ρ w ix vi) (hv : Rv ρ w v vv) :
    ∃ w', (Instr.mapUpdate t vm vi vv).run P w = .ok () w' ∧ RH ρ w' σ' ∧ Step ρ w ρ w' := by
  unfold eMapUpdate at h
  split at h
  case h_2 => cases h
  rename_i ti hti
  have hd := (hΓ t ti hti).desc
  split at h
  case h_2 => cases h
  rename_i k e hfs
  rw [hfs] at hd
  simp only [TD.holds] at hd
  split at h
  case h_2 => cases h
  rename_i sh o kv hsh hkv
  split at h
  case h_2 => cases h
  rename_i sh' es hob
  simp only [Option.some.injEq, Prod.mk.injEq] at h
  obtain ⟨rfl, rfl⟩ := h
  obtain ⟨rfl, hok⟩ := hC
  obtain rfl := keyV_sound hkv hi
  obtain ⟨l, a, clock, hl, rfl, hh, hb, hk, hks, hvs, hke⟩ := map_obj hH hob hm
  obtain ⟨c1, c2, c3⟩ := shape_find hΓ hsh hok a.toList hke w
  have hg := MapKept.run_getObj_map (P := P) hh
  have hset : ∀ ob, (setObj l.b ob).run P w = .ok () { w with heap := w.heap.setIfInBounds l.b ob } := fun ob => MapKept.run_setObj_map ob hh
  have hold : ∀ ob b, b ≠ l.b → ({ w with heap := w.heap.setIfInBounds l.b ob } : World).heap[b]? = w.heap[b]? := fun ob b hb => by
    have : l.b ≠ b := fun e => hb e.symm
    simp [this]
  have hnew : ∀ ob, ({ w with heap := w.heap.setIfInBounds l.b ob } : World).heap[l.b]? = some ob := fun ob => (MapKept.heap_set hh).1
  have hvl := hvs.length
  cases hq : entAt vi a.toList 0 with
  | none =>
    have hn := entAt_none hks hq
    rw [hq] at c2
    have hs := mapStep (w := w) hl (.map (a.push { key := vi, val := vv, born := clock }) (clock + 1))
    refine ⟨_, by simp [Instr.mapUpdate, run_underlying hd, hg, c1, c2, hset, Result.andThen], RH.turn hH (nthO_eq hob rfl) rfl hl hs (hold _) ?_, hs⟩
    refine ⟨l, _, _, hl, hnew _, ⟨?_, ?_⟩, mput_keys hok hk, ?_, ?_⟩
    · intro e he
      simp only [Array.toList_push, List.mem_append, List.mem_singleton] at he
      rcases he with he | rfl
      · have := hb.1 e he; omega
      · simp
    · simp only [Array.toList_push, List.map_append, List.map_cons, List.map_nil]
      refine List.nodup_append.2 ⟨hb.2, by simp, ?_⟩
      intro x hx y hy
      simp only [List.mem_singleton] at hy
      obtain ⟨e, he, rfl⟩ := List.mem_map.1 hx
      have := hb.1 e he
      omega
    · rw [mput_none (ρ := ρ) (w := w) hn]; simp [hks]
    · rw [mput_none (ρ := ρ) (w := w) hn]
      simp only [Array.toList_push, List.map_append, List.map_cons, List.map_nil]
      refine RvL.mono hs _ (RvL.append hvs ?_)
      simp only [RvL, and_true]
      exact hv
  | some q =>
    obtain ⟨j, x⟩ := q
    rw [hq] at c2
    obtain ⟨_, h2, ⟨e0, h3, h3b⟩, h4, h5⟩ := entAt_put hv hks hvs hq
    simp only [Nat.sub_zero] at h2 h3 h4 h5
    have hj : a[j]? = some e0 := by simpa using h3
    have hkk : vi = e0.key := KS.eq hok (hke e0 (List.mem_of_getElem? h3)) h3b
    have hs := mapStep (w := w) hl (.map (a.modify j fun e => { e with key := vi, val := vv }) clock)
    refine ⟨_, by simp [Instr.mapUpdate, run_underlying hd, hg, c1, c2, hj, ← hkk, c3, hset, Result.andThen], RH.turn hH (nthO_eq hob rfl) rfl hl hs (hold _) ?_, hs⟩
    refine ⟨l, _, _, hl, hnew _, ⟨?_, ?_⟩, mput_keys hok hk, ?_, ?_⟩
    · intro e he
      rw [Array.toList_modify] at he
      have : e.born ∈ (a.toList.modify j fun e => { e with key := vi, val := vv }).map (·.born) := List.mem_map_of_mem he
      rw [born_modify] at this
      obtain ⟨e1, he1, he2⟩ := List.mem_map.1 this
      rw [← he2]
      exact hb.1 e1 he1
    · rw [Array.toList_modify, born_modify]; exact hb.2
    · rw [Array.toList_modify]; exact h4
    · rw [Array.toList_modify]; exact RvL.mono hs _ h5

end
end Go.Ab
