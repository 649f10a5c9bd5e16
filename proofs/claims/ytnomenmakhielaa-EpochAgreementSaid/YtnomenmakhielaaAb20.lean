/-
  From what a statement says of the arguments to abstract values, and from a contract to what it says of the call.
-/
import Derived.Test.YtnomenmakhielaaAb19
import Derived.Handed
import Derived.ChangeSame
import Derived.Carry
import Derived.WideKeyArgs
import Derived.WideShapes
import Derived.Deep.Slices
import Derived.OpenShut
import Derived.RowKit
namespace Go.Ab
open Go.ChangeShapes Go.WideShapes Go.RowKit

/-- What an argument is: integers, bools, strings, structs (and arrays), slices; 'slice z l': elements of z cells. -/
inductive Dat where
  | int (k : IntKind) (n : Int)
  | bool (b : Bool)
  | str (s : ByteArray)
  | strct (fs : List Dat)
  | slice (z : Nat) (l : List Dat)

def nthL : List (List AV) → Nat → List AV
  | [], _ => []
  | x :: _, 0 => x
  | _ :: xs, n + 1 => nthL xs n

mutual
def Dat.cells : Dat → List AV
  | .int k n => [.imm (.int k n)]
  | .bool b => [.imm (.bool b)]
  | .str s => [.imm (.string s)]
  | .strct fs => cellsL fs
  | .slice z l => [.view l.length z (fun i j => nth (nthL (cellsLL l) i) j)]
def cellsL : List Dat → List AV
  | [] => []
  | d :: ds => d.cells ++ cellsL ds
def cellsLL : List Dat → List (List AV)
  | [] => []
  | d :: ds => d.cells :: cellsLL ds
end

mutual
def Fits (Γ : Tab) : TypeId → Dat → Prop
  | t, .int k n => (∃ ti, Γ.get t = some ti ∧ ti.d = .int k) ∧ (Lit.int k n).wf = true
  | t, .bool _ => ∃ ti, Γ.get t = some ti ∧ ti.d = .bool
  | t, .str s => (∃ ti, Γ.get t = some ti ∧ ti.d = .str) ∧ s.size ≤ maxLen
  | t, .strct ds => ∃ ti fs, Γ.get t = some ti ∧ ti.d = .strct fs ∧ FitsL Γ fs ds
  | t, .slice z ds => ∃ ti e te, Γ.get t = some ti ∧ ti.d = .slice e ∧ Γ.get e = some te ∧ z = te.size ∧ ds.length ≤ maxLen ∧ FitsA Γ e ds
def FitsL (Γ : Tab) : List (TypeId × Nat) → List Dat → Prop
  | [], [] => True
  | f :: fs, d :: ds => Fits Γ f.1 d ∧ FitsL Γ fs ds
  | _, _ => False
def FitsA (Γ : Tab) : TypeId → List Dat → Prop
  | _, [] => True
  | e, d :: ds => Fits Γ e d ∧ FitsA Γ e ds
end

def supF (Γ : Tab) (r : TypeId → Bool) : List (TypeId × Nat) → Nat → Option Nat
  | [], off => some off
  | (t, o) :: fs, off =>
    match Γ.get t with
    | some ti => if o = off ∧ r t = true then supF Γ r fs (off + ti.size) else none
    | none => none
/-- Types of which 'Dat' tells all. -/
def supT (Γ : Tab) : Nat → TypeId → Bool
  | 0, _ => false
  | d + 1, t =>
    match Γ.get t with
    | some ti =>
      match ti.d with
      | .int _ => true
      | .bool => true
      | .str => true
      | .strct fs => (match supF Γ (supT Γ d) fs 0 with | some n => n == ti.size | none => false)
      | .slice e => (match Γ.get e with | some te => Nat.blt 0 te.size | none => false) && supT Γ d e
      | _ => false
    | none => false

theorem nthL_eq : ∀ (l : List (List AV)) (i : Nat), i < l.length → l[i]? = some (nthL l i)
  | [], _, h => by simp at h
  | x :: xs, 0, _ => by simp [nthL]
  | x :: xs, i + 1, h => by simpa [nthL] using nthL_eq xs i (by simpa using h)
theorem cellsLL_length : ∀ l : List Dat, (cellsLL l).length = l.length
  | [] => by simp [cellsLL]
  | _ :: l => by simp [cellsLL, cellsLL_length l]
theorem cellsLL_get : ∀ (l : List Dat) (i : Nat) (h : i < l.length), nthL (cellsLL l) i = l[i].cells
  | d :: l, 0, _ => by simp [cellsLL, nthL]
  | d :: l, i + 1, h => by simpa [cellsLL, nthL] using cellsLL_get l i (by simpa using h)

mutual
theorem Dat.oneL : ∀ d : Dat, oneL d.cells = true
  | .int _ _ => rfl
  | .bool _ => rfl
  | .str _ => rfl
  | .strct fs => oneL_cellsL fs
  | .slice _ _ => rfl
theorem oneL_cellsL : ∀ l : List Dat, Go.Ab.oneL (cellsL l) = true
  | [] => rfl
  | d :: l => by
    rw [cellsL]
    have h1 := d.oneL
    have h2 := oneL_cellsL l
    have : ∀ a b : List AV, Go.Ab.oneL a = true → Go.Ab.oneL b = true → Go.Ab.oneL (a ++ b) = true := by
      intro a b ha hb
      induction a with
      | nil => simpa using hb
      | cons x a ih => simp only [Go.Ab.oneL, Bool.and_eq_true, List.cons_append] at ha ⊢; exact ⟨ha.1, ih ha.2⟩
    exact this _ _ h1 h2
end

section
variable {H : Type} {enc : TypeId × Value → H} {P : Program} {Γ : Tab} {w : World} {sp : Nat → Bool} {held : Bool}

theorem TIok.cellsOf {t : TypeId} {ti : TI} (h : TIok P t ti) : P.cellsOf t = ti.size := by
  obtain ⟨i, z, hi, hs, _⟩ := h.info
  simp [Program.cellsOf, hi, hs]

theorem block_lt {a : Addr} {v : Value} (h : w.cell? a = some v) : a.block < w.heap.size := by
  rcases Nat.lt_or_ge a.block w.heap.size with h1 | h1
  · exact h1
  · unfold World.cell? at h
    rw [Array.getElem?_eq_none h1] at h
    simp at h

/-- The fields of a struct, one after the other. -/
theorem open_fields {d : Nat} {n : Nat} (ih : ∀ (t : TypeId) (cs : List Value) (x : DataW H × List MemPlace), supT Γ d t = true → DataW.trod enc P w 0 sp held n t cs = some x → ∃ D : Dat, Fits Γ t D ∧ RvL [] w D.cells cs)
    (hΓ : TabOk P Γ) {cs : List Value} : ∀ (fs : List Field) (off tot : Nat), supF Γ (supT Γ d) (fs.map fun f => (f.type, f.offset)) off = some tot → tot = cs.length →
      (∀ f ∈ fs, ∃ x, DataW.trod enc P w 0 sp held n f.type ((cs.drop f.offset).take (P.cellsOf f.type)) = some x) →
      off ≤ cs.length ∧ ∃ Ds : List Dat, FitsL Γ (fs.map fun f => (f.type, f.offset)) Ds ∧ RvL [] w (cellsL Ds) (cs.drop off)
  | [], off, tot, h, ht, _ => by
    simp only [List.map_nil, supF, Option.some.injEq] at h
    subst h
    subst ht
    exact ⟨Nat.le_refl _, [], by simp [FitsL], by simp [cellsL, RvL]⟩
  | f :: fs, off, tot, h, ht, hx => by
    simp only [List.map_cons, supF] at h
    split at h
    case h_2 => cases h
    rename_i ti hti
    split at h
    case isFalse => cases h
    rename_i hc
    obtain ⟨rfl, hsup⟩ := hc
    obtain ⟨x, hx0⟩ := hx f (by simp)
    obtain ⟨D, hD1, hD2⟩ := ih f.type _ x hsup hx0
    have htok := hΓ _ _ hti
    rw [htok.cellsOf] at hD2
    obtain ⟨h1, Ds, h2, h3⟩ := open_fields ih hΓ fs (f.offset + ti.size) tot h ht (fun g hg => hx g (by simp [hg]))
    refine ⟨by omega, D :: Ds, by simp only [List.map_cons, FitsL]; exact ⟨hD1, h2⟩, ?_⟩
    rw [cellsL]
    have e : cs.drop f.offset = (cs.drop f.offset).take ti.size ++ cs.drop (f.offset + ti.size) := by
      rw [← List.drop_drop, List.take_append_drop]
    rw [e]
    exact RvL.append hD2 h3

theorem Rv_view_ext {ρ : Rho} {n z : Nat} {e e2 : Nat → Nat → AV} {x : Value} (h : ∀ i j, i < n → j < z → e i j = e2 i j) (hx : Rv ρ w (.view n z e) x) : Rv ρ w (.view n z e2) x := by
  simp only [Rv] at hx ⊢
  obtain ⟨a, cap, rfl, h1, h2⟩ := hx
  refine ⟨a, cap, rfl, h1, fun hp => ?_⟩
  obtain ⟨ad, rfl, q1, q2, q3⟩ := h2 hp
  refine ⟨ad, rfl, q1, q2, fun i hi j hj => ?_⟩
  obtain ⟨y, a, b, c⟩ := q3 i hi j hj
  exact ⟨y, a, b, by rw [← h i j hi hj]; exact c⟩

theorem FitsA.mk {e : TypeId} : ∀ {l : List Dat}, (∀ d ∈ l, Fits Γ e d) → FitsA Γ e l
  | [], _ => by simp [FitsA]
  | d :: l, h => by simp only [FitsA]; exact ⟨h d (by simp), FitsA.mk fun x hx => h x (by simp [hx])⟩

/-- What is read as data, as an abstract value. -/
theorem open_dat (hΓ : TabOk P Γ) : ∀ (d : Nat) (n : Nat) (t : TypeId) (cs : List Value) (x : DataW H × List MemPlace), supT Γ d t = true → DataW.trod enc P w 0 sp held n t cs = some x → ∃ D : Dat, Fits Γ t D ∧ RvL [] w D.cells cs
  | 0, _, _, _, _, hs, _ => by simp [supT] at hs
  | d + 1, n, t, cs, x, hs, h => by
    unfold supT at hs
    split at hs
    case h_2 => cases hs
    rename_i ti hti
    have htok := hΓ t ti hti
    have hd := htok.desc
    split at hs
    · rename_i k hk
      rw [hk] at hd
      obtain ⟨m, rfl, _, hw⟩ := DataW.trod_int hd h
      exact ⟨.int k m, ⟨⟨ti, hti, hk⟩, hw⟩, by simp [Dat.cells, RvL, Rv]⟩
    · rename_i hk
      rw [hk] at hd
      obtain ⟨b, rfl, _⟩ := DataW.trod_bool hd h
      exact ⟨.bool b, ⟨ti, hti, hk⟩, by simp [Dat.cells, RvL, Rv]⟩
    · rename_i hk
      rw [hk] at hd
      obtain ⟨s, rfl, _, hl⟩ := DataW.trod_string hd h
      exact ⟨.str s, ⟨⟨ti, hti, hk⟩, hl⟩, by simp [Dat.cells, RvL, Rv]⟩
    · rename_i gs hk
      rw [hk] at hd
      obtain ⟨fs, hu, rfl⟩ := hd
      obtain ⟨xs, n', rfl, _, hlen, hxl, hf⟩ := DataW.trod_struct hu h
      split at hs
      case h_2 => cases hs
      rename_i tot htot
      simp only [beq_iff_eq] at hs
      rw [htok.cellsOf] at hlen
      obtain ⟨_, Ds, h2, h3⟩ := open_fields (cs := cs) (fun t cs x hs h => open_dat hΓ d n' t cs x hs h) hΓ fs.toList 0 tot htot (by omega) (fun f hfm => by
        obtain ⟨i, hi, he⟩ := List.mem_iff_getElem.1 hfm
        have hi' : i < fs.size := by simpa using hi
        have hfi : fs[i]? = some f := by rw [Array.getElem?_eq_getElem hi']; simpa using he
        have := hf i f hfi
        rw [List.getElem?_eq_getElem (by omega)] at this
        exact ⟨_, this⟩)
      exact ⟨.strct Ds, ⟨ti, _, hti, hk, h2⟩, by simpa [Dat.cells] using h3⟩
    · rename_i e hk
      rw [hk] at hd
      simp only [Bool.and_eq_true] at hs
      obtain ⟨hs1, hs2⟩ := hs
      split at hs1
      case h_2 => cases hs1
      rename_i te hte
      simp only [Nat.blt_eq] at hs1
      have hetok := hΓ e te hte
      rcases DataW.trod_slice hd h with ⟨rfl, _⟩ | ⟨a, len, cap, elems, rest, n', rfl, rfl, _, hb, hlc, hcm, hel, hi, _, _⟩
      · exact ⟨.slice te.size [], ⟨ti, e, te, hti, hk, hte, rfl, Nat.zero_le _, by simp [FitsA]⟩, by simp [Dat.cells, RvL, Rv]⟩
      · have key : ∀ i, i < len → ∃ D : Dat, Fits Γ e D ∧ ∃ cs', cs'.length = te.size ∧ (∀ j, j < te.size → w.cell? ((a.add (i * te.size)).add j) = cs'[j]?) ∧ RvL [] w D.cells cs' := by
          intro i hil
          have h1 := hi i hil
          rw [List.getElem?_eq_getElem (by omega), hetok.cellsOf] at h1
          simp only [Option.bind_eq_some_iff] at h1
          obtain ⟨cs', h2, h3⟩ := h1
          obtain ⟨_, h4, h5⟩ := World.cells?_some h2
          obtain ⟨D, h6, h7⟩ := open_dat hΓ d n' e cs' _ hs2 h3
          exact ⟨D, h6, cs', h4, h5, h7⟩
        obtain ⟨Ds, hDl, hDs⟩ : ∃ Ds : List Dat, Ds.length = len ∧ ∀ i (h : i < Ds.length), Fits Γ e Ds[i] ∧ ∃ cs', cs'.length = te.size ∧ (∀ j, j < te.size → w.cell? ((a.add (i * te.size)).add j) = cs'[j]?) ∧ RvL [] w Ds[i].cells cs' := by
          have : ∀ k, k ≤ len → ∃ Ds : List Dat, Ds.length = k ∧ ∀ i (h : i < Ds.length), Fits Γ e Ds[i] ∧ ∃ cs', cs'.length = te.size ∧ (∀ j, j < te.size → w.cell? ((a.add (i * te.size)).add j) = cs'[j]?) ∧ RvL [] w Ds[i].cells cs' := by
            intro k
            induction k with
            | zero => intro _; exact ⟨[], rfl, fun i h => by simp at h⟩
            | succ k ihk =>
              intro hk'
              obtain ⟨Ds, h1, h2⟩ := ihk (by omega)
              obtain ⟨D, h3⟩ := key k (by omega)
              refine ⟨Ds ++ [D], by simp [h1], fun i hi' => ?_⟩
              by_cases hik : i < Ds.length
              · have := h2 i hik
                simpa [List.getElem_append_left hik] using this
              · have hik' : i = Ds.length := by simp at hi'; omega
                subst hik'
                simpa [h1] using h3
          exact this len (Nat.le_refl _)
        refine ⟨.slice te.size Ds, ⟨ti, e, te, hti, hk, hte, rfl, by rw [hDl]; omega, FitsA.mk fun x hx => ?_⟩, ?_⟩
        · obtain ⟨i, hi', rfl⟩ := List.mem_iff_getElem.1 hx
          exact (hDs i hi').1
        · simp only [Dat.cells, RvL, and_true, Rv]
          refine ⟨some a, cap, by rw [hDl], by rw [hDl]; exact hlc, fun hp => ⟨a, rfl, ?_, not_has_nil, fun i hi' j hj => ?_⟩⟩
          · obtain ⟨_, cs', h1, h2, _⟩ := hDs 0 hp
            have h3 := h2 0 hs1
            rw [List.getElem?_eq_getElem (by omega)] at h3
            have := block_lt h3
            rwa [add_block, add_block] at this
          · obtain ⟨_, cs', h1, h2, h3⟩ := hDs i hi'
            have h4 := h2 j hj
            rw [List.getElem?_eq_getElem (by omega), add_add] at h4
            rw [cellsLL_get _ _ hi']
            have hcl : Ds[i].cells.length = cs'.length := h3.length
            refine ⟨_, h4, oneL_sound Ds[i].oneL h3 _ (List.getElem_mem _), ?_⟩
            obtain ⟨y, hy, hr⟩ := RvL.get h3 (nth_eq (l := Ds[i].cells) (i := j) (by omega))
            rw [List.getElem?_eq_getElem (by omega)] at hy
            simp only [Option.some.injEq] at hy
            rw [hy]
            exact hr
    · cases hs

/-- An argument's value: the struct whole, or the one cell. -/
def Dat.val (agg : Bool) (D : Dat) : AV := if agg then .agg D.cells else nth D.cells 0

theorem open_arg (hΓ : TabOk P Γ) {d : Nat} {t : TypeId} {ti : TI} {v : Value} {x : DataW H} {ps : List MemPlace} (hti : Γ.get t = some ti) (hs : supT Γ d t = true) (hv : Value.okWide P w .any 0 t v ∨ ∃ b, Value.okWide P w .any b t v) (h : DataW.Trod enc P w 0 sp held t v x ps) :
    ∃ D : Dat, Fits Γ t D ∧ Rv [] w (D.val ti.d.isAgg) v := by
  obtain ⟨fuel, h⟩ := h
  obtain ⟨D, h1, h2⟩ := open_dat hΓ d fuel t _ _ hs h
  refine ⟨D, h1, ?_⟩
  obtain ⟨b, hv⟩ : ∃ b, Value.okWide P w .any b t v := by rcases hv with hv | hv; exact ⟨0, hv⟩; exact hv
  have hd := (hΓ t ti hti).desc
  unfold Dat.val
  cases hag : ti.d.isAgg with
  | true =>
    simp only [if_true]
    have hst : ∃ cs, v = .agg cs := by
      cases hdd : ti.d <;> rw [hdd] at hag hd <;> simp [TD.isAgg] at hag
      · obtain ⟨fs, hu, _⟩ := hd
        obtain ⟨cs, rfl, _⟩ := okWide_struct hu hv
        exact ⟨cs, rfl⟩
      · simp only [TD.holds] at hd
        simp only [Value.okWide, hd] at hv
        obtain ⟨cs, rfl, _⟩ := hv
        exact ⟨cs, rfl⟩
    obtain ⟨cs, rfl⟩ := hst
    simp only [Rv]
    exact ⟨cs.toList, by simp, by simpa [Value.cells] using h2⟩
  | false =>
    simp only [Bool.false_eq_true, if_false]
    have hc : v.cells = #[v] := by
      cases v with
      | agg cs =>
        exfalso
        cases hdd : ti.d <;> rw [hdd] at hag hd <;> simp [TD.isAgg] at hag <;> simp only [TD.holds] at hd
        case func => obtain ⟨_, _, _, hu⟩ := hd; simp [Value.okWide, hu, Cell.okWide, Cell.ok] at hv
        case iface => obtain ⟨_, hu⟩ := hd; simp [Value.okWide, hu, Cell.okWide, Cell.ok] at hv
        all_goals simp [Value.okWide, hd, Cell.okWide, Cell.ok] at hv
      | _ => rfl
    rw [hc] at h2
    match hcells : D.cells, h2 with
    | [a], h2 =>
      simp only [RvL, and_true] at h2
      simpa [nth] using h2
    | [], h2 => simp [RvL] at h2
    | _ :: _ :: _, h2 => simp [RvL] at h2

/-- 'post', where what was there has not turned. -/
theorem post_of_below {f : Func} {s : ChangeSpec} {W W' : World} {args : Array Value} {v : Value} {ds gs : List (DataW H)} {before pa pv : List MemPlace} {apart fresh handsOn again : Bool}
    (hW : DataW.Whole enc P f.params.toList s.vars apart W args.toList ds gs before)
    (hres : ∀ (b : Nat) (sp : Nat → Bool) (hd : Bool), DataW.TrodAll enc P W' b sp hd f.resultTypes.toList (v.resultList f.resultTypes.size) (s.fn H (ds ++ gs)).results [])
    (hargs : ∀ sp : Nat → Bool, (∀ p ∈ before, sp p.block = true) → DataW.TrodAll enc P W' 0 sp true f.params.toList args.toList (s.fn H (ds ++ gs)).args pa)
    (hvars : ∀ sp : Nat → Bool, (∀ p ∈ before, sp p.block = true) → DataW.TrodVars enc P W' sp s.vars (s.fn H (ds ++ gs)).vars pv)
    (hps : before = pa ++ pv) (hb : Below W.heap.size W W')
    (hok : ∀ (j : Nat) (t : TypeId) (r : Value), f.resultTypes[j]? = some t → (v.resultList f.resultTypes.size)[j]? = some r → Value.okWide P W' .any 0 t r) :
    s.post enc P f apart fresh handsOn again W args v W' := by
  have hold : ∀ p ∈ before, (fun b => decide (b < W.heap.size)) p.block = true := fun p hp => by simpa using hW.lt p hp
  have hlt := hW.lt
  refine ⟨ds, gs, before, [], pa, pv, hW, hres _ _ _, hargs _ hold, hvars _ hold, World.keptBut_mono (fun p hp => ⟨hp, ?_⟩) (hb.frame (· ∈ before)), fun _ => ?_⟩
  · rw [hps, List.mem_append] at hp
    exact Or.inr hp
  · obtain ⟨_, _, _, _, _, hz, hn⟩ := hW
    refine ⟨hok, _, _, ([] ++ pa) ++ pv, ⟨[] ++ pa, pv, trodAll_append (hargs _ (fun _ _ => rfl)) (hres _ _ _), hvars _ (fun _ _ => rfl), rfl, ?_, ?_⟩, ?_⟩
    · intro b off hp
      have hp' : MemPlace.cell b off ∈ before := by rw [hps]; simpa using hp
      rw [hb.frozen (p := ⟨b, off, none⟩) (hlt _ hp')]
      exact hz b off hp'
    · intro ha
      have := hn ha
      rw [hps] at this
      simpa using this
    · intro p hp _
      rw [hps]
      simpa using hp

theorem trodAll_stays (hl : laidOutB P = true) {W W' : World} {sp' : Nat → Bool} (hb : Below W.heap.size W W') : ∀ {ts : List TypeId} {vs : List Value} {ds : List (DataW H)} {ps : List MemPlace},
    (∀ t ∈ ts, P.readableRec t = true ∧ t < P.types.size) → DataW.TrodAll enc P W 0 (fun _ => true) true ts vs ds ps → (∀ p ∈ ps, p.block < W.heap.size) → (∀ p ∈ ps, sp' p.block = true) → DataW.TrodAll enc P W' 0 sp' true ts vs ds ps
  | [], [], [], ps, _, h, _, _ => h
  | t :: ts, v :: vs, d :: ds, ps, ht, h, hlt, hs => by
    obtain ⟨p, q, h1, h2, rfl⟩ := h
    exact ⟨p, q, WideElems.Trod_stays hl (ht t (by simp)).1 (ht t (by simp)).2 h1 (fun x hx => hb.same (hlt x (by simp [hx]))) (fun x hx => hs x (by simp [hx])),
      trodAll_stays hl hb (fun t' ht' => ht t' (by simp [ht'])) h2 (fun x hx => hlt x (by simp [hx])) (fun x hx => hs x (by simp [hx])), rfl⟩
  | [], _ :: _, _, _, _, h, _, _ => by simp [DataW.TrodAll] at h
  | [], [], _ :: _, _, _, h, _, _ => by simp [DataW.TrodAll] at h
  | _ :: _, [], _, _, _, h, _, _ => by simp [DataW.TrodAll] at h
  | _ :: _, _ :: _, [], _, _, h, _, _ => by simp [DataW.TrodAll] at h

theorem Step.below {w' : World} {ρ' : Rho} (h : Step [] w ρ' w') : Below w.heap.size w w' := ⟨h.os, h.tape, h.output, h.size, fun b hb => h.same b hb not_has_nil⟩

theorem Look.calls {f : FuncId} {args : List AV} {v : Value} (hG : Glob [] w) (hok : fnOk P f = true) (h : Look P f args (.imm v)) {vs : List Value} (ha : RvL [] w args vs) : Calls P f vs.toArray w fun e w' => e = .returned v ∧ Below w.heap.size w w' := by
  rcases h.1.2 [] w vs ha (RH.nil w hG) with ⟨_, h2⟩ | ⟨u, w', h1, _⟩
  · refine h2.mono fun e w' ⟨ρ', u, σ', x, he, hu, hr, _, hs⟩ => ?_
    subst hu
    simp only [Rv] at hr
    subst hr
    exact ⟨he, hs.below⟩
  · rw [run_call hok] at h1
    cases h1

/-- A law: whatever the arguments, it answers true, and they read as they did. -/
theorem law_post {fn : Func} {s : ChangeSpec} {f : FuncId} {tb : TypeId} (hl : laidOutB P = true) (hres : fn.resultTypes = #[tb]) (hbool : P.underlying tb = some .bool) (hpar : fn.params.toList.all (fun t => P.readableRec t && Nat.blt t P.types.size) = true) (hvars : s.vars = [])
    {W : World} {args : Array Value} {ds gs : List (DataW H)} {before : List MemPlace} (hW : DataW.Whole enc P fn.params.toList s.vars false W args.toList ds gs before) (hspec : s.fn H ds = { results := [.lit (.bool true)], args := ds })
    (hc : Calls P f args W fun e W' => e = .returned (.bool true) ∧ Below W.heap.size W W') : Calls P f args W fun e W' => ∃ v, e = .returned v ∧ s.post enc P fn false true false false W args v W' := by
  refine hc.mono fun e W' ⟨he, hb⟩ => ⟨.bool true, he, ?_⟩
  have hW' := hW
  obtain ⟨p, q, hA, hV, hpq, _, _⟩ := hW
  rw [hvars] at hV
  obtain ⟨rfl, rfl⟩ := trodVars_none hV
  have hlt := hW'.lt
  rw [List.append_nil] at hpq
  subst hpq
  have hds : s.fn H (ds ++ []) = { results := [.lit (.bool true)], args := ds } := by rw [List.append_nil]; exact hspec
  refine post_of_below (pa := before) (pv := []) hW' (fun b sp hd => ?_) (fun sp hsp => ?_) (fun sp _ => ?_) (by simp) hb ?_
  · rw [hds, hres]
    exact trodAll_cons_mk (shut_bool hbool _) trodAll_mk0
  · rw [hds]
    refine trodAll_stays hl hb (fun t ht => ?_) hA hlt hsp
    have := List.all_eq_true.1 hpar t ht
    simpa using this
  · rw [hds, hvars]
    rfl
  · exact ok_one hres rfl (okWide_bool_mk hbool _)

def FitsArgs (Γ : Tab) : List TypeId → List Dat → Prop
  | [], [] => True
  | t :: ts, d :: ds => Fits Γ t d ∧ FitsArgs Γ ts ds
  | _, _ => False
def isAggT (Γ : Tab) (t : TypeId) : Bool := match Γ.get t with | some ti => ti.d.isAgg | none => false
def valsOf (Γ : Tab) : List TypeId → List Dat → List AV
  | t :: ts, d :: ds => d.val (isAggT Γ t) :: valsOf Γ ts ds
  | _, _ => []

theorem supT_get {d : Nat} {t : TypeId} (h : supT Γ d t = true) : ∃ ti, Γ.get t = some ti := by
  cases d with
  | zero => simp [supT] at h
  | succ d =>
    unfold supT at h
    split at h
    · exact ⟨_, ‹_›⟩
    · cases h

theorem open_args (hΓ : TabOk P Γ) {d : Nat} : ∀ {ts : List TypeId} {vs : List Value} {ds : List (DataW H)} {ps : List MemPlace}, ts.all (supT Γ d) = true → (∀ (j : Nat) (t : TypeId) (v : Value), ts[j]? = some t → vs[j]? = some v → ∃ b, Value.okWide P w .any b t v) →
    DataW.TrodAll enc P w 0 sp held ts vs ds ps → ds.length = ts.length ∧ ∃ Ds, FitsArgs Γ ts Ds ∧ RvL [] w (valsOf Γ ts Ds) vs
  | [], [], [], _, _, _, _ => ⟨rfl, [], by simp [FitsArgs], by simp [valsOf, RvL]⟩
  | t :: ts, v :: vs, d0 :: ds, ps, hs, hv, h => by
    simp only [List.all_cons, Bool.and_eq_true] at hs
    obtain ⟨p, q, h1, h2, _⟩ := h
    obtain ⟨ti, hti⟩ := supT_get hs.1
    obtain ⟨D, hD1, hD2⟩ := open_arg hΓ hti hs.1 (.inr (hv 0 t v rfl rfl)) h1
    obtain ⟨hl, Ds, h3, h4⟩ := open_args hΓ hs.2 (fun j t' v' ht' hv' => hv (j + 1) t' v' (by simpa using ht') (by simpa using hv')) h2
    refine ⟨by simp [hl], D :: Ds, ⟨hD1, h3⟩, ?_⟩
    simp only [valsOf, RvL, isAggT, hti]
    exact ⟨hD2, h4⟩
  | [], _ :: _, _, _, _, _, h => by simp [DataW.TrodAll] at h
  | [], [], _ :: _, _, _, _, h => by simp [DataW.TrodAll] at h
  | _ :: _, [], _, _, _, _, h => by simp [DataW.TrodAll] at h
  | _ :: _, _ :: _, [], _, _, _, h => by simp [DataW.TrodAll] at h

/-- A law: from its contract to what is to be shown of its calls. -/
theorem law_contract {fn : Func} {s : ChangeSpec} {f : FuncId} {tb : TypeId} {conds : List PathCond} (hg0 : gtab = []) (hΓ : TabOk P Γ) (hok : fnOk P f = true) (hl : laidOutB P = true) (hres : fn.resultTypes = #[tb]) (hbool : P.underlying tb = some .bool)
    (hpar : fn.params.toList.all (fun t => P.readableRec t && Nat.blt t P.types.size) = true) (hvars : s.vars = []) (hspec : ∀ ds : List (DataW H), ds.length = fn.params.toList.length → s.fn H ds = { results := [.lit (.bool true)], args := ds })
    (hsup : fn.params.toList.all (supT Γ 12) = true)
    (hlook : ∀ Ds, FitsArgs Γ fn.params.toList Ds → ∃ as, (∀ w vs, RvL [] w (valsOf Γ fn.params.toList Ds) vs → RvL [] w as vs) ∧ Look P f as (.imm (.bool true))) :
    ∀ (W : World) (base : Nat) (args : Array Value) (ds gs : List (DataW H)) (before : List MemPlace), (∀ (j : Nat) t v, fn.params[j]? = some t → args[j]? = some v → Value.okWide P W .any base t v) →
      DataW.Whole enc P fn.params.toList s.vars false W args.toList ds gs before → conds.all (PathCond.test P ⟨fn.params.toList, ds, s.plain.varTypes P, gs⟩) = true → Assume.holds {} P (lone (Frame.enter P f args .normal) [] W) →
      Calls P f args W fun e W' => ∃ v, e = .returned v ∧ s.post enc P fn false true false false W args v W' := by
  intro W base args ds gs before hval hW _ _
  obtain ⟨p, q, hA, hV, _, _, _⟩ := id hW
  obtain ⟨hlen, Ds, hF, hR⟩ := open_args hΓ hsup (fun j t v ht hv => ⟨base, hval j t v (by simpa using ht) (by simpa using hv)⟩) hA
  obtain ⟨as, hconv, hlk⟩ := hlook Ds hF
  refine law_post hl hres hbool hpar hvars hW (hspec ds hlen) ?_
  have := hlk.calls (fun g k vs hm => by rw [hg0] at hm; cases hm) hok (hconv W args.toList hR)
  simpa using this
end
end Go.Ab
