/-
  Parts joined: Ab29 Ab30 Ab31 Ab32 Ab33 Ab34 Ab35.
-/
import Derived.Test.YtonmienclploaaaGreatDoorQA5
import Derived.RecoverIn
import Derived.ChangeKeysEq
set_option linter.unusedSimpArgs false
set_option linter.unusedVariables false
namespace Go.Ab
section
variable {P : Program} {Γ : Tab} {n : Nat} {rd : Rd}
/-! Lists of maps. -/
end
end Go.Ab
namespace Go.Ab
section
variable {P : Program} {Γ : Tab} {n : Nat} {rd : Rd}
def Rounds (P : Program) (n : Nat) {rd : Rd} (c : Code) (Q : Exit → St → Prop) : Nat → St → Prop
  | 0, _ => False
  | m + 1, st => T P n (rd := rd) c (thenQ (Rounds P n (rd := rd) c Q m) Q) st
theorem T_rounds (m : Nat) {c : Code} {Q : Exit → St → Prop} {st : St} (h : Rounds P n (rd := rd) c Q m st) : T P n (rd := rd) (.loop c) Q st :=
  T_loop (fun m st => Rounds P n (rd := rd) c Q m st) m h fun m st hm => by
    cases m with
    | zero => exact hm.elim
    | succ k =>
      refine T_mono hm fun e st' hq => ?_
      cases e <;> first | exact ⟨k, Nat.lt_succ_self k, hq⟩ | exact hq
theorem roundT_succ {c : Code} {Q : Exit → St → Prop} {m : Nat} {st : St} (h : T P n (rd := rd) c (thenQ (Rounds P n (rd := rd) c Q m) Q) st) : Rounds P n (rd := rd) c Q (m + 1) st := h
theorem stepS_scope {b : Frame} {a : Act} {k : List Item} {cs : List Frame} {w : World} {c : Code} : step P (lone (b.atR a (.code (.scope c) :: k)) cs w) = .next (lone (b.atR a (.code c :: .inScope c :: k)) cs w) :=
  step_lone_go (by simp [stepG, stepG.exec, Frame.atR])
theorem stepS_inScope {b : Frame} {a : Act} {k : List Item} {cs : List Frame} {w : World} {c : Code} : step P (lone (b.atR a (.inScope c :: k)) cs w) = .next (lone (b.atR a k) cs w) :=
  step_lone_go (by simp [stepG, stepG.exec, Frame.atR])
theorem wpIn_scopeS {F : Fence} {m : Nat} {Q : Exit → Act → World → Prop} {a : Act} {w : World} {c : Code} (h : c.wpIn F m P (fun e a w=>(∀ l,e ≠ .goto l) ∧ Q e a w) a w) : (Code.scope c).wpIn F m P Q a w := by
  intro b k cs hro hb hr
  have h0 : (lone (b.atR a (.code (.scope c) :: k)) cs w).fenced P F := fenced_calm hb hr rfl
  obtain ⟨e, a₁, w₁, hq, harr⟩ := h b (.inScope c :: k) cs hro hb hr
  cases e with
  | normal => exact ⟨.normal,a₁,w₁,hq.2,.head h0 stepS_scope (StepsIn.trans harr (.one (fenced_calm hb hr rfl) stepS_inScope))⟩
  | exit id =>
    have hx : exitTo id (.inScope c :: k) = exitTo id k := by simp [exitTo]
    exact ⟨.exit id, a₁, w₁, hq.2, fun k' hk => .head h0 stepS_scope (harr.1 k' (by rw [hx]; exact hk)),
      fun hr' hk => let ⟨k₁, h1, h2⟩ := harr.2 hr' (by rw [hx]; exact hk); ⟨k₁, h1, .head h0 stepS_scope h2⟩⟩
  | goto l => exact absurd rfl (hq.1 l)
  | ret => exact ⟨_, a₁, w₁, hq.2, .of_steps (.one h0 stepS_scope) harr⟩
  | panic ch => exact ⟨_, a₁, w₁, hq.2, .of_steps (.one h0 stepS_scope) harr⟩
  | outgrown => exact ⟨_, a₁, w₁, hq.2, .of_steps (.one h0 stepS_scope) harr⟩
def scopeQ (Q : Exit → St → Prop) : Exit → St → Prop
  | .goto _, _ => False
  | e, st => Q e st
theorem scopeQ_r {Q : Exit → St → Prop} {st : St} (h : Q .ret st) : scopeQ Q .ret st := h
theorem T_scope {c : Code} {Q : Exit → St → Prop} {st : St} (h : T P n (rd := rd) c (scopeQ Q) st) : T P n (rd := rd) (.scope c) Q st := by
  intro ρ0 W0 a w hn hR
  refine wpIn_scopeS (wpIn_mono (h ρ0 W0 a w hn hR) fun e a' w' hq => ?_)
  obtain ⟨st', hk, hr⟩ := hq
  cases e
  case goto l => exact hk.elim
  all_goals exact ⟨fun l h => (by cases h), ⟨st', hk, hr⟩⟩
end
end Go.Ab
namespace Go.Ab
open Go.ChangeShapes Go.WideShapes Go.ChangeAt Go.RowKit
inductive DatX where
  | int (k : IntKind) (n : Int)
  | bool (b : Bool)
  | str (s : ByteArray)
  | strct (fs : List DatX)
  | arr (fs : List DatX)
  | slice (z : Nat) (l : List DatX)
mutual
def DatX.cells : DatX → List AV
  | .int k n => [.imm (.int k n)]
  | .bool b => [.imm (.bool b)]
  | .str s => [.imm (.string s)]
  | .strct fs => cellsLX fs
  | .arr fs => cellsLX fs
  | .slice z l => [.view l.length z (fun i j => nth (nthL (cellsLLX l) i) j)]
def cellsLX : List DatX → List AV
  | [] => []
  | d :: ds => d.cells ++ cellsLX ds
def cellsLLX : List DatX → List (List AV)
  | [] => []
  | d :: ds => d.cells :: cellsLLX ds
end
mutual
def FitsX (Γ : Tab) : TypeId → DatX → Prop
  | t, .int k n => (∃ ti, Γ.get t = some ti ∧ ti.d = .int k) ∧ (Lit.int k n).wf = true
  | t, .bool _ => ∃ ti, Γ.get t = some ti ∧ ti.d = .bool
  | t, .str s => (∃ ti, Γ.get t = some ti ∧ ti.d = .str) ∧ s.size ≤ maxLen
  | t, .strct ds => ∃ ti fs, Γ.get t = some ti ∧ ti.d = .strct fs ∧ FitsLX Γ fs ds
  | t, .arr ds => ∃ ti n e, Γ.get t = some ti ∧ ti.d = .array n e ∧ ds.length = n ∧ FitsAX Γ e ds
  | t,.slice z ds => ∃ ti e te,Γ.get t = some ti ∧ ti.d = .slice e ∧ Γ.get e = some te ∧ z = te.size ∧ ds.length ≤ maxLen ∧ FitsAX Γ e ds
def FitsLX (Γ : Tab) : List (TypeId × Nat) → List DatX → Prop
  | [], [] => True
  | f :: fs, d :: ds => FitsX Γ f.1 d ∧ FitsLX Γ fs ds
  | _, _ => False
def FitsAX (Γ : Tab) : TypeId → List DatX → Prop
  | _, [] => True
  | e, d :: ds => FitsX Γ e d ∧ FitsAX Γ e ds
end
def supTX (Γ : Tab) : Nat → TypeId → Bool
  | 0, _ => false
  | d + 1, t =>
    match Γ.get t with
    | some ti =>
      match ti.d with
      | .int _ => true
      | .bool => true
      | .str => true
      | .strct fs => (match supF Γ (supTX Γ d) fs 0 with | some n => n == ti.size | none => false)
      | .array n e => (match Γ.get e with | some te => n * te.size == ti.size | none => false) && supTX Γ d e
      | .slice e => (match Γ.get e with | some te => Nat.blt 0 te.size | none => false) && supTX Γ d e
      | _ => false
    | none => false
theorem cellsLLX_get : ∀ (l : List DatX) (i : Nat) (h : i < l.length), nthL (cellsLLX l) i = l[i].cells
  | d :: l, 0, _ => by simp [cellsLLX, nthL]
  | d :: l, i + 1, h => by simpa [cellsLLX, nthL] using cellsLLX_get l i (by simpa using h)
mutual
theorem DatX.oneL : ∀ d : DatX, oneL d.cells = true
  | .int _ _ => rfl
  | .bool _ => rfl
  | .str _ => rfl
  | .strct fs => oneL_cellsLX fs
  | .arr fs => oneL_cellsLX fs
  | .slice _ _ => rfl
theorem oneL_cellsLX : ∀ l : List DatX, Go.Ab.oneL (cellsLX l) = true
  | [] => rfl
  | d :: l => by
    rw [cellsLX]
    have h1 := d.oneL
    have h2 := oneL_cellsLX l
    have : ∀ a b : List AV, Go.Ab.oneL a = true → Go.Ab.oneL b = true → Go.Ab.oneL (a ++ b) = true := by
      intro a b ha hb
      induction a with
      | nil => simpa using hb
      | cons x a ih => simp only [Go.Ab.oneL, Bool.and_eq_true, List.cons_append] at ha ⊢; exact ⟨ha.1, ih ha.2⟩
    exact this _ _ h1 h2
end
section
variable {H : Type} {enc : TypeId × Value → H} {P : Program} {Γ : Tab} {w : World} {sp : Nat → Bool} {held : Bool}
theorem open_fieldsX {d : Nat} {n : Nat} (ih : ∀ (t : TypeId) (cs : List Value) (x : DataW H × List MemPlace),supTX Γ d t = true → DataW.trod enc P w 0 sp held n t cs = some x → ∃ D : DatX,FitsX Γ t D ∧ RvL [] w D.cells cs)
    (hΓ : TabOk P Γ) {cs : List Value} : ∀ (fs : List Field) (off tot : Nat),supF Γ (supTX Γ d) (fs.map fun f => (f.type,f.offset)) off = some tot → tot = cs.length →
      (∀ f ∈ fs, ∃ x, DataW.trod enc P w 0 sp held n f.type ((cs.drop f.offset).take (P.cellsOf f.type)) = some x) →
      off ≤ cs.length ∧ ∃ Ds : List DatX,FitsLX Γ (fs.map fun f => (f.type,f.offset)) Ds ∧ RvL [] w (cellsLX Ds) (cs.drop off)
  | [], off, tot, h, ht, _ => by
    simp only [List.map_nil, supF, Option.some.injEq] at h
    subst h
    subst ht
    exact ⟨Nat.le_refl _, [], by simp [FitsLX], by simp [cellsLX, RvL]⟩
  | f :: fs, off, tot, h, ht, hx => by
    simp only [List.map_cons, supF] at h
    split at h
    case h_2 => cases h
    rename_i ti hti
    split at h
    case isFalse => cases h
    rename_i hc
    obtain ⟨rfl, hsup⟩ := hc
    obtain ⟨x, hx0⟩ := hx f (by simp)
    obtain ⟨D, hD1, hD2⟩ := ih f.type _ x hsup hx0
    have htok := hΓ _ _ hti
    rw [htok.cellsOf] at hD2
    obtain ⟨h1, Ds, h2, h3⟩ := open_fieldsX ih hΓ fs (f.offset + ti.size) tot h ht (fun g hg => hx g (by simp [hg]))
    refine ⟨by omega, D :: Ds, by simp only [List.map_cons, FitsLX]; exact ⟨hD1, h2⟩, ?_⟩
    rw [cellsLX]
    have e : cs.drop f.offset = (cs.drop f.offset).take ti.size ++ cs.drop (f.offset + ti.size) := by
      rw [← List.drop_drop, List.take_append_drop]
    rw [e]
    exact RvL.append hD2 h3
theorem FitsAX.mk {e : TypeId} : ∀ {l : List DatX}, (∀ d ∈ l, FitsX Γ e d) → FitsAX Γ e l
  | [], _ => by simp [FitsAX]
  | d :: l, h => by simp only [FitsAX]; exact ⟨h d (by simp), FitsAX.mk fun x hx => h x (by simp [hx])⟩
theorem open_datX (hΓ : TabOk P Γ) : ∀ (d : Nat) (n : Nat) (t : TypeId) (cs : List Value) (x : DataW H × List MemPlace),supTX Γ d t = true → DataW.trod enc P w 0 sp held n t cs = some x → ∃ D : DatX,FitsX Γ t D ∧ RvL [] w D.cells cs
  | 0, _, _, _, _, hs, _ => by simp [supTX] at hs
  | d + 1, n, t, cs, x, hs, h => by
    unfold supTX at hs
    split at hs
    case h_2 => cases hs
    rename_i ti hti
    have htok := hΓ t ti hti
    have hd := htok.desc
    split at hs
    · rename_i k hk
      rw [hk] at hd
      obtain ⟨m, rfl, _, hw⟩ := DataW.trod_int hd h
      exact ⟨.int k m, ⟨⟨ti, hti, hk⟩, hw⟩, by simp [DatX.cells, RvL, Rv]⟩
    · rename_i hk
      rw [hk] at hd
      obtain ⟨b, rfl, _⟩ := DataW.trod_bool hd h
      exact ⟨.bool b, ⟨ti, hti, hk⟩, by simp [DatX.cells, RvL, Rv]⟩
    · rename_i hk
      rw [hk] at hd
      obtain ⟨s, rfl, _, hl⟩ := DataW.trod_string hd h
      exact ⟨.str s, ⟨⟨ti, hti, hk⟩, hl⟩, by simp [DatX.cells, RvL, Rv]⟩
    · rename_i gs hk
      rw [hk] at hd
      obtain ⟨fs, hu, rfl⟩ := hd
      obtain ⟨xs, n', rfl, _, hlen, hxl, hf⟩ := DataW.trod_struct hu h
      split at hs
      case h_2 => cases hs
      rename_i tot htot
      simp only [beq_iff_eq] at hs
      rw [htok.cellsOf] at hlen
      obtain ⟨_,Ds,h2,h3⟩ := open_fieldsX (cs := cs) (fun t cs x hs h => open_datX hΓ d n' t cs x hs h) hΓ fs.toList 0 tot htot (by omega) (fun f hfm => by
        obtain ⟨i, hi, he⟩ := List.mem_iff_getElem.1 hfm
        have hi' : i < fs.size := by simpa using hi
        have hfi : fs[i]? = some f := by rw [Array.getElem?_eq_getElem hi']; simpa using he
        have := hf i f hfi
        rw [List.getElem?_eq_getElem (by omega)] at this
        exact ⟨_, this⟩)
      exact ⟨.strct Ds, ⟨ti, _, hti, hk, h2⟩, by simpa [DatX.cells] using h3⟩
    · rename_i q e hk
      rw [hk] at hd
      simp only [TD.holds] at hd
      simp only [Bool.and_eq_true] at hs
      obtain ⟨hs1, hs2⟩ := hs
      split at hs1
      case h_2 => cases hs1
      rename_i te hte
      simp only [beq_iff_eq] at hs1
      have hetok := hΓ e te hte
      obtain ⟨xs, m, rfl, _, hlen, hxl, hf⟩ := DataW.trod_array hd h
      rw [htok.cellsOf] at hlen
      rw [hetok.cellsOf] at hf
      have each : ∀ i,i < q → ∃ D : DatX,FitsX Γ e D ∧ RvL [] w D.cells ((cs.drop (i * te.size)).take te.size) := fun i hi => by
        have h1 := hf i hi
        rw [List.getElem?_eq_getElem (by omega)] at h1
        exact open_datX hΓ d m e _ _ hs2 h1
      have upto : ∀ k,k ≤ q → ∃ Ds : List DatX,Ds.length = k ∧ (∀ D ∈ Ds,FitsX Γ e D) ∧ RvL [] w (cellsLX Ds) (cs.take (k * te.size)) := fun k => by
        induction k with
        | zero => intro _; exact ⟨[], rfl, (fun _ h => nomatch h), by simp [cellsLX, RvL]⟩
        | succ k ihk =>
          intro hk'
          obtain ⟨Ds, h1, h2, h3⟩ := ihk (by omega)
          obtain ⟨D, h4, h5⟩ := each k (by omega)
          refine ⟨Ds ++ [D], by simp [h1], fun x hx => ?_, ?_⟩
          · rcases List.mem_append.1 hx with hx | hx
            · exact h2 x hx
            · simp at hx; subst hx; exact h4
          · have e1 : cellsLX (Ds ++ [D]) = cellsLX Ds ++ D.cells := by
              clear h1 h2 h3
              induction Ds with
              | nil => simp [cellsLX]
              | cons x l ih => simp [cellsLX, ih]
            have e2 : cs.take ((k + 1) * te.size) = cs.take (k * te.size) ++ (cs.drop (k * te.size)).take te.size := by
              rw [Nat.succ_mul, List.take_add]
            rw [e1, e2]
            exact RvL.append h3 h5
      obtain ⟨Ds, h1, h2, h3⟩ := upto q (Nat.le_refl _)
      rw [List.take_of_length_le (by omega)] at h3
      exact ⟨.arr Ds, ⟨ti, q, e, hti, hk, h1, FitsAX.mk h2⟩, by simpa [DatX.cells] using h3⟩
    · rename_i e hk
      rw [hk] at hd
      simp only [Bool.and_eq_true] at hs
      obtain ⟨hs1, hs2⟩ := hs
      split at hs1
      case h_2 => cases hs1
      rename_i te hte
      simp only [Nat.blt_eq] at hs1
      have hetok := hΓ e te hte
      rcases DataW.trod_slice hd h with ⟨rfl,_⟩ | ⟨a,len,cap,elems,rest,n',rfl,rfl,_,hb,hlc,hcm,hel,hi,_,_⟩
      · exact ⟨.slice te.size [],⟨ti,e,te,hti,hk,hte,rfl,Nat.zero_le _,by simp [FitsAX]⟩,by simp [DatX.cells,RvL,Rv]⟩
      · have key : ∀ i,i < len → ∃ D : DatX,FitsX Γ e D ∧ ∃ cs',cs'.length = te.size ∧ (∀ j,j < te.size → w.cell? ((a.add (i * te.size)).add j) = cs'[j]?) ∧ RvL [] w D.cells cs' := by
          intro i hil
          have h1 := hi i hil
          rw [List.getElem?_eq_getElem (by omega), hetok.cellsOf] at h1
          simp only [Option.bind_eq_some_iff] at h1
          obtain ⟨cs', h2, h3⟩ := h1
          obtain ⟨_, h4, h5⟩ := World.cells?_some h2
          obtain ⟨D, h6, h7⟩ := open_datX hΓ d n' e cs' _ hs2 h3
          exact ⟨D, h6, cs', h4, h5, h7⟩
        obtain ⟨Ds,hDl,hDs⟩ : ∃ Ds : List DatX,Ds.length = len ∧ ∀ i (h : i < Ds.length),FitsX Γ e Ds[i] ∧ ∃ cs',cs'.length = te.size ∧ (∀ j,j < te.size → w.cell? ((a.add (i * te.size)).add j) = cs'[j]?) ∧ RvL [] w Ds[i].cells cs' := by
          have : ∀ k,k ≤ len → ∃ Ds : List DatX,Ds.length = k ∧ ∀ i (h : i < Ds.length),FitsX Γ e Ds[i] ∧ ∃ cs',cs'.length = te.size ∧ (∀ j,j < te.size → w.cell? ((a.add (i * te.size)).add j) = cs'[j]?) ∧ RvL [] w Ds[i].cells cs' := by
            intro k
            induction k with
            | zero => intro _; exact ⟨[], rfl, fun i h => by simp at h⟩
            | succ k ihk =>
              intro hk'
              obtain ⟨Ds, h1, h2⟩ := ihk (by omega)
              obtain ⟨D, h3⟩ := key k (by omega)
              refine ⟨Ds ++ [D], by simp [h1], fun i hi' => ?_⟩
              by_cases hik : i < Ds.length
              · have := h2 i hik
                simpa [List.getElem_append_left hik] using this
              · have hik' : i = Ds.length := by simp at hi'; omega
                subst hik'
                simpa [h1] using h3
          exact this len (Nat.le_refl _)
        refine ⟨.slice te.size Ds, ⟨ti, e, te, hti, hk, hte, rfl, by rw [hDl]; omega, FitsAX.mk fun x hx => ?_⟩, ?_⟩
        · obtain ⟨i, hi', rfl⟩ := List.mem_iff_getElem.1 hx
          exact (hDs i hi').1
        · simp only [DatX.cells, RvL, and_true, Rv]
          refine ⟨some a,cap,by rw [hDl],by rw [hDl];exact hlc,fun hp => ⟨a,rfl,?_,not_has_nil,fun i hi' j hj => ?_⟩⟩
          · obtain ⟨_, cs', h1, h2, _⟩ := hDs 0 hp
            have h3 := h2 0 hs1
            rw [List.getElem?_eq_getElem (by omega)] at h3
            have := block_lt h3
            rwa [add_block, add_block] at this
          · obtain ⟨_, cs', h1, h2, h3⟩ := hDs i hi'
            have h4 := h2 j hj
            rw [List.getElem?_eq_getElem (by omega), add_add] at h4
            rw [cellsLLX_get _ _ hi']
            have hcl : Ds[i].cells.length = cs'.length := h3.length
            refine ⟨_, h4, oneL_sound Ds[i].oneL h3 _ (List.getElem_mem _), ?_⟩
            obtain ⟨y, hy, hr⟩ := RvL.get h3 (nth_eq (l := Ds[i].cells) (i := j) (by omega))
            rw [List.getElem?_eq_getElem (by omega)] at hy
            simp only [Option.some.injEq] at hy
            rw [hy]
            exact hr
    · cases hs
def DatX.val (agg : Bool) (D : DatX) : AV := if agg then .agg D.cells else nth D.cells 0
theorem open_argX (hΓ : TabOk P Γ) {d : Nat} {t : TypeId} {ti : TI} {v : Value} {x : DataW H} {ps : List MemPlace} (hti : Γ.get t = some ti) (hs : supTX Γ d t = true) (hv : Value.okWide P w .any 0 t v ∨ ∃ b,Value.okWide P w .any b t v) (h : DataW.Trod enc P w 0 sp held t v x ps) :
    ∃ D : DatX, FitsX Γ t D ∧ Rv [] w (D.val ti.d.isAgg) v := by
  obtain ⟨fuel, h⟩ := h
  obtain ⟨D, h1, h2⟩ := open_datX hΓ d fuel t _ _ hs h
  refine ⟨D, h1, ?_⟩
  obtain ⟨b, hv⟩ : ∃ b, Value.okWide P w .any b t v := by rcases hv with hv | hv; exact ⟨0, hv⟩; exact hv
  have hd := (hΓ t ti hti).desc
  unfold DatX.val
  cases hag : ti.d.isAgg with
  | true =>
    simp only [if_true]
    have hst : ∃ cs, v = .agg cs := by
      cases hdd : ti.d <;> rw [hdd] at hag hd <;> simp [TD.isAgg] at hag
      · obtain ⟨fs, hu, _⟩ := hd
        obtain ⟨cs, rfl, _⟩ := okWide_struct hu hv
        exact ⟨cs, rfl⟩
      · simp only [TD.holds] at hd
        simp only [Value.okWide, hd] at hv
        obtain ⟨cs, rfl, _⟩ := hv
        exact ⟨cs, rfl⟩
    obtain ⟨cs, rfl⟩ := hst
    simp only [Rv]
    exact ⟨cs.toList, by simp, by simpa [Value.cells] using h2⟩
  | false =>
    simp only [Bool.false_eq_true, if_false]
    have hc : v.cells = #[v] := by
      cases v with
      | agg cs =>
        exfalso
        cases hdd : ti.d <;> rw [hdd] at hag hd <;> simp [TD.isAgg] at hag <;> simp only [TD.holds] at hd
        case func => obtain ⟨_, _, _, hu⟩ := hd; simp [Value.okWide, hu, Cell.okWide, Cell.ok] at hv
        case iface => obtain ⟨_, hu⟩ := hd; simp [Value.okWide, hu, Cell.okWide, Cell.ok] at hv
        all_goals simp [Value.okWide, hd, Cell.okWide, Cell.ok] at hv
      | _ => rfl
    rw [hc] at h2
    match hcells : D.cells, h2 with
    | [a], h2 =>
      simp only [RvL, and_true] at h2
      simpa [nth] using h2
    | [], h2 => simp [RvL] at h2
    | _ :: _ :: _, h2 => simp [RvL] at h2
def FitsArgsX (Γ : Tab) : List TypeId → List DatX → Prop
  | [], [] => True
  | t :: ts, d :: ds => FitsX Γ t d ∧ FitsArgsX Γ ts ds
  | _, _ => False
def valsOfX (Γ : Tab) : List TypeId → List DatX → List AV
  | t :: ts, d :: ds => d.val (isAggT Γ t) :: valsOfX Γ ts ds
  | _, _ => []
theorem supTX_getX {d : Nat} {t : TypeId} (h : supTX Γ d t = true) : ∃ ti, Γ.get t = some ti := by
  cases d with
  | zero => simp [supTX] at h
  | succ d =>
    unfold supTX at h
    split at h
    · exact ⟨_, ‹_›⟩
    · cases h
theorem open_argsX (hΓ : TabOk P Γ) {d : Nat} : ∀ {ts : List TypeId} {vs : List Value} {ds : List (DataW H)} {ps : List MemPlace},ts.all (supTX Γ d) = true → (∀ (j : Nat) (t : TypeId) (v : Value),ts[j]? = some t → vs[j]? = some v → ∃ b,Value.okWide P w .any b t v) →
    DataW.TrodAll enc P w 0 sp held ts vs ds ps → ds.length = ts.length ∧ ∃ Ds,FitsArgsX Γ ts Ds ∧ RvL [] w (valsOfX Γ ts Ds) vs
  | [], [], [], _, _, _, _ => ⟨rfl, [], by simp [FitsArgsX], by simp [valsOfX, RvL]⟩
  | t :: ts, v :: vs, d0 :: ds, ps, hs, hv, h => by
    simp only [List.all_cons, Bool.and_eq_true] at hs
    obtain ⟨p, q, h1, h2, _⟩ := h
    obtain ⟨ti, hti⟩ := supTX_getX hs.1
    obtain ⟨D, hD1, hD2⟩ := open_argX hΓ hti hs.1 (.inr (hv 0 t v rfl rfl)) h1
    obtain ⟨hl,Ds,h3,h4⟩ := open_argsX hΓ hs.2 (fun j t' v' ht' hv' => hv (j + 1) t' v' (by simpa using ht') (by simpa using hv')) h2
    refine ⟨by simp [hl], D :: Ds, ⟨hD1, h3⟩, ?_⟩
    simp only [valsOfX, RvL, isAggT, hti]
    exact ⟨hD2, h4⟩
  | [], _ :: _, _, _, _, _, h => by simp [DataW.TrodAll] at h
  | [], [], _ :: _, _, _, _, h => by simp [DataW.TrodAll] at h
  | _ :: _, [], _, _, _, _, h => by simp [DataW.TrodAll] at h
  | _ :: _, _ :: _, [], _, _, _, h => by simp [DataW.TrodAll] at h
theorem sized_allX (hΓ : TabOk P Γ) : ∀ {ts : List TypeId} {vs : List Value} {ds : List (DataW H)} {ps : List MemPlace} {Ds : List DatX},DataW.TrodAll enc P w 0 sp held ts vs ds ps → FitsArgsX Γ ts Ds → RvL [] w (valsOfX Γ ts Ds) vs →
    ∀ (j : Nat) (t : TypeId) (z : Nat) (l : List DatX),ts[j]? = some t → Ds[j]? = some (.slice z l) → l.length = 0 ∨ ∃ elems spare : List (DataW H),ds[j]? = some (.slice elems spare) ∧ elems.length = l.length
  | [], _, _, _, _, _, _, _, j, t, z, l, ht, _ => by simp at ht
  | t0 :: ts, v :: vs, d0 :: ds, ps, D :: Ds, h, hF, hR, 0, t, z, l, ht, hD => by
    simp only [List.getElem?_cons_zero, Option.some.injEq] at ht hD
    subst ht; subst hD
    obtain ⟨p, q, h1, _, _⟩ := h
    simp only [FitsArgsX] at hF
    obtain ⟨⟨ti, e, te, hti, hk, _⟩, _⟩ := hF
    have hd := (hΓ t0 ti hti).desc
    rw [hk] at hd
    simp only [TD.holds] at hd
    simp only [valsOfX,RvL,isAggT,hti,hk,TD.isAgg,DatX.val,Bool.false_eq_true,if_false,DatX.cells,nth,Rv] at hR
    obtain ⟨⟨a, cap, rfl, _⟩, _⟩ := hR
    obtain ⟨fuel, h1⟩ := h1
    rcases DataW.trod_slice hd h1 with ⟨hv, _⟩ | ⟨b, len, cap', elems, rest, n', _, hv, hx, _, _, _, hl, _⟩
    · simp [Value.cells] at hv
      exact .inl (by omega)
    · simp [Value.cells] at hv
      simp only [Prod.mk.injEq] at hx
      exact .inr ⟨_, _, by rw [hx.1]; rfl, by rw [List.length_map, hl]; omega⟩
  | t0 :: ts, v :: vs, d0 :: ds, ps, D :: Ds, h, hF, hR, j + 1, t, z, l, ht, hD => by
    obtain ⟨p, q, _, h2, _⟩ := h
    simp only [FitsArgsX] at hF
    simp only [valsOfX, RvL] at hR
    simpa using sized_allX hΓ h2 hF.2 hR.2 j t z l (by simpa using ht) (by simpa using hD)
  | _ :: _, [], _, _, _, h, _, _, _, _, _, _, _, _ => by simp [DataW.TrodAll] at h
  | _ :: _, _ :: _, [], _, _, h, _, _, _, _, _, _, _, _ => by simp [DataW.TrodAll] at h
  | _ :: _, _ :: _, _ :: _, _, [], _, hF, _, _, _, _, _, _, _ => by simp [FitsArgsX] at hF
def SizedX (P : Program) (ts : List TypeId) (Ds : List DatX) : Prop := ∀ (j : Nat) (t e : TypeId) (z : Nat) (l : List DatX),ts[j]? = some t → Ds[j]? = some (.slice z l) → P.underlying t = some (.slice e) → l.length * P.bytesOf e ≤ reachBytes
theorem law_contractSX {fn : Func} {s : ChangeSpec} {f : FuncId} {tb : TypeId} {laid : List (String × DataW Unit)} (hG : ∀ W,laidMetH P laid W → Glob [] W) (hΓ : TabOk P Γ) (hok : fnOk P f = true) (hl : laidOutB P = true) (hres : fn.resultTypes = #[tb]) (hbool : P.underlying tb = some .bool)
    (hpar : fn.params.toList.all (fun t=>P.readableRec t && Nat.blt t P.types.size) = true) (hvars : s.vars = []) (hspec : ∀ ds : List (DataW H),ds.length = fn.params.toList.length → s.fn H ds = { results := [.lit (.bool true)],args := ds })
    (hsup : fn.params.toList.all (supTX Γ 12) = true)
    (hlook : ∀ Ds,FitsArgsX Γ fn.params.toList Ds → SizedX P fn.params.toList Ds → ∃ us,(∀ w vs,RvL [] w (valsOfX Γ fn.params.toList Ds) vs → RvL [] w us vs) ∧ Look P f us (.imm (.bool true))) (vt : List TypeId) :
    ∀ (W : World) (base : Nat) (args : Array Value) (ds gs : List (DataW H)) (before : List MemPlace),(∀ (j : Nat) t v,fn.params[j]? = some t → args[j]? = some v → Value.okWide P W .any base t v) →
      DataW.Whole enc P fn.params.toList s.vars false W args.toList ds gs before → (DataW.weightsEach P (fn.params.toList ++ vt) (ds ++ gs)).all (· ≤ reachBytes) = true → laidMetH P laid W →
      Calls P f args W fun e W' => ∃ v, e = .returned v ∧ s.post enc P fn false true false false W args v W' := by
  intro W base args ds gs before hval hW hw hL
  obtain ⟨p, q, hA, hV, _, _, _⟩ := id hW
  obtain ⟨hlen,Ds,hF,hR⟩ := open_argsX hΓ hsup (fun j t v ht hv => ⟨base,hval j t v (by simpa using ht) (by simpa using hv)⟩) hA
  have hS : SizedX P fn.params.toList Ds := by
    intro j t e z l ht hD hu
    rcases sized_allX hΓ hA hF hR j t z l ht hD with h0 | ⟨elems, spare, h1, h2⟩
    · rw [h0]; simp
    · have h3 := sized_slice hw (j := j) (t := t) (e := e) (elems := elems) (spare := spare) (by rw [List.getElem?_append_left ((List.getElem?_eq_some_iff.1 ht).1)];exact ht) (by rw [List.getElem?_append_left ((List.getElem?_eq_some_iff.1 h1).1)];exact h1) hu
      rw [h2] at h3
      exact Nat.le_trans (Nat.mul_le_mul_right _ (by omega)) h3
  obtain ⟨us, hconv, hlk⟩ := hlook Ds hF hS
  refine law_post hl hres hbool hpar hvars hW (hspec ds hlen) ?_
  have := hlk.calls (hG W hL) hok (hconv W args.toList hR)
  simpa using this
end
end Go.Ab
namespace Go.Ab
section
variable {P : Program} {Γ : Tab} {n : Nat} {rd : Rd}
section
variable {σ : List AObj} {next N : AV → List AObj → Prop} {k : FuncId} {args args0 : List AV} {C : Prop} {v : AV} {g : Bool}
end
end
end Go.Ab
namespace Go.Ab
open Go.ChangeShapes Go.WideShapes Go.ChangeAt Go.RowKit
section
variable {H : Type} {enc : TypeId × Value → H} {P : Program} {Γ : Tab} {w : World} {sp : Nat → Bool} {held : Bool}
end
end Go.Ab
namespace Go.Ab
theorem WkV.freezeG {π : List Nat} {σ : List AObj} {o s k n esz : Nat} {ety : TypeId} {c : Option Nat} {e e2 : Nat → Nat → AV} (hob : nthO σ o = .arr ety esz n e) (hn : s + k ≤ n) (ho : ∀ q ∈ π,q ≠ o ∧ ((nthO σ q).alive = true ∨ ∃ vs xs lo hi ds,nthO σ q = .ghost vs xs lo hi ds))
    (he : ∀ i j,i < k → j < esz → WkV π σ (e (s + i) j) (e2 i j)) : WkV π σ (.own o s k c) (.view k esz e2) := fun ρ w x hH hx => by
  simp only [Rv] at hx ⊢
  rcases hx with ⟨l, cap, hl, rfl, h1, h2, h3⟩ | ⟨rfl, ⟨a, rfl⟩, h3⟩
  · refine ⟨_, cap, rfl, h1, fun hp => ⟨_, rfl, hH.lt o l hl, fun hb => ?_, fun i hi j hj => ?_⟩⟩
    · obtain ⟨o', l', hl', hb'⟩ := hb
      obtain ⟨q, hq, hlq⟩ := pull_inv hl'
      obtain ⟨g1, g2⟩ := ho q (List.mem_of_getElem? hq)
      rcases g2 with g2 | ⟨vs, xs, lo, hi, ds, g2⟩
      · exact hH.apart q o l' l _ _ g1 (nthO_eq rfl g2) g2 (nthO_eq hob rfl) rfl hlq hl hb'
      · have := (hH.obj q _ (nthO_get g2 (by simp))).2.2
        rw [hlq] at this; cases this
    · rcases hH.obj o _ (nthO_eq hob rfl) with ⟨l2, cs, hl2, q1, q2, _, q4, q5⟩ | ⟨hn', _⟩
      · rw [hl] at hl2
        simp only [Option.some.injEq] at hl2
        subst hl2
        obtain ⟨y, hy, hy1, hv⟩ := q5 (s + i) (by omega) j hj
        refine ⟨y, ?_, hy1, he i j hi hj _ _ _ hH hv⟩
        rw [cell_plain q2, ← hy, Nat.add_mul, q1]
        congr 1
        omega
      · rw [hl] at hn'; simp at hn'
  · exact ⟨_, _, rfl, Nat.le_refl _, fun hp => by omega⟩
section
variable {P : Program} {Γ : Tab} {n : Nat}
def Harmless (P : Program) (f : FuncId) (k : Nat) : Prop := ∀ (caps : Array Value) (w : World),caps.size = k → ∃ args,(invoke (.fn (.func f) caps) #[]).run P w = .ok (.enter f args) w ∧
  CallsDIn Fence.wide 0 P f args .returning w fun e u' w' => (∃ v, e = .returned v) ∧ u' = .returning ∧ w' = w
theorem callsDIn_mono {F : Fence} {k : Nat} {f : FuncId} {args : Array Value} {u : FrameMode} {w : World} {R R' : Ending → FrameMode → World → Prop} (h : CallsDIn F k P f args u w R) (hR : ∀ e u' w',R e u' w' → R' e u' w') : CallsDIn F k P f args u w R' :=
  ⟨h.1, fun c cs hm hr => let ⟨e, u', w', fr, q, r⟩ := h.2 c cs hm hr; ⟨e, u', w', fr, hR _ _ _ q, r⟩⟩
theorem leaves_harmless {f : FuncId} {k : Nat} (hf : Harmless P f k) {fn : Func} {tmps : Array Value} {R : Ending → World → Prop} : ∀ {ds : List Deferred} {w : World},(∀ d ∈ ds,∃ caps : Array Value,caps.size = k ∧ d = { target := .fn (.func f) caps,args := #[] }) →
    (∃ v, (results fn tmps).run P w = .ok v w ∧ R (.returned v) w) → LeavesIn Fence.wide 0 P fn tmps R ds .returning w
  | [], _, _, h => h
  | d :: ds, w, hd, h => by
    obtain ⟨caps, hk, rfl⟩ := hd d (by simp)
    obtain ⟨args, h1, h2⟩ := hf caps w hk
    refine ⟨by simp,by simp [Fence.wide],_,_,f,args,rfl,h1,fun _ _ => trivial,callsDIn_mono h2 fun e u' w' ⟨⟨v,he⟩,hu,hw⟩ => ?_⟩
    subst he; subst hu; subst hw
    exact leaves_harmless hf (fun d' hd' => hd d' (by simp [hd'])) h
theorem TC_of_TD (hΓ : TabOk P Γ) {f d : FuncId} {k : Nat} {fn : Func} {c : Code} {args : List AV} {σ : List AObj} {Q : AV → List AObj → Prop} (hf : P.funcs[f]? = some fn) (hb : fn.body = some c) (hok : fnOk P f = true) (hd : Harmless P d k)
    (h : T P σ.length (rd := .df d k) c (retQM Γ fn.results.toList Q) ⟨args ++ List.replicate (fn.ntmps - args.length) .top,σ⟩) : TC P f args σ Q := by
  refine ⟨trivial, fun ρ w vs ha hH => .inl ⟨run_call hok w _, ?_⟩⟩
  refine (callsIn_wide (n := 0)).1 (callsIn_of_wp_defers hf hb trivial ?_)
  have hR : Rel (.df d k) ρ w ⟨args ++ List.replicate (fn.ntmps - args.length) .top,σ⟩ { tmps := vs.toArray ++ Array.replicate (fn.ntmps - vs.toArray.size) undef,defers := [] } w := by
    refine ⟨ρ, Step.refl _ _, fun _ hd => by simp at hd, ?_, hH⟩
    simp only [Array.toList_append, List.size_toArray, Array.toList_replicate]
    refine RvL.append ha ?_
    rw [ha.length]
    have := RvL.tops (ρ := ρ) (w := w) (List.replicate (fn.ntmps - vs.length) undef)
    simpa using this
  refine wpIn_mono (h ρ w _ w hH.len hR) fun e a w1 hq => ?_
  obtain ⟨st, hk, ρ', hst, hdf, henv, hH'⟩ := hq
  have fin : retGoalM st.σ Q (eRes Γ st fn.results.toList) → LeavesIn Fence.wide 0 P fn a.tmps (fun e w'=>∃ (ρ' : Rho) (v : AV) (σ' : List AObj) (x : Value),e = .returned x ∧ Q v σ' ∧ Rv ρ' w' v x ∧ RH ρ' w' σ' ∧ Step ρ w ρ' w') a.defers .returning w1 := by
    intro hk
    cases he : eRes Γ st fn.results.toList with
    | none => rw [he] at hk; exact hk.elim
    | some q =>
      obtain ⟨us', C⟩ := q
      rw [he] at hk
      obtain ⟨hc, hng, hq⟩ := hk
      refine leaves_harmless hd hdf ?_
      obtain ⟨xs, h1, h2⟩ := eRes_sound hΓ henv hH' he hc
      have hm : ∀ g : ResultVar → Sem Value,(∀ t,g (.tmp t) = pure (a.tmps.getD t undef)) → (∀ p t,g (.cell p t) = do loadVar t (← asAddr (a.tmps.getD p undef))) → (fn.results.mapM g).run P w1 = .ok xs.toArray w1 := by
        intro g g1 g2
        rw [Array.mapM_eq_mapM_toList, Sem.run_map, h1 g g1 g2]
        rfl
      refine ⟨(if h : xs.toArray.size = 1 then xs.toArray[0] else .tuple xs.toArray),?_,ρ',mkRes us',st.σ,_,rfl,hq,?_,hH',hst⟩
      · unfold results
        rw [Sem.run_bind, hm _ (fun _ => rfl) (fun _ _ => rfl)]
        rfl
      · match us', xs, h2 with
        | [], [], _ => simp only [mkRes, Rv]; exact ⟨[], by simp, by simp [RvL]⟩
        | [u], [x], h2 => simp only [RvL] at h2; simpa [mkRes] using h2.1
        | u1 :: u2 :: us', x1 :: x2 :: xs, h2 =>
          simp only [mkRes, Rv]
          exact ⟨x1 :: x2 :: xs, by simp, h2⟩
        | [], _ :: _, h2 => simp [RvL] at h2
        | _ :: _, [], h2 => simp [RvL] at h2
        | [_], _ :: _ :: _, h2 => simp [RvL] at h2
        | _ :: _ :: _, [_], h2 => simp [RvL] at h2
  cases e <;> first | exact fin hk | exact hk.elim
theorem TO_defer {ops rest : List Oper} {K : St → Prop} {o : Oper} {c : Call} {x : Operand} {env : List AV} {σ : List AObj} {g : FuncId} {caps : List AV} (hc : o.op = .defer c) (hx : c.callee = .value x) (ha : c.args = #[])
    (hv : us (opd env x) = .fn (.func g) [] caps) (hu : ug true (opd env x)) (hg : guardOf ops env o.guard = some none) {k : Nat} (hk : caps.length = k)
    (h : TO P n (rd := .df g k) ops rest K ⟨setE env o.dst (.imm undef),σ⟩) : TO P n (rd := .df g k) ops (o :: rest) K ⟨env,σ⟩ := by
  subst hk
  intro ρ0 W0 a w Q hn hR hQ
  obtain ⟨ρ, hst, hdf, henv, hH⟩ := hR
  refine wpListIn_stepR fun K' hK => ?_
  rw [if_pos (by rw [guardOf_sound henv hg]; rfl)]
  have hfv := us_sound rfl hu (opd_sound hH.glob henv x)
  rw [hv] at hfv
  simp only [Rv] at hfv
  obtain ⟨fs, cs, hfe, h1, h2⟩ := hfv
  have hfs : fs = [] := by cases fs <;> simp [RvL] at h1 ⊢
  subst hfs
  refine ⟨fun f _ => trivial, ?_⟩
  have hrun : (o.semAt (Rd.df g caps.length).fence.round a.eval).run P w = .ok (.defer { target := .fn (.func g) cs.toArray,args := #[] }) w := by
    show (o.semAt none a.eval).run P w = _
    have : o.semAt none a.eval = execOp a.eval o := by
      unfold Oper.semAt
      rfl
    rw [this]
    unfold execOp
    rw [hc]
    simp only [resolve, hx, ha, Sem.run_bind, hfe, Deferred.ofValue, Sem.run_pure, Result.andThen_ok]
    simp
  rw [hrun, Oper.uponIn_defer]
  refine hK _ _ (h ρ0 W0 _ w Q hn ⟨ρ,hst,?_,put_sound (a := { a with defers := { target := .fn (.func g) cs.toArray,args := #[] } :: a.defers }) henv (by simp [Rv]) _,hH⟩ hQ)
  have hd : ∀ d ∈ ({ target := .fn (.func g) cs.toArray,args := #[] } : Deferred) :: a.defers,∃ k : Array Value,k.size = caps.length ∧ d = { target := .fn (.func g) k,args := #[] } := by
    intro d hd
    rcases List.mem_cons.1 hd with rfl | hd
    · exact ⟨_, by rw [h2.length]; simp, rfl⟩
    · exact hdf d hd
  cases o.dst <;> exact hd
end
end Go.Ab
namespace Go.Ab
section
variable {P : Program} {Γ : Tab} {n : Nat} {rd : Rd}
def methB (P : Program) (t : TypeId) (name : String) (k : FuncId) : Bool :=
  (match P.info? t with
  | some i =>
    (match i.methods.find? (·.name == name) with
     | some m => (match m.path.toList with | [] => true | _ => false) && (match m.func with | some (f,false) => f == k | _ => false)
     | none => false)
  | none => false)
  && (match P.underlying t with | some (.struct _) => true | _ => false)
theorem meth_run {t : TypeId} {name : String} {k : FuncId} (h : methB P t name k = true) (v : Value) (d : Nat) (w : World) : (method (d + 1) t v name).run P w = .ok (k,v) w := by
  unfold methB at h
  simp only [Bool.and_eq_true] at h
  obtain ⟨h, hu⟩ := h
  split at h
  case h_2 => cases h
  rename_i i hi
  split at h
  case h_2 => cases h
  rename_i m hm
  simp only [Bool.and_eq_true] at h
  obtain ⟨hp, hf⟩ := h
  split at hp
  case h_2 => cases hp
  rename_i hpp
  split at hf
  case h_2 => cases hf
  rename_i f hf'
  obtain rfl : f = k := by simpa using hf
  split at hu
  case h_2 => cases hu
  rename_i fs hu'
  simp [method, run_typeInfo w hi, hm, hpp, follow, hf', receiverAt, run_underlying hu', Place.get]
def callI (env : List AV) (c : Call) (recv : Operand) (v : AV) (k : FuncId) : Option (FuncId × List AV × Prop) :=
  some (k, v :: mapL (fun x => us (opd env x)) c.args.toList, ug true (opd env recv) ∧ oblig true env c.args.toList)
theorem inv_do {o : Oper} {c : Call} {st : St} {N : AV → List AObj → Prop} {recv : Operand} {name : String} {t : TypeId} {v0 : AV} {k : FuncId} (hc : opCall o.op = some c) (hi : c.callee = .invoke recv name) (hr : us (opd st.env recv) = .ifc t v0) (hm : methB P t name k = true)
    (h : callGoal P st.σ N (callI st.env c recv v0 k)) {ρ0 : Rho} {W0 : World} {a : Act} {w : World} (hR : Rel rd ρ0 W0 st a w)
    {Q : Exit → Act → World → Prop} {K : Act → World → Prop} (hK : ∀ v σ',N v σ' → ∀ a' w',Rel rd ρ0 W0 ⟨setE st.env o.dst v,σ'⟩ a' w' → K a' w') : o.wpIn rd.fence 0 P a w K Q := by
  have hop : o.op = .call c := by
    cases hh : o.op <;> rw [hh] at hc <;> simp [opCall] at hc
    subst hc; rfl
  obtain ⟨ρ, hst, hdf, henv, hH⟩ := hR
  obtain ⟨hC, Q0, hTC, hnext⟩ := h
  have hfv := us_sound rfl hC.1 (opd_sound hH.glob henv recv)
  rw [hr] at hfv
  simp only [Rv] at hfv
  obtain ⟨y, hfe, h1⟩ := hfv
  have hargs := mapL_sound (ρ := ρ) (w := w) (r := fun x => us (opd st.env x)) (e := a.eval) (xs := c.args.toList) fun x hx => us_sound rfl (oblig_mem hC.2 x hx) (opd_sound hH.glob henv x)
  have hall : RvL ρ w (v0 :: mapL (fun x => us (opd st.env x)) c.args.toList) (y :: c.args.toList.map a.eval) := ⟨h1,hargs⟩
  have hcall := hTC.2 ρ w _ hall hH
  have hmr : (method (P.types.size + Made.depth) t y name).run P w = .ok (k, y) w := by
    have := meth_run hm y (P.types.size + Made.depth - 1) w
    rwa [Nat.sub_add_cancel (by unfold Made.depth; omega)] at this
  have hrun : (execOp a.eval o).run P w = (callFunc k (y :: c.args.toList.map a.eval).toArray).run P w := by
    unfold execOp
    rw [hop]
    simp only [resolve, hi, Sem.run_bind, hfe, Sem.run_pure, Result.andThen_ok, invoke]
    have e0 : (#[Value.iface t y] ++ c.args.map a.eval)[0]? = some (.iface t y) := by rw [Array.getElem?_append_left (by simp)];rfl
    have e1 : #[y] ++ (#[Value.iface t y] ++ c.args.map a.eval).extract 1 (#[Value.iface t y] ++ c.args.map a.eval).size = (y :: c.args.toList.map a.eval).toArray := by
      apply Array.ext'
      simp
      exact List.take_of_length_le (by simp)
    simp only [e0, callMethod, Sem.run_bind, run_program, Result.andThen_ok, hmr, e1]
  have fin : ∀ e w',(∃ (ρ' : Rho) (v : AV) (σ' : List AObj) (x : Value),e = Ending.returned x ∧ Q0 v σ' ∧ Rv ρ' w' v x ∧ RH ρ' w' σ' ∧ Step ρ w ρ' w') → ∃ x,e = .returned x ∧ K (a.put o.dst x) w' := by
    rintro e w' ⟨ρ', v, σ', x, rfl, hq0, hv, hH', hs'⟩
    exact ⟨x,rfl,hK _ _ (hnext v σ' hq0) _ _ ⟨ρ',hst.trans hs',by cases o.dst <;> exact hdf.step hs',put_sound (RvL.mono hs' _ henv) hv _,hH'⟩⟩
  refine Oper.wpInR (fun c' e => by rw [hop] at e; cases e) ?_
  rw [hrun]
  rcases hcall with ⟨h1, h2⟩ | ⟨v, w', h1, h2⟩
  · rw [h1, Oper.uponIn_enter]
    refine ⟨rd.depth_none 0, ⟨rd.fn_all _, fun cs hr => ?_⟩⟩
    have h2' := (h2.mono (R' := fun e w'' => ∃ x, e = .returned x ∧ K (a.put o.dst x) w'') fin).inR rd
    obtain ⟨e, w', fr, ⟨x, rfl, h3⟩, h4⟩ := h2'.2 cs hr
    exact ⟨_, w', fr, h3, h4⟩
  · rw [h1, Oper.uponIn_value]
    obtain ⟨x, hx, h3⟩ := fin _ w' h2
    simp only [Ending.returned.injEq] at hx
    subst hx
    exact h3
theorem TO_invoke {ops rest : List Oper} {K : St → Prop} {o : Oper} {c : Call} {st : St} {recv : Operand} {name : String} {t : TypeId} {v0 : AV} {k : FuncId} (hc : opCall o.op = some c) (hi : c.callee = .invoke recv name) (hr : us (opd st.env recv) = .ifc t v0) (hm : methB P t name k = true)
    (h : callGoalG P n (rd := rd) ops rest K o.dst st.env st.σ (callI st.env c recv v0 k) (guardOf ops st.env o.guard)) : TO P n (rd := rd) ops (o :: rest) K st := by
  intro ρ0 W0 a w Q hn hR hQ
  obtain ⟨ρ, hst, hdf, henv, hH⟩ := id hR
  refine wpListIn_stepR fun K' hK => ?_
  have doit : callGoal P st.σ (fun v σ' => TO P n (rd := rd) ops rest K ⟨setE st.env o.dst v,σ'⟩) (callI st.env c recv v0 k) → o.wpIn rd.fence 0 P a w K' Q := fun h =>
    inv_do hc hi hr hm h hR fun v σ' hto a' w' hr => hK _ _ (hto ρ0 W0 _ w' Q hn hr hQ)
  cases hg : guardOf ops st.env o.guard with
  | none => rw [hg] at h; exact h.elim
  | some q =>
    rw [hg] at h
    rw [guardOf_sound henv hg]
    cases q with
    | none =>
      simp only [Option.getD_none, if_true]
      exact doit h
    | some g =>
      simp only [Option.getD_some]
      cases g with
      | true => simp only [if_true]; exact doit (h.1 rfl)
      | false =>
        simp only [Bool.false_eq_true, if_false]
        exact hK _ _ (h.2 rfl ρ0 W0 _ w Q hn ⟨ρ,hst,by cases o.dst <;> exact hdf,put_sound henv (by simp [Rv]) _,hH⟩ hQ)
theorem TO_invN {ops rest : List Oper} {K : St → Prop} {o : Oper} {c : Call} {st : St} {recv : Operand} {name : String} {t : TypeId} {v0 : AV} {k : FuncId} (hc : opCall o.op = some c) (hi : c.callee = .invoke recv name) (hr : us (opd st.env recv) = .ifc t v0) (hm : methB P t name k = true)
    (h : ∀ N : AV → List AObj → Prop,(∀ v σ',TO P n (rd := rd) ops rest K ⟨setE st.env o.dst v,σ'⟩ → N v σ') → gCallN P st.σ N (callI st.env c recv v0 k) (guardOf ops st.env o.guard)) : TO P n (rd := rd) ops (o :: rest) K st := by
  have h' := h _ fun _ _ h => h
  refine TO_invoke hc hi hr hm ?_
  revert h'
  generalize guardOf ops st.env o.guard = q
  intro h'
  cases q with
  | none => exact h'
  | some q =>
    cases q with
    | none => exact h'
    | some g =>
      rcases h' with ⟨v, h1, h2⟩ | ⟨h1, h2⟩
      · exact gCall_pure v h1 h2
      · exact ⟨h1, h2⟩
attribute [go_sem] callI
end
end Go.Ab
