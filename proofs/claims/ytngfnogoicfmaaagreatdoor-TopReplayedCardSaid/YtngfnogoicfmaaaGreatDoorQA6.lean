/-
  Parts joined: Ab29 Ab30 Ab31.
-/
import Derived.Test.YtngfnogoicfmaaaGreatDoorQA5
set_option linter.unusedSimpArgs false
set_option linter.unusedVariables false
namespace Go.Ab
section
variable {P : Program} {Γ : Tab} {n : Nat} {rd : Rd}
def noneO : AObj := .arr 0 1 0 fun _ _ => .top
def AObj.isLive : AObj → Prop := fun a => (∃ b ob, a = .raw b ob) ∨ a = noneO
theorem AObj.isLive.alive {a : AObj} (h : a.isLive) : a.alive = true := by
  rcases h with ⟨b, ob, rfl⟩ | rfl <;> rfl
theorem WkO.live {π : List Nat} {σ : List AObj} {a : AObj} (h : a.isLive) : WkO π σ a a := by
  rcases h with ⟨b, ob, rfl⟩ | rfl
  · exact WkO.raw
  · exact WkO.arr fun i j hi => by omega
/-! Lists of maps. -/
theorem nthO_app (a b : List AObj) {i : Nat} (h : i < a.length) : nthO (a ++ b) i = nthO a i := by
  induction a generalizing i with
  | nil => simp at h
  | cons x a ih => cases i with
    | zero => rfl
    | succ i => simpa [nthO] using ih (by simpa using h)
theorem WkOL.append {π : List Nat} {σ : List AObj} : ∀ {p q : List Nat} {s t : List AObj},WkOL π σ p s → WkOL π σ q t → WkOL π σ (p ++ q) (s ++ t)
  | [], q, [], t, _, h => by simpa using h
  | _ :: p, q, _ :: s, t, h1, h2 => by
    simp only [WkOL, List.cons_append] at h1 ⊢
    exact ⟨h1.1, h1.2.1, WkOL.append h1.2.2 h2⟩
  | [], _, _ :: _, _, h, _ => by simp [WkOL] at h
  | _ :: _, _, [], _, h, _ => by simp [WkOL] at h
theorem WkOL.of_get {π : List Nat} {σ : List AObj} : ∀ {p : List Nat} {s : List AObj},p.length = s.length → (∀ (i o : Nat) (a : AObj),p[i]? = some o → s[i]? = some a → WkO π σ (nthO σ o) a ∧ (a.alive = true → (nthO σ o).alive = true)) → WkOL π σ p s
  | [], [], _, _ => trivial
  | o :: p, a :: s, hl, h => by
    simp only [WkOL]
    obtain ⟨h1, h2⟩ := h 0 o a rfl rfl
    exact ⟨h1, h2, WkOL.of_get (by simpa using hl) fun i o a e1 e2 => h (i + 1) o a e1 e2⟩
  | [], _ :: _, hl, _ => by simp at hl
  | _ :: _, [], hl, _ => by simp at hl
theorem WkVL.of_get {π : List Nat} {σ : List AObj} : ∀ {vs us : List AV},vs.length = us.length → (∀ (i : Nat) (v u : AV),vs[i]? = some v → us[i]? = some u → WkV π σ v u) → WkVL π σ vs us
  | [], [], _, _ => WkVL.nil
  | v :: vs,u :: us,hl,h => WkVL.cons (h 0 v u rfl rfl) (WkVL.of_get (by simpa using hl) fun i v u e1 e2 => h (i + 1) v u e1 e2)
  | [], _ :: _, hl, _ => by simp at hl
  | _ :: _, [], hl, _ => by simp at hl
end
end Go.Ab
namespace Go.Ab
section
variable {P : Program} {Γ : Tab} {n : Nat} {rd : Rd}
def Rounds (P : Program) (n : Nat) {rd : Rd} (c : Code) (Q : Exit → St → Prop) : Nat → St → Prop
  | 0, _ => False
  | m + 1, st => T P n (rd := rd) c (thenQ (Rounds P n (rd := rd) c Q m) Q) st
theorem T_rounds (m : Nat) {c : Code} {Q : Exit → St → Prop} {st : St} (h : Rounds P n (rd := rd) c Q m st) : T P n (rd := rd) (.loop c) Q st :=
  T_loop (fun m st => Rounds P n (rd := rd) c Q m st) m h fun m st hm => by
    cases m with
    | zero => exact hm.elim
    | succ k =>
      refine T_mono hm fun e st' hq => ?_
      cases e <;> first | exact ⟨k, Nat.lt_succ_self k, hq⟩ | exact hq
theorem roundT_succ {c : Code} {Q : Exit → St → Prop} {m : Nat} {st : St} (h : T P n (rd := rd) c (thenQ (Rounds P n (rd := rd) c Q m) Q) st) : Rounds P n (rd := rd) c Q (m + 1) st := h
theorem stepS_scope {b : Frame} {a : Act} {k : List Item} {cs : List Frame} {w : World} {c : Code} : step P (lone (b.atR a (.code (.scope c) :: k)) cs w) = .next (lone (b.atR a (.code c :: .inScope c :: k)) cs w) :=
  step_lone_go (by simp [stepG, stepG.exec, Frame.atR])
theorem stepS_inScope {b : Frame} {a : Act} {k : List Item} {cs : List Frame} {w : World} {c : Code} : step P (lone (b.atR a (.inScope c :: k)) cs w) = .next (lone (b.atR a k) cs w) :=
  step_lone_go (by simp [stepG, stepG.exec, Frame.atR])
theorem wpIn_scopeS {F : Fence} {m : Nat} {Q : Exit → Act → World → Prop} {a : Act} {w : World} {c : Code} (h : c.wpIn F m P (fun e a w=>(∀ l,e ≠ .goto l) ∧ Q e a w) a w) : (Code.scope c).wpIn F m P Q a w := by
  intro b k cs hro hb hr
  have h0 : (lone (b.atR a (.code (.scope c) :: k)) cs w).fenced P F := fenced_calm hb hr rfl
  obtain ⟨e, a₁, w₁, hq, harr⟩ := h b (.inScope c :: k) cs hro hb hr
  cases e with
  | normal => exact ⟨.normal,a₁,w₁,hq.2,.head h0 stepS_scope (StepsIn.trans harr (.one (fenced_calm hb hr rfl) stepS_inScope))⟩
  | exit id =>
    have hx : exitTo id (.inScope c :: k) = exitTo id k := by simp [exitTo]
    exact ⟨.exit id, a₁, w₁, hq.2, fun k' hk => .head h0 stepS_scope (harr.1 k' (by rw [hx]; exact hk)),
      fun hr' hk => let ⟨k₁, h1, h2⟩ := harr.2 hr' (by rw [hx]; exact hk); ⟨k₁, h1, .head h0 stepS_scope h2⟩⟩
  | goto l => exact absurd rfl (hq.1 l)
  | ret => exact ⟨_, a₁, w₁, hq.2, .of_steps (.one h0 stepS_scope) harr⟩
  | panic ch => exact ⟨_, a₁, w₁, hq.2, .of_steps (.one h0 stepS_scope) harr⟩
  | outgrown => exact ⟨_, a₁, w₁, hq.2, .of_steps (.one h0 stepS_scope) harr⟩
def scopeQ (Q : Exit → St → Prop) : Exit → St → Prop
  | .goto _, _ => False
  | e, st => Q e st
theorem scopeQ_n {Q : Exit → St → Prop} {st : St} (h : Q .normal st) : scopeQ Q .normal st := h
theorem scopeQ_r {Q : Exit → St → Prop} {st : St} (h : Q .ret st) : scopeQ Q .ret st := h
theorem scopeQ_e {Q : Exit → St → Prop} {id : Nat} {st : St} (h : Q (.exit id) st) : scopeQ Q (.exit id) st := h
theorem T_scope {c : Code} {Q : Exit → St → Prop} {st : St} (h : T P n (rd := rd) c (scopeQ Q) st) : T P n (rd := rd) (.scope c) Q st := by
  intro ρ0 W0 a w hn hR
  refine wpIn_scopeS (wpIn_mono (h ρ0 W0 a w hn hR) fun e a' w' hq => ?_)
  obtain ⟨st', hk, hr⟩ := hq
  cases e
  case goto l => exact hk.elim
  all_goals exact ⟨fun l h => (by cases h), ⟨st', hk, hr⟩⟩
end
end Go.Ab
namespace Go.Ab
open Go.ChangeShapes Go.WideShapes Go.ChangeAt Go.RowKit
inductive DatX where
  | int (k : IntKind) (n : Int)
  | bool (b : Bool)
  | str (s : ByteArray)
  | strct (fs : List DatX)
  | arr (fs : List DatX)
  | slice (z : Nat) (l : List DatX)
mutual
def DatX.cells : DatX → List AV
  | .int k n => [.imm (.int k n)]
  | .bool b => [.imm (.bool b)]
  | .str s => [.imm (.string s)]
  | .strct fs => cellsLX fs
  | .arr fs => cellsLX fs
  | .slice z l => [.view l.length z (fun i j => nth (nthL (cellsLLX l) i) j)]
def cellsLX : List DatX → List AV
  | [] => []
  | d :: ds => d.cells ++ cellsLX ds
def cellsLLX : List DatX → List (List AV)
  | [] => []
  | d :: ds => d.cells :: cellsLLX ds
end
mutual
def FitsX (Γ : Tab) : TypeId → DatX → Prop
  | t, .int k n => (∃ ti, Γ.get t = some ti ∧ ti.d = .int k) ∧ (Lit.int k n).wf = true
  | t, .bool _ => ∃ ti, Γ.get t = some ti ∧ ti.d = .bool
  | t, .str s => (∃ ti, Γ.get t = some ti ∧ ti.d = .str) ∧ s.size ≤ maxLen
  | t, .strct ds => ∃ ti fs, Γ.get t = some ti ∧ ti.d = .strct fs ∧ FitsLX Γ fs ds
  | t, .arr ds => ∃ ti n e, Γ.get t = some ti ∧ ti.d = .array n e ∧ ds.length = n ∧ FitsAX Γ e ds
  | t,.slice z ds => ∃ ti e te,Γ.get t = some ti ∧ ti.d = .slice e ∧ Γ.get e = some te ∧ z = te.size ∧ ds.length ≤ maxLen ∧ FitsAX Γ e ds
def FitsLX (Γ : Tab) : List (TypeId × Nat) → List DatX → Prop
  | [], [] => True
  | f :: fs, d :: ds => FitsX Γ f.1 d ∧ FitsLX Γ fs ds
  | _, _ => False
def FitsAX (Γ : Tab) : TypeId → List DatX → Prop
  | _, [] => True
  | e, d :: ds => FitsX Γ e d ∧ FitsAX Γ e ds
end
def supTX (Γ : Tab) : Nat → TypeId → Bool
  | 0, _ => false
  | d + 1, t =>
    match Γ.get t with
    | some ti =>
      match ti.d with
      | .int _ => true
      | .bool => true
      | .str => true
      | .strct fs => (match supF Γ (supTX Γ d) fs 0 with | some n => n == ti.size | none => false)
      | .array n e => (match Γ.get e with | some te => n * te.size == ti.size | none => false) && supTX Γ d e
      | .slice e => (match Γ.get e with | some te => Nat.blt 0 te.size | none => false) && supTX Γ d e
      | _ => false
    | none => false
theorem cellsLLX_get : ∀ (l : List DatX) (i : Nat) (h : i < l.length), nthL (cellsLLX l) i = l[i].cells
  | d :: l, 0, _ => by simp [cellsLLX, nthL]
  | d :: l, i + 1, h => by simpa [cellsLLX, nthL] using cellsLLX_get l i (by simpa using h)
mutual
theorem DatX.oneL : ∀ d : DatX, oneL d.cells = true
  | .int _ _ => rfl
  | .bool _ => rfl
  | .str _ => rfl
  | .strct fs => oneL_cellsLX fs
  | .arr fs => oneL_cellsLX fs
  | .slice _ _ => rfl
theorem oneL_cellsLX : ∀ l : List DatX, Go.Ab.oneL (cellsLX l) = true
  | [] => rfl
  | d :: l => by
    rw [cellsLX]
    have h1 := d.oneL
    have h2 := oneL_cellsLX l
    have : ∀ a b : List AV, Go.Ab.oneL a = true → Go.Ab.oneL b = true → Go.Ab.oneL (a ++ b) = true := by
      intro a b ha hb
      induction a with
      | nil => simpa using hb
      | cons x a ih => simp only [Go.Ab.oneL, Bool.and_eq_true, List.cons_append] at ha ⊢; exact ⟨ha.1, ih ha.2⟩
    exact this _ _ h1 h2
end
section
variable {H : Type} {enc : TypeId × Value → H} {P : Program} {Γ : Tab} {w : World} {sp : Nat → Bool} {held : Bool}
theorem open_fieldsX {d : Nat} {n : Nat} (ih : ∀ (t : TypeId) (cs : List Value) (x : DataW H × List MemPlace),supTX Γ d t = true → DataW.trod enc P w 0 sp held n t cs = some x → ∃ D : DatX,FitsX Γ t D ∧ RvL [] w D.cells cs)
    (hΓ : TabOk P Γ) {cs : List Value} : ∀ (fs : List Field) (off tot : Nat),supF Γ (supTX Γ d) (fs.map fun f => (f.type,f.offset)) off = some tot → tot = cs.length →
      (∀ f ∈ fs, ∃ x, DataW.trod enc P w 0 sp held n f.type ((cs.drop f.offset).take (P.cellsOf f.type)) = some x) →
      off ≤ cs.length ∧ ∃ Ds : List DatX,FitsLX Γ (fs.map fun f => (f.type,f.offset)) Ds ∧ RvL [] w (cellsLX Ds) (cs.drop off)
  | [], off, tot, h, ht, _ => by
    simp only [List.map_nil, supF, Option.some.injEq] at h
    subst h
    subst ht
    exact ⟨Nat.le_refl _, [], by simp [FitsLX], by simp [cellsLX, RvL]⟩
  | f :: fs, off, tot, h, ht, hx => by
    simp only [List.map_cons, supF] at h
    split at h
    case h_2 => cases h
    rename_i ti hti
    split at h
    case isFalse => cases h
    rename_i hc
    obtain ⟨rfl, hsup⟩ := hc
    obtain ⟨x, hx0⟩ := hx f (by simp)
    obtain ⟨D, hD1, hD2⟩ := ih f.type _ x hsup hx0
    have htok := hΓ _ _ hti
    rw [htok.cellsOf] at hD2
    obtain ⟨h1, Ds, h2, h3⟩ := open_fieldsX ih hΓ fs (f.offset + ti.size) tot h ht (fun g hg => hx g (by simp [hg]))
    refine ⟨by omega, D :: Ds, by simp only [List.map_cons, FitsLX]; exact ⟨hD1, h2⟩, ?_⟩
    rw [cellsLX]
    have e : cs.drop f.offset = (cs.drop f.offset).take ti.size ++ cs.drop (f.offset + ti.size) := by
      rw [← List.drop_drop, List.take_append_drop]
    rw [e]
    exact RvL.append hD2 h3
theorem FitsAX.mk {e : TypeId} : ∀ {l : List DatX}, (∀ d ∈ l, FitsX Γ e d) → FitsAX Γ e l
  | [], _ => by simp [FitsAX]
  | d :: l, h => by simp only [FitsAX]; exact ⟨h d (by simp), FitsAX.mk fun x hx => h x (by simp [hx])⟩
theorem open_datX (hΓ : TabOk P Γ) : ∀ (d : Nat) (n : Nat) (t : TypeId) (cs : List Value) (x : DataW H × List MemPlace),supTX Γ d t = true → DataW.trod enc P w 0 sp held n t cs = some x → ∃ D : DatX,FitsX Γ t D ∧ RvL [] w D.cells cs
  | 0, _, _, _, _, hs, _ => by simp [supTX] at hs
  | d + 1, n, t, cs, x, hs, h => by
    unfold supTX at hs
    split at hs
    case h_2 => cases hs
    rename_i ti hti
    have htok := hΓ t ti hti
    have hd := htok.desc
    split at hs
    · rename_i k hk
      rw [hk] at hd
      obtain ⟨m, rfl, _, hw⟩ := DataW.trod_int hd h
      exact ⟨.int k m, ⟨⟨ti, hti, hk⟩, hw⟩, by simp [DatX.cells, RvL, Rv]⟩
    · rename_i hk
      rw [hk] at hd
      obtain ⟨b, rfl, _⟩ := DataW.trod_bool hd h
      exact ⟨.bool b, ⟨ti, hti, hk⟩, by simp [DatX.cells, RvL, Rv]⟩
    · rename_i hk
      rw [hk] at hd
      obtain ⟨s, rfl, _, hl⟩ := DataW.trod_string hd h
      exact ⟨.str s, ⟨⟨ti, hti, hk⟩, hl⟩, by simp [DatX.cells, RvL, Rv]⟩
    · rename_i gs hk
      rw [hk] at hd
      obtain ⟨fs, hu, rfl⟩ := hd
      obtain ⟨xs, n', rfl, _, hlen, hxl, hf⟩ := DataW.trod_struct hu h
      split at hs
      case h_2 => cases hs
      rename_i tot htot
      simp only [beq_iff_eq] at hs
      rw [htok.cellsOf] at hlen
      obtain ⟨_,Ds,h2,h3⟩ := open_fieldsX (cs := cs) (fun t cs x hs h => open_datX hΓ d n' t cs x hs h) hΓ fs.toList 0 tot htot (by omega) (fun f hfm => by
        obtain ⟨i, hi, he⟩ := List.mem_iff_getElem.1 hfm
        have hi' : i < fs.size := by simpa using hi
        have hfi : fs[i]? = some f := by rw [Array.getElem?_eq_getElem hi']; simpa using he
        have := hf i f hfi
        rw [List.getElem?_eq_getElem (by omega)] at this
        exact ⟨_, this⟩)
      exact ⟨.strct Ds, ⟨ti, _, hti, hk, h2⟩, by simpa [DatX.cells] using h3⟩
    · rename_i q e hk
      rw [hk] at hd
      simp only [TD.holds] at hd
      simp only [Bool.and_eq_true] at hs
      obtain ⟨hs1, hs2⟩ := hs
      split at hs1
      case h_2 => cases hs1
      rename_i te hte
      simp only [beq_iff_eq] at hs1
      have hetok := hΓ e te hte
      obtain ⟨xs, m, rfl, _, hlen, hxl, hf⟩ := DataW.trod_array hd h
      rw [htok.cellsOf] at hlen
      rw [hetok.cellsOf] at hf
      have each : ∀ i,i < q → ∃ D : DatX,FitsX Γ e D ∧ RvL [] w D.cells ((cs.drop (i * te.size)).take te.size) := fun i hi => by
        have h1 := hf i hi
        rw [List.getElem?_eq_getElem (by omega)] at h1
        exact open_datX hΓ d m e _ _ hs2 h1
      have upto : ∀ k,k ≤ q → ∃ Ds : List DatX,Ds.length = k ∧ (∀ D ∈ Ds,FitsX Γ e D) ∧ RvL [] w (cellsLX Ds) (cs.take (k * te.size)) := fun k => by
        induction k with
        | zero => intro _; exact ⟨[], rfl, (fun _ h => nomatch h), by simp [cellsLX, RvL]⟩
        | succ k ihk =>
          intro hk'
          obtain ⟨Ds, h1, h2, h3⟩ := ihk (by omega)
          obtain ⟨D, h4, h5⟩ := each k (by omega)
          refine ⟨Ds ++ [D], by simp [h1], fun x hx => ?_, ?_⟩
          · rcases List.mem_append.1 hx with hx | hx
            · exact h2 x hx
            · simp at hx; subst hx; exact h4
          · have e1 : cellsLX (Ds ++ [D]) = cellsLX Ds ++ D.cells := by
              clear h1 h2 h3
              induction Ds with
              | nil => simp [cellsLX]
              | cons x l ih => simp [cellsLX, ih]
            have e2 : cs.take ((k + 1) * te.size) = cs.take (k * te.size) ++ (cs.drop (k * te.size)).take te.size := by
              rw [Nat.succ_mul, List.take_add]
            rw [e1, e2]
            exact RvL.append h3 h5
      obtain ⟨Ds, h1, h2, h3⟩ := upto q (Nat.le_refl _)
      rw [List.take_of_length_le (by omega)] at h3
      exact ⟨.arr Ds, ⟨ti, q, e, hti, hk, h1, FitsAX.mk h2⟩, by simpa [DatX.cells] using h3⟩
    · rename_i e hk
      rw [hk] at hd
      simp only [Bool.and_eq_true] at hs
      obtain ⟨hs1, hs2⟩ := hs
      split at hs1
      case h_2 => cases hs1
      rename_i te hte
      simp only [Nat.blt_eq] at hs1
      have hetok := hΓ e te hte
      rcases DataW.trod_slice hd h with ⟨rfl,_⟩ | ⟨a,len,cap,elems,rest,n',rfl,rfl,_,hb,hlc,hcm,hel,hi,_,_⟩
      · exact ⟨.slice te.size [],⟨ti,e,te,hti,hk,hte,rfl,Nat.zero_le _,by simp [FitsAX]⟩,by simp [DatX.cells,RvL,Rv]⟩
      · have key : ∀ i,i < len → ∃ D : DatX,FitsX Γ e D ∧ ∃ cs',cs'.length = te.size ∧ (∀ j,j < te.size → w.cell? ((a.add (i * te.size)).add j) = cs'[j]?) ∧ RvL [] w D.cells cs' := by
          intro i hil
          have h1 := hi i hil
          rw [List.getElem?_eq_getElem (by omega), hetok.cellsOf] at h1
          simp only [Option.bind_eq_some_iff] at h1
          obtain ⟨cs', h2, h3⟩ := h1
          obtain ⟨_, h4, h5⟩ := World.cells?_some h2
          obtain ⟨D, h6, h7⟩ := open_datX hΓ d n' e cs' _ hs2 h3
          exact ⟨D, h6, cs', h4, h5, h7⟩
        obtain ⟨Ds,hDl,hDs⟩ : ∃ Ds : List DatX,Ds.length = len ∧ ∀ i (h : i < Ds.length),FitsX Γ e Ds[i] ∧ ∃ cs',cs'.length = te.size ∧ (∀ j,j < te.size → w.cell? ((a.add (i * te.size)).add j) = cs'[j]?) ∧ RvL [] w Ds[i].cells cs' := by
          have : ∀ k,k ≤ len → ∃ Ds : List DatX,Ds.length = k ∧ ∀ i (h : i < Ds.length),FitsX Γ e Ds[i] ∧ ∃ cs',cs'.length = te.size ∧ (∀ j,j < te.size → w.cell? ((a.add (i * te.size)).add j) = cs'[j]?) ∧ RvL [] w Ds[i].cells cs' := by
            intro k
            induction k with
            | zero => intro _; exact ⟨[], rfl, fun i h => by simp at h⟩
            | succ k ihk =>
              intro hk'
              obtain ⟨Ds, h1, h2⟩ := ihk (by omega)
              obtain ⟨D, h3⟩ := key k (by omega)
              refine ⟨Ds ++ [D], by simp [h1], fun i hi' => ?_⟩
              by_cases hik : i < Ds.length
              · have := h2 i hik
                simpa [List.getElem_append_left hik] using this
              · have hik' : i = Ds.length := by simp at hi'; omega
                subst hik'
                simpa [h1] using h3
          exact this len (Nat.le_refl _)
        refine ⟨.slice te.size Ds, ⟨ti, e, te, hti, hk, hte, rfl, by rw [hDl]; omega, FitsAX.mk fun x hx => ?_⟩, ?_⟩
        · obtain ⟨i, hi', rfl⟩ := List.mem_iff_getElem.1 hx
          exact (hDs i hi').1
        · simp only [DatX.cells, RvL, and_true, Rv]
          refine ⟨some a,cap,by rw [hDl],by rw [hDl];exact hlc,fun hp => ⟨a,rfl,?_,not_has_nil,fun i hi' j hj => ?_⟩⟩
          · obtain ⟨_, cs', h1, h2, _⟩ := hDs 0 hp
            have h3 := h2 0 hs1
            rw [List.getElem?_eq_getElem (by omega)] at h3
            have := block_lt h3
            rwa [add_block, add_block] at this
          · obtain ⟨_, cs', h1, h2, h3⟩ := hDs i hi'
            have h4 := h2 j hj
            rw [List.getElem?_eq_getElem (by omega), add_add] at h4
            rw [cellsLLX_get _ _ hi']
            have hcl : Ds[i].cells.length = cs'.length := h3.length
            refine ⟨_, h4, oneL_sound Ds[i].oneL h3 _ (List.getElem_mem _), ?_⟩
            obtain ⟨y, hy, hr⟩ := RvL.get h3 (nth_eq (l := Ds[i].cells) (i := j) (by omega))
            rw [List.getElem?_eq_getElem (by omega)] at hy
            simp only [Option.some.injEq] at hy
            rw [hy]
            exact hr
    · cases hs
def DatX.val (agg : Bool) (D : DatX) : AV := if agg then .agg D.cells else nth D.cells 0
theorem open_argX (hΓ : TabOk P Γ) {d : Nat} {t : TypeId} {ti : TI} {v : Value} {x : DataW H} {ps : List MemPlace} (hti : Γ.get t = some ti) (hs : supTX Γ d t = true) (hv : Value.okWide P w .any 0 t v ∨ ∃ b,Value.okWide P w .any b t v) (h : DataW.Trod enc P w 0 sp held t v x ps) :
    ∃ D : DatX, FitsX Γ t D ∧ Rv [] w (D.val ti.d.isAgg) v := by
  obtain ⟨fuel, h⟩ := h
  obtain ⟨D, h1, h2⟩ := open_datX hΓ d fuel t _ _ hs h
  refine ⟨D, h1, ?_⟩
  obtain ⟨b, hv⟩ : ∃ b, Value.okWide P w .any b t v := by rcases hv with hv | hv; exact ⟨0, hv⟩; exact hv
  have hd := (hΓ t ti hti).desc
  unfold DatX.val
  cases hag : ti.d.isAgg with
  | true =>
    simp only [if_true]
    have hst : ∃ cs, v = .agg cs := by
      cases hdd : ti.d <;> rw [hdd] at hag hd <;> simp [TD.isAgg] at hag
      · obtain ⟨fs, hu, _⟩ := hd
        obtain ⟨cs, rfl, _⟩ := okWide_struct hu hv
        exact ⟨cs, rfl⟩
      · simp only [TD.holds] at hd
        simp only [Value.okWide, hd] at hv
        obtain ⟨cs, rfl, _⟩ := hv
        exact ⟨cs, rfl⟩
    obtain ⟨cs, rfl⟩ := hst
    simp only [Rv]
    exact ⟨cs.toList, by simp, by simpa [Value.cells] using h2⟩
  | false =>
    simp only [Bool.false_eq_true, if_false]
    have hc : v.cells = #[v] := by
      cases v with
      | agg cs =>
        exfalso
        cases hdd : ti.d <;> rw [hdd] at hag hd <;> simp [TD.isAgg] at hag <;> simp only [TD.holds] at hd
        case func => obtain ⟨_, _, _, hu⟩ := hd; simp [Value.okWide, hu, Cell.okWide, Cell.ok] at hv
        case iface => obtain ⟨_, hu⟩ := hd; simp [Value.okWide, hu, Cell.okWide, Cell.ok] at hv
        all_goals simp [Value.okWide, hd, Cell.okWide, Cell.ok] at hv
      | _ => rfl
    rw [hc] at h2
    match hcells : D.cells, h2 with
    | [a], h2 =>
      simp only [RvL, and_true] at h2
      simpa [nth] using h2
    | [], h2 => simp [RvL] at h2
    | _ :: _ :: _, h2 => simp [RvL] at h2
def FitsArgsX (Γ : Tab) : List TypeId → List DatX → Prop
  | [], [] => True
  | t :: ts, d :: ds => FitsX Γ t d ∧ FitsArgsX Γ ts ds
  | _, _ => False
def valsOfX (Γ : Tab) : List TypeId → List DatX → List AV
  | t :: ts, d :: ds => d.val (isAggT Γ t) :: valsOfX Γ ts ds
  | _, _ => []
theorem supTX_getX {d : Nat} {t : TypeId} (h : supTX Γ d t = true) : ∃ ti, Γ.get t = some ti := by
  cases d with
  | zero => simp [supTX] at h
  | succ d =>
    unfold supTX at h
    split at h
    · exact ⟨_, ‹_›⟩
    · cases h
theorem open_argsX (hΓ : TabOk P Γ) {d : Nat} : ∀ {ts : List TypeId} {vs : List Value} {ds : List (DataW H)} {ps : List MemPlace},ts.all (supTX Γ d) = true → (∀ (j : Nat) (t : TypeId) (v : Value),ts[j]? = some t → vs[j]? = some v → ∃ b,Value.okWide P w .any b t v) →
    DataW.TrodAll enc P w 0 sp held ts vs ds ps → ds.length = ts.length ∧ ∃ Ds,FitsArgsX Γ ts Ds ∧ RvL [] w (valsOfX Γ ts Ds) vs
  | [], [], [], _, _, _, _ => ⟨rfl, [], by simp [FitsArgsX], by simp [valsOfX, RvL]⟩
  | t :: ts, v :: vs, d0 :: ds, ps, hs, hv, h => by
    simp only [List.all_cons, Bool.and_eq_true] at hs
    obtain ⟨p, q, h1, h2, _⟩ := h
    obtain ⟨ti, hti⟩ := supTX_getX hs.1
    obtain ⟨D, hD1, hD2⟩ := open_argX hΓ hti hs.1 (.inr (hv 0 t v rfl rfl)) h1
    obtain ⟨hl,Ds,h3,h4⟩ := open_argsX hΓ hs.2 (fun j t' v' ht' hv' => hv (j + 1) t' v' (by simpa using ht') (by simpa using hv')) h2
    refine ⟨by simp [hl], D :: Ds, ⟨hD1, h3⟩, ?_⟩
    simp only [valsOfX, RvL, isAggT, hti]
    exact ⟨hD2, h4⟩
  | [], _ :: _, _, _, _, _, h => by simp [DataW.TrodAll] at h
  | [], [], _ :: _, _, _, _, h => by simp [DataW.TrodAll] at h
  | _ :: _, [], _, _, _, _, h => by simp [DataW.TrodAll] at h
  | _ :: _, _ :: _, [], _, _, _, h => by simp [DataW.TrodAll] at h
theorem sized_allX (hΓ : TabOk P Γ) : ∀ {ts : List TypeId} {vs : List Value} {ds : List (DataW H)} {ps : List MemPlace} {Ds : List DatX},DataW.TrodAll enc P w 0 sp held ts vs ds ps → FitsArgsX Γ ts Ds → RvL [] w (valsOfX Γ ts Ds) vs →
    ∀ (j : Nat) (t : TypeId) (z : Nat) (l : List DatX),ts[j]? = some t → Ds[j]? = some (.slice z l) → l.length = 0 ∨ ∃ elems spare : List (DataW H),ds[j]? = some (.slice elems spare) ∧ elems.length = l.length
  | [], _, _, _, _, _, _, _, j, t, z, l, ht, _ => by simp at ht
  | t0 :: ts, v :: vs, d0 :: ds, ps, D :: Ds, h, hF, hR, 0, t, z, l, ht, hD => by
    simp only [List.getElem?_cons_zero, Option.some.injEq] at ht hD
    subst ht; subst hD
    obtain ⟨p, q, h1, _, _⟩ := h
    simp only [FitsArgsX] at hF
    obtain ⟨⟨ti, e, te, hti, hk, _⟩, _⟩ := hF
    have hd := (hΓ t0 ti hti).desc
    rw [hk] at hd
    simp only [TD.holds] at hd
    simp only [valsOfX,RvL,isAggT,hti,hk,TD.isAgg,DatX.val,Bool.false_eq_true,if_false,DatX.cells,nth,Rv] at hR
    obtain ⟨⟨a, cap, rfl, _⟩, _⟩ := hR
    obtain ⟨fuel, h1⟩ := h1
    rcases DataW.trod_slice hd h1 with ⟨hv, _⟩ | ⟨b, len, cap', elems, rest, n', _, hv, hx, _, _, _, hl, _⟩
    · simp [Value.cells] at hv
      exact .inl (by omega)
    · simp [Value.cells] at hv
      simp only [Prod.mk.injEq] at hx
      exact .inr ⟨_, _, by rw [hx.1]; rfl, by rw [List.length_map, hl]; omega⟩
  | t0 :: ts, v :: vs, d0 :: ds, ps, D :: Ds, h, hF, hR, j + 1, t, z, l, ht, hD => by
    obtain ⟨p, q, _, h2, _⟩ := h
    simp only [FitsArgsX] at hF
    simp only [valsOfX, RvL] at hR
    simpa using sized_allX hΓ h2 hF.2 hR.2 j t z l (by simpa using ht) (by simpa using hD)
  | _ :: _, [], _, _, _, h, _, _, _, _, _, _, _, _ => by simp [DataW.TrodAll] at h
  | _ :: _, _ :: _, [], _, _, h, _, _, _, _, _, _, _, _ => by simp [DataW.TrodAll] at h
  | _ :: _, _ :: _, _ :: _, _, [], _, hF, _, _, _, _, _, _, _ => by simp [FitsArgsX] at hF
def SizedX (P : Program) (ts : List TypeId) (Ds : List DatX) : Prop := ∀ (j : Nat) (t e : TypeId) (z : Nat) (l : List DatX),ts[j]? = some t → Ds[j]? = some (.slice z l) → P.underlying t = some (.slice e) → l.length * P.bytesOf e ≤ reachBytes
theorem law_contractSX {fn : Func} {s : ChangeSpec} {f : FuncId} {tb : TypeId} {laid : List (String × DataW Unit)} (hG : ∀ W,laidMetH P laid W → Glob [] W) (hΓ : TabOk P Γ) (hok : fnOk P f = true) (hl : laidOutB P = true) (hres : fn.resultTypes = #[tb]) (hbool : P.underlying tb = some .bool)
    (hpar : fn.params.toList.all (fun t=>P.readableRec t && Nat.blt t P.types.size) = true) (hvars : s.vars = []) (hspec : ∀ ds : List (DataW H),ds.length = fn.params.toList.length → s.fn H ds = { results := [.lit (.bool true)],args := ds })
    (hsup : fn.params.toList.all (supTX Γ 12) = true)
    (hlook : ∀ Ds,FitsArgsX Γ fn.params.toList Ds → SizedX P fn.params.toList Ds → ∃ us,(∀ w vs,RvL [] w (valsOfX Γ fn.params.toList Ds) vs → RvL [] w us vs) ∧ Look P f us (.imm (.bool true))) (vt : List TypeId) :
    ∀ (W : World) (base : Nat) (args : Array Value) (ds gs : List (DataW H)) (before : List MemPlace),(∀ (j : Nat) t v,fn.params[j]? = some t → args[j]? = some v → Value.okWide P W .any base t v) →
      DataW.Whole enc P fn.params.toList s.vars false W args.toList ds gs before → (DataW.weightsEach P (fn.params.toList ++ vt) (ds ++ gs)).all (· ≤ reachBytes) = true → laidMetH P laid W →
      Calls P f args W fun e W' => ∃ v, e = .returned v ∧ s.post enc P fn false true false false W args v W' := by
  intro W base args ds gs before hval hW hw hL
  obtain ⟨p, q, hA, hV, _, _, _⟩ := id hW
  obtain ⟨hlen,Ds,hF,hR⟩ := open_argsX hΓ hsup (fun j t v ht hv => ⟨base,hval j t v (by simpa using ht) (by simpa using hv)⟩) hA
  have hS : SizedX P fn.params.toList Ds := by
    intro j t e z l ht hD hu
    rcases sized_allX hΓ hA hF hR j t z l ht hD with h0 | ⟨elems, spare, h1, h2⟩
    · rw [h0]; simp
    · have h3 := sized_slice hw (j := j) (t := t) (e := e) (elems := elems) (spare := spare) (by rw [List.getElem?_append_left ((List.getElem?_eq_some_iff.1 ht).1)];exact ht) (by rw [List.getElem?_append_left ((List.getElem?_eq_some_iff.1 h1).1)];exact h1) hu
      rw [h2] at h3
      exact Nat.le_trans (Nat.mul_le_mul_right _ (by omega)) h3
  obtain ⟨us, hconv, hlk⟩ := hlook Ds hF hS
  refine law_post hl hres hbool hpar hvars hW (hspec ds hlen) ?_
  have := hlk.calls (hG W hL) hok (hconv W args.toList hR)
  simpa using this
end
end Go.Ab
