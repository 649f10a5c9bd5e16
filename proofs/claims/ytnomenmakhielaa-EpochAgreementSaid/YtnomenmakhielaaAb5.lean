/-
  New blocks: variables, boxes, literals of slices, make; slices of slices; append; copy.
-/
import Derived.Test.YtnomenmakhielaaAb4
namespace Go.Ab

def zeroL : List ZC → List AV
  | [] => []
  | z :: zs => .imm z.val :: zeroL zs

theorem zeroL_sound (ρ : Rho) (w : World) : ∀ zs : List ZC, RvL ρ w (zeroL zs) (zs.map ZC.val)
  | [] => by simp [zeroL, RvL]
  | z :: zs => by simp only [zeroL, List.map_cons, RvL, Rv, true_and]; exact zeroL_sound ρ w zs

theorem zeroL_one (zs : List ZC) : ∀ y ∈ zs.map ZC.val, y.oneCell' = true := by
  intro y hy
  simp only [List.mem_map] at hy
  obtain ⟨z, _, rfl⟩ := hy
  cases z <;> rfl

section
variable {P : Program} {Γ : Tab}

/-- A new block of cells. -/
theorem new_cells {ρ : Rho} {w : World} {σ : List AObj} (hH : RH ρ w σ) (n esz : Nat) (cs : List Value) (ety : TypeId) (a : AObj)
    (ro : ∀ w' : World, Step ρ w (ρ ++ [some ⟨w.heap.size, 0, n, esz⟩]) w' → w'.heap[w.heap.size]? = some (.cells cs.toArray ety (0, 0)) → RO (ρ ++ [some ⟨w.heap.size, 0, n, esz⟩]) w' ρ.length a) :
    RH (ρ ++ [some ⟨w.heap.size, 0, n, esz⟩]) (w.alloc (.cells cs.toArray ety)) (σ ++ [a]) ∧ Step ρ w (ρ ++ [some ⟨w.heap.size, 0, n, esz⟩]) (w.alloc (.cells cs.toArray ety)) := by
  have hs : Step ρ w (ρ ++ [some ⟨w.heap.size, 0, n, esz⟩]) (w.alloc (.cells cs.toArray ety)) := Step.push _ rfl rfl rfl rfl (by simp) (fun b hb => RowKit.Below.heap_alloc w _ b hb)
  exact ⟨RH.push hH _ a hs rfl (by simp) (fun b hb => RowKit.Below.heap_alloc w _ b hb) (ro _ hs (heap_alloc_new w _)), hs⟩

theorem new_box {ρ : Rho} {w : World} {σ : List AObj} (hH : RH ρ w σ) (cells : List AV) (cs : List Value) (ety : TypeId) (h1 : ∀ y ∈ cs, y.oneCell' = true) (hr : RvL ρ w cells cs) :
    RH (ρ ++ [some ⟨w.heap.size, 0, cells.length, cells.length⟩]) (w.alloc (.cells cs.toArray ety)) (σ ++ [.box ety cells]) ∧ Step ρ w (ρ ++ [some ⟨w.heap.size, 0, cells.length, cells.length⟩]) (w.alloc (.cells cs.toArray ety)) :=
  new_cells hH _ _ cs ety _ fun _ hs hh => ⟨_, cs.toArray, getElem?_snoc _ _, rfl, rfl, rfl, hh, by simpa using h1, by simpa using RvL.mono hs _ hr⟩

theorem new_box_ptr {ρ : Rho} {w w' : World} {σ : List AObj} (hH : RH ρ w σ) (n : Nat) : Rv (ρ ++ [some ⟨w.heap.size, 0, n, n⟩]) w' (.optr σ.length 0 0) (.pointer (some ⟨w.heap.size, 0, none⟩)) := by
  simp only [Rv]
  exact ⟨_, by rw [← hH.len]; exact getElem?_snoc _ _, by simp⟩

def eAlloc (Γ : Tab) (σ : List AObj) (t : TypeId) : Option (AV × List AObj × Prop) :=
  match Γ.get t with
  | some ti => some (.optr σ.length 0 0, σ ++ [.box t (zeroL ti.zero)], True)
  | none => none

theorem eAlloc_sound (hΓ : TabOk P Γ) {ρ : Rho} {w : World} {σ σ' : List AObj} (hH : RH ρ w σ) {t : TypeId} {v : AV} {C : Prop} (h : eAlloc Γ σ t = some (v, σ', C)) :
    ∃ r ρ' w', (Instr.alloc t true (.tuple #[])).run P w = .ok r w' ∧ Rv ρ' w' v r ∧ RH ρ' w' σ' ∧ Step ρ w ρ' w' := by
  unfold eAlloc at h
  split at h
  · rename_i ti hti
    have hti := hΓ t ti hti
    simp only [Option.some.injEq, Prod.mk.injEq] at h
    obtain ⟨rfl, rfl, rfl⟩ := h
    obtain ⟨z, hz, hzc⟩ := hti.zeroValue w
    have hb := new_box hH (zeroL ti.zero) (ti.zero.map ZC.val) t (zeroL_one _) (zeroL_sound ρ w _)
    refine ⟨.pointer (some ⟨w.heap.size, 0, none⟩), _, _, ?_, new_box_ptr hH _, hb.1, hb.2⟩
    simp only [Instr.alloc, Sem.run_bind, hz, Result.andThen_ok, newVar, newRow, run_newObj, hzc, Sem.run_pure]
    rfl
  · cases h

def eBox (σ : List AObj) (t : TypeId) (x : AV) : Option (AV × List AObj × Prop) :=
  some (.optr σ.length 0 0, σ ++ [.box t (cellsOf x)], oneL (cellsOf x) = true)

theorem eBox_sound {ρ : Rho} {w : World} {σ σ' : List AObj} (hH : RH ρ w σ) {t : TypeId} {x v : AV} {C : Prop} (h : eBox σ t x = some (v, σ', C)) (hC : C) {vx : Value} (hx : Rv ρ w x vx) :
    ∃ r ρ' w', (Instr.box t vx).run P w = .ok r w' ∧ Rv ρ' w' v r ∧ RH ρ' w' σ' ∧ Step ρ w ρ' w' := by
  simp only [eBox, Option.some.injEq, Prod.mk.injEq] at h
  obtain ⟨rfl, rfl, rfl⟩ := h
  have hcy := cellsOf_sound hC hx
  have hb := new_box hH (cellsOf x) vx.cells.toList t (oneL_sound hC hcy) hcy
  refine ⟨.pointer (some ⟨w.heap.size, 0, none⟩), _, _, ?_, new_box_ptr hH _, hb.1, hb.2⟩
  simp [Instr.box, newVar, newRow]

/-- The places of a struct's fields: offset and size of each. -/
def placesOf (Γ : Tab) : List (TypeId × Nat) → Option (List (Nat × Nat))
  | [] => some []
  | (t, off) :: fs =>
    match Γ.get t with
    | some ti => match placesOf Γ fs with | some r => some ((off, ti.size) :: r) | none => none
    | none => none

def nthP : List (Nat × Nat) → Nat → Option (Nat × Nat)
  | [], _ => none
  | x :: _, 0 => some x
  | _ :: xs, n + 1 => nthP xs n

theorem nthP_eq : ∀ (l : List (Nat × Nat)) (i : Nat), nthP l i = l[i]?
  | [], i => by simp [nthP]
  | x :: xs, 0 => by simp [nthP]
  | x :: xs, i + 1 => by simp [nthP, nthP_eq xs i]

def fillA (place : Nat → Option (Nat × Nat)) (cells : List AV) : List (Nat × AV) → Option (List AV × Prop)
  | [] => some (cells, True)
  | (i, v) :: rest =>
    match place i with
    | some (off, size) =>
      match fillA place (setC cells off (cellsOf v)) rest with
      | some (r, c) => some (r, (cellsOf v).length = size ∧ off + (cellsOf v).length ≤ cells.length ∧ oneL (cellsOf v) = true ∧ c)
      | none => none
    | none => none

def RvP (ρ : Rho) (w : World) : List (Nat × AV) → List (Nat × Value) → Prop
  | [], [] => True
  | (i, v) :: vs, (j, x) :: xs => i = j ∧ Rv ρ w v x ∧ RvP ρ w vs xs
  | _, _ => False

theorem foldl_set (vs : List Value) : ∀ (k off : Nat) (cs : Array Value), off + k + vs.length ≤ cs.size →
    (vs.zipIdx k).foldl (fun cs (p : Value × Nat) => cs.setIfInBounds (off + p.2) p.1) cs = (cs.toList.take (off + k) ++ vs ++ cs.toList.drop (off + k + vs.length)).toArray := by
  induction vs with
  | nil => intro k off cs _; simp
  | cons v vs ih =>
    intro k off cs h
    simp only [List.length_cons] at h
    simp only [List.zipIdx_cons, List.foldl_cons]
    rw [ih (k + 1) off _ (by simp; omega)]
    have e := list_seg_step cs.toList (off + k) v vs (by simp; omega)
    apply Array.ext'
    simpa [Array.toList_setIfInBounds, Nat.add_assoc] using e

theorem fillA_sound {ρ : Rho} {w : World} {place place' : Nat → Option (Nat × Nat)} (hp : ∀ i, place i = place' i) : ∀ {parts : List (Nat × AV)} {cells r : List AV} {c : Prop} {xs : List (Nat × Value)} {cs : Array Value},
    fillA place cells parts = some (r, c) → c → RvP ρ w parts xs → RvL ρ w cells cs.toList → (∀ y ∈ cs.toList, y.oneCell' = true) →
    ∃ cs' : Array Value, Instr.fill place' cs xs = some cs' ∧ RvL ρ w r cs'.toList ∧ (∀ y ∈ cs'.toList, y.oneCell' = true)
  | [], cells, r, c, [], cs, h, _, _, hr, h1 => by
    simp only [fillA, Option.some.injEq, Prod.mk.injEq] at h
    obtain ⟨rfl, _⟩ := h
    exact ⟨cs, rfl, hr, h1⟩
  | (i, v) :: rest, cells, r, c, (j, x) :: xs, cs, h, hc, hx, hr, h1 => by
    simp only [RvP] at hx
    obtain ⟨rfl, hvx, hxs⟩ := hx
    unfold fillA at h
    split at h
    · rename_i off size hpl
      split at h
      · rename_i r' c' hrec
        simp only [Option.some.injEq, Prod.mk.injEq] at h
        obtain ⟨rfl, rfl⟩ := h
        obtain ⟨e1, e2, e3, hc'⟩ := hc
        have hcy := cellsOf_sound e3 hvx
        have hyl := hcy.length
        have hcl := hr.length
        have hone := oneL_sound e3 hcy
        have hsz : x.cells.size = size := by rw [← e1, hyl]; simp
        have hcs : cs.toList.length = cs.size := by simp
        have hxl : x.cells.toList.length = x.cells.size := by simp
        have hfit : off + x.cells.size ≤ cs.size := by omega
        have hfold := foldl_set x.cells.toList 0 off cs (by rw [hxl]; omega)
        simp only [Nat.add_zero] at hfold
        have hf2 : x.cells.zipIdx.foldl (fun cs (c, j) => cs.setIfInBounds (off + j) c) cs = (cs.toList.take off ++ x.cells.toList ++ cs.toList.drop (off + x.cells.toList.length)).toArray := by
          rw [← hfold, ← Array.foldl_toList, Array.toList_zipIdx]
        obtain ⟨cs', g1, g2, g3⟩ := fillA_sound hp (cs := (cs.toList.take off ++ x.cells.toList ++ cs.toList.drop (off + x.cells.toList.length)).toArray) hrec hc' hxs (by
          have e : setC cells off (cellsOf v) = cells.take off ++ cellsOf v ++ cells.drop (off + x.cells.toList.length) := by rw [setC, hyl]
          rw [e]
          exact RvL.append (RvL.append (RvL.take off hr) hcy) (RvL.drop _ hr)) (by
          intro z hz
          simp only [List.mem_append] at hz
          rcases hz with (hz | hz) | hz
          · exact h1 z (List.mem_of_mem_take hz)
          · exact hone z hz
          · exact h1 z (List.mem_of_mem_drop hz))
        refine ⟨cs', ?_, g2, g3⟩
        unfold Instr.fill
        rw [← hp i, hpl]
        simp only []
        rw [if_neg (by simp [hsz]; omega), hf2]
        exact g1
      · cases h
    · cases h
  | [], _, _, _, _ :: _, _, _, _, hx, _, _ => by simp [RvP] at hx
  | _ :: _, _, _, _, [], _, _, _, hx, _, _ => by simp [RvP] at hx

def eBuild (Γ : Tab) (t : TypeId) (parts : List (Nat × AV)) : Option (AV × Prop) :=
  match Γ.get t with
  | some ti =>
    match ti.d with
    | .strct fs =>
      match placesOf Γ fs with
      | some ps => match fillA (nthP ps) (zeroL ti.zero) parts with | some (r, c) => some (.agg r, c) | none => none
      | none => none
    | .array _ e =>
      match Γ.get e with
      | some te => match fillA (fun i => some (i * te.size, te.size)) (zeroL ti.zero) parts with | some (r, c) => some (.agg r, c) | none => none
      | none => none
    | _ => none
  | none => none

theorem placesOf_sound (hΓ : TabOk P Γ) (w : World) : ∀ {fs : List Field} {ps : List (Nat × Nat)}, placesOf Γ (fs.map fun f => (f.type, f.offset)) = some ps →
    (fs.mapM (fun f => (do pure (f.offset, ← sizeOf f.type) : Sem (Nat × Nat)))).run P w = .ok ps w
  | [], ps, h => by simp [placesOf] at h; subst h; simp
  | f :: fs, ps, h => by
    simp only [List.map_cons] at h
    unfold placesOf at h
    split at h
    · rename_i ti hti
      split at h
      · rename_i r hr
        simp only [Option.some.injEq] at h
        subst h
        have ih := placesOf_sound hΓ w hr
        simp only [List.mapM_cons, Sem.run_bind, (hΓ _ _ hti).sizeOf, Result.andThen_ok, Sem.run_pure, ih]
      · cases h
    · cases h

theorem eBuild_sound (hΓ : TabOk P Γ) {ρ : Rho} {w : World} {t : TypeId} {parts : List (Nat × AV)} {v : AV} {C : Prop} (h : eBuild Γ t parts = some (v, C)) (hC : C) {xs : Array (Nat × Value)} (hx : RvP ρ w parts xs.toList) :
    ∃ r, (Instr.build t xs).run P w = .ok r w ∧ Rv ρ w v r := by
  unfold eBuild at h
  split at h
  · rename_i ti hti
    have hti := hΓ t ti hti
    obtain ⟨z, hz, hzc⟩ := hti.zeroValue w
    have hd := hti.desc
    split at h
    · rename_i fs hfs
      rw [hfs] at hd
      simp only [TD.holds] at hd
      obtain ⟨F, hu, rfl⟩ := hd
      split at h
      · rename_i ps hps
        split at h
        · rename_i r c hfill
          simp only [Option.some.injEq, Prod.mk.injEq] at h
          obtain ⟨rfl, rfl⟩ := h
          have hm := placesOf_sound hΓ w hps
          have hm2 : (F.mapM (fun f => (do pure (f.offset, ← sizeOf f.type) : Sem (Nat × Nat)))).run P w = .ok ps.toArray w := by
            rw [Array.mapM_eq_mapM_toList, Sem.run_map, hm]
            rfl
          obtain ⟨cs', g1, g2, _⟩ := fillA_sound (cs := z.cells) (place' := fun i => ps.toArray[i]?) (by intro i; rw [nthP_eq]; simp) hfill hC hx (by rw [hzc]; exact zeroL_sound ρ w _) (by rw [hzc]; exact zeroL_one _)
          refine ⟨.agg cs', ?_, ?_⟩
          · simp only [Instr.build, Sem.run_bind, hz, Result.andThen_ok, run_underlying hu, hm2, g1, Sem.run_pure]
          · simp only [Rv]
            exact ⟨cs'.toList, by simp, g2⟩
        · cases h
      · cases h
    · rename_i len e hfs
      rw [hfs] at hd
      simp only [TD.holds] at hd
      split at h
      · rename_i te hte
        have hte := hΓ e te hte
        split at h
        · rename_i r c hfill
          simp only [Option.some.injEq, Prod.mk.injEq] at h
          obtain ⟨rfl, rfl⟩ := h
          obtain ⟨cs', g1, g2, _⟩ := fillA_sound (cs := z.cells) (place' := fun i => some (i * te.size, te.size)) (by intro i; rfl) hfill hC hx (by rw [hzc]; exact zeroL_sound ρ w _) (by rw [hzc]; exact zeroL_one _)
          refine ⟨.agg cs', ?_, ?_⟩
          · simp only [Instr.build, Sem.run_bind, hz, Result.andThen_ok, run_underlying hd, hte.sizeOf, g1, Sem.run_pure]
          · simp only [Rv]
            exact ⟨cs'.toList, by simp, g2⟩
        · cases h
      · cases h
    · cases h
  · cases h

def repL (zs : List AV) : Nat → List AV
  | 0 => []
  | n + 1 => zs ++ repL zs n

def eBuildSlice (Γ : Tab) (σ : List AObj) (t : TypeId) (len : Nat) (parts : List (Nat × AV)) : Option (AV × List AObj × Prop) :=
  match Γ.get t with
  | some ti =>
    match ti.d with
    | .slice e =>
      match Γ.get e with
      | some te =>
        match fillA (fun i => some (i * te.size, te.size)) (repL (zeroL te.zero) len) parts with
        | some (r, c) => some (.own σ.length 0 len (some len), σ ++ [.arr e te.size len (fun i j => nth r (i * te.size + j))], c ∧ len * te.size ≤ 16777216 ∧ te.zero.length = te.size ∧ r.length = len * te.size)
        | none => none
      | none => none
    | _ => none
  | none => none

theorem repL_sound {ρ : Rho} {w : World} {zs : List AV} {xs : List Value} (h : RvL ρ w zs xs) : ∀ n, RvL ρ w (repL zs n) (List.replicate n xs).flatten
  | 0 => by simp [repL, RvL]
  | n + 1 => by simp only [repL, List.replicate_succ, List.flatten_cons]; exact RvL.append h (repL_sound h n)

theorem made_eq (zs : List Value) (n : Nat) : (Array.range (n * zs.length)).map (fun i => zs.toArray[i % zs.length]!) = (List.replicate n zs).flatten.toArray := by
  apply Array.ext'
  simp only [Array.toList_map, Array.toList_range]
  induction n with
  | zero => simp
  | succ n ih =>
    rw [Nat.succ_mul, Nat.add_comm, List.range_add, List.map_append, List.replicate_succ, List.flatten_cons, List.map_map]
    congr 1
    · apply List.ext_getElem?
      intro i
      by_cases hi : i < zs.length
      · simp [hi, Nat.mod_eq_of_lt hi]
      · simp [hi]
    · rw [← ih]
      apply List.map_congr_left
      intro i _
      simp [Nat.add_mod_left]

theorem new_arr {ρ : Rho} {w : World} {σ : List AObj} (hH : RH ρ w σ) (e : TypeId) (esz len cap : Nat) (elem : Nat → Nat → AV) (cs : List Value) (hlen : cs.length = cap * esz) (hlc : len ≤ cap) (hone : ∀ y ∈ cs, y.oneCell' = true)
    (hr : ∀ w' : World, Step ρ w (ρ ++ [some ⟨w.heap.size, 0, cs.length, esz⟩]) w' → ∀ i, i < len → ∀ j, j < esz → ∃ y, cs[i * esz + j]? = some y ∧ y.oneCell' = true ∧ Rv (ρ ++ [some ⟨w.heap.size, 0, cs.length, esz⟩]) w' (elem i j) y) :
    RH (ρ ++ [some ⟨w.heap.size, 0, cs.length, esz⟩]) (w.alloc (.cells cs.toArray e)) (σ ++ [.arr e esz len elem]) ∧ Step ρ w (ρ ++ [some ⟨w.heap.size, 0, cs.length, esz⟩]) (w.alloc (.cells cs.toArray e)) ∧
      ∀ c, (∀ c', c = some c' → cap = c') → Rv (ρ ++ [some ⟨w.heap.size, 0, cs.length, esz⟩]) (w.alloc (.cells cs.toArray e)) (.own σ.length 0 len c) (.slice (some ⟨w.heap.size, 0, none⟩) len cap) := by
  have hb := new_cells hH cs.length esz cs e (.arr e esz len elem) fun w' hs hh => by
    refine .inl ⟨_, cs.toArray, getElem?_snoc _ _, rfl, hh, ⟨by simp, by simpa using hone⟩, ?_, fun i hi j hj => ?_⟩
    · have := Nat.mul_le_mul_right esz hlc
      simp only [Nat.zero_add]
      omega
    · obtain ⟨y, hy, h1, hv⟩ := hr w' hs i hi j hj
      exact ⟨y, by simpa using hy, h1, hv⟩
  refine ⟨hb.1, hb.2, fun c hc => ?_⟩
  simp only [Rv]
  exact .inl ⟨_, cap, by rw [← hH.len]; exact getElem?_snoc _ _, by simp, hlc, by simp [hlen], hc⟩

theorem eBuildSlice_sound (hΓ : TabOk P Γ) {ρ : Rho} {w : World} {σ σ' : List AObj} (hH : RH ρ w σ) {t : TypeId} {len : Nat} {parts : List (Nat × AV)} {v : AV} {C : Prop} (h : eBuildSlice Γ σ t len parts = some (v, σ', C)) (hC : C)
    {xs : Array (Nat × Value)} (hx : RvP ρ w parts xs.toList) :
    ∃ r ρ' w', (Instr.buildSlice t len xs).run P w = .ok r w' ∧ Rv ρ' w' v r ∧ RH ρ' w' σ' ∧ Step ρ w ρ' w' := by
  unfold eBuildSlice at h
  split at h
  · rename_i ti hti
    have hd := (hΓ t ti hti).desc
    split at h
    · rename_i e hfs
      rw [hfs] at hd
      simp only [TD.holds] at hd
      split at h
      · rename_i te hte
        have hte := hΓ e te hte
        split at h
        · rename_i r c hfill
          simp only [Option.some.injEq, Prod.mk.injEq] at h
          obtain ⟨rfl, rfl, rfl⟩ := h
          obtain ⟨hc, hsz, hzl, hrl⟩ := hC
          obtain ⟨z, hz, hzc⟩ := hte.zeroValue w
          have hz1 := zeroL_sound ρ w te.zero
          obtain ⟨cs', g1, g2, g3⟩ := fillA_sound (cs := (List.replicate len (te.zero.map ZC.val)).flatten.toArray) (place' := fun i => some (i * te.size, te.size)) (by intro i; rfl) hfill hc hx (by simpa using repL_sound hz1 len)
            (by intro y hy; simp only [List.mem_flatten, List.mem_replicate] at hy; obtain ⟨l, ⟨_, rfl⟩, hy⟩ := hy; exact zeroL_one _ y hy)
          have hmk : (Array.range (len * te.size)).map (fun i => (if len * te.size = 0 then (#[] : Array Value) else z.cells)[i % (if len * te.size = 0 then (#[] : Array Value) else z.cells).size]!) = (List.replicate len (te.zero.map ZC.val)).flatten.toArray := by
            by_cases h0 : len * te.size = 0
            · have : (List.replicate len (te.zero.map ZC.val)).flatten = [] := by
                apply List.eq_nil_of_length_eq_zero
                simp [List.length_flatten, hzl, h0]
              rw [h0, this]
              simp
            · simp only [h0, if_false]
              have := made_eq (te.zero.map ZC.val) len
              simp only [List.length_map, hzl] at this
              rw [hzc]
              simpa [hzl] using this
          have hcl : cs'.toList.length = len * te.size := by rw [← g2.length, hrl]
          have hnew := new_arr hH e te.size len len (fun i j => nth r (i * te.size + j)) cs'.toList hcl (Nat.le_refl _) g3 (fun w' hs i hi j hj => by
            have hlt : i * te.size + j < len * te.size := by
              have := Nat.mul_le_mul_right te.size (Nat.succ_le_of_lt hi)
              rw [Nat.succ_mul] at this
              omega
            obtain ⟨y, hy, hv⟩ := RvL.get g2 (nth_eq (l := r) (i := i * te.size + j) (by omega))
            exact ⟨y, hy, g3 y (List.mem_of_getElem? hy), Rv.mono hs _ hv⟩)
          refine ⟨.slice (some ⟨w.heap.size, 0, none⟩) len len, _, _, ?_, hnew.2.2 (some len) (by simp), hnew.1, hnew.2.1⟩
          have hg : ¬ len * te.size > 2 ^ 24 := by simp; omega
          by_cases h0 : len * te.size = 0
          · simp only [h0, if_true] at hmk
            simp only [Instr.buildSlice, Sem.run_bind, run_underlying hd, Result.andThen_ok, hte.sizeOf, h0, if_true, Sem.run_pure, Sem.run_ite]
            simp only [hmk, g1, newRow, Sem.run_bind, run_newObj, Result.andThen_ok, Sem.run_pure]
            simp
          · simp only [h0, if_false] at hmk
            simp only [Instr.buildSlice, Sem.run_bind, run_underlying hd, Result.andThen_ok, hte.sizeOf, hg, if_false, h0, Sem.run_pure, Sem.run_ite, hz, hmk, g1, newRow, run_newObj]
            simp
        · cases h
      · cases h
    · cases h
  · cases h
end
end Go.Ab
