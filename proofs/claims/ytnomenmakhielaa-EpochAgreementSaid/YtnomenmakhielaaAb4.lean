/-
  Operations on memory: loads, stores, new blocks, slices, append, copy.
-/
import Derived.Test.YtnomenmakhielaaAb3
namespace Go.Ab

theorem nth_eq : ∀ {l : List AV} {i : Nat}, i < l.length → l[i]? = some (nth l i)
  | x :: _, 0, _ => by simp [nth]
  | x :: xs, i + 1, h => by simp only [List.getElem?_cons_succ, nth]; exact nth_eq (by simpa using h)
  | [], _, h => by simp at h

theorem nthO_eq : ∀ {σ : List AObj} {o : Nat} {a : AObj}, nthO σ o = a → a.alive = true → σ[o]? = some a
  | x :: _, 0, a, h, _ => by simpa [nthO] using h
  | x :: xs, o + 1, a, h, hl => by simp only [List.getElem?_cons_succ]; exact nthO_eq (by simpa [nthO] using h) hl
  | [], o, a, h, hl => by simp [nthO] at h; subst h; simp [AObj.alive] at hl

def oneC : AV → Bool
  | .imm v => v.oneCell'
  | .top | .gd _ _ | .agg _ | .tup _ => false
  | _ => true

def oneL : List AV → Bool
  | [] => true
  | v :: vs => oneC v && oneL vs

def cellsOf : AV → List AV
  | .agg vs => vs
  | v => [v]

theorem oneC_sound {ρ : Rho} {w : World} {v : AV} {x : Value} (h : oneC v = true) (hx : Rv ρ w v x) : x.oneCell' = true := by
  cases v <;> simp [oneC] at h <;> simp only [Rv] at hx
  case imm v => subst hx; exact h
  case rptr => obtain ⟨ad, rfl, _⟩ := hx; rfl
  case view => obtain ⟨a, cap, rfl, _⟩ := hx; rfl
  case pv => obtain ⟨b, d, cap, c, ety, rfl, _⟩ := hx; rfl
  case optr => obtain ⟨l, _, rfl⟩ := hx; rfl
  case own => rcases hx with ⟨l, cap, _, rfl, _⟩ | ⟨_, ⟨a, rfl⟩, _⟩ <;> rfl
  case emp => obtain ⟨a, rfl⟩ := hx; rfl
  case bsl => obtain ⟨_, l, _, rfl⟩ := hx; rfl
  case map => obtain ⟨l, _, rfl⟩ := hx; rfl
  case fn => obtain ⟨fs, cs, rfl, _⟩ := hx; rfl

theorem oneL_sound {ρ : Rho} {w : World} : ∀ {vs : List AV} {xs : List Value}, oneL vs = true → RvL ρ w vs xs → ∀ y ∈ xs, y.oneCell' = true
  | [], [], _, _, y, hy => by cases hy
  | v :: vs, x :: xs, h, hx, y, hy => by
    simp only [oneL, Bool.and_eq_true] at h
    simp only [RvL] at hx
    cases hy with
    | head => exact oneC_sound h.1 hx.1
    | tail _ hm => exact oneL_sound h.2 hx.2 y hm
  | [], _ :: _, _, hx, _, _ => by simp [RvL] at hx
  | _ :: _, [], _, hx, _, _ => by simp [RvL] at hx

/-- The cells of a value: those of an agg, or the value itself. -/
theorem cellsOf_sound {ρ : Rho} {w : World} {v : AV} {x : Value} (h1 : oneL (cellsOf v) = true) (hx : Rv ρ w v x) : RvL ρ w (cellsOf v) x.cells.toList := by
  cases v <;> (try (simp only [cellsOf] at *)) <;> try (simp [oneL, oneC] at h1; done)
  case agg vs =>
    simp only [Rv] at hx
    obtain ⟨cs, rfl, hc⟩ := hx
    simpa [Value.cells] using hc
  all_goals
    have hone : x.oneCell' = true := oneC_sound (by simpa [oneL] using h1) hx
    have : x.cells = #[x] := by cases x <;> first | rfl | simp [Value.oneCell'] at hone
    rw [this]
    simp only [RvL, and_true]
    exact hx

def rd (f : Nat → AV) : Nat → Nat → List AV
  | _, 0 => []
  | k, n + 1 => f k :: rd f (k + 1) n

theorem rd_length (f : Nat → AV) : ∀ (n k : Nat), (rd f k n).length = n
  | 0, _ => rfl
  | n + 1, k => by simp [rd, rd_length f n (k + 1)]

theorem rd_get (f : Nat → AV) : ∀ (n k j : Nat), j < n → (rd f k n)[j]? = some (f (k + j))
  | n + 1, k, 0, _ => by simp [rd]
  | n + 1, k, j + 1, h => by simp only [rd, List.getElem?_cons_succ]; rw [rd_get f n (k + 1) j (by omega)]; congr 2; omega
  | 0, _, _, h => by omega

/-- The cells behind a pointer, how many there are, and what must hold. -/
def ptrCells (σ : List AObj) : AV → Option ((Nat → AV) × Nat × Prop)
  | .rptr n cell => some (cell, n, True)
  | .optr o i off =>
    match nthO σ o with
    | .box _ cells => some (fun j => nth cells (off + j), cells.length - off, i = 0)
    | .arr _ esz len elem => some (fun j => elem i (off + j), esz - off, i < len)
    | _ => none
  | _ => none

def eLoad (Γ : Tab) (σ : List AObj) (t : TypeId) (p : AV) : Option (AV × Prop) :=
  match Γ.get t with
  | some ti =>
    match ptrCells σ p with
    | some (f, n, c) => if ti.d.isAgg then some (.agg (rd f 0 ti.size), c ∧ ti.size ≤ n) else some (f 0, c ∧ 0 < n)
    | none => none
  | none => none

section
variable {P : Program} {Γ : Tab}

theorem ptrCells_sound {ρ : Rho} {w : World} {σ : List AObj} (hH : RH ρ w σ) {p : AV} {f : Nat → AV} {n : Nat} {c : Prop} (h : ptrCells σ p = some (f, n, c)) (hc : c) {x : Value} (hx : Rv ρ w p x) :
    ∃ ad : Addr, x = .pointer (some ad) ∧ ∀ j, j < n → ∃ y, w.cell? (ad.add j) = some y ∧ y.oneCell' = true ∧ Rv ρ w (f j) y := by
  unfold ptrCells at h
  split at h
  · simp only [Option.some.injEq, Prod.mk.injEq] at h
    obtain ⟨rfl, rfl, rfl⟩ := h
    simp only [Rv] at hx
    obtain ⟨ad, rfl, _, _, hr⟩ := hx
    exact ⟨ad, rfl, hr⟩
  · rename_i o i off
    simp only [Rv] at hx
    obtain ⟨l, hl, rfl⟩ := hx
    split at h
    · rename_i ety cells hob
      simp only [Option.some.injEq, Prod.mk.injEq] at h
      obtain ⟨rfl, rfl, rfl⟩ := h
      subst hc
      have ho := hH.obj o _ (nthO_eq hob rfl)
      obtain ⟨l', cs, hl', h0, h1, h2, hh, h3, hr⟩ := ho
      rw [hl] at hl'
      simp only [Option.some.injEq] at hl'
      subst hl'
      refine ⟨_, rfl, fun j hj => ?_⟩
      obtain ⟨y, hy, hv⟩ := RvL.get hr (nth_eq (l := cells) (i := off + j) (by omega))
      have hy' : cs[off + j]? = some y := by simpa using hy
      refine ⟨y, ?_, h3 y (List.mem_of_getElem? hy), hv⟩
      rw [add_lit, cell_of_row w l.b _ cs ety (0, 0) hh, h0]
      simpa using hy'
    · rename_i ety esz len elem hob
      simp only [Option.some.injEq, Prod.mk.injEq] at h
      obtain ⟨rfl, rfl, rfl⟩ := h
      have ho := hH.obj o _ (nthO_eq hob rfl)
      rcases ho with ⟨l', cs, hl', he, hh, ⟨hcs, hc1⟩, hd, hr⟩ | ⟨hn, h0⟩
      · rw [hl] at hl'
        simp only [Option.some.injEq] at hl'
        subst hl'
        refine ⟨_, rfl, fun j hj => ?_⟩
        obtain ⟨y, hy, h1, hv⟩ := hr i hc (off + j) (by omega)
        refine ⟨y, ?_, h1, hv⟩
        rw [add_lit, cell_of_row w l.b _ cs ety (0, 0) hh, he]
        rw [← hy]
        congr 1
        omega
      · omega
    · cases h
  · cases h

theorem run_loadCells_ex {ρ : Rho} {w : World} {f : Nat → AV} {n : Nat} {ad : Addr} (h : ∀ j, j < n → ∃ y, w.cell? (ad.add j) = some y ∧ y.oneCell' = true ∧ Rv ρ w (f j) y) :
    ∃ ys : List Value, (loadCells ad n).run P w = .ok ys.toArray w ∧ ys.length = n ∧ (∀ y ∈ ys, y.oneCell' = true) ∧ RvL ρ w (rd f 0 n) ys := by
  refine ⟨(List.range n).map (fun j => (w.cell? (ad.add j)).getD undef), ?_, by simp, ?_, ?_⟩
  · exact run_loadCells (P := P) w ad n (fun j => (w.cell? (ad.add j)).getD undef) (fun j hj => by obtain ⟨y, hy, _⟩ := h j hj; simp [hy])
  · intro y hy
    simp only [List.mem_map, List.mem_range] at hy
    obtain ⟨j, hj, rfl⟩ := hy
    obtain ⟨y, hy, h1, _⟩ := h j hj
    simpa [hy] using h1
  · refine RvL.of_get (by simp [rd_length]) fun i v x hv hx => ?_
    have hi : i < n := by
      have := (List.getElem?_eq_some_iff.1 hx).1
      simpa using this
    rw [rd_get f n 0 i hi] at hv
    simp only [Option.some.injEq, Nat.zero_add] at hv
    subst hv
    obtain ⟨y, hy, _, hr⟩ := h i hi
    simp [hi, hy] at hx
    subst hx
    exact hr

theorem eLoad_sound (hΓ : TabOk P Γ) {ρ : Rho} {w : World} {σ : List AObj} (hH : RH ρ w σ) {t : TypeId} {p v : AV} {C : Prop} (h : eLoad Γ σ t p = some (v, C)) (hC : C) {x : Value} (hx : Rv ρ w p x) :
    ∃ r, (Instr.loadAt t x).run P w = .ok r w ∧ Rv ρ w v r := by
  unfold eLoad at h
  split at h
  · rename_i ti hti
    have hti := hΓ t ti hti
    split at h
    · rename_i f n c hp
      split at h
      · rename_i hag
        simp only [Option.some.injEq, Prod.mk.injEq] at h
        obtain ⟨rfl, rfl⟩ := h
        obtain ⟨ad, rfl, hr⟩ := ptrCells_sound hH hp hC.1 hx
        obtain ⟨ys, h1, h2, _, h3⟩ := run_loadCells_ex (P := P) (n := ti.size) (fun j hj => hr j (by omega))
        refine ⟨.agg ys.toArray, ?_, ?_⟩
        · simp [Instr.loadAt, Instr.sureAddr, loadVar, hti.isAgg, hag, hti.sizeOf, h1]
        · simp only [Rv]
          exact ⟨ys, rfl, h3⟩
      · rename_i hag
        simp only [Option.some.injEq, Prod.mk.injEq] at h
        obtain ⟨rfl, rfl⟩ := h
        obtain ⟨ad, rfl, hr⟩ := ptrCells_sound hH hp hC.1 hx
        obtain ⟨y, hy, _, hv⟩ := hr 0 hC.2
        have h0 : ad.add 0 = ad := rfl
        rw [h0] at hy
        refine ⟨y, ?_, hv⟩
        simp [Instr.loadAt, Instr.sureAddr, loadVar, hti.isAgg, hag, hy]
    · cases h
  · cases h

/-- Elements with n cells from off on of element i replaced. -/
def updE (elem : Nat → Nat → AV) (i off : Nat) (vs : List AV) : Nat → Nat → AV :=
  fun i' j' => if i' = i ∧ off ≤ j' ∧ j' < off + vs.length then nth vs (j' - off) else elem i' j'

def setC (cells : List AV) (off : Nat) (vs : List AV) : List AV := cells.take off ++ vs ++ cells.drop (off + vs.length)

def eStore (Γ : Tab) (σ : List AObj) (t : TypeId) (p v : AV) : Option (List AObj × Prop) :=
  match Γ.get t with
  | some ti =>
    match p with
    | .optr o i off =>
      match nthO σ o with
      | .box ety cells => some (σ.set o (.box ety (setC cells off (cellsOf v))), (cellsOf v).length = ti.size ∧ oneL (cellsOf v) = true ∧ i = 0 ∧ off + (cellsOf v).length ≤ cells.length)
      | .arr ety esz len elem => some (σ.set o (.arr ety esz len (updE elem i off (cellsOf v))), (cellsOf v).length = ti.size ∧ oneL (cellsOf v) = true ∧ i < len ∧ off + (cellsOf v).length ≤ esz)
      | _ => none
    | _ => none
  | none => none

theorem RvL.take {ρ : Rho} {w : World} : ∀ {vs : List AV} {xs : List Value} (n : Nat), RvL ρ w vs xs → RvL ρ w (vs.take n) (xs.take n)
  | _, _, 0, _ => by simp [RvL]
  | [], [], _ + 1, _ => by simp [RvL]
  | _ :: _, _ :: _, n + 1, h => by simp only [RvL, List.take_succ_cons] at h ⊢; exact ⟨h.1, RvL.take n h.2⟩
  | [], _ :: _, _ + 1, h => by simp [RvL] at h
  | _ :: _, [], _ + 1, h => by simp [RvL] at h

theorem RvL.drop {ρ : Rho} {w : World} : ∀ {vs : List AV} {xs : List Value} (n : Nat), RvL ρ w vs xs → RvL ρ w (vs.drop n) (xs.drop n)
  | _, _, 0, h => by simpa using h
  | [], [], _ + 1, _ => by simp [RvL]
  | _ :: _, _ :: _, n + 1, h => by simp only [RvL, List.drop_succ_cons] at h ⊢; exact RvL.drop n h.2
  | [], _ :: _, _ + 1, h => by simp [RvL] at h
  | _ :: _, [], _ + 1, h => by simp [RvL] at h

theorem setRow_step {ρ : Rho} {w : World} {o : Nat} {l : Loc} (hl : ρ[o]? = some (some l)) (c : Array Value) : Step ρ w ρ (w.setRow l.b c) :=
  Step.turn hl rfl rfl rfl (by simp) (fun b hb => setRow_other w l.b b c (by omega))

theorem eStore_sound (hΓ : TabOk P Γ) {ρ : Rho} {w : World} {σ σ' : List AObj} (hH : RH ρ w σ) {t : TypeId} {p v : AV} {C : Prop} (h : eStore Γ σ t p v = some (σ', C)) (hC : C) {x y : Value} (hx : Rv ρ w p x) (hy : Rv ρ w v y) :
    ∃ w', (Instr.storeAt t x y).run P w = .ok () w' ∧ RH ρ w' σ' ∧ Step ρ w ρ w' := by
  unfold eStore at h
  split at h
  · rename_i ti hti
    have hti := hΓ t ti hti
    split at h
    · rename_i o i off
      simp only [Rv] at hx
      obtain ⟨l, hl, rfl⟩ := hx
      split at h
      · rename_i ety cells hob
        simp only [Option.some.injEq, Prod.mk.injEq] at h
        obtain ⟨rfl, rfl⟩ := h
        obtain ⟨c1, c2, rfl, c4⟩ := hC
        have hso := nthO_eq hob rfl
        obtain ⟨l', cs, hl', h0, h1, h2, hh, h3, hr⟩ := hH.obj o _ hso
        rw [hl] at hl'
        simp only [Option.some.injEq] at hl'
        subst hl'
        have hcy := cellsOf_sound c2 hy
        have hyl := hcy.length
        have hcl := hr.length
        have hone := oneL_sound c2 hcy
        have hst := run_storeCells_at P l.b off ety y.cells.toList 0 cs w hh (by rw [Nat.add_zero, ← hyl]; simpa [hcl] using c4) hone
        simp only [Nat.add_zero] at hst
        have hstep := setRow_step (w := w) hl ((cs.toList.take off ++ y.cells.toList ++ cs.toList.drop (off + y.cells.toList.length)).toArray)
        refine ⟨_, ?_, ?_, hstep⟩
        · have hsz : y.cells.size = ti.size := by rw [← c1, hyl]; simp
          simp only [Instr.storeAt, Instr.sureAddr, Sem.run_bind, Sem.run_pure, Result.andThen_ok, storeVar, hti.sizeOf, h0, Nat.zero_mul, Nat.zero_add, hsz]
          simpa using hst
        · refine RH.turn hH hso rfl hl hstep (fun b hb => setRow_other w l.b b _ (by omega)) ?_
          refine ⟨l, _, hl, h0, ?_, ?_, setRow_heap w l.b cs _ ety _ hh, ?_, ?_⟩
          · rw [h1]; simp only [setC, List.length_append, List.length_take, List.length_drop]; omega
          · rw [h2]; simp only [setC, List.length_append, List.length_take, List.length_drop]; omega
          · intro z hz
            simp only [List.mem_append] at hz
            rcases hz with (hz | hz) | hz
            · exact h3 z (List.mem_of_mem_take hz)
            · exact hone z hz
            · exact h3 z (List.mem_of_mem_drop hz)
          · have hr' := RvL.mono hstep _ hr
            have hcy' := RvL.mono hstep _ hcy
            have e : setC cells off (cellsOf v) = cells.take off ++ cellsOf v ++ cells.drop (off + y.cells.toList.length) := by rw [setC, hyl]
            rw [e]
            exact RvL.append (RvL.append (RvL.take off hr') hcy') (RvL.drop _ hr')
      · rename_i ety esz len elem hob
        simp only [Option.some.injEq, Prod.mk.injEq] at h
        obtain ⟨rfl, rfl⟩ := h
        obtain ⟨c1, c2, c3, c4⟩ := hC
        have hso := nthO_eq hob rfl
        rcases hH.obj o _ hso with ⟨l', cs, hl', he, hh, ⟨hcs, hc1⟩, hd, hr⟩ | ⟨hn, h0⟩
        · rw [hl] at hl'
          simp only [Option.some.injEq] at hl'
          subst hl'
          have hcy := cellsOf_sound c2 hy
          have hyl := hcy.length
          have hone := oneL_sound c2 hcy
          have hib : i * esz + esz ≤ len * esz := by
            have := Nat.mul_le_mul_right esz (Nat.succ_le_of_lt c3)
            rwa [Nat.succ_mul] at this
          have hsz : y.cells.size = ti.size := by rw [← c1, hyl]; simp
          generalize hys : y.cells.toList = ys at hcy hyl hone
          have hcsl : cs.toList.length = cs.size := by simp
          have hfit : l.d + i * esz + off + ys.length ≤ cs.toList.length := by rw [hcsl, ← hyl, hcs]; omega
          have hst := run_storeCells_at P l.b (l.d + i * esz + off) ety ys 0 cs w hh (by rw [Nat.add_zero, ← hcsl]; exact hfit) hone
          simp only [Nat.add_zero] at hst
          have hstep := setRow_step (w := w) hl ((cs.toList.take (l.d + i * esz + off) ++ ys ++ cs.toList.drop (l.d + i * esz + off + ys.length)).toArray)
          refine ⟨_, ?_, ?_, hstep⟩
          · simp only [Instr.storeAt, Instr.sureAddr, Sem.run_bind, Sem.run_pure, Result.andThen_ok, storeVar, hti.sizeOf, he, hsz, hys]
            simpa using hst
          · refine RH.turn hH hso rfl hl hstep (fun b hb => setRow_other w l.b b _ (by omega)) ?_
            refine .inl ⟨l, _, hl, he, setRow_heap w l.b cs _ ety _ hh, ?_, hd, fun i' hi' j' hj' => ?_⟩
            · exact ⟨by simp only [List.size_toArray, List.length_append, List.length_take, List.length_drop]; omega, fun y hy => by
                simp only [List.mem_append] at hy
                rcases hy with (hy | hy) | hy
                · exact hc1 y (List.mem_of_mem_take hy)
                · exact hone y hy
                · exact hc1 y (List.mem_of_mem_drop hy)⟩
            · obtain ⟨z, hz, hz1, hzv⟩ := hr i' hi' j' hj'
              simp only [List.getElem?_toArray]
              have hi'b : i' * esz + esz ≤ len * esz := by
                have := Nat.mul_le_mul_right esz (Nat.succ_le_of_lt hi')
                rwa [Nat.succ_mul] at this
              by_cases hin : i' = i ∧ off ≤ j' ∧ j' < off + (cellsOf v).length
              · obtain ⟨rfl, hj1, hj2⟩ := hin
                obtain ⟨u, hu, huv⟩ := RvL.get hcy (nth_eq (l := cellsOf v) (i := j' - off) (by omega))
                refine ⟨u, ?_, hone u (List.mem_of_getElem? hu), ?_⟩
                · rw [List.append_assoc, List.getElem?_append_right (by simp only [List.length_take]; omega), List.getElem?_append_left (by simp only [List.length_take]; omega)]
                  rw [← hu]
                  congr 1
                  simp only [List.length_take]
                  omega
                · unfold updE
                  rw [if_pos ⟨rfl, hj1, hj2⟩]
                  exact Rv.mono hstep _ huv
              · refine ⟨z, ?_, hz1, ?_⟩
                · have hz' : cs.toList[l.d + i' * esz + j']? = some z := by simpa using hz
                  rw [← hz']
                  have hne : l.d + i' * esz + j' < l.d + i * esz + off ∨ l.d + i * esz + off + (cellsOf v).length ≤ l.d + i' * esz + j' := by
                    by_cases hii : i' = i
                    · subst hii
                      have : ¬ (off ≤ j' ∧ j' < off + (cellsOf v).length) := fun q => hin ⟨rfl, q⟩
                      omega
                    · rcases Nat.lt_or_gt_of_ne hii with q | q
                      · have := Nat.mul_le_mul_right esz (Nat.succ_le_of_lt q)
                        rw [Nat.succ_mul] at this
                        omega
                      · have := Nat.mul_le_mul_right esz (Nat.succ_le_of_lt q)
                        rw [Nat.succ_mul] at this
                        omega
                  rcases hne with q | q
                  · rw [List.append_assoc, List.getElem?_append_left (by simp only [List.length_take]; omega), List.getElem?_take, if_pos q]
                  · rw [List.getElem?_append_right (by simp only [List.length_append, List.length_take]; omega), List.getElem?_drop]
                    congr 1
                    simp only [List.length_append, List.length_take]
                    omega
                · unfold updE
                  rw [if_neg hin]
                  exact Rv.mono hstep _ hzv
        · omega
      · cases h
    · cases h
  · cases h
end
end Go.Ab
