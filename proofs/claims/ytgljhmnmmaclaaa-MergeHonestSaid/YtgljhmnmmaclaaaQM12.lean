/-
  Maps of maps as long states: plain facts.
-/
import Derived.Test.YtgljhmnmmaclaaaQM11
import Derived.Test.YtgljhmnmmaclaaaQAb29
set_option linter.unusedSimpArgs false
set_option linter.unusedVariables false
namespace Go.Proofs.Ytgljhmnmmaclaaa
open Go.Ab
abbrev Gr := List (Int × List (Value × AV))
def innerL (g : Gr) : List AObj := g.map fun p => .mp (.int .i64) p.2
def outE : Nat → Gr → List (Value × AV)
  | _, [] => []
  | k, p :: g => (.int .i64 p.1, .map k) :: outE (k + 1) g
def idxG (s : Int) : Gr → Option Nat
  | [] => none
  | p :: g => if s = p.1 then some 0 else (idxG s g).map (· + 1)
def gg (g : Gr) (j : Nat) : Int × List (Value × AV) := g.getD j (0, [])
def secF (g : Gr) (i : Nat) (x : En) : Gr :=
  match idxG x.s g with
  | none => g ++ [(x.s, [(.int .i64 i, enA x)])]
  | some j => g.set j (x.s, mput (gg g j).2 (.int .i64 i) (enA x))
def secJ (g : Gr) (i : Nat) (es : List En) : Gr := es.foldl (fun g x => secF g i x) g
def secA : Gr → Nat → List Jn → Gr
  | g, _, [] => g
  | g, i, j :: r => secA (secJ g i j.e) (i + 1) r
def GF (g : Gr) : Prop := ∀ p ∈ g, FreeL (p.2.map (·.2))
def secV (g : Gr) : AV := .vmap (.int .i64) (g.map fun p => .int .i64 p.1) (g.map fun p => .vmap (.int .i64) (p.2.map (·.1)) (p.2.map (·.2)))
theorem keq_int (a b : Int) : keq (.int .i64 a) (.int .i64 b) = decide (a = b) := by
  simp only [keq]
  by_cases h : a = b <;> simp [h]
theorem mget_outE (s : Int) : ∀ (k : Nat) (g : Gr), mget (outE k g) (.int .i64 s) = (idxG s g).map fun j => .map (j + k)
  | k, [] => rfl
  | k, p :: g => by
    simp only [outE, mget, keq_int, idxG]
    by_cases h : s = p.1
    · simp [h]
    · simp only [h, decide_false, if_false, Bool.false_eq_true]
      rw [mget_outE s (k + 1) g]
      cases idxG s g with
      | none => rfl
      | some j => simp; omega
theorem mput_outE_new (s : Int) (v : AV) : ∀ (k : Nat) (g : Gr),idxG s g = none → mput (outE k g) (.int .i64 s) v = outE k g ++ [(.int .i64 s,v)]
  | k, [], _ => rfl
  | k, p :: g, h => by
    simp only [idxG] at h
    by_cases e : s = p.1
    · simp [e] at h
    · rw [if_neg e] at h
      simp only [outE, mput, keq_int, e, decide_false, if_false, Bool.false_eq_true, List.cons_append]
      rw [mput_outE_new s v (k + 1) g (by simpa using h)]
theorem outE_snoc (p : Int × List (Value × AV)) : ∀ (k : Nat) (g : Gr),outE k (g ++ [p]) = outE k g ++ [(.int .i64 p.1,.map (g.length + k))]
  | k, [] => by simp [outE]
  | k, q :: g => by
    simp only [List.cons_append, outE, List.length_cons]
    rw [outE_snoc p (k + 1) g, show g.length + (k + 1) = g.length + 1 + k by omega]
theorem outE_set (l : List (Value × AV)) : ∀ (k : Nat) (g : Gr) (j : Nat), outE k (g.set j ((gg g j).1, l)) = outE k g
  | k, [], _ => rfl
  | k, p :: g, 0 => rfl
  | k, p :: g, j + 1 => by
    simp only [List.set_cons_succ, outE]
    exact congrArg _ (outE_set l (k + 1) g j)
theorem idxG_some {s : Int} : ∀ {g : Gr} {j : Nat}, idxG s g = some j → j < g.length ∧ (gg g j).1 = s
  | [], j, h => by simp [idxG] at h
  | p :: g, j, h => by
    simp only [idxG] at h
    by_cases e : s = p.1
    · rw [if_pos e] at h
      simp only [Option.some.injEq] at h
      subst h
      exact ⟨by simp, e.symm⟩
    · rw [if_neg e] at h
      cases hq : idxG s g with
      | none => rw [hq] at h; cases h
      | some q =>
        rw [hq] at h
        simp only [Option.map_some, Option.some.injEq] at h
        subst h
        obtain ⟨h1, h2⟩ := idxG_some hq
        exact ⟨by simp; omega, h2⟩
theorem innerL_len (g : Gr) : (innerL g).length = g.length := by simp [innerL]
theorem innerL_at {g : Gr} {j : Nat} (h : j < g.length) (tl : List AObj) : nthO (innerL g ++ tl) j = .mp (.int .i64) (gg g j).2 := by
  rw [nthO_app _ _ (by rw [innerL_len]; exact h)]
  refine nthO_get' ?_
  simp [innerL, gg, List.getElem?_eq_getElem h]
theorem innerL_at0 {g : Gr} {j : Nat} (h : j < g.length) : nthO (innerL g) j = .mp (.int .i64) (gg g j).2 := by
  have := innerL_at h []
  rwa [List.append_nil] at this
theorem innerL_set {g : Gr} {j : Nat} (l : List (Value × AV)) (h : j < g.length) (tl : List AObj) : (innerL g ++ tl).set j (.mp (.int .i64) l) = innerL (g.set j ((gg g j).1,l)) ++ tl := by
  rw [List.set_append_left _ _ (by rw [innerL_len]; exact h)]
  simp [innerL, List.map_set]
theorem nthO_inT (g : Gr) (tl : List AObj) (k : Nat) : nthO (innerL g ++ tl) (g.length + k) = nthO tl k := by
  rw [← innerL_len g]; exact nthO_pre _ _ _
theorem nthO_in0 (g : Gr) (tl : List AObj) : nthO (innerL g ++ tl) g.length = nthO tl 0 := nthO_inT g tl 0
theorem set_inT (g : Gr) (tl : List AObj) (k : Nat) (a : AObj) : (innerL g ++ tl).set (g.length + k) a = innerL g ++ tl.set k a := by
  rw [← innerL_len g]; exact set_pre _ _ _ _
theorem set_in0 (g : Gr) (tl : List AObj) (a : AObj) : (innerL g ++ tl).set g.length a = innerL g ++ tl.set 0 a := set_inT g tl 0 a
theorem mput_free {es : List (Value × AV)} {k : Value} {v : AV} (hv : Free v) : FreeL (es.map (·.2)) → FreeL ((mput es k v).map (·.2)) := by
  induction es with
  | nil => intro _; simpa [mput, FreeL] using hv
  | cons e es ih =>
    intro h
    simp only [List.map_cons, FreeL] at h
    unfold mput
    split
    · simp only [List.map_cons, FreeL]; exact ⟨hv, h.2⟩
    · simp only [List.map_cons, FreeL]; exact ⟨h.1, ih h.2⟩
theorem enA_free (x : En) : Free (enA x) := by simp [enA, enL, ints, Free, FreeL]
theorem GF.gg {g : Gr} (h : GF g) (j : Nat) : FreeL ((Ytgljhmnmmaclaaa.gg g j).2.map (·.2)) := by
  unfold Ytgljhmnmmaclaaa.gg
  rw [List.getD_eq_getElem?_getD]
  cases hq : g[j]? with
  | none => simp [FreeL]
  | some p => exact h p (List.mem_of_getElem? hq)
theorem GF.secF {g : Gr} (h : GF g) (i : Nat) (x : En) : GF (secF g i x) := by
  unfold Ytgljhmnmmaclaaa.secF
  split
  · intro p hp
    rcases List.mem_append.1 hp with h1 | h1
    · exact h p h1
    · simp only [List.mem_singleton] at h1
      subst h1
      simp only [List.map_cons, List.map_nil, FreeL, and_true]
      exact enA_free x
  · intro p hp
    rcases List.mem_or_eq_of_mem_set hp with h1 | h1
    · exact h p h1
    · subst h1
      exact mput_free (enA_free x) (h.gg _)
theorem WkVL.outE {π : List Nat} {σ : List AObj} : ∀ (k : Nat) (g : Gr),(∀ j,j < g.length → π[j + k]? = some (j + k)) → WkVL π σ ((outE k g).map (·.2)) ((Ytgljhmnmmaclaaa.outE k g).map (·.2))
  | k, [], _ => WkVL.nil
  | k, p :: g, h => by
    simp only [Ytgljhmnmmaclaaa.outE, List.map_cons]
    refine WkVL.cons (WkV.map (by have := h 0 (by simp); simpa using this)) (WkVL.outE (k + 1) g fun j hj => ?_)
    have := h (j + 1) (by simp; omega)
    rwa [show j + 1 + k = j + (k + 1) by omega] at this
theorem WkVL.app {π : List Nat} {σ : List AObj} : ∀ {a b c d : List AV},WkVL π σ a b → a.length = b.length → WkVL π σ c d → WkVL π σ (a ++ c) (b ++ d) := fun {a b c d} h1 hl h2 ρ w xs hH hx => by
  have key : ∀ (a c : List AV) (xs : List Value),RvL ρ w (a ++ c) xs → ∃ ys zs,xs = ys ++ zs ∧ RvL ρ w a ys ∧ RvL ρ w c zs := by
    intro a
    induction a with
    | nil => intro c xs h; exact ⟨[], xs, rfl, by simp [RvL], h⟩
    | cons v a ih =>
      intro c xs h
      cases xs with
      | nil => simp [RvL] at h
      | cons x xs =>
        simp only [List.cons_append, RvL] at h
        obtain ⟨ys, zs, rfl, q1, q2⟩ := ih c xs h.2
        exact ⟨x :: ys, zs, rfl, by simp only [RvL]; exact ⟨h.1, q1⟩, q2⟩
  obtain ⟨ys, zs, rfl, q1, q2⟩ := key a c xs hx
  exact RvL.append (h1 ρ w ys hH q1) (h2 ρ w zs hH q2)
theorem range_get (F m : Nat) (p r : List Nat) (hF : p.length = F) {j : Nat} (h : j < m) : (p ++ ((List.range m).map (· + F) ++ r))[j + F]? = some (j + F) := by
  rw [List.getElem?_append_right (by omega), hF, Nat.add_sub_cancel, List.getElem?_append_left (by simpa using h)]
  simp [h]
theorem range_last (F m q : Nat) (p : List Nat) (hF : p.length = F) : (p ++ ((List.range m).map (· + F) ++ [q]))[m + F]? = some q := by
  rw [List.getElem?_append_right (by omega), hF, Nat.add_sub_cancel, List.getElem?_append_right (by simp)]
  simp
theorem Wk.inner {n : Nat} {st : St} {env2 : List AV} {fx : List AObj} {g : Gr} (F m : Nat) (p r : List Nat) (hF : p.length = F) (hn : p.take n = List.range n) (hnl : n ≤ p.length) (hm : m + r.length = g.length)
    (hd : p.Nodup ∧ r.Nodup ∧ (∀ o ∈ p,o ∉ r) ∧ (∀ o ∈ p,o < F ∨ F + m ≤ o) ∧ ∀ o ∈ r,F + m ≤ o) (hb : (∀ o ∈ p,o < st.σ.length) ∧ (∀ o ∈ r,o < st.σ.length) ∧ F + m ≤ st.σ.length)
    (hg : GF g) (hin : ∀ j,j < m → nthO st.σ (j + F) = .mp (.int .i64) (gg g j).2) (hr : ∀ k o,r[k]? = some o → nthO st.σ o = .mp (.int .i64) (gg g (m + k)).2)
    (henv : WkVL (p ++ ((List.range m).map (· + F) ++ r)) st.σ st.env env2) (hfx : WkOL (p ++ ((List.range m).map (· + F) ++ r)) st.σ p fx) : Wk n st ⟨env2,fx ++ innerL g⟩ := by
  refine Wk.intro (p ++ ((List.range m).map (· + F) ++ r)) ?_ ?_ ?_ henv (WkOL.append hfx (WkOL.of_get ?_ ?_))
  · rw [List.take_append_of_le_length hnl, hn]
  · rw [List.nodup_append]
    refine ⟨hd.1, ?_, fun a ha b hb' => ?_⟩
    · rw [List.nodup_append]
      refine ⟨?_, hd.2.1, fun a ha b hb' => ?_⟩
      · exact List.pairwise_map.2 ((List.nodup_range (n := m)).imp fun h e => h (by omega))
      · obtain ⟨q, hq, rfl⟩ := List.mem_map.1 ha
        have := hd.2.2.2.2 b hb'
        have := List.mem_range.1 hq
        omega
    · rcases List.mem_append.1 hb' with h1 | h1
      · obtain ⟨q, hq, rfl⟩ := List.mem_map.1 h1
        have := hd.2.2.2.1 a ha
        have := List.mem_range.1 hq
        omega
      · exact fun e => hd.2.2.1 a ha (e ▸ h1)
  · intro o ho
    rcases List.mem_append.1 ho with h1 | h1
    · exact hb.1 o h1
    · rcases List.mem_append.1 h1 with h2 | h2
      · obtain ⟨q, hq, rfl⟩ := List.mem_map.1 h2
        have := List.mem_range.1 hq
        omega
      · exact hb.2.1 o h2
  · simp [innerL_len]; omega
  · intro i o a hi ha
    have hil : i < g.length := by have := (List.getElem?_eq_some_iff.1 ha).1; rwa [innerL_len] at this
    have ea : a = .mp (.int .i64) (gg g i).2 := by
      have := nthO_get' ha
      rw [innerL_at0 hil] at this
      exact this.symm
    have eo : nthO st.σ o = .mp (.int .i64) (gg g i).2 := by
      by_cases h : i < m
      · rw [List.getElem?_append_left (by simpa using h)] at hi
        simp [h] at hi
        rw [← hi]; exact hin i h
      · rw [List.getElem?_append_right (by simp; omega)] at hi
        have := hr _ _ hi
        rwa [show m + (i - ((List.range m).map (· + F)).length) = i by simp; omega] at this
    rw [ea, eo]
    exact ⟨WkO.mpE rfl (hg.gg i), fun _ => rfl⟩
end Go.Proofs.Ytgljhmnmmaclaaa
