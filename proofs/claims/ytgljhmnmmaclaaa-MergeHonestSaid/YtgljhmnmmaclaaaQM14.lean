/-
  Plain facts: what the maps of sections hold; the clashes that merge.Clashes finds, in the order of finding.
-/
import Derived.Test.YtgljhmnmmaclaaaQM13
import Derived.Test.YtgljhmnmmaclaaaQK10
set_option linter.unusedSimpArgs false
set_option linter.unusedVariables false
namespace Go.Proofs.Ytgljhmnmmaclaaa
open Go.Ab
def atE (es : List En) (s : Int) : Option En := es.find? fun x => decide (x.s = s)
def lookE (js : List Jn) (s : Int) (k : Nat) : Option En := atE (gj js k).e s
def lookG (g : Gr) (s : Int) (k : Nat) : Option AV :=
  match idxG s g with
  | none => none
  | some q => mget (gg g q).2 (.int .i64 k)
theorem idxG_app (s : Int) (p : Int × List (Value × AV)) : ∀ g : Gr,idxG s (g ++ [p]) = match idxG s g with | some q => some q | none => if s = p.1 then some g.length else none
  | [] => by simp [idxG]
  | r :: g => by
    simp only [List.cons_append, idxG]
    by_cases h : s = r.1
    · simp [h]
    · rw [if_neg h, if_neg h, idxG_app s p g]
      cases idxG s g with
      | some q => rfl
      | none => by_cases h2 : s = p.1 <;> simp [h2]
theorem idxG_set (s : Int) : ∀ (g : Gr) (q : Nat) (l : List (Value × AV)), idxG s (g.set q ((gg g q).1, l)) = idxG s g
  | [], _, _ => rfl
  | p :: g, 0, l => rfl
  | p :: g, q + 1, l => by
    simp only [List.set_cons_succ, idxG]
    rw [show (gg (p :: g) (q + 1)).1 = (gg g q).1 from rfl, idxG_set s g q l]
theorem mget_mput_ne (a b : Int) (v : AV) (h : a ≠ b) : ∀ es : List (Value × AV),(∀ e ∈ es,∃ n,e.1 = .int .i64 n) → mget (mput es (.int .i64 b) v) (.int .i64 a) = mget es (.int .i64 a)
  | [], _ => by simp [mput, mget, keq_int, h]
  | (k', v') :: es, hk => by
    obtain ⟨n, hn⟩ := hk (k', v') (by simp)
    have hn : k' = .int .i64 n := hn
    subst hn
    unfold mput
    by_cases h2 : b = n
    · subst h2
      rw [if_pos (by simp [keq_int])]
      simp [mget, keq_int, h]
    · rw [if_neg (by simp [keq_int, h2])]
      simp only [mget, keq_int]
      rw [mget_mput_ne a b v h es fun e he => hk e (by simp [he])]
def GK (g : Gr) : Prop := ∀ p ∈ g, ∀ e ∈ p.2, ∃ n, e.1 = .int .i64 n
theorem mput_keys {es : List (Value × AV)} {b : Int} {v : AV} (h : ∀ e ∈ es,∃ n,e.1 = Value.int .i64 n) : ∀ e ∈ mput es (.int .i64 b) v,∃ n,e.1 = Value.int .i64 n := by
  induction es with
  | nil => intro e he; simp only [mput, List.mem_singleton] at he; subst he; exact ⟨_, rfl⟩
  | cons x es ih =>
    intro e he
    unfold mput at he
    split at he
    · rcases List.mem_cons.1 he with rfl | h1
      · exact ⟨_, rfl⟩
      · exact h e (by simp [h1])
    · rcases List.mem_cons.1 he with rfl | h1
      · exact h _ (by simp)
      · exact ih (fun e he => h e (by simp [he])) e h1
theorem gg_mem {g : Gr} {q : Nat} (h : q < g.length) : gg g q ∈ g := by
  simp [gg, List.getElem?_eq_getElem h]
theorem GK.secF {g : Gr} (h : GK g) (i : Nat) (x : En) : GK (secF g i x) := by
  unfold Ytgljhmnmmaclaaa.secF
  split
  · intro p hp
    rcases List.mem_append.1 hp with h1 | h1
    · exact h p h1
    · simp only [List.mem_singleton] at h1
      subst h1
      intro e he
      simp only [List.mem_singleton] at he
      subst he
      exact ⟨_, rfl⟩
  · rename_i q hq
    intro p hp
    rcases List.mem_or_eq_of_mem_set hp with h1 | h1
    · exact h p h1
    · subst h1
      exact mput_keys (h _ (gg_mem (idxG_some hq).1))
theorem lookG_secF {g : Gr} (hk : GK g) (i : Nat) (x : En) (s : Int) (k : Nat) : lookG (secF g i x) s k = if s = x.s ∧ k = i then some (enA x) else lookG g s k := by
  unfold secF
  cases hq : idxG x.s g with
  | none =>
    simp only []
    unfold lookG
    rw [idxG_app]
    by_cases hs : s = x.s
    · subst hs
      rw [hq]
      simp only [if_true, true_and]
      rw [gg_last]
      simp only [mget, keq_int]
      by_cases hki : k = i
      · simp [hki]
      · rw [if_neg hki, decide_eq_false (by omega)]; rfl
    · rw [if_neg hs, if_neg (fun h => hs h.1)]
      cases hq2 : idxG s g with
      | none => rfl
      | some q =>
        simp only []
        rw [gg_app _ (idxG_some hq2).1]
  | some q =>
    obtain ⟨q1, q2⟩ := idxG_some hq
    simp only []
    rw [← q2]
    unfold lookG
    rw [idxG_set]
    by_cases hs : s = (gg g q).1
    · rw [hs, q2, hq]
      simp only [true_and]
      have e : gg (g.set q (x.s,mput (gg g q).2 (.int .i64 i) (enA x))) q = (x.s,mput (gg g q).2 (.int .i64 i) (enA x)) := by simp [gg,q1]
      rw [e]
      by_cases hki : k = i
      · rw [if_pos hki, hki, mget_mput_int]
      · rw [if_neg hki, mget_mput_ne _ _ _ (by omega) _ (hk _ (gg_mem q1))]
    · rw [if_neg (fun h => hs h.1)]
      cases hq2 : idxG s g with
      | none => rfl
      | some q' =>
        have hne : q ≠ q' := fun h => by subst h; exact hs (idxG_some hq2).2.symm
        simp only []
        rw [show gg (g.set q ((gg g q).1,mput (gg g q).2 (.int .i64 i) (enA x))) q' = gg g q' by simp [gg,List.getElem?_set,hne]]
theorem secJ_GK (i : Nat) : ∀ (es : List En) (g : Gr), GK g → GK (secJ g i es)
  | [], _, h => h
  | x :: es, g, h => secJ_GK i es _ (h.secF i x)
theorem lookG_secJ (i : Nat) (s : Int) (k : Nat) : ∀ (es : List En) (g : Gr),GK g → lookG (secJ g i es) s k = if k = i then (((atE es.reverse s).map enA).or (lookG g s k)) else lookG g s k
  | [], g, _ => by simp [secJ, atE]
  | x :: es, g, h => by
    rw [show secJ g i (x :: es) = secJ (secF g i x) i es from rfl, lookG_secJ i s k es _ (h.secF i x), lookG_secF h]
    by_cases hk : k = i
    · simp only [hk, if_true, and_true]
      unfold atE
      rw [List.reverse_cons, List.find?_append]
      cases List.find? (fun x => decide (x.s = s)) es.reverse with
      | some y => simp
      | none =>
        by_cases hs : s = x.s
        · simp [hs, List.find?]
        · simp [hs, List.find?, Ne.symm hs]
    · simp only [hk, and_false, if_false]
theorem lookG_secA (s : Int) (k : Nat) : ∀ (l : List Jn) (g : Gr) (i : Nat),GK g → (∀ k',i ≤ k' → lookG g s k' = none) → lookG (secA g i l) s k = if i ≤ k then (atE (gj l (k - i)).e.reverse s).map enA else lookG g s k
  | [], g, i, _, hn => by
    rw [secA]
    split
    · rename_i h; rw [hn k h]; simp [gj, jn0, atE]
    · rfl
  | j :: l, g, i, hg, hn => by
    rw [secA,lookG_secA s k l _ _ (secJ_GK i j.e g hg) (fun k' h' => by rw [lookG_secJ i s k' j.e g hg,if_neg (by omega)];exact hn k' (by omega))]
    by_cases h1 : i + 1 ≤ k
    · rw [if_pos h1, if_pos (by omega)]
      obtain ⟨q, rfl⟩ : ∃ q, k = i + 1 + q := ⟨k - (i + 1), by omega⟩
      rw [show i + 1 + q - (i + 1) = q by omega, show i + 1 + q - i = q + 1 by omega]
      rfl
    · rw [if_neg h1, lookG_secJ i s k j.e g hg]
      by_cases h2 : k = i
      · subst h2
        rw [if_pos rfl, if_pos (Nat.le_refl _), hn k (Nat.le_refl _), Nat.sub_self]
        simp [gj]
      · rw [if_neg h2, if_neg (by omega)]
def Rising (es : List En) : Prop := es.Pairwise fun x y => x.s < y.s
theorem secB_all {n : Int} : ∀ {l : Int} {es : List En},secB n l es = true → (∀ x ∈ es,l < x.s ∧ enB n x = true) ∧ Rising es
  | _, [], _ => ⟨fun x h => by simp at h, List.Pairwise.nil⟩
  | l, x :: r, h => by
    unfold secB at h
    split at h
    · cases h
    · rename_i hc
      obtain ⟨h1, h2⟩ := secB_all h
      have hx : enB n x = true := by
        cases hq : enB n x with
        | true => rfl
        | false => exact absurd (.inl hq) hc
      refine ⟨fun y hy => ?_, List.Pairwise.cons (fun y hy => (h1 y hy).1) h2⟩
      rcases List.mem_cons.1 hy with rfl | hy
      · exact ⟨by omega, hx⟩
      · have := h1 y hy; exact ⟨by omega, this.2⟩
theorem atE_rev {s : Int} : ∀ {es : List En}, Rising es → atE es.reverse s = atE es s
  | [], _ => rfl
  | x :: r, h => by
    have h1 := (List.pairwise_cons.1 h).1
    have ih := atE_rev (s := s) (List.pairwise_cons.1 h).2
    unfold atE at ih ⊢
    rw [List.reverse_cons, List.find?_append, ih]
    by_cases hs : x.s = s
    · have : List.find? (fun x => decide (x.s = s)) r = none := by
        rw [List.find?_eq_none]
        intro y hy
        have := h1 y hy
        simp; omega
      rw [this]
      simp [List.find?, hs]
    · simp [List.find?, hs]
theorem jnB_facts {n : Int} {j : Jn} (h : jnB n j = true) : (∀ x ∈ j.e,0 < x.s ∧ enB n x = true) ∧ Rising j.e ∧ cntB n = true := by
  unfold jnB at h
  simp only [Bool.and_eq_true] at h
  obtain ⟨h1, h2⟩ := secB_all h.2
  exact ⟨h1, h2, h.1.1.1⟩
theorem allJ_rise {n : Int} {js : List Jn} (h : allJ n js = true) (k : Nat) : Rising (gj js k).e := by
  by_cases hk : k < js.length
  · exact (jnB_facts (allJ_gj h hk)).2.1
  · simp [gj, List.getElem?_eq_none (show js.length ≤ k by omega), jn0, Rising]
theorem lookG_secs {js : List Jn} (h : ∀ k,Rising (gj js k).e) (s : Int) (k : Nat) : lookG (secA [] 0 js) s k = (lookE js s k).map enA := by
  rw [lookG_secA s k js [] 0 (fun _ hp => nomatch hp) (fun _ _ => rfl), if_pos (by omega), Nat.sub_zero, atE_rev (h k)]
  rfl
theorem lookG_idx {g : Gr} {s : Int} {k : Nat} {v : AV} (h : lookG g s k = some v) : ∃ q, idxG s g = some q := by
  unfold lookG at h
  cases hq : idxG s g with
  | none => rw [hq] at h; cases h
  | some q => exact ⟨q, rfl⟩
theorem atE_some {es : List En} (h : Rising es) {x : En} (hx : x ∈ es) : atE es x.s = some x := by
  induction es with
  | nil => simp at hx
  | cons y r ih =>
    have h1 := (List.pairwise_cons.1 h).1
    unfold atE
    rcases List.mem_cons.1 hx with rfl | hx'
    · simp
    · have := h1 x hx'
      rw [List.find?_cons, decide_eq_false (by omega)]
      exact ih (List.pairwise_cons.1 h).2 hx'
theorem atE_mem {es : List En} {s : Int} {x : En} (h : atE es s = some x) : x ∈ es ∧ x.s = s := by
  have h1 := List.mem_of_find?_eq_some h
  have h2 := List.find?_some h
  exact ⟨h1, by simpa using h2⟩
def tkEq (x y : En) : Bool := decide (x.s = y.s) && decide (x.c = y.c) && decide (x.n = y.n) && decide (x.d = y.d)
def hitE (js : List Jn) (x : En) (k : Nat) : Bool := match lookE js x.s k with | some y => !tkEq y x | none => false
def clN (js : List Jn) (x : En) (i : Nat) : Nat → List Cl
  | 0 => []
  | k + 1 => if hitE js x k = true then clN js x i k ++ [⟨x.s, k, i⟩] else clN js x i k
def clJ (js : List Jn) (i : Nat) (es : List En) : List Cl := es.flatMap fun x => clN js x i i
def clA (js : List Jn) : Nat → List Jn → List Cl
  | _, [] => []
  | i, j :: r => clJ js i j.e ++ clA js (i + 1) r
theorem clN_len (js : List Jn) (x : En) (i : Nat) : ∀ k, (clN js x i k).length ≤ k
  | 0 => Nat.le_refl _
  | k + 1 => by
    have := clN_len js x i k
    rw [clN]
    split
    · simp; omega
    · omega
end Go.Proofs.Ytgljhmnmmaclaaa
