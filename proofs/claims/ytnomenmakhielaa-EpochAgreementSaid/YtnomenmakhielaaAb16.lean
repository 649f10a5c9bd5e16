/-
  Regions that draw their order: the plan's check, and the rules for the walk.
-/
import Derived.Test.YtnomenmakhielaaAb15
namespace Go.Ab

def memN : List Nat → Nat → Bool
  | [], _ => false
  | x :: xs, y => cond (Nat.beq x y) true (memN xs y)

theorem memN_mem : ∀ {l : List Nat} {x : Nat}, memN l x = true ↔ x ∈ l
  | [], x => by simp [memN]
  | y :: ys, x => by
    unfold memN
    cases h : Nat.beq y x with
    | true => simp [Nat.eq_of_beq_eq_true h]
    | false =>
      have : y ≠ x := fun e => by subst e; rw [Nat.beq_refl] at h; cases h
      simp only [cond_false, List.mem_cons]
      rw [memN_mem]
      exact ⟨.inr, fun h => h.resolve_left fun e => this e.symm⟩

def allN : Nat → (Nat → Bool) → Bool
  | 0, _ => true
  | m + 1, f => f m && allN m f

theorem allN_spec {f : Nat → Bool} : ∀ {m : Nat}, allN m f = true → ∀ i, i < m → f i = true
  | 0, _, i, hi => by omega
  | m + 1, h, i, hi => by
    simp only [allN, Bool.and_eq_true] at h
    by_cases e : i = m
    · rw [e]; exact h.1
    · exact allN_spec h.2 i (by omega)

def allL : List Nat → (Nat → Bool) → Bool
  | [], _ => true
  | x :: xs, f => f x && allL xs f

theorem allL_spec {f : Nat → Bool} : ∀ {l : List Nat}, allL l f = true → ∀ i ∈ l, f i = true
  | [], _, i, hi => by cases hi
  | x :: xs, h, i, hi => by
    simp only [allL, Bool.and_eq_true] at h
    rcases List.mem_cons.1 hi with rfl | hm
    · exact h.1
    · exact allL_spec h.2 i hm

def nodupB : List Nat → Bool
  | [] => true
  | x :: xs => !memN xs x && nodupB xs

theorem nodupB_spec : ∀ {l : List Nat}, nodupB l = true → l.Nodup
  | [], _ => List.nodup_nil
  | x :: xs, h => by
    simp only [nodupB, Bool.and_eq_true, Bool.not_eq_true'] at h
    refine List.nodup_cons.2 ⟨fun hm => ?_, nodupB_spec h.2⟩
    rw [memN_mem.2 hm] at h
    cases h.1

/-- A plan with what is ordered before each. -/
abbrev PlanL := List (Nat × List Nat × List Nat)
def PlanL.pl (p : PlanL) : List (Nat × List Nat) := p.map fun q => (q.1, q.2.2)

def ancOf : PlanL → Nat → List Nat
  | [], _ => []
  | (k, as, _) :: r, i => cond (Nat.beq k i) as (ancOf r i)

theorem ancOf_mem : ∀ {p : PlanL} {i j : Nat}, j ∈ ancOf p i → ∃ as rs, (i, as, rs) ∈ p ∧ j ∈ as
  | [], i, j, h => by cases h
  | (k, as, rs) :: r, i, j, h => by
    unfold ancOf at h
    cases hb : Nat.beq k i with
    | true =>
      rw [hb] at h
      have := Nat.eq_of_beq_eq_true hb
      subst this
      exact ⟨as, rs, by simp, h⟩
    | false =>
      rw [hb] at h
      obtain ⟨as', rs', h1, h2⟩ := ancOf_mem (p := r) h
      exact ⟨as', rs', List.mem_cons_of_mem _ h1, h2⟩

/-- Along the plan: each one's edges lead to what was before, and what is told to be ordered before it is. -/
def linB (l : List Oper) : PlanL → PlanL → Bool
  | _, [] => true
  | before, (i, as, rs) :: rest =>
    (match nthOp l i with
      | some o => allL (edgesOf o) (fun e => memN (before.map (·.1)) e) && allL as (fun j => memN (edgesOf o) j || !allL (edgesOf o) (fun e => !memN (ancOf before e) j))
      | none => false) && linB l ((i, as, rs) :: before) rest

def dstIs (l : List Oper) (i : Nat) : Option Nat := match nthOp l i with | some o => o.dst | none => none

def loudAt (l : List Oper) (i : Nat) : Bool := match nthOp l i with | some o => isLoud o | none => false

theorem loudAt_eq {l : List Oper} {i : Nat} {o : Oper} (h : l[i]? = some o) : loudAt l i = isLoud o := by unfold loudAt; rw [nthOp_eq, h]

theorem allL_not {f : Nat → Bool} : ∀ {l : List Nat}, (!allL l f) = true → ∃ i ∈ l, f i = false
  | [], h => by simp [allL] at h
  | x :: xs, h => by
    cases hx : f x with
    | false => exact ⟨x, by simp, hx⟩
    | true =>
      simp only [allL, hx, Bool.true_and] at h
      obtain ⟨i, hi, hf⟩ := allL_not h
      exact ⟨i, by simp [hi], hf⟩

/-- What stands behind j. -/
def afterL : PlanL → Nat → List Nat
  | [], _ => []
  | (k, _, _) :: r, j => cond (Nat.beq k j) (r.map (·.1)) (afterL r j)

theorem afterL_mem : ∀ {p : PlanL} {kj kb j b : Nat} {aj rj ab rb : List Nat}, (p.map (·.1)).Nodup → kj < kb → p[kj]? = some (j, aj, rj) → p[kb]? = some (b, ab, rb) → b ∈ afterL p j
  | [], kj, kb, j, b, aj, rj, ab, rb, _, _, h, _ => by simp at h
  | (k, as, rs) :: r, kj, kb, j, b, aj, rj, ab, rb, hn, hlt, h, h2 => by
    simp only [List.map_cons, List.nodup_cons] at hn
    obtain ⟨kb, rfl⟩ : ∃ q, kb = q + 1 := ⟨kb - 1, by omega⟩
    simp only [List.getElem?_cons_succ] at h2
    unfold afterL
    cases kj with
    | zero =>
      simp only [List.getElem?_cons_zero, Option.some.injEq, Prod.mk.injEq] at h
      rw [h.1, Nat.beq_refl]
      exact List.mem_map.2 ⟨_, List.mem_of_getElem? h2, rfl⟩
    | succ kj =>
      simp only [List.getElem?_cons_succ] at h
      have hne : Nat.beq k j = false := by
        cases hq : Nat.beq k j with
        | false => rfl
        | true => exact (hn.1 (by rw [Nat.eq_of_beq_eq_true hq]; exact List.mem_map.2 ⟨_, List.mem_of_getElem? h, rfl⟩)).elim
      rw [hne]
      exact afterL_mem hn.2 (by omega) h h2

theorem afterL_pos : ∀ {p : PlanL} {j b k : Nat} {as rs : List Nat}, b ∈ afterL p j → p[k]? = some (j, as, rs) → (∀ k' as' rs', p[k']? = some (j, as', rs') → k' = k) → ∃ k2 as2 rs2, k < k2 ∧ p[k2]? = some (b, as2, rs2)
  | [], _, _, _, _, _, h, _, _ => by simp [afterL] at h
  | (q, a, r) :: p, j, b, k, as, rs, h, hk, hu => by
    unfold afterL at h
    cases hq : Nat.beq q j with
    | true =>
      rw [hq] at h
      have e := Nat.eq_of_beq_eq_true hq
      have := hu 0 a r (by rw [← e]; simp)
      subst this
      obtain ⟨x, hx, hb⟩ := List.mem_map.1 h
      obtain ⟨m, hm⟩ := List.mem_iff_getElem?.1 hx
      exact ⟨m + 1, x.2.1, x.2.2, by omega, by simp [hm, ← hb]⟩
    | false =>
      rw [hq] at h
      cases k with
      | zero => simp at hk; rw [hk.1, Nat.beq_refl] at hq; cases hq
      | succ k =>
        simp only [List.getElem?_cons_succ] at hk
        obtain ⟨k2, a2, r2, h1, h2⟩ := afterL_pos h hk fun k' a' r' h' => by have := hu (k' + 1) a' r' (by simpa using h'); omega
        exact ⟨k2 + 1, a2, r2, by omega, by simpa using h2⟩

def planB (l : List Oper) (p : PlanL) : Bool :=
  nodupB (p.map (·.1)) && allL (p.map (·.1)) (fun i => Nat.blt i l.length) && allN l.length (fun i => memN (p.map (·.1)) i) && linB l [] p &&
  allN l.length (fun i => allN l.length fun j => match dstIs l i, dstIs l j with | some d, some e => Nat.beq i j || !Nat.beq d e | _, _ => true) &&
  allN l.length (fun i => match nthOp l i with
    | some oi => allN l.length fun j => match dstIs l j with | some d => !memN (looksL l oi) d || (memN (ancOf p i) j || (memN (ancOf p j) i && allL (afterL p j) fun b => match nthOp l b with | some ob => !isLoud ob || memN (ancOf p b) i | none => true)) | none => true
    | none => true) &&
  allN p.length (fun k' => allN k' fun k => match p[k]?, p[k']? with
    | some (a, _, _), some (b, _, rb) => (match nthOp l a, nthOp l b with
      | some oa, some ob => memN (ancOf p b) a || cond (isLoud ob) (isLoud oa || memN rb a) (!isLoud oa || !allL (afterL p a) fun a2 => !(loudAt l a2 && memN (ancOf p b) a2))
      | _, _ => true)
    | _, _ => true)

theorem linB_spec {l : List Oper} : ∀ {rest before : PlanL}, (∀ i j, j ∈ ancOf before i → Anc l j i) → linB l before rest = true →
    (∀ (k i : Nat) (as rs : List Nat), rest[k]? = some (i, as, rs) → ∃ o, l[i]? = some o ∧ (∀ e ∈ edgesOf o, e ∈ before.map (·.1) ∨ ∃ (k' : Nat) (as' rs' : List Nat), k' < k ∧ rest[k']? = some (e, as', rs')) ∧ ∀ j ∈ as, Anc l j i)
  | [], _, _, _, k, i, as, rs, h => by simp at h
  | (i0, as0, rs0) :: rest, before, hb, h, k, i, as, rs, hk => by
    unfold linB at h
    simp only [Bool.and_eq_true] at h
    obtain ⟨h1, h2⟩ := h
    split at h1
    case h_2 => cases h1
    rename_i o ho
    simp only [Bool.and_eq_true] at h1
    obtain ⟨h3, h4⟩ := h1
    rw [nthOp_eq] at ho
    have hanc0 : ∀ j ∈ as0, Anc l j i0 := by
      intro j hj
      have := allL_spec h4 j hj
      simp only [Bool.or_eq_true, Bool.not_eq_true'] at this
      rcases this with h5 | h5
      · exact .one ho (memN_mem.1 h5)
      · by_cases hex : ∃ e ∈ edgesOf o, j ∈ ancOf before e
        · obtain ⟨e, he, hje⟩ := hex
          exact .step ho he (hb e j hje)
        · exfalso
          have key : ∀ es : List Nat, (∀ e ∈ es, j ∉ ancOf before e) → allL es (fun e => !memN (ancOf before e) j) = true := by
            intro es
            induction es with
            | nil => intro _; rfl
            | cons e es ih =>
              intro hq
              simp only [allL, Bool.and_eq_true, Bool.not_eq_true']
              refine ⟨?_, ih fun e' he' => hq e' (List.mem_cons_of_mem _ he')⟩
              cases hm : memN (ancOf before e) j with
              | false => rfl
              | true => exact (hq e (by simp) (memN_mem.1 hm)).elim
          rw [key _ fun e he hj' => hex ⟨e, he, hj'⟩] at h5
          cases h5
    cases k with
    | zero =>
      simp only [List.getElem?_cons_zero, Option.some.injEq, Prod.mk.injEq] at hk
      obtain ⟨rfl, rfl, rfl⟩ := hk
      exact ⟨o, ho, fun e he => .inl (memN_mem.1 (allL_spec h3 e he)), hanc0⟩
    | succ k =>
      simp only [List.getElem?_cons_succ] at hk
      have hb' : ∀ i j, j ∈ ancOf ((i0, as0, rs0) :: before) i → Anc l j i := by
        intro i j hj
        unfold ancOf at hj
        cases hq : Nat.beq i0 i with
        | true =>
          rw [hq] at hj
          have := Nat.eq_of_beq_eq_true hq
          subst this
          exact hanc0 j hj
        | false => rw [hq] at hj; exact hb i j hj
      obtain ⟨o', ho', he', ha'⟩ := linB_spec hb' h2 k i as rs hk
      refine ⟨o', ho', fun e he => ?_, ha'⟩
      rcases he' e he with h5 | ⟨k', as', rs', hlt, h6⟩
      · simp only [List.map_cons, List.mem_cons] at h5
        rcases h5 with rfl | h5
        · exact .inr ⟨0, as0, rs0, by omega, by simp⟩
        · exact .inl h5
      · exact .inr ⟨k' + 1, as', rs', by omega, by simpa using h6⟩

theorem planB_spec {l : List Oper} {p : PlanL} (h : planB l p = true) : Plan l p.pl := by
  unfold planB at h
  simp only [Bool.and_eq_true] at h
  obtain ⟨⟨⟨⟨⟨⟨h1, h2⟩, h3⟩, h4⟩, h5⟩, h6⟩, h7⟩ := h
  have hm : p.pl.map (·.1) = p.map (·.1) := by simp [PlanL.pl, Function.comp_def]
  have hlin := linB_spec (before := []) (fun i j hj => by cases hj) h4
  have hget : ∀ {k i : Nat} {rs : List Nat}, p.pl[k]? = some (i, rs) → ∃ as, p[k]? = some (i, as, rs) := by
    intro k i rs hk
    simp only [PlanL.pl, List.getElem?_map] at hk
    cases hq : p[k]? with
    | none => rw [hq] at hk; simp at hk
    | some q =>
      rw [hq] at hk
      simp only [Option.map_some, Option.some.injEq, Prod.mk.injEq] at hk
      obtain ⟨rfl, rfl⟩ := hk
      exact ⟨q.2.1, rfl⟩
  have hanc : ∀ {i j : Nat}, j ∈ ancOf p i → Anc l j i := by
    intro i j hj
    obtain ⟨as, rs, h8, h9⟩ := ancOf_mem hj
    obtain ⟨k, hk⟩ := List.mem_iff_getElem?.1 h8
    obtain ⟨_, _, _, h10⟩ := hlin k i as rs hk
    exact h10 j h9
  have hlt : ∀ {i : Nat} {o : Oper}, l[i]? = some o → i < l.length := fun h => (List.getElem?_eq_some_iff.1 h).1
  refine ⟨by rw [hm]; exact nodupB_spec h1, fun i => ⟨fun hi => by rw [hm]; exact memN_mem.1 (allN_spec h3 i hi), fun hi => by rw [hm] at hi; simpa [Nat.blt_eq] using allL_spec h2 i hi⟩, fun k i rs o e hk ho he => ?_, fun i j oi oj d hi hj hdi hdj => ?_, fun i j oi oj d hi hj hd hl => ?_,
    fun k k' a b ra rb oa ob hkk hk hk' ha hb => ?_⟩
  · obtain ⟨as, hk2⟩ := hget hk
    obtain ⟨o', ho', he', _⟩ := hlin k i as rs hk2
    rw [ho] at ho'
    simp only [Option.some.injEq] at ho'
    subst ho'
    rcases he' e he with h8 | ⟨k', as', rs', h8, h9⟩
    · cases h8
    · exact ⟨k', rs', h8, by simp [PlanL.pl, h9]⟩
  · have := allN_spec (allN_spec h5 i (hlt hi)) j (hlt hj)
    simp only [dstIs, nthOp_eq, hi, hj, hdi, hdj, Bool.or_eq_true, Bool.not_eq_true'] at this
    rcases this with h8 | h8
    · exact Nat.eq_of_beq_eq_true h8
    · rw [Nat.beq_refl] at h8; cases h8
  · have := allN_spec h6 i (hlt hi)
    simp only [nthOp_eq, hi] at this
    have := allN_spec this j (hlt hj)
    simp only [dstIs, nthOp_eq, hj, hd, Bool.or_eq_true, Bool.not_eq_true'] at this
    rcases this with h8 | h8 | h8
    · rw [memN_mem.2 hl] at h8; cases h8
    · exact .inl (hanc (memN_mem.1 h8))
    · simp only [Bool.and_eq_true] at h8
      refine .inr ⟨hanc (memN_mem.1 h8.1), fun kj kb b rj rb ob hlt2 hkj hkb hob hlb => ?_⟩
      obtain ⟨aj, hkj2⟩ := hget hkj
      obtain ⟨ab, hkb2⟩ := hget hkb
      have := allL_spec h8.2 b (afterL_mem (nodupB_spec h1) hlt2 hkj2 hkb2)
      simp only [hob, hlb, Bool.not_true, Bool.false_or] at this
      exact hanc (memN_mem.1 this)
  · obtain ⟨as, hk2⟩ := hget hk
    obtain ⟨bs, hk2'⟩ := hget hk'
    have := allN_spec (allN_spec h7 k' ((List.getElem?_eq_some_iff.1 hk2').1)) k hkk
    simp only [hk2, hk2', nthOp_eq, ha, hb, Bool.or_eq_true] at this
    rcases this with h8 | h8
    · exact ⟨fun _ _ => .inl (hanc (memN_mem.1 h8)), fun _ _ => .inl (hanc (memN_mem.1 h8))⟩
    · cases hlb : isLoud ob with
      | true =>
        rw [hlb] at h8
        simp only [cond_true, Bool.or_eq_true] at h8
        refine ⟨fun _ hla => ?_, fun h => by cases h⟩
        rcases h8 with h8 | h8
        · rw [h8] at hla; cases hla
        · exact .inr (memN_mem.1 h8)
      | false =>
        rw [hlb] at h8
        simp only [cond_false, Bool.or_eq_true] at h8
        refine ⟨fun h => Bool.noConfusion h, fun _ h => ?_⟩
        rcases h8 with h8 | h8
        · rw [h] at h8; cases h8
        · obtain ⟨a2, h9, h10⟩ := allL_not h8
          simp only [Bool.not_eq_false', Bool.and_eq_true] at h10
          have h11 := h10.1
          unfold loudAt at h11
          split at h11
          case h_2 => cases h11
          rename_i o2 ho2
          rw [nthOp_eq] at ho2
          obtain ⟨k2, as2, rs2, h12, h13⟩ := afterL_pos h9 hk2 (fun k' as' rs' h' => by
            have n1 := nodupB_spec h1
            have e1 : (p.map (·.1))[k']? = some a := by simp [h']
            have e2 : (p.map (·.1))[k]? = some a := by simp [hk2]
            obtain ⟨l1, g1⟩ := List.getElem?_eq_some_iff.1 e1
            obtain ⟨l2, g2⟩ := List.getElem?_eq_some_iff.1 e2
            exact (List.getElem_inj n1).1 (g1.trans g2.symm))
          exact .inr ⟨k2, a2, rs2, o2, h12, by simp [PlanL.pl, h13], ho2, h11, hanc (memN_mem.1 h10.2)⟩


/-! ### Trees of plans -/

inductive PT where
  | last (p : PlanL)
  | fork (p : PlanL) (l r : PT)

def pathsL : PT → List PlanL
  | .last p => [p]
  | .fork p l r => ((pathsL l).map (p ++ ·)) ++ ((pathsL r).map (p ++ ·))

def headN : PlanL → Option Nat
  | [] => none
  | (i, _, _) :: _ => some i

def optNe : Option Nat → Option Nat → Bool
  | some a, some b => !Nat.beq a b
  | _, _ => false

def allP {α : Type} (f : α → Bool) : List α → Bool
  | [] => true
  | x :: xs => f x && allP f xs
def anyP {α : Type} (f : α → Bool) : List α → Bool
  | [] => false
  | x :: xs => f x || anyP f xs
theorem allP_spec {α : Type} {f : α → Bool} : ∀ {l : List α}, allP f l = true → ∀ x ∈ l, f x = true
  | [], _, x, hx => by cases hx
  | y :: ys, h, x, hx => by
    simp only [allP, Bool.and_eq_true] at h
    rcases List.mem_cons.1 hx with rfl | hm
    · exact h.1
    · exact allP_spec h.2 x hm
theorem anyP_spec {α : Type} {f : α → Bool} : ∀ {l : List α}, anyP f l = true → ∃ x ∈ l, f x = true
  | [], h => by simp [anyP] at h
  | y :: ys, h => by
    simp only [anyP, Bool.or_eq_true] at h
    rcases h with h | h
    · exact ⟨y, by simp, h⟩
    · obtain ⟨x, hx, hf⟩ := anyP_spec h
      exact ⟨x, by simp [hx], hf⟩

/-- At each fork the two sides begin with different operations. -/
def headsB : PT → Bool
  | .last _ => true
  | .fork _ l r => headsB l && headsB r && allP (fun a => allP (fun b => optNe (headN a) (headN b)) (pathsL r)) (pathsL l)

def natsB : List Nat → List Nat → Bool
  | [], [] => true
  | x :: xs, y :: ys => Nat.beq x y && natsB xs ys
  | _, _ => false
theorem natsB_eq : ∀ {a b : List Nat}, natsB a b = true → a = b
  | [], [], _ => rfl
  | x :: xs, y :: ys, h => by
    simp only [natsB, Bool.and_eq_true] at h
    rw [Nat.eq_of_beq_eq_true h.1, natsB_eq h.2]
  | [], _ :: _, h => by simp [natsB] at h
  | _ :: _, [], h => by simp [natsB] at h

def preB : Nat → PlanL → PlanL → Bool
  | 0, _, _ => true
  | _ + 1, [], [] => true
  | b + 1, (i, _, r) :: p, (j, _, q) :: p' => Nat.beq i j && natsB r q && preB b p p'
  | _, _, _ => false
theorem preB_spec : ∀ {b : Nat} {p p' : PlanL}, preB b p p' = true → p'.pl.take b = p.pl.take b
  | 0, _, _, _ => by simp
  | b + 1, [], [], _ => by simp
  | b + 1, (i, _, r) :: p, (j, _, q) :: p', h => by
    simp only [preB, Bool.and_eq_true] at h
    have h1 := preB_spec h.2
    simp only [PlanL.pl] at h1 ⊢
    simp only [List.map_cons, List.take_succ_cons, h1, Nat.eq_of_beq_eq_true h.1.1, natsB_eq h.1.2]
  | b + 1, [], _ :: _, h => by simp [preB] at h
  | b + 1, _ :: _, [], h => by simp [preB] at h

/-- The first loud place from c on. -/
def nextLoud (l : List Oper) : PlanL → Nat → Nat
  | [], _ => 0
  | (i, _, _) :: p, 0 => cond (loudAt l i) 0 (nextLoud l p 0 + 1)
  | _ :: p, c + 1 => nextLoud l p c + 1

theorem nextLoud_le (l : List Oper) : ∀ (p : PlanL) (c : Nat), nextLoud l p c ≤ p.length
  | [], _ => Nat.le_refl _
  | (i, _, _) :: p, 0 => by
    unfold nextLoud
    have := nextLoud_le l p 0
    cases loudAt l i <;> simp; omega
  | _ :: p, c + 1 => by
    unfold nextLoud
    have := nextLoud_le l p c
    simp; omega
theorem nextLoud_ge (l : List Oper) : ∀ (p : PlanL) (c : Nat), c ≤ p.length → c ≤ nextLoud l p c
  | [], c, h => by simp at h; simp [h]
  | (i, _, _) :: p, 0, _ => Nat.zero_le _
  | _ :: p, c + 1, h => by
    unfold nextLoud
    have := nextLoud_ge l p c (by simpa using h)
    omega
theorem nextLoud_quiet (l : List Oper) : ∀ (p : PlanL) (c m j : Nat) (as rs : List Nat), c ≤ m → m < nextLoud l p c → p[m]? = some (j, as, rs) → loudAt l j = false
  | [], _, m, j, as, rs, _, _, h => by simp at h
  | (i, a, b) :: p, 0, m, j, as, rs, _, hlt, h => by
    unfold nextLoud at hlt
    cases hb : loudAt l i with
    | true => rw [hb] at hlt; simp at hlt
    | false =>
      rw [hb] at hlt
      simp only [cond_false] at hlt
      cases m with
      | zero => simp at h; rw [← h.1]; exact hb
      | succ m => exact nextLoud_quiet l p 0 m j as rs (Nat.zero_le _) (by omega) (by simpa using h)
  | _ :: p, c + 1, m, j, as, rs, hle, hlt, h => by
    unfold nextLoud at hlt
    obtain ⟨m, rfl⟩ : ∃ q, m = q + 1 := ⟨m - 1, by omega⟩
    exact nextLoud_quiet l p c m j as rs (by omega) (by omega) (by simpa using h)

def headIs : PlanL → Nat → Nat → Bool
  | [], _, _ => false
  | (j, _, _) :: _, 0, i => Nat.beq j i
  | _ :: p, k + 1, i => headIs p k i
theorem headIs_spec : ∀ {p : PlanL} {k i : Nat}, headIs p k i = true → ∃ as rs, p[k]? = some (i, as, rs)
  | [], _, _, h => by simp [headIs] at h
  | (j, as, rs) :: _, 0, i, h => ⟨as, rs, by simp only [headIs] at h; simp [Nat.eq_of_beq_eq_true h]⟩
  | _ :: p, k + 1, i, h => by
    simp only [headIs] at h
    obtain ⟨as, rs, h2⟩ := headIs_spec h
    exact ⟨as, rs, by simpa using h2⟩

def takeN : Nat → PlanL → List Nat
  | 0, _ => []
  | _ + 1, [] => []
  | c + 1, (i, _, _) :: p => i :: takeN c p
theorem takeN_mem : ∀ {c : Nat} {p : PlanL} {i : Nat}, i ∈ takeN c p ↔ ∃ k as rs, k < c ∧ p[k]? = some (i, as, rs)
  | 0, p, i => by simp [takeN]
  | c + 1, [], i => by simp [takeN]
  | c + 1, (j, a, r) :: p, i => by
    simp only [takeN, List.mem_cons]
    rw [takeN_mem (c := c) (p := p)]
    constructor
    · rintro (rfl | ⟨k, as, rs, hk, h⟩)
      · exact ⟨0, a, r, by omega, by simp⟩
      · exact ⟨k + 1, as, rs, by omega, by simpa using h⟩
    · rintro ⟨k, as, rs, hk, h⟩
      cases k with
      | zero => simp at h; exact .inl h.1.symm
      | succ k => exact .inr ⟨k, as, rs, by omega, by simpa using h⟩

/-- A loud operation that is ordered before q, and does not stand ahead of c. -/
def waits (l : List Oper) (p : PlanL) (c q : Nat) : Bool := !allL (ancOf p q) fun j => !loudAt l j || memN (takeN c p) j

def swOne (l : List Oper) (p : PlanL) (c i : Nat) (p' : PlanL) : Bool :=
  preB (nextLoud l p c) p p' && headIs p' (nextLoud l p' (nextLoud l p c)) i && Nat.ble (nextLoud l p c) p'.length &&
    allN l.length fun q => loudAt l q || memN (takeN (nextLoud l p c) p) q || waits l p c q

def swB (l : List Oper) (ps : List PlanL) : Bool :=
  allP (fun p => allN (p.length + 1) fun c => allN l.length fun i => !loudAt l i || memN (takeN c p) i || waits l p c i || anyP (swOne l p c i) ps) ps

def treeB (l : List Oper) (t : PT) : Bool := headsB t && allP (planB l) (pathsL t) && swB l (pathsL t)

theorem PlanL.get {p : PlanL} {k i : Nat} {rs : List Nat} (hk : p.pl[k]? = some (i, rs)) : ∃ as, p[k]? = some (i, as, rs) := by
  simp only [PlanL.pl, List.getElem?_map] at hk
  cases hq : p[k]? with
  | none => rw [hq] at hk; simp at hk
  | some q =>
    rw [hq] at hk
    simp only [Option.map_some, Option.some.injEq, Prod.mk.injEq] at hk
    obtain ⟨rfl, rfl⟩ := hk
    exact ⟨q.2.1, rfl⟩
theorem PlanL.of_get {p : PlanL} {k i : Nat} {as rs : List Nat} (hk : p[k]? = some (i, as, rs)) : p.pl[k]? = some (i, rs) := by simp [PlanL.pl, hk]

theorem planB_anc {l : List Oper} {p : PlanL} (h : planB l p = true) {i j : Nat} (hj : j ∈ ancOf p i) : Anc l j i := by
  unfold planB at h
  simp only [Bool.and_eq_true] at h
  have hlin := linB_spec (before := []) (fun i j hj => by cases hj) h.1.1.1.2
  obtain ⟨as, rs, h8, h9⟩ := ancOf_mem hj
  obtain ⟨k, hk⟩ := List.mem_iff_getElem?.1 h8
  obtain ⟨_, _, _, h10⟩ := hlin k i as rs hk
  exact h10 j h9

theorem waits_spec {l : List Oper} {p : PlanL} (hp : planB l p = true) {c q : Nat} (h : waits l p c q = true) : ∃ (j : Nat) (oj : Oper), Anc l j q ∧ l[j]? = some oj ∧ isLoud oj = true ∧ ∀ k rs, p.pl[k]? = some (j, rs) → c ≤ k := by
  obtain ⟨j, hj, hf⟩ := allL_not h
  simp only [Bool.or_eq_false_iff, Bool.not_eq_false'] at hf
  have hl := hf.1
  unfold loudAt at hl
  split at hl
  case h_2 => cases hl
  rename_i o ho
  rw [nthOp_eq] at ho
  refine ⟨j, o, planB_anc hp hj, ho, hl, fun k rs hk => ?_⟩
  obtain ⟨as, hk2⟩ := PlanL.get hk
  rcases Nat.lt_or_ge k c with h1 | h1
  · have : memN (takeN c p) j = true := memN_mem.2 (takeN_mem.2 ⟨k, as, rs, h1, hk2⟩)
    rw [this] at hf; cases hf.2
  · exact h1

theorem swB_spec {l : List Oper} {ps : List PlanL} (hp : ∀ p ∈ ps, planB l p = true) (h : swB l ps = true) : Switch l (ps.map PlanL.pl) := by
  intro pl hpl c i o hc hi hlo hout hanc
  obtain ⟨p, hpm, rfl⟩ := List.mem_map.1 hpl
  have hlen : p.pl.length = p.length := by simp [PlanL.pl]
  have h1 := allN_spec (allN_spec (allP_spec h p hpm) c (by omega)) i (List.getElem?_eq_some_iff.1 hi).1
  simp only [loudAt_eq hi, hlo, Bool.not_true, Bool.false_or, Bool.or_eq_true] at h1
  rcases h1 with (h1 | h1) | h1
  · obtain ⟨k, as, rs, hk, h2⟩ := takeN_mem.1 (memN_mem.1 h1)
    have := hout k rs (PlanL.of_get h2)
    omega
  · obtain ⟨j, oj, h2, h3, h4, h5⟩ := waits_spec (hp p hpm) h1
    obtain ⟨k, rs, h6, h7⟩ := hanc j oj h2 h3 h4
    have := h5 k rs h7
    omega
  · obtain ⟨p', hp', h2⟩ := anyP_spec h1
    unfold swOne at h2
    simp only [Bool.and_eq_true] at h2
    obtain ⟨⟨⟨h3, h4⟩, h5⟩, h6⟩ := h2
    have h5 := Nat.le_of_ble_eq_true h5
    have hb1 := nextLoud_ge l p c (by omega)
    have hb2 := nextLoud_le l p c
    have hk1 := nextLoud_ge l p' _ h5
    obtain ⟨as, rs, h7⟩ := headIs_spec h4
    have hpre := preB_spec h3
    refine ⟨p'.pl, List.mem_map_of_mem hp', nextLoud l p c, nextLoud l p' (nextLoud l p c), rs, hb1, by omega, hpre, hk1, PlanL.of_get h7, fun m j r oj hm1 hm2 hm3 hoj => ?_, fun q oq hq hlq hout2 => ?_⟩
    · rw [← loudAt_eq hoj]
      rcases Nat.lt_or_ge m (nextLoud l p c) with h8 | h8
      · rw [take_get hpre h8] at hm3
        obtain ⟨a, h9⟩ := PlanL.get hm3
        exact nextLoud_quiet l p c m j a r hm1 h8 h9
      · obtain ⟨a, h9⟩ := PlanL.get hm3
        exact nextLoud_quiet l p' _ m j a r h8 hm2 h9
    · have h8 := allN_spec h6 q (List.getElem?_eq_some_iff.1 hq).1
      simp only [loudAt_eq hq, hlq, Bool.false_or, Bool.or_eq_true] at h8
      rcases h8 with h8 | h8
      · obtain ⟨k, a, r, h9, h10⟩ := takeN_mem.1 (memN_mem.1 h8)
        have := hout2 k r (PlanL.of_get h10)
        omega
      · exact waits_spec (hp p hpm) h8

/-- The walk along a tree of plans. -/
def DCT (P : Program) (Γ : Tab) (n : Nat) (l : List Oper) (K : St → Prop) : PT → St → Prop
  | .last p, st => DC P Γ n l K p.pl st
  | .fork p a b, st => DC P Γ n l (fun st' => DCT P Γ n l K a st' ∧ DCT P Γ n l K b st') p.pl st

section
variable {P : Program} {Γ : Tab} {n : Nat}

theorem Chain.congr {l : List Oper} {pl : List (Nat × List Nat)} {S S' : Nat → St} {V V' : Nat → AV} (hc : Chain P n l pl S V) (h1 : ∀ k, k ≤ pl.length → S' k = S k) (h2 : ∀ k, k < pl.length → V' k = V k) : Chain P n l pl S' V' := ⟨fun k i rs hk => by
  have hlt := pl_lt hk
  rw [h1 k (by omega), h1 (k + 1) (by omega), h2 k hlt]
  exact hc.step k i rs hk⟩

theorem Chain.append {l : List Oper} {pl a : List (Nat × List Nat)} {S S' : Nat → St} {V V' : Nat → AV} (hc : Chain P n l pl S V) (hc' : Chain P n l a S' V') (h0 : S' 0 = S pl.length) :
    Chain P n l (pl ++ a) (fun k => if k ≤ pl.length then S k else S' (k - pl.length)) (fun k => if k < pl.length then V k else V' (k - pl.length)) := ⟨fun k i rs hk => by
  rw [List.getElem?_append] at hk
  split at hk
  · rename_i hlt
    simp only [if_pos (Nat.le_of_lt hlt), if_pos hlt, if_pos (Nat.succ_le_of_lt hlt)]
    exact hc.step k i rs hk
  · rename_i hge
    have e1 : (if k ≤ pl.length then S k else S' (k - pl.length)) = S' (k - pl.length) := by
      split
      · have : k = pl.length := by omega
        subst this
        rw [Nat.sub_self, h0]
      · rfl
    have e2 : (if k + 1 ≤ pl.length then S (k + 1) else S' (k + 1 - pl.length)) = S' (k - pl.length + 1) := by
      rw [if_neg (by omega)]
      congr 1
      omega
    simp only [e1, e2, if_neg hge]
    exact hc'.step _ i rs hk⟩

open Classical in
theorem DCT.chains (hΓ : TabOk P Γ) {l : List Oper} {K : St → Prop} : ∀ {t : PT} {st : St}, headsB t = true → DCT P Γ n l K t st → ∃ (F : List (Nat × List Nat) → St) (G : List (Nat × List Nat) → AV), F [] = st ∧ (∀ p ∈ pathsL t, K (F p.pl)) ∧ ∀ p ∈ pathsL t, Chain P n l p.pl (fun k => F (p.pl.take k)) (fun k => G (p.pl.take (k + 1)))
  | .last p, st, _, h => by
    obtain ⟨S, V, h0, hK, hc⟩ := DC.chain hΓ h
    refine ⟨fun q => S q.length, fun q => V (q.length - 1), by simpa using h0, fun p' hp' => ?_, fun p' hp' => ?_⟩
    · simp only [pathsL, List.mem_singleton] at hp'
      subst hp'; exact hK
    · simp only [pathsL, List.mem_singleton] at hp'
      subst hp'
      refine hc.congr (fun k hk => ?_) fun k hk => ?_
      · show S (List.take k p'.pl).length = S k
        rw [List.length_take, Nat.min_eq_left hk]
      · show V ((List.take (k + 1) p'.pl).length - 1) = V k
        rw [List.length_take, Nat.min_eq_left (Nat.succ_le_of_lt hk)]
        exact congrArg V (Nat.add_sub_cancel k 1)
  | .fork p a b, st, hh, h => by
    simp only [headsB, Bool.and_eq_true] at hh
    obtain ⟨⟨ha, hb⟩, hne⟩ := hh
    obtain ⟨S, V, h0, ⟨hKa, hKb⟩, hc⟩ := DC.chain hΓ h
    obtain ⟨Fa, Ga, a0, aK, ac⟩ := DCT.chains hΓ ha hKa
    obtain ⟨Fb, Gb, b0, bK, bc⟩ := DCT.chains hΓ hb hKb
    let inA : List (Nat × List Nat) → Prop := fun q => ∃ x ∈ pathsL a, headN x = q.head?.map (·.1)
    refine ⟨fun q => if q.length ≤ p.pl.length then S q.length else if inA (q.drop p.pl.length) then Fa (q.drop p.pl.length) else Fb (q.drop p.pl.length),
      fun q => if q.length ≤ p.pl.length then V (q.length - 1) else if inA (q.drop p.pl.length) then Ga (q.drop p.pl.length) else Gb (q.drop p.pl.length), by simpa using h0, ?_⟩
    have hhd : ∀ x : PlanL, headN x = x.pl.head?.map (·.1) := fun x => by cases x <;> simp [headN, PlanL.pl]
    have htk : ∀ (x : List (Nat × List Nat)) (m : Nat), 0 < m → (x.take m).head? = x.head? := fun x m hm => by
      cases m with
      | zero => omega
      | succ m => cases x <;> simp
    have inA_a : ∀ x ∈ pathsL a, ∀ m, 0 < m → inA (x.pl.take m) := fun x hx m hm => ⟨x, hx, by rw [htk _ _ hm]; exact hhd x⟩
    have inA_b : ∀ x ∈ pathsL b, ∀ m, 0 < m → ¬ inA (x.pl.take m) := by
      rintro x hx m hm ⟨y, hy, e⟩
      rw [htk _ _ hm, ← hhd] at e
      have := allP_spec (allP_spec hne y hy) x hx
      rw [e] at this
      cases hq : headN x <;> rw [hq] at this <;> simp [optNe] at this
    have app : ∀ x : PlanL, (p ++ x : PlanL).pl = p.pl ++ x.pl := fun x => by simp [PlanL.pl]
    have main : ∀ (x : PlanL) (Fx : List (Nat × List Nat) → St) (Gx : List (Nat × List Nat) → AV), Fx [] = S p.pl.length → K (Fx x.pl) → Chain P n l x.pl (fun k => Fx (x.pl.take k)) (fun k => Gx (x.pl.take (k + 1))) →
        (∀ m, 0 < m → m ≤ x.pl.length → (if inA (x.pl.take m) then Fa (x.pl.take m) else Fb (x.pl.take m)) = Fx (x.pl.take m)) →
        (∀ m, 0 < m → m ≤ x.pl.length → (if inA (x.pl.take m) then Ga (x.pl.take m) else Gb (x.pl.take m)) = Gx (x.pl.take m)) →
        K ((fun q : List (Nat × List Nat) => if q.length ≤ p.pl.length then S q.length else if inA (q.drop p.pl.length) then Fa (q.drop p.pl.length) else Fb (q.drop p.pl.length)) (p ++ x : PlanL).pl) ∧
        Chain P n l (p ++ x : PlanL).pl (fun k => (fun q : List (Nat × List Nat) => if q.length ≤ p.pl.length then S q.length else if inA (q.drop p.pl.length) then Fa (q.drop p.pl.length) else Fb (q.drop p.pl.length)) ((p ++ x : PlanL).pl.take k))
          (fun k => (fun q : List (Nat × List Nat) => if q.length ≤ p.pl.length then V (q.length - 1) else if inA (q.drop p.pl.length) then Ga (q.drop p.pl.length) else Gb (q.drop p.pl.length)) ((p ++ x : PlanL).pl.take (k + 1))) := by
      intro x Fx Gx x0 xK xc e1 e2
      have key : ∀ k, k ≤ p.pl.length + x.pl.length → (fun q : List (Nat × List Nat) => if q.length ≤ p.pl.length then S q.length else if inA (q.drop p.pl.length) then Fa (q.drop p.pl.length) else Fb (q.drop p.pl.length)) ((p.pl ++ x.pl).take k) =
          if k ≤ p.pl.length then S k else Fx (x.pl.take (k - p.pl.length)) := by
        intro k hk
        have hlen : ((p.pl ++ x.pl).take k).length = k := by simp only [List.length_take, List.length_append]; omega
        simp only [hlen]
        split
        · rfl
        · have hd : ((p.pl ++ x.pl).take k).drop p.pl.length = x.pl.take (k - p.pl.length) := by
            rw [List.take_append, List.drop_append, List.take_of_length_le (by omega), List.drop_length, List.nil_append, Nat.sub_self, List.drop_zero]
          rw [hd]
          exact e1 _ (by omega) (by omega)
      have key2 : ∀ k, k < p.pl.length + x.pl.length → (fun q : List (Nat × List Nat) => if q.length ≤ p.pl.length then V (q.length - 1) else if inA (q.drop p.pl.length) then Ga (q.drop p.pl.length) else Gb (q.drop p.pl.length)) ((p.pl ++ x.pl).take (k + 1)) =
          if k < p.pl.length then V k else Gx (x.pl.take (k - p.pl.length + 1)) := by
        intro k hk
        have hlen : ((p.pl ++ x.pl).take (k + 1)).length = k + 1 := by simp only [List.length_take, List.length_append]; omega
        simp only [hlen, Nat.add_sub_cancel]
        by_cases hlt : k < p.pl.length
        · rw [if_pos (by omega), if_pos hlt]
        · rw [if_neg (by omega), if_neg hlt]
          have hd : ((p.pl ++ x.pl).take (k + 1)).drop p.pl.length = x.pl.take (k - p.pl.length + 1) := by
            rw [List.take_append, List.drop_append, List.take_of_length_le (by omega), List.drop_length, List.nil_append, Nat.sub_self, List.drop_zero]
            congr 1
            omega
          rw [hd]
          exact e2 _ (by omega) (by omega)
      rw [app]
      constructor
      · have := key (p.pl.length + x.pl.length) (Nat.le_refl _)
        rw [List.take_of_length_le (by simp)] at this
        rw [this]
        split
        · rename_i hle
          have hx : x.pl = [] := List.eq_nil_of_length_eq_zero (by omega)
          rw [hx] at xK ⊢
          rw [x0] at xK
          simpa using xK
        · rw [show p.pl.length + x.pl.length - p.pl.length = x.pl.length by omega, List.take_length]
          exact xK
      · refine (hc.append xc (by simpa using x0)).congr (fun k hk => key k (by simpa using hk)) fun k hk => ?_
        exact key2 k (by simpa using hk)
    refine ⟨fun q hq => ?_, fun q hq => ?_⟩
    · simp only [pathsL, List.mem_append, List.mem_map] at hq
      rcases hq with ⟨x, hx, rfl⟩ | ⟨x, hx, rfl⟩
      · exact (main x Fa Ga a0 (aK x hx) (ac x hx) (fun m h1 _ => if_pos (inA_a x hx m h1)) (fun m h1 _ => if_pos (inA_a x hx m h1))).1
      · exact (main x Fb Gb b0 (bK x hx) (bc x hx) (fun m h1 _ => if_neg (inA_b x hx m h1)) (fun m h1 _ => if_neg (inA_b x hx m h1))).1
    · simp only [pathsL, List.mem_append, List.mem_map] at hq
      rcases hq with ⟨x, hx, rfl⟩ | ⟨x, hx, rfl⟩
      · exact (main x Fa Ga a0 (aK x hx) (ac x hx) (fun m h1 _ => if_pos (inA_a x hx m h1)) (fun m h1 _ => if_pos (inA_a x hx m h1))).2
      · exact (main x Fb Gb b0 (bK x hx) (bc x hx) (fun m h1 _ => if_neg (inA_b x hx m h1)) (fun m h1 _ => if_neg (inA_b x hx m h1))).2

end

theorem getD_rep (m j : Nat) : (Array.replicate m false).getD j false = false := by
  simp only [Array.getD]
  split <;> simp

section
variable {P : Program} {Γ : Tab} {n : Nat}

theorem Rel.drew {ρ0 : Rho} {W0 : World} {st : St} {a : Act} {w : World} (h : Rel ρ0 W0 st a w) : Rel ρ0 W0 st a { w with drawn := w.drawn + 1 } := by
  obtain ⟨ρ, h1, h2, h3, h4⟩ := h
  exact ⟨ρ, h1.drewN 1, h2, RvL.mono ((Step.refl ρ w).drewN 1) _ h3, h4.drewN 1⟩

/-- A region that draws its order, by walks along the plans of a tree. -/
theorem T_drawT {id : Nat} {l : List Oper} {Q : Exit → St → Prop} {st : St} (hΓ : TabOk P Γ) (hm : P.follows .mixedOrders = true) (t : PT) (hB : treeB l t = true) (h : DCT P Γ n l (Q .normal) t st) : T P n (.region id l.toArray true) Q st := by
  intro ρ0 W0 a w hn hR
  unfold treeB at hB
  simp only [Bool.and_eq_true] at hB
  obtain ⟨F, G, h0, hK, hc⟩ := DCT.chains hΓ hB.1.1 h
  have hp := allP_spec hB.1.2
  refine wp_region_any hm ?_
  have hPs : ∀ pl ∈ (pathsL t).map PlanL.pl, Plan l pl := fun pl hpl => by
    obtain ⟨p, hpm, rfl⟩ := List.mem_map.1 hpl
    exact planB_spec (hp p hpm)
  obtain ⟨p0, hp0⟩ : ∃ p, p ∈ pathsL t := by
    clear hB h hK hc hp hPs
    induction t with
    | last p => exact ⟨p, by simp [pathsL]⟩
    | fork p a b ia ib => obtain ⟨x, hx⟩ := ia; exact ⟨p ++ x, by simp only [pathsL, List.mem_append, List.mem_map]; exact .inl ⟨x, hx, rfl⟩⟩
  refine any_order hPs (swB_spec hp hB.2) ⟨fun pl hpl => by
      obtain ⟨p, hpm, rfl⟩ := List.mem_map.1 hpl
      exact hc p hpm⟩ hn (fun pl hpl a' w' hr => by
      obtain ⟨p, hpm, rfl⟩ := List.mem_map.1 hpl
      exact ⟨_, hK p hpm, hr⟩) _ p0.pl (List.mem_map_of_mem hp0) _ a _ 0 st.env (by simp) (by simp) (fun i o e hi => ?_) (Nat.zero_le _) (fun k i rs o _ _ _ => ?_) ⟨by rw [h0], fun k i rs o d _ _ _ hi => ?_, fun t _ => by rw [h0]⟩ ?_
  · exfalso; unfold lst at hi; rw [getD_rep] at hi; cases hi
  · constructor
    · intro hi; exfalso; unfold lst at hi; rw [getD_rep] at hi; cases hi
    · intro hi; omega
  · exfalso; unfold lst at hi; rw [getD_rep] at hi; cases hi
  · simp only [List.take_zero, h0]; exact hR.drew

/-- A region that draws its order, by a walk along a plan. -/
theorem T_draw {id : Nat} {l : List Oper} {Q : Exit → St → Prop} {st : St} (hΓ : TabOk P Γ) (hm : P.follows .mixedOrders = true) (p : PlanL) (hB : treeB l (.last p) = true) (h : DC P Γ n l (Q .normal) p.pl st) : T P n (.region id l.toArray true) Q st :=
  T_drawT hΓ hm (.last p) hB h

/-- As far as the next call. -/
def evD (Γ : Tab) (ops : List Oper) : List (Nat × List Nat) → St → Option (List (Nat × List Nat) × St × Prop)
  | [], st => some ([], st, True)
  | (i, rs) :: rest, st =>
    match nthOp ops i with
    | none => none
    | some o =>
      match isCall o.op with
      | true => some ((i, rs) :: rest, st, True)
      | false =>
        match evV Γ ops st o with
        | none => none
        | some (v, σ', C) =>
          match isLoud o with
          | false =>
            match evD Γ ops rest ⟨setE st.env o.dst v, st.σ⟩ with
            | some (r, st', C') => some (r, st', C ∧ C')
            | none => none
          | true =>
            match evD Γ ops rest ⟨setE st.env o.dst v, σ'⟩ with
            | some (r, st', C') => some (r, st', C ∧ retroOk Γ ops ⟨setE st.env o.dst v, σ'⟩ rs ∧ C')
            | none => none

theorem evV_quiet {ops : List Oper} {st : St} {o : Oper} {v : AV} {σ' : List AObj} {C : Prop} (hl : isLoud o = false) (h : evV Γ ops st o = some (v, σ', C)) : σ' = st.σ := by
  unfold evV at h
  cases hb : bsV o.op with
  | some q =>
    obtain ⟨t, len, ps⟩ := q
    rw [hb] at h
    simp only [] at h
    split at h
    · split at h
      · simp only [Option.some.injEq, Prod.mk.injEq] at h
        exact h.2.1.symm
      · cases h
    · cases h
  | none =>
    rw [hb] at h
    simp only [] at h
    have hl' : loud o.op = false := by
      unfold isLoud at hl
      rw [hb] at hl
      simp only [Option.isNone_none, Bool.and_true, Bool.or_eq_false_iff] at hl
      exact hl.2
    have hev : ∀ {g : Bool} {v' : AV} {σ'' : List AObj} {C' : Prop}, ev1 Γ st g o.op = some (v', σ'', C') → σ'' = st.σ := by
      intro g v' σ'' C' he
      unfold ev1 at he
      split at he
      · exact (pu_some he).2
      · split at he
        · rename_i hq
          simp only [Option.some.injEq, Prod.mk.injEq] at he
          obtain ⟨rfl, rfl, rfl⟩ := he
          exact eOp_quiet hl' hq
        · cases he
    unfold evV0 at h
    split at h
    · cases h
    · exact hev h
    · rw [hl'] at h
      simp only [] at h
      split at h
      · simp only [Option.some.injEq, Prod.mk.injEq] at h
        exact h.2.1.symm
      · cases h

theorem evD_sound (hΓ : TabOk P Γ) {ops : List Oper} {K : St → Prop} : ∀ {pl r : List (Nat × List Nat)} {st st' : St} {C : Prop}, evD Γ ops pl st = some (r, st', C) → C → DC P Γ n ops K r st' → DC P Γ n ops K pl st
  | [], r, st, st', C, h, _, k => by
    simp only [evD, Option.some.injEq, Prod.mk.injEq] at h
    obtain ⟨rfl, rfl, _⟩ := h
    exact k
  | (i, rs) :: rest, r, st, st', C, h, hC, k => by
    unfold evD at h
    split at h
    · cases h
    · rename_i o ho
      split at h
      · simp only [Option.some.injEq, Prod.mk.injEq] at h
        obtain ⟨rfl, rfl, _⟩ := h
        exact k
      · split at h
        · cases h
        · rename_i v σ' C1 he
          split at h
          · rename_i hl
            split at h
            · rename_i r2 st2 C2 hr
              simp only [Option.some.injEq, Prod.mk.injEq] at h
              obtain ⟨rfl, rfl, rfl⟩ := h
              have := evV_quiet hl he
              subst this
              exact ⟨o, v, st.σ, ho, Does.of_ev hΓ he hC.1, fun _ => rfl, .inl rfl, evD_sound hΓ hr hC.2 k⟩
            · cases h
          · rename_i hl
            split at h
            · rename_i r2 st2 C2 hr
              simp only [Option.some.injEq, Prod.mk.injEq] at h
              obtain ⟨rfl, rfl, rfl⟩ := h
              exact ⟨o, v, σ', ho, Does.of_ev hΓ he hC.1, (fun hq => by rw [hl] at hq; cases hq), .inr hC.2.1, evD_sound hΓ hr hC.2.2 k⟩
            · cases h

/-- What evD gives, as a goal. -/
def dcGoal (P : Program) (Γ : Tab) (n : Nat) (ops : List Oper) (K : St → Prop) : Option (List (Nat × List Nat) × St × Prop) → Prop
  | some ([], st, C) => C ∧ K st
  | some (q :: r, st, C) => C ∧ DC P Γ n ops K (q :: r) st
  | none => False

theorem DC_ev (hΓ : TabOk P Γ) {ops : List Oper} {pl : List (Nat × List Nat)} {K : St → Prop} {st : St} (h : dcGoal P Γ n ops K (evD Γ ops pl st)) : DC P Γ n ops K pl st := by
  cases he : evD Γ ops pl st with
  | none => rw [he] at h; exact h.elim
  | some q =>
    obtain ⟨r, st', C⟩ := q
    rw [he] at h
    cases r with
    | nil => exact evD_sound hΓ he h.1 h.2
    | cons q r => exact evD_sound hΓ he h.1 h.2

theorem DCT_last (hΓ : TabOk P Γ) {l : List Oper} {K : St → Prop} {p : PlanL} {st : St} (h : dcGoal P Γ n l K (evD Γ l p.pl st)) : DCT P Γ n l K (.last p) st := DC_ev hΓ h

theorem DCT_fork (hΓ : TabOk P Γ) {l : List Oper} {K : St → Prop} {p : PlanL} {a b : PT} {st : St} (h : ∀ K2 : St → Prop, (∀ st', DCT P Γ n l K a st' → DCT P Γ n l K b st' → K2 st') → dcGoal P Γ n l K2 (evD Γ l p.pl st)) : DCT P Γ n l K (.fork p a b) st :=
  DC_ev hΓ (h (fun st' => DCT P Γ n l K a st' ∧ DCT P Γ n l K b st') fun _ h1 h2 => ⟨h1, h2⟩)

theorem T_seq_drawT {id : Nat} {l : List Oper} {y : Code} {Q : Exit → St → Prop} {st : St} (hΓ : TabOk P Γ) (hm : P.follows .mixedOrders = true) (t : PT) (hB : treeB l t = true) (h : ∀ K : St → Prop, (∀ st', T P n y Q st' → K st') → DCT P Γ n l K t st) :
    T P n (.seq (.region id l.toArray true) y) Q st :=
  T_seq (T_drawT (P := P) (n := n) hΓ hm t hB (h (T P n y Q) fun _ h => h))

theorem T_last_drawT {id : Nat} {l : List Oper} {Q : Exit → St → Prop} {st : St} (hΓ : TabOk P Γ) (hm : P.follows .mixedOrders = true) (t : PT) (hB : treeB l t = true) (h : ∀ K : St → Prop, (∀ st', Q .normal st' → K st') → DCT P Γ n l K t st) :
    T P n (.region id l.toArray true) Q st :=
  T_drawT (P := P) (n := n) hΓ hm t hB (h (Q .normal) fun _ h => h)

theorem T_seq_draw {id : Nat} {l : List Oper} {y : Code} {Q : Exit → St → Prop} {st : St} (hΓ : TabOk P Γ) (hm : P.follows .mixedOrders = true) (p : PlanL) (hB : treeB l (.last p) = true) (h : ∀ K : St → Prop, (∀ st', T P n y Q st' → K st') → dcGoal P Γ n l K (evD Γ l p.pl st)) :
    T P n (.seq (.region id l.toArray true) y) Q st :=
  T_seq (T_draw (P := P) (n := n) hΓ hm p hB (DC_ev hΓ (h (T P n y Q) fun _ h => h)))

theorem T_last_draw {id : Nat} {l : List Oper} {Q : Exit → St → Prop} {st : St} (hΓ : TabOk P Γ) (hm : P.follows .mixedOrders = true) (p : PlanL) (hB : treeB l (.last p) = true) (h : ∀ K : St → Prop, (∀ st', Q .normal st' → K st') → dcGoal P Γ n l K (evD Γ l p.pl st)) :
    T P n (.region id l.toArray true) Q st :=
  T_draw (P := P) (n := n) hΓ hm p hB (DC_ev hΓ (h (Q .normal) fun _ h => h))

/-- A call in such a region: what it yields and makes of the objects must be told. -/
def dCall (P : Program) (σ : List AObj) (N : AV → List AObj → Prop) (ca : Option (FuncId × List AV × Prop)) : Option (Option Bool) → Prop
  | some none => ∃ v σ1, callGoal P σ (fun v' σ' => v' = v ∧ σ' = σ1) ca ∧ N v σ1
  | some (some g) => ∃ v, (g = true → callGoal P σ (fun v' σ' => v' = v ∧ σ' = σ) ca) ∧ N (.gd g v) σ
  | none => False

theorem DC_call {ops : List Oper} {i : Nat} {rs : List Nat} {rest : List (Nat × List Nat)} {K : St → Prop} {o : Oper} {c : Call} {st : St} (ho : nthOp ops i = some o) (hc : opCall o.op = some c) (hval : isCall o.op = true)
    (h : ∀ N : AV → List AObj → Prop, (∀ v σ', (σ' = st.σ ∨ retroOk Γ ops ⟨setE st.env o.dst v, σ'⟩ rs) → DC P Γ n ops K rest ⟨setE st.env o.dst v, σ'⟩ → N v σ') → dCall P st.σ N (callA st.env c) (guardOf ops st.env o.guard)) : DC P Γ n ops K ((i, rs) :: rest) st := by
  have h' := h (fun v σ' => (σ' = st.σ ∨ retroOk Γ ops ⟨setE st.env o.dst v, σ'⟩ rs) ∧ DC P Γ n ops K rest ⟨setE st.env o.dst v, σ'⟩) fun _ _ h1 h2 => ⟨h1, h2⟩
  have hloud : isLoud o = true := by unfold isLoud; rw [hval]; rfl
  cases hg : guardOf ops st.env o.guard with
  | none => rw [hg] at h'; exact h'.elim
  | some q =>
    rw [hg] at h'
    cases q with
    | none =>
      obtain ⟨v, σ1, h1, h2, h3⟩ := h'
      have hgn : o.guard = none := by
        cases hh : o.guard with
        | none => rfl
        | some q =>
          rw [hh] at hg
          obtain ⟨j, want⟩ := q
          simp only [guardOf] at hg
          split at hg
          · split at hg
            · split at hg <;> simp at hg
            · cases hg
          · cases hg
      exact ⟨o, v, σ1, ho, Does.of_call hc hgn h1, (fun hq => by rw [hloud] at hq; cases hq), h2, h3⟩
    | some g =>
      obtain ⟨v, h1, h2, h3⟩ := h'
      exact ⟨o, .gd g v, st.σ, ho, Does.of_callG hc hg h1, fun _ => rfl, .inl rfl, h3⟩

theorem dCall_look {σ : List AObj} {N : AV → List AObj → Prop} {k : FuncId} {args args0 : List AV} {C : Prop} {v : AV} (hC : C) (hc : CvL σ args args0) (h : Look P k args0 v) (hn : N v σ) : dCall P σ N (some (k, args, C)) (some none) :=
  ⟨v, σ, callGoal_look hC hc h ⟨rfl, rfl⟩, hn⟩

theorem dCall_lookG {σ : List AObj} {N : AV → List AObj → Prop} {g : Bool} {k : FuncId} {args args0 : List AV} {C : Prop} {v : AV} (h : g = true → C ∧ CvL σ args args0 ∧ Look P k args0 v) (hn : N (.gd g v) σ) : dCall P σ N (some (k, args, C)) (some (some g)) :=
  ⟨v, fun hg => callGoal_look (h hg).1 (h hg).2.1 (h hg).2.2 ⟨rfl, rfl⟩, hn⟩

theorem dCall_make {σ σ1 : List AObj} {N : AV → List AObj → Prop} {k : FuncId} {args args0 : List AV} {C : Prop} {v : AV} (hC : C) (hc : CvL σ args args0) (h : Makes P k args0 v σ1) (hn : N (sh σ.length v) (σ ++ σ1)) : dCall P σ N (some (k, args, C)) (some none) :=
  ⟨sh σ.length v, σ ++ σ1, callGoal_make hC hc h ⟨rfl, rfl⟩, hn⟩

theorem dCall_any {σ : List AObj} {N : AV → List AObj → Prop} {ca : Option (FuncId × List AV × Prop)} (v : AV) (σ1 : List AObj) (h : callGoal P σ (fun v' σ' => v' = v ∧ σ' = σ1) ca) (hn : N v σ1) : dCall P σ N ca (some none) := ⟨v, σ1, h, hn⟩

theorem dInl {σ' σ : List AObj} {q : Prop} (h : σ' = σ) : σ' = σ ∨ q := .inl h

/-- The walk goes on into the function that is called. -/
theorem callGoal_inline (hΓ : TabOk P Γ) {σ : List AObj} {next : AV → List AObj → Prop} {k : FuncId} {fn : Func} {c : Code} {args : List AV} {C : Prop} (hf : P.funcs[k]? = some fn) (hb : fn.body = some c) (hok : fnOk P k = true) (hC : C)
    (h : T P σ.length c (retQ Γ fn.results.toList next) ⟨args ++ List.replicate (fn.ntmps - args.length) .top, σ⟩) : callGoal P σ next (some (k, args, C)) :=
  ⟨hC, next, TC_of_T hΓ hf hb hok h, fun _ _ h => h⟩

attribute [go_sem] PlanL.pl isLoud bsV eBuildView evV0 evV retroOk evD dcGoal
end
end Go.Ab
