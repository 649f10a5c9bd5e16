/-
  Parts joined: P5 P6 P7 P8 P9.
-/
import Derived.Test.YtmglcamgpgkblaaQP4
import Derived.Test.YtmglcamgpgkblaaQP3
set_option linter.unusedSimpArgs false
set_option linter.unusedVariables false
namespace Go.Proofs.Ytmglcamgpgkblaa
def pairB (a b : Nat) (p : Pr) : Bool := decide (p.bound = 0) && (decide (p.a = a) && decide (p.b = b) || decide (p.a = b) && decide (p.b = a))
def tieB (s : Sc) (a b : Nat) : Bool := decide (befN s a = some b) || decide (befN s b = some a)
def stepR (s : Sc) : Gf := fun a b =>
  if a < s.notes.length ∧ b < s.notes.length then
    if tieB s a b = true then some (1, z6)
    else (s.pairs.find? (pairB a b)).map fun p => (2, if p.a = (a : Int) then p.want else p.want.neg)
  else none
theorem mem_gp {l : List Pr} {p : Pr} (h : p ∈ l) : ∃ i, i < l.length ∧ gp l i = p := by
  obtain ⟨i, h1, h2⟩ := List.mem_iff_getElem.1 h
  exact ⟨i, h1, by simp [gp, h1, h2]⟩
theorem pr_one {s : Sc} (h : ScOk s) {p : Pr} (hp : p ∈ s.pairs) : PrB s.notes.length p ∧ PrV s p := by
  obtain ⟨i, h1, rfl⟩ := mem_gp hp
  exact h.ps.one i h1
theorem want_bd {n : Int} {p : Pr} (h : PrB n p) : Bd6 16 p.want := by
  have := h.2.2.2.1
  unfold P6.all inB at this
  simp only [Bool.and_eq_true, decide_eq_true_eq] at this
  unfold Bd6; omega
theorem tieB_comm (s : Sc) (a b : Nat) : tieB s a b = tieB s b a := by unfold tieB; rw [Bool.or_comm]
theorem pairB_comm (a b : Nat) : pairB a b = pairB b a := by funext p; unfold pairB; rw [Bool.or_comm]
theorem pairB_iff {a b : Nat} {p : Pr} : pairB a b p = true ↔ p.bound = 0 ∧ (p.a = a ∧ p.b = b ∨ p.a = b ∧ p.b = a) := by
  unfold pairB; simp
theorem stepR_ok {s : Sc} (h : ScOk s) : GOk s.notes.length (stepR s) := by
  refine ⟨fun a b e he => ?_, fun a b k v he => ?_, fun a b k v he => ?_⟩
  · unfold stepR at he
    split at he
    · assumption
    · cases he
  · unfold stepR at he ⊢
    split at he
    · rename_i hr
      rw [if_pos ⟨hr.2, hr.1⟩, tieB_comm]
      split at he
      · rename_i ht
        rw [if_pos ht]
        cases he; rfl
      · rename_i ht
        rw [if_neg ht, pairB_comm b a]
        obtain ⟨p, hp, he⟩ := Option.map_eq_some_iff.1 he
        rw [hp]
        have h1 := pairB_iff.1 (List.find?_some hp)
        have h2 := (pr_one h (List.mem_of_find?_eq_some hp)).1
        unfold PrB at h2
        simp only [Option.map_some, Option.some.injEq, Prod.mk.injEq] at he ⊢
        refine ⟨he.1, ?_⟩
        rw [← he.2]
        rcases h1.2 with ⟨e1, e2⟩ | ⟨e1, e2⟩
        · rw [if_pos e1, if_neg (by omega)]
        · rw [if_pos e1, if_neg (by omega), neg_neg']
    · cases he
  · unfold stepR at he
    split at he
    · split at he
      · cases he; exact Bd6.z _ (by omega)
      · obtain ⟨p, hp, he⟩ := Option.map_eq_some_iff.1 he
        have h2 := want_bd (pr_one h (List.mem_of_find?_eq_some hp)).1
        simp only [Prod.mk.injEq] at he
        rw [← he.2]
        split
        · exact h2
        · exact h2.neg
    · cases he
theorem p_rise {s : Sc} (h : PsOk s) : ∀ {j k : Nat},j < k → k < s.pairs.length → ltP (gp s.pairs j) (gp s.pairs k) := by
  intro j k
  induction k with
  | zero => intro h1; omega
  | succ k ih =>
    intro h1 h2
    have h4 := h.rise (k + 1) (by omega) h2
    rw [Nat.add_sub_cancel] at h4
    by_cases e : j = k
    · subst e; exact h4
    · have h3 := ih (by omega) (by omega)
      unfold ltP at *
      omega
theorem p_uniq {s : Sc} (h : PsOk s) {p q : Pr} (hp : p ∈ s.pairs) (hq : q ∈ s.pairs) (h1 : p.a = q.a) (h2 : p.b = q.b) : p = q := by
  obtain ⟨i, i1, rfl⟩ := mem_gp hp
  obtain ⟨j, j1, rfl⟩ := mem_gp hq
  rcases Nat.lt_trichotomy i j with e | e | e
  · have := p_rise h e j1; unfold ltP at this; omega
  · subst e; rfl
  · have := p_rise h e i1; unfold ltP at this; omega
structure Jo where
  a : Nat
  b : Nat
  k : Int
  v : P6
def tiesJ (s : Sc) (m : Nat) : List Jo := (List.range m).filterMap fun n => (befN s n).map fun b => ⟨b, n, 1, z6⟩
def pairsJ (l : List Pr) : List Jo := (l.filter fun p => decide (p.bound = 0)).map fun p => ⟨p.a.toNat,p.b.toNat,2,p.want⟩
def allJ (s : Sc) : List Jo := tiesJ s s.notes.length ++ pairsJ s.pairs
def joT (a : Nat) (j : Jo) : Option Ro := if j.a = a then some (j.b,j.k,j.v) else if j.b = a then some (j.a,j.k,j.v.neg) else none
def joR (J : List Jo) (a : Nat) : List Ro := J.filterMap (joT a)
theorem joR_snoc (J : List Jo) (j : Jo) (a : Nat) : joR (J ++ [j]) a = match joT a j with | some r => joR J a ++ [r] | none => joR J a := by
  unfold joR
  rw [List.filterMap_append, List.filterMap_cons]
  cases joT a j <;> simp
theorem joT_some {a : Nat} {j : Jo} {r : Ro} (h : joT a j = some r) : j.a = a ∧ r = (j.b,j.k,j.v) ∨ j.b = a ∧ r = (j.a,j.k,j.v.neg) := by
  unfold joT at h
  split at h
  · cases h; exact .inl ⟨by assumption, rfl⟩
  · split at h
    · cases h; exact .inr ⟨by assumption, rfl⟩
    · cases h
theorem tie_mem {s : Sc} {m : Nat} {j : Jo} : j ∈ tiesJ s m ↔ j.b < m ∧ befN s j.b = some j.a ∧ j.k = 1 ∧ j.v = z6 := by
  unfold tiesJ
  simp only [List.mem_filterMap, List.mem_range, Option.map_eq_some_iff]
  constructor
  · rintro ⟨n, h1, b, h2, rfl⟩; exact ⟨h1, h2, rfl, rfl⟩
  · rintro ⟨h1, h2, h3, h4⟩; exact ⟨j.b, h1, j.a, h2, by cases j; simp only [] at h3 h4; rw [h3, h4]⟩
theorem pair_mem {l : List Pr} {j : Jo} : j ∈ pairsJ l ↔ ∃ p ∈ l,p.bound = 0 ∧ j = ⟨p.a.toNat,p.b.toNat,2,p.want⟩ := by
  unfold pairsJ
  simp only [List.mem_map, List.mem_filter, decide_eq_true_eq, and_assoc]
  exact ⟨fun ⟨p, h1, h2, h3⟩ => ⟨p, h1, h2, h3.symm⟩, fun ⟨p, h1, h2, h3⟩ => ⟨p, h1, h2, h3.symm⟩⟩
theorem jo_v {s : Sc} (h : ScOk s) {j : Jo} (hj : j ∈ allJ s) : j.a < j.b ∧ j.b < s.notes.length ∧ (j ∈ tiesJ s s.notes.length ∧ (gn s.notes j.a).v = (gn s.notes j.b).v ∨ j ∈ pairsJ s.pairs ∧ (gn s.notes j.a).v ≠ (gn s.notes j.b).v) := by
  rcases List.mem_append.1 hj with hj | hj
  · obtain ⟨h1, h2, _⟩ := tie_mem.1 hj
    have h3 := befN_some h h1 h2
    exact ⟨h3.1, h1, .inl ⟨hj, h3.2.1⟩⟩
  · obtain ⟨p, h1, h2, rfl⟩ := pair_mem.1 hj
    have h3 := pr_one h h1
    have h4 := h3.1
    unfold PrB at h4
    exact ⟨by simp only []; omega, by simp only []; omega, .inr ⟨hj, h3.2.1⟩⟩
theorem joR_mem {s : Sc} (h : ScOk s) {a : Nat} {r : Ro} : r ∈ joR (allJ s) a ↔ stepR s a r.1 = some r.2 := by
  unfold joR
  rw [List.mem_filterMap]
  constructor
  · rintro ⟨j, hj, hr⟩
    obtain ⟨h1, h2, h3⟩ := jo_v h hj
    unfold stepR
    rcases List.mem_append.1 hj with hj | hj
    · obtain ⟨t1, t2, t3, t4⟩ := tie_mem.1 hj
      rcases joT_some hr with ⟨e, rfl⟩ | ⟨e, rfl⟩
      · rw [if_pos ⟨by omega, by simp only []; omega⟩, if_pos (by simp [tieB, ← e, t2]), t3, t4]
      · rw [if_pos ⟨by omega, by simp only []; omega⟩, if_pos (by simp [tieB, ← e, t2]), t3, t4]; rfl
    · obtain ⟨p, p1, p2, rfl⟩ := pair_mem.1 hj
      have p3 := pr_one h p1
      have p4 := p3.1
      unfold PrB at p4
      have hvv : (gn s.notes p.a.toNat).v ≠ (gn s.notes p.b.toNat).v := p3.2.1
      have hnt : tieB s p.a.toNat p.b.toNat = false := by
        unfold tieB
        rw [Bool.or_eq_false_iff]
        refine ⟨decide_eq_false fun e => ?_, decide_eq_false fun e => ?_⟩
        · exact hvv (befN_some h (by omega) e).2.1.symm
        · exact hvv (befN_some h (by omega) e).2.1
      have hfind : s.pairs.find? (pairB p.a.toNat p.b.toNat) = some p := by
        cases hf : s.pairs.find? (pairB p.a.toNat p.b.toNat) with
        | none =>
          have := List.find?_eq_none.1 hf p p1
          exact absurd (pairB_iff.2 ⟨p2, .inl ⟨by omega, by omega⟩⟩) this
        | some q =>
          have q1 := pairB_iff.1 (List.find?_some hf)
          have q2 := List.mem_of_find?_eq_some hf
          have q3 := (pr_one h q2).1
          unfold PrB at q3
          rw [p_uniq h.ps q2 p1 (by omega) (by omega)]
      rcases joT_some hr with ⟨e, rfl⟩ | ⟨e, rfl⟩
      · simp only [] at e ⊢
        subst e
        rw [if_pos ⟨by omega, by omega⟩, if_neg (by rw [hnt]; simp), hfind]
        simp only [Option.map_some]
        rw [if_pos (by omega)]
      · simp only [] at e ⊢
        subst e
        rw [if_pos ⟨by omega, by omega⟩, tieB_comm, if_neg (by rw [hnt]; simp), pairB_comm, hfind]
        simp only [Option.map_some]
        rw [if_neg (by omega)]
  · intro hr
    obtain ⟨b, k, v⟩ := r
    unfold stepR at hr
    simp only [] at hr
    split at hr
    · rename_i hl
      split at hr
      · rename_i ht
        cases hr
        unfold tieB at ht
        rw [Bool.or_eq_true, decide_eq_true_eq, decide_eq_true_eq] at ht
        rcases ht with ht | ht
        · refine ⟨⟨b, a, 1, z6⟩, List.mem_append_left _ (tie_mem.2 ⟨hl.1, ht, rfl, rfl⟩), ?_⟩
          have := (befN_some h hl.1 ht).1
          unfold joT
          rw [if_neg (by simp only []; omega), if_pos rfl]; rfl
        · refine ⟨⟨a, b, 1, z6⟩, List.mem_append_left _ (tie_mem.2 ⟨hl.2, ht, rfl, rfl⟩), ?_⟩
          unfold joT
          rw [if_pos rfl]
      · obtain ⟨p, hp, he⟩ := Option.map_eq_some_iff.1 hr
        have h1 := pairB_iff.1 (List.find?_some hp)
        have h2 := List.mem_of_find?_eq_some hp
        have h3 := (pr_one h h2).1
        unfold PrB at h3
        simp only [Prod.mk.injEq] at he
        refine ⟨⟨p.a.toNat, p.b.toNat, 2, p.want⟩, List.mem_append_right _ (pair_mem.2 ⟨p, h2, h1.1, rfl⟩), ?_⟩
        rw [← he.1, ← he.2]
        unfold joT
        simp only []
        rcases h1.2 with ⟨e1, e2⟩ | ⟨e1, e2⟩
        · rw [if_pos (by omega), if_pos e1, show p.b.toNat = b by omega]
        · rw [if_neg (by omega), if_pos (by omega), if_neg (by omega), show p.a.toNat = b by omega]
    · cases hr
theorem joR_apart {s : Sc} (h : ScOk s) (a : Nat) : (joR (allJ s) a).Pairwise fun r t => r.1 ≠ t.1 := by
  unfold joR
  rw [List.pairwise_filterMap]
  unfold allJ
  rw [List.pairwise_append]
  refine ⟨?_, ?_, fun j hj j' hj' r hr t ht => ?_⟩
  · unfold tiesJ
    rw [List.pairwise_filterMap]
    refine List.Pairwise.imp_of_mem (R := fun x y => x < y) (fun {x y} hx hy hxy j hj j' hj' r hr t ht => ?_) List.pairwise_lt_range
    obtain ⟨b, hb, rfl⟩ := Option.map_eq_some_iff.1 hj
    obtain ⟨b', hb', rfl⟩ := Option.map_eq_some_iff.1 hj'
    have e1 := (befN_some h (List.mem_range.1 hx) hb).1
    have e2 := (befN_some h (List.mem_range.1 hy) hb').1
    rcases joT_some hr with ⟨e,rfl⟩ | ⟨e,rfl⟩ <;> rcases joT_some ht with ⟨e',rfl⟩ | ⟨e',rfl⟩ <;> simp only [] at e e' ⊢ <;> omega
  · have hpw : s.pairs.Pairwise ltP := by
      rw [List.pairwise_iff_getElem]
      intro i j hi hj hij
      have := p_rise h.ps hij hj
      simpa [gp, hi, hj] using this
    unfold pairsJ
    rw [List.pairwise_map]
    refine List.Pairwise.imp_of_mem (R := ltP) (fun {p q} hp hq hl r hr t ht => ?_) (hpw.sublist List.filter_sublist)
    have e1 := (pr_one h ((List.mem_filter.1 hp).1)).1
    have e2 := (pr_one h ((List.mem_filter.1 hq).1)).1
    unfold PrB at e1 e2
    unfold ltP at hl
    rcases joT_some hr with ⟨e,rfl⟩ | ⟨e,rfl⟩ <;> rcases joT_some ht with ⟨e',rfl⟩ | ⟨e',rfl⟩ <;> simp only [] at e e' ⊢ <;> omega
  · intro e
    obtain ⟨b1, b2, b3⟩ := tie_mem.1 hj
    have v1 := (befN_some h b1 b2).2.1
    obtain ⟨p, p1, p2, rfl⟩ := pair_mem.1 hj'
    have v2 : (gn s.notes p.a.toNat).v ≠ (gn s.notes p.b.toNat).v := (pr_one h p1).2.1
    rcases joT_some hr with ⟨e1,rfl⟩ | ⟨e1,rfl⟩ <;> rcases joT_some ht with ⟨e2,rfl⟩ | ⟨e2,rfl⟩ <;> simp only [] at e e1 e2
    · rw [e2, ← e] at v2; rw [e1] at v1; exact v2 v1
    · rw [e2, ← e] at v2; rw [e1] at v1; exact v2 v1.symm
    · rw [e2, ← e] at v2; rw [e1] at v1; exact v2 v1.symm
    · rw [e2, ← e] at v2; rw [e1] at v1; exact v2 v1
theorem row_uniq {s : Sc} (h : ScOk s) (a : Nat) {l : List Ro} (hp : l.Perm (joR (allJ s) a)) (hs : l.Pairwise fun r t => ¬ t.1 < r.1) : l = row (stepR s) s.notes.length a := by
  have hap : l.Pairwise fun r t => r.1 ≠ t.1 := (hp.pairwise_iff fun h e => h e.symm).2 (joR_apart h a)
  have hl : l.Pairwise fun r t => r.1 < t.1 := (hs.and hap).imp fun {r t} h => by omega
  have hm : ∀ r, r ∈ l ↔ r ∈ row (stepR s) s.notes.length a := fun r => by
    rw [hp.mem_iff, joR_mem h, row_mem]
    exact ⟨fun e => ⟨((stepR_ok h).rg _ _ _ e).2, e⟩, fun e => e.2⟩
  have hr := row_rise (stepR s) s.notes.length a
  generalize row (stepR s) s.notes.length a = m at hm hr
  clear hp hs hap
  induction l generalizing m with
  | nil =>
    cases m with
    | nil => rfl
    | cons r m => exact absurd ((hm r).2 (by simp)) (by simp)
  | cons r l ih =>
    cases m with
    | nil => exact absurd ((hm r).1 (by simp)) (by simp)
    | cons t m =>
      have hl' := List.pairwise_cons.1 hl
      have hr' := List.pairwise_cons.1 hr
      have e : r = t := by
        rcases List.mem_cons.1 ((hm r).1 (by simp)) with e | e
        · exact e
        · rcases List.mem_cons.1 ((hm t).2 (by simp)) with e' | e'
          · exact e'.symm
          · have := hr'.1 r e; have := hl'.1 t e'; omega
      subst e
      congr 1
      refine ih hl'.2 m (fun x => ?_) hr'.2
      constructor
      · intro hx
        rcases List.mem_cons.1 ((hm x).1 (List.mem_cons_of_mem _ hx)) with e | e
        · subst e; have := hl'.1 x hx; omega
        · exact e
      · intro hx
        rcases List.mem_cons.1 ((hm x).2 (List.mem_cons_of_mem _ hx)) with e | e
        · subst e; have := hr'.1 x hx; omega
        · exact e
end Go.Proofs.Ytmglcamgpgkblaa
namespace Go.Proofs.Ytmglcamgpgkblaa
structure Sp where
  fr : Int
  to : Int
  k : Int
  deriving DecidableEq
def sp0 : Sp := ⟨0, 0, 0⟩
instance : Inhabited Sp := ⟨sp0⟩
def gs (l : List Sp) (i : Nat) : Sp := l.getD i sp0
def prodW (E : Gf) (N : Nat) : Int → P6 → List Sp → Option P6
  | _, v, [] => some v
  | at_, v, x :: l => if x.fr = at_ ∧ 0 ≤ x.fr ∧ x.fr < N ∧ 0 ≤ x.to then
      match E x.fr.toNat x.to.toNat with
      | some (k, u) => if k = x.k then prodW E N x.to (v.add u) l else none
      | none => none
    else none
def lastTo (l : List Sp) : Int := (l.getLast?.getD sp0).to
def prodS (E : Gf) (N : Nat) (l : List Sp) : Option P6 := prodW E N (lastTo l) z6 l
def kindE (E : Gf) (a b : Nat) : Int := match E a b with | some e => e.1 | none => 0
def stps (E : Gf) : Nat → List Nat → List Sp
  | _, [] => []
  | a, b :: w => ⟨a, b, kindE E a b⟩ :: stps E b w
theorem stps_len (E : Gf) : ∀ (a : Nat) (w : List Nat), (stps E a w).length = w.length
  | _, [] => rfl
  | a, b :: w => by simp [stps, stps_len E b w]
theorem lastTo_stps {E : Gf} : ∀ {a : Nat} {w : List Nat}, w ≠ [] → lastTo (stps E a w) = (endV a w : Nat)
  | a, [b], _ => rfl
  | a, b :: c :: w, _ => by
    have := lastTo_stps (E := E) (a := b) (w := c :: w) (by simp)
    rw [endV_cons, ← this]
    simp [stps, lastTo, List.getLast?_cons]
theorem prodW_iff {N : Nat} {E : Gf} (hE : GOk N E) : ∀ {l : List Sp} {a : Nat} {v p : P6},prodW E N (a : Int) v l = some p ↔ ∃ w q,l = stps E a w ∧ wv E a w = some q ∧ p = v.add q
  | [], a, v, p => by
    simp only [prodW, Option.some.injEq]
    constructor
    · rintro rfl; exact ⟨[], z6, rfl, rfl, (add_z _).symm⟩
    · rintro ⟨w, q, h1, h2, rfl⟩
      cases w with
      | nil => simp only [wv, Option.some.injEq] at h2; subst h2; exact (add_z _).symm
      | cons b w => simp [stps] at h1
  | x :: l, a, v, p => by
    rw [prodW]
    constructor
    · intro h
      split at h
      · rename_i hc
        obtain ⟨c1, c2, c3, c4⟩ := hc
        have ea : x.fr.toNat = a := by omega
        obtain ⟨b, hb⟩ := Int.eq_ofNat_of_zero_le c4
        rw [ea, hb, Int.toNat_natCast] at h
        split at h
        · rename_i k u he
          split at h
          · rename_i hk
            obtain ⟨w, q, h1, h2, rfl⟩ := (prodW_iff hE).1 h
            refine ⟨b :: w, u.add q, ?_, wv_cons.2 ⟨k, u, q, he, h2, rfl⟩, add_as _ _ _⟩
            rw [stps, ← h1]
            congr 1
            cases x
            simp only [] at c1 hb hk
            subst c1; subst hb; subst hk
            unfold kindE; rw [he]
          · cases h
        · cases h
      · cases h
    · rintro ⟨w, q, h1, h2, rfl⟩
      cases w with
      | nil => simp [stps] at h1
      | cons b w =>
        rw [stps, List.cons.injEq] at h1
        obtain ⟨rfl, h1⟩ := h1
        obtain ⟨k, u, q2, h3, h4, rfl⟩ := wv_cons.1 h2
        have hr := hE.rg _ _ _ h3
        rw [if_pos ⟨rfl, by simp only []; omega, by simp only []; omega, by simp only []; omega⟩]
        simp only [Int.toNat_natCast, h3, kindE, if_true]
        exact (prodW_iff hE).2 ⟨w, q2, h1, h4, (add_as _ _ _).symm⟩
theorem prodS_iff {N : Nat} {E : Gf} (hE : GOk N E) {l : List Sp} (hl : l ≠ []) {p : P6} : prodS E N l = some p ↔ ∃ n w,l = stps E n w ∧ w ≠ [] ∧ endV n w = n ∧ wv E n w = some p := by
  unfold prodS
  constructor
  · intro h
    obtain ⟨a, ha⟩ : ∃ a : Nat, lastTo l = a := by
      cases l with
      | nil => exact absurd rfl hl
      | cons x l =>
        rw [prodW] at h
        split at h
        · rename_i hc; exact Int.eq_ofNat_of_zero_le (by omega)
        · cases h
    rw [ha] at h
    obtain ⟨w, q, rfl, h2, rfl⟩ := (prodW_iff hE).1 h
    have hw : w ≠ [] := by rintro rfl; exact hl rfl
    rw [lastTo_stps hw] at ha
    exact ⟨a, w, rfl, hw, by omega, by rw [z_add]; exact h2⟩
  · rintro ⟨n, w, rfl, h1, h2, h3⟩
    rw [lastTo_stps h1, h2]
    exact (prodW_iff hE).2 ⟨w, p, rfl, h3, (z_add _).symm⟩
theorem prodS_stps {N : Nat} {E : Gf} (hE : GOk N E) {n : Nat} {w : List Nat} {p : P6} (h1 : w ≠ []) (h2 : endV n w = n) (h3 : wv E n w = some p) : prodS E N (stps E n w) = some p :=
  (prodS_iff hE (by intro h;have := stps_len E n w;rw [h] at this;exact h1 (List.length_eq_zero_iff.1 this.symm))).2 ⟨n,w,rfl,h1,h2,h3⟩
def resR (E : Gf) (n : Nat) (w : List Nat) : List Sp × P6 × Int := if w = [] then ([],z6,4) else (stps E n w,(wv E n w).getD z6,0)
noncomputable def prR (s : Sc) (l : List Sp) : P6 × Int :=
  if tf (ScOk s) = true ∧ 1 ≤ l.length ∧ l.length ≤ 400 then match prodS (stepR s) s.notes.length l with | some p => (p,0) | none => (z6,1) else (z6,1)
noncomputable def shR (s : Sc) : List Sp × P6 × Int :=
  if tf (ScOk s) = true then resR (stepR s) (srt (stepR s) s.notes.length s.notes.length).1.1 (srt (stepR s) s.notes.length s.notes.length).1.2 else ([],z6,1)
noncomputable def thR (s : Sc) (n : Int) : List Sp × P6 × Int :=
  if tf (ScOk s) = true ∧ 0 ≤ n ∧ n < s.notes.length then resR (stepR s) n.toNat (thr (stepR s) s.notes.length n.toNat (2 * s.notes.length)) else ([],z6,1)
theorem res_ok {E : Gf} {n : Nat} {w : List Nat} (h : Opn E n w) : ∃ p,wv E n w = some p ∧ p ≠ z6 ∧ resR E n w = (stps E n w,p,0) := by
  obtain ⟨h0, p, h1, h2⟩ := h
  refine ⟨p, h1, h2, ?_⟩
  unfold resR
  rw [if_neg (Opn.ne ⟨h0, p, h1, h2⟩), h1]; rfl
theorem res_nil (E : Gf) (n : Nat) : resR E n [] = ([], z6, 4) := by unfold resR; rw [if_pos rfl]
end Go.Proofs.Ytmglcamgpgkblaa
namespace Go.Proofs.Ytmglcamgpgkblaa
theorem sh_cases (s : Sc) : (¬ ScOk s ∧ shR s = ([],z6,1)) ∨ (ScOk s ∧ (∀ n w,¬ Opn (stepR s) n w) ∧ shR s = ([],z6,4)) ∨
    (ScOk s ∧ ∃ n w p,Best (stepR s) s.notes.length n w ∧ wv (stepR s) n w = some p ∧ p ≠ z6 ∧ shR s = (stps (stepR s) n w,p,0)) := by
  by_cases hs : ScOk s
  · have hE := stepR_ok hs
    unfold shR
    rw [if_pos (tf_t hs)]
    rcases srt_best hE with ⟨h1, h2⟩ | h1
    · refine .inr (.inl ⟨hs, h2, ?_⟩)
      rw [h1, res_nil]
    · obtain ⟨p, h2, h3, h4⟩ := res_ok h1.o
      exact .inr (.inr ⟨hs, _, _, p, h1, h2, h3, h4⟩)
  · refine .inl ⟨hs, ?_⟩
    unfold shR
    rw [if_neg (by rw [tf_f hs]; simp)]
theorem th_cases (s : Sc) (n : Int) : (¬ (ScOk s ∧ 0 ≤ n ∧ n < s.notes.length) ∧ thR s n = ([], z6, 1)) ∨
    (ScOk s ∧ ∃ k : Nat, n = k ∧ k < s.notes.length ∧ ((∀ w, ¬ Opn (stepR s) k w) ∧ thR s n = ([], z6, 4) ∨
      ∃ w p,Opn (stepR s) k w ∧ w = thr (stepR s) s.notes.length k (2 * s.notes.length) ∧ w.length ≤ 2 * s.notes.length ∧ (∀ u,Opn (stepR s) k u → w.length ≤ u.length) ∧ wv (stepR s) k w = some p ∧ p ≠ z6 ∧ thR s n = (stps (stepR s) k w,p,0))) := by
  by_cases hc : ScOk s ∧ 0 ≤ n ∧ n < s.notes.length
  · obtain ⟨hs, h0, h1⟩ := hc
    have hE := stepR_ok hs
    obtain ⟨k, rfl⟩ := Int.eq_ofNat_of_zero_le h0
    refine .inr ⟨hs, k, rfl, by omega, ?_⟩
    unfold thR
    rw [if_pos ⟨tf_t hs, h0, h1⟩, Int.toNat_natCast]
    by_cases ht : thr (stepR s) s.notes.length k (2 * s.notes.length) = []
    · refine .inl ⟨fun w hw => (thr_two hE hw).1 ht, ?_⟩
      rw [ht, res_nil]
    · obtain ⟨t1, t2⟩ := thr_get hE ht
      obtain ⟨p, h2, h3, h4⟩ := res_ok t1
      exact .inr ⟨_, p, t1, rfl, t2, fun u hu => (thr_two hE hu).2, h2, h3, h4⟩
  · refine .inl ⟨hc, ?_⟩
    unfold thR
    rw [if_neg (by rw [tf_iff]; exact hc)]
end Go.Proofs.Ytmglcamgpgkblaa
namespace Go.Proofs.Ytmglcamgpgkblaa
def P6.mul (k : Int) (p : P6) : P6 := ⟨k * p.a, k * p.b, k * p.c, k * p.d, k * p.e, k * p.f⟩
end Go.Proofs.Ytmglcamgpgkblaa
namespace Go.Proofs.Ytmglcamgpgkblaa
theorem lexN_tri : ∀ {a b : List Nat}, a.length = b.length → ¬ lexN a b → ¬ lexN b a → a = b
  | [], [], _, _, _ => rfl
  | [], _ :: _, h, _, _ => by simp at h
  | _ :: _, [], h, _, _ => by simp at h
  | x :: a, y :: b, h, h1, h2 => by
    simp only [lexN, not_or, not_and] at h1 h2
    have e : x = y := by omega
    subst e
    rw [lexN_tri (by simpa using h) (h1.2 rfl) (h2.2 rfl)]
theorem thr_congr {N : Nat} {E F : Gf} (hE : GOk N E) (hF : GOk N F) {m : Nat} (h : ∀ n w,w.length ≤ m → (Opn E n w ↔ Opn F n w)) (n most : Nat) (hm : most ≤ m) : thr E N n most = thr F N n most := by
  cases h1 : lenO E N n most with
  | none =>
    have e1 := (thr_nil hE).2 h1
    rw [e1]
    cases h2 : lenO F N n most with
    | none => exact ((thr_nil hF).2 h2).symm
    | some l =>
      obtain ⟨t1, t2, t3, _⟩ := thr_some hF h2
      have := thr_none hE h1 _ ((h _ _ (by omega)).2 t1)
      omega
  | some l =>
    obtain ⟨t1, t2, t3, t4⟩ := thr_some hE h1
    cases h2 : lenO F N n most with
    | none =>
      have := thr_none hF h2 _ ((h _ _ (by omega)).1 t1)
      omega
    | some l2 =>
      obtain ⟨r1, r2, r3, r4⟩ := thr_some hF h2
      have q1 := t4 _ ((h _ _ (by omega)).2 r1)
      have q2 := r4 _ ((h _ _ (by omega)).1 t1)
      exact lexN_tri (by omega) (q2.2 (by omega)) (q1.2 (by omega))
theorem srt_congr {N : Nat} {E F : Gf} (hE : GOk N E) (hF : GOk N F) (h : ∀ n w,w.length ≤ N → (Opn E n w ↔ Opn F n w)) : ∀ k,srt E N k = srt F N k
  | 0 => rfl
  | k + 1 => by
    have hle := (srt_spec hE k).1
    rw [srt, srt, ← srt_congr hE hF h k, thr_congr hE hF h k _ hle]
theorem stps_congr {E F : Gf} (h : ∀ a b,kindE E a b = kindE F a b) : ∀ (n : Nat) (w : List Nat),stps E n w = stps F n w
  | _, [] => rfl
  | n, b :: w => by rw [stps, stps, h, stps_congr h b w]
structure SameC (s t : Sc) : Prop where
  so : ScOk s
  tk : ScOk t
  len : s.notes.length = t.notes.length
  kind : ∀ a b, kindE (stepR s) a b = kindE (stepR t) a b
  wv : ∀ n w p, w.length ≤ 400 → endV n w = n → (wv (stepR s) n w = some p ↔ Ytmglcamgpgkblaa.wv (stepR t) n w = some p)
theorem SameC.opn {s t : Sc} (h : SameC s t) : ∀ n w,w.length ≤ 400 → (Opn (stepR s) n w ↔ Opn (stepR t) n w) := fun n w hl => by
  unfold Opn
  constructor
  · rintro ⟨h1, p, h2, h3⟩; exact ⟨h1, p, (h.wv n w p hl h1).1 h2, h3⟩
  · rintro ⟨h1, p, h2, h3⟩; exact ⟨h1, p, (h.wv n w p hl h1).2 h2, h3⟩
theorem SameC.res {s t : Sc} (h : SameC s t) {n : Nat} {w : List Nat} (hl : w.length ≤ 400) (ho : w = [] ∨ Opn (stepR s) n w) : resR (stepR s) n w = resR (stepR t) n w := by
  rcases ho with rfl | ho
  · rw [res_nil, res_nil]
  · obtain ⟨p, h1, h2, h3⟩ := res_ok ho
    obtain ⟨q, k1, k2, k3⟩ := res_ok ((h.opn n w hl).1 ho)
    rw [h3, k3, stps_congr h.kind]
    have := (h.wv n w p hl ho.1).1 h1
    rw [k1] at this
    cases this
    rfl
theorem SameC.sh {s t : Sc} (h : SameC s t) : shR s = shR t := by
  have hE := stepR_ok h.so
  have hF := stepR_ok h.tk
  rw [← h.len] at hF
  have hN := h.so.sz
  unfold SzOk at hN
  unfold shR
  rw [if_pos (tf_t h.so), if_pos (tf_t h.tk), ← h.len, ← srt_congr hE hF (fun n w hw => h.opn n w (by omega))]
  refine h.res ?_ ?_
  · rcases srt_best hE with ⟨h1, _⟩ | h1
    · rw [h1]; simp
    · have := h1.le; omega
  · rcases srt_best hE with ⟨h1, _⟩ | h1
    · exact .inl h1
    · exact .inr h1.o
def cgI (x y : Int) : Prop := ∃ k : Int, x = y + k * 18446744073709551616
def cg6 (p q : P6) : Prop := cgI p.a q.a ∧ cgI p.b q.b ∧ cgI p.c q.c ∧ cgI p.d q.d ∧ cgI p.e q.e ∧ cgI p.f q.f
theorem cgI.add {x y u v : Int} (h : cgI x y) (k : cgI u v) : cgI (x + u) (y + v) := by
  obtain ⟨a, h⟩ := h; obtain ⟨b, k⟩ := k; exact ⟨a + b, by omega⟩
theorem cgI.neg {x y : Int} (h : cgI x y) : cgI (-x) (-y) := by obtain ⟨a, h⟩ := h; exact ⟨-a, by omega⟩
theorem cgI.rfl' (x : Int) : cgI x x := ⟨0, by omega⟩
theorem cg6.add {p q r t : P6} (h : cg6 p q) (k : cg6 r t) : cg6 (p.add r) (q.add t) := ⟨h.1.add k.1,h.2.1.add k.2.1,h.2.2.1.add k.2.2.1,h.2.2.2.1.add k.2.2.2.1,h.2.2.2.2.1.add k.2.2.2.2.1,h.2.2.2.2.2.add k.2.2.2.2.2⟩
theorem cg6.neg {p q : P6} (h : cg6 p q) : cg6 p.neg q.neg := ⟨h.1.neg,h.2.1.neg,h.2.2.1.neg,h.2.2.2.1.neg,h.2.2.2.2.1.neg,h.2.2.2.2.2.neg⟩
theorem cg6.refl (p : P6) : cg6 p p := ⟨cgI.rfl' _, cgI.rfl' _, cgI.rfl' _, cgI.rfl' _, cgI.rfl' _, cgI.rfl' _⟩
theorem cgI.eq {x y : Int} (h : cgI x y) (h1 : -6400 ≤ x ∧ x ≤ 6400) (h2 : -6400 ≤ y ∧ y ≤ 6400) : x = y := by
  obtain ⟨k, h⟩ := h
  have : k = 0 := by omega
  subst this; omega
theorem cg6.eq {p q : P6} (h : cg6 p q) (h1 : Bd6 6400 p) (h2 : Bd6 6400 q) : p = q := by
  unfold Bd6 at h1 h2
  exact P6.ext' (h.1.eq h1.1 h2.1) (h.2.1.eq h1.2.1 h2.2.1) (h.2.2.1.eq h1.2.2.1 h2.2.2.1) (h.2.2.2.1.eq h1.2.2.2.1 h2.2.2.2.1) (h.2.2.2.2.1.eq h1.2.2.2.2.1 h2.2.2.2.2.1) (h.2.2.2.2.2.eq h1.2.2.2.2.2 h2.2.2.2.2.2)
structure Mov (s t : Sc) (φ : Int → P6) : Prop where
  voices : t.voices = s.voices
  notes : t.notes = s.notes
  len : t.pairs.length = s.pairs.length
  one : ∀ i,i < s.pairs.length → (gp t.pairs i).a = (gp s.pairs i).a ∧ (gp t.pairs i).b = (gp s.pairs i).b ∧ (gp t.pairs i).bound = (gp s.pairs i).bound ∧
    cg6 (gp t.pairs i).want ((gp s.pairs i).want.add ((φ (gn s.notes (gp s.pairs i).b.toNat).v).add (φ (gn s.notes (gp s.pairs i).a.toNat).v).neg))
end Go.Proofs.Ytmglcamgpgkblaa
