/-
  Plain: up to two products of walks; the first shortest chain.
-/
import Derived.Test.YtmglcamgpgkblaaQP1
set_option linter.unusedSimpArgs false
set_option linter.unusedVariables false
namespace Go.Proofs.Ytmglcamgpgkblaa
abbrev Ro := Nat × Int × P6
def row (E : Gf) (N a : Nat) : List Ro := (List.range N).filterMap fun b => (E a b).map fun e => (b, e)
theorem row_mem {E : Gf} {N a : Nat} {r : Ro} : r ∈ row E N a ↔ r.1 < N ∧ E a r.1 = some r.2 := by
  unfold row
  simp only [List.mem_filterMap, List.mem_range, Option.map_eq_some_iff]
  constructor
  · rintro ⟨b, h1, e, h2, rfl⟩; exact ⟨h1, h2⟩
  · rintro ⟨h1, h2⟩; exact ⟨r.1, h1, r.2, h2, rfl⟩
theorem row_rise (E : Gf) (N a : Nat) : (row E N a).Pairwise fun r s => r.1 < s.1 := by
  unfold row
  rw [List.pairwise_filterMap]
  refine List.pairwise_lt_range.imp ?_
  intro x y h r hr s hs
  simp only [Option.map_eq_some_iff] at hr hs
  obtain ⟨_, _, rfl⟩ := hr
  obtain ⟨_, _, rfl⟩ := hs
  exact h
def putR (R : List P6) (v : P6) : List P6 := if R.length < 2 ∧ (R.length = 0 ∨ R.headD z6 ≠ v) then R ++ [v] else R
def opn (v : P6) (R : List P6) : Bool := R.any fun w => decide (v.add w ≠ z6)
structure RetOk (W : P6 → Prop) (R : List P6) : Prop where
  le : R.length ≤ 2
  nd : R.Nodup
  mem : ∀ p ∈ R, W p
  all : ∀ p, W p → p ∈ R ∨ R.length = 2
theorem RetOk.put {W : P6 → Prop} {R : List P6} (h : RetOk W R) (v : P6) : RetOk (fun p => W p ∨ p = v) (putR R v) := by
  unfold putR
  split
  · rename_i hc
    have h0 : v ∉ R := by
      intro hv
      rcases hc.2 with h1 | h1
      · rw [List.length_eq_zero_iff.1 h1] at hv; cases hv
      · match R, hc.1, h1, hv with
        | [x], _, h1, hv => simp at hv; subst hv; exact h1 rfl
    refine ⟨by simp; omega, ?_, fun p hp => ?_, fun p hp => ?_⟩
    · rw [List.nodup_append]
      exact ⟨h.nd, by simp, fun a ha c hc e => by simp at hc; subst hc; subst e; exact h0 ha⟩
    · rcases List.mem_append.1 hp with hp | hp
      · exact .inl (h.mem p hp)
      · exact .inr (by simpa using hp)
    · rcases hp with hp | rfl
      · rcases h.all p hp with h1 | h1
        · exact .inl (List.mem_append_left _ h1)
        · omega
      · exact .inl (by simp)
  · rename_i hc
    refine ⟨h.le, h.nd, fun p hp => .inl (h.mem p hp), fun p hp => ?_⟩
    rcases hp with hp | rfl
    · exact h.all p hp
    · have hle := h.le
      by_cases h2 : R.length = 2
      · exact .inr h2
      · refine .inl ?_
        match R, hc, h2, hle with
        | [], hc, _, _ => exact absurd ⟨by decide, .inl rfl⟩ hc
        | [x], hc, _, _ =>
          by_cases e : x = p
          · subst e; simp
          · exact absurd ⟨Nat.lt_succ_self 1, .inr e⟩ hc
        | [_, _], _, h2, _ => exact absurd rfl h2
theorem RetOk.congr {W V : P6 → Prop} {R : List P6} (h : RetOk W R) (e : ∀ p, W p ↔ V p) : RetOk V R :=
  ⟨h.le, h.nd, fun p hp => (e p).1 (h.mem p hp), fun p hp => h.all p ((e p).2 hp)⟩
def putA (v : P6) (R S : List P6) : List P6 := S.foldl (fun R w => putR R (v.add w)) R
theorem RetOk.puts {W V : P6 → Prop} {R S : List P6} (h : RetOk W R) (hs : RetOk V S) (v : P6) : RetOk (fun p => W p ∨ ∃ q,V q ∧ p = v.add q) (putA v R S) := by
  have hle := hs.le
  unfold putA
  match S, hs, hle with
  | [], hs, _ =>
    refine h.congr fun p => ⟨.inl, fun hp => ?_⟩
    rcases hp with hp | ⟨q, hq, _⟩
    · exact hp
    · rcases hs.all q hq with h1 | h1
      · cases h1
      · cases h1
  | [x], hs, _ =>
    refine (h.put (v.add x)).congr fun p => or_congr Iff.rfl ?_
    constructor
    · rintro rfl; exact ⟨x, hs.mem x (by simp), rfl⟩
    · rintro ⟨q, hq, rfl⟩
      rcases hs.all q hq with h1 | h1
      · simp at h1; subst h1; rfl
      · cases h1
  | [x, y], hs, _ =>
    have hn : x ≠ y := by have := hs.nd; simpa using this
    have h2 := (h.put (v.add x)).put (v.add y)
    refine ⟨h2.le, h2.nd, fun p hp => ?_, fun p hp => ?_⟩
    · rcases h2.mem p hp with (h3 | h3) | h3
      · exact .inl h3
      · exact .inr ⟨x, hs.mem x (by simp), h3⟩
      · exact .inr ⟨y, hs.mem y (by simp), h3⟩
    · rcases hp with hp | _
      · exact h2.all p (.inl (.inl hp))
      · refine .inr ?_
        rw [List.foldl_cons, List.foldl_cons, List.foldl_nil]
        have e1 := h2.all (v.add x) (.inl (.inr rfl))
        have e2 := h2.all (v.add y) (.inr rfl)
        have hle2 := h2.le
        generalize putR (putR R (v.add x)) (v.add y) = Q at e1 e2 hle2
        rcases e1 with e1 | e1
        · rcases e2 with e2 | e2
          · match Q, e1, e2, hle2 with
            | [z], e1, e2, _ =>
              simp at e1 e2
              exact absurd (add_cancel (e1.trans e2.symm)) hn
            | [_, _], _, _, _ => rfl
          · exact e2
        · exact e1
def rets (E : Gf) (N g : Nat) : Nat → Nat → List P6
  | 0, n => if n = g then [z6] else []
  | l + 1, n => (row E N n).foldl (fun R e => putA e.2.2 R (rets E N g l e.1)) []
def Way (E : Gf) (g l n : Nat) (p : P6) : Prop := ∃ w : List Nat, w.length = l ∧ endV n w = g ∧ wv E n w = some p
theorem rets_fold {E : Gf} {N g l : Nat} (ih : ∀ n,RetOk (Way E g l n) (rets E N g l n)) : ∀ (es : List Ro) (W : P6 → Prop) (R : List P6),RetOk W R → RetOk (fun p=>W p ∨ ∃ e ∈ es,∃ q,Way E g l e.1 q ∧ p = e.2.2.add q) (es.foldl (fun R e=>putA e.2.2 R (rets E N g l e.1)) R)
  | [], W, R, h => h.congr fun p => ⟨.inl, fun hp => by rcases hp with hp | ⟨e, he, _⟩; · exact hp
                                                        · cases he⟩
  | e :: es, W, R, h => by
    rw [List.foldl_cons]
    refine (rets_fold ih es _ _ (h.puts (ih e.1) e.2.2)).congr fun p => ?_
    simp only [List.mem_cons, exists_eq_or_imp, or_assoc]
theorem rets_ok {N : Nat} {E : Gf} (hE : GOk N E) (g : Nat) : ∀ l n, RetOk (Way E g l n) (rets E N g l n)
  | 0, n => by
    unfold rets
    by_cases h : n = g
    · subst h
      rw [if_pos rfl]
      refine ⟨by simp, by simp, fun p hp => ?_, fun p hp => ?_⟩
      · simp at hp; subst hp; exact ⟨[], rfl, rfl, rfl⟩
      · obtain ⟨w, h1, h2, h3⟩ := hp
        have : w = [] := List.length_eq_zero_iff.1 h1
        subst this
        simp only [wv, Option.some.injEq] at h3
        subst h3; exact .inl (by simp)
    · rw [if_neg h]
      refine ⟨by simp, by simp, fun p hp => (by cases hp), fun p hp => ?_⟩
      obtain ⟨w, h1, h2, h3⟩ := hp
      have : w = [] := List.length_eq_zero_iff.1 h1
      subst this
      exact absurd h2 h
  | l + 1, n => by
    unfold rets
    refine (rets_fold (fun n => rets_ok hE g l n) (row E N n) (fun _ => False) [] ⟨by simp,by simp,fun p hp => (by cases hp),fun p hp => hp.elim⟩).congr fun p => ?_
    rw [false_or]
    constructor
    · rintro ⟨⟨b, k, v⟩, h1, q, ⟨w, h2, h3, h4⟩, rfl⟩
      exact ⟨b :: w, by simp [h2], by rw [endV_cons]; exact h3, wv_cons.2 ⟨k, v, q, (row_mem.1 h1).2, h4, rfl⟩⟩
    · rintro ⟨w, h2, h3, h4⟩
      match w, h2, h3, h4 with
      | b :: w, h2, h3, h4 =>
        obtain ⟨k, v, q, h5, h6, rfl⟩ := wv_cons.1 h4
        exact ⟨(b,k,v),row_mem.2 ⟨(hE.rg _ _ _ h5).2,h5⟩,q,⟨w,by simpa using h2,by rw [endV_cons] at h3;exact h3,h6⟩,rfl⟩
theorem rets_bd {N : Nat} {E : Gf} (hE : GOk N E) {g l n : Nat} : ∀ p ∈ rets E N g l n, Bd6 (16 * l) p := fun p hp => by
  obtain ⟨w, h1, _, h2⟩ := (rets_ok hE g l n).mem p hp
  rw [← h1]; exact wv_bd hE h2
theorem opn_iff {W : P6 → Prop} {R : List P6} (h : RetOk W R) (v : P6) : opn v R = true ↔ ∃ p, W p ∧ v.add p ≠ z6 := by
  unfold opn
  rw [List.any_eq_true]
  constructor
  · rintro ⟨p, h1, h2⟩; exact ⟨p, h.mem p h1, by simpa using h2⟩
  · rintro ⟨p, h1, h2⟩
    rcases h.all p h1 with h3 | h3
    · exact ⟨p, h3, by simpa using h2⟩
    · have hnd := h.nd
      match R, h3, hnd with
      | [x, y], _, hnd =>
        by_cases e1 : v.add x = z6
        · by_cases e2 : v.add y = z6
          · have : x = y := add_cancel (e1.trans e2.symm)
            subst this; simp at hnd
          · exact ⟨y, by simp, by simpa using e2⟩
        · exact ⟨x, by simp, by simpa using e1⟩
def Wy (E : Gf) (g l n : Nat) (v : P6) (w : List Nat) : Prop := w.length = l ∧ endV n w = g ∧ ∃ p,wv E n w = some p ∧ v.add p ≠ z6
theorem opn_wy {N : Nat} {E : Gf} (hE : GOk N E) {g l n : Nat} {v : P6} : opn v (rets E N g l n) = true ↔ ∃ w,Wy E g l n v w := by
  rw [opn_iff (rets_ok hE g l n)]
  constructor
  · rintro ⟨p, ⟨w, h1, h2, h3⟩, h4⟩; exact ⟨w, h1, h2, p, h3, h4⟩
  · rintro ⟨w, h1, h2, p, h3, h4⟩; exact ⟨p, ⟨w, h1, h2, h3⟩, h4⟩
def pick (E : Gf) (N g l n : Nat) (v : P6) : Option Ro := (row E N n).find? fun e => opn (v.add e.2.2) (rets E N g l e.1)
def follow (E : Gf) (N g : Nat) : Nat → Nat → P6 → List Nat
  | 0, _, _ => []
  | l + 1, n, v => match pick E N g l n v with
    | none => []
    | some e => e.1 :: follow E N g l e.1 (v.add e.2.2)
def lexN : List Nat → List Nat → Prop
  | x :: a, y :: b => x < y ∨ x = y ∧ lexN a b
  | _, _ => False
theorem pick_some {N : Nat} {E : Gf} (hE : GOk N E) {g l n : Nat} {v : P6} (h : ∃ w,Wy E g (l + 1) n v w) : ∃ e,pick E N g l n v = some e := by
  obtain ⟨w, h1, h2, p, h3, h4⟩ := h
  match w, h1, h2, h3 with
  | b :: w, h1, h2, h3 =>
    obtain ⟨k, u, q, h5, h6, rfl⟩ := wv_cons.1 h3
    rw [endV_cons] at h2
    unfold pick
    cases hf : (row E N n).find? fun e => opn (v.add e.2.2) (rets E N g l e.1) with
    | some e => exact ⟨e, rfl⟩
    | none =>
      rw [List.find?_eq_none] at hf
      exact absurd ((opn_wy hE).2 ⟨w,by simpa using h1,h2,q,h6,by rw [add_as];exact h4⟩) (hf (b,k,u) (row_mem.2 ⟨(hE.rg _ _ _ h5).2,h5⟩))
theorem pick_mem {N : Nat} {E : Gf} (hE : GOk N E) {g l n : Nat} {v : P6} {e : Ro} (h : pick E N g l n v = some e) : E n e.1 = some e.2 ∧ e.1 < N ∧ ∃ w,Wy E g l e.1 (v.add e.2.2) w := by
  have h1 := List.mem_of_find?_eq_some h
  have h2 := List.find?_some h
  exact ⟨(row_mem.1 h1).2, (row_mem.1 h1).1, (opn_wy hE).1 h2⟩
theorem follow_wy {N : Nat} {E : Gf} (hE : GOk N E) {g : Nat} : ∀ {l n : Nat} {v : P6},(∃ w,Wy E g l n v w) → Wy E g l n v (follow E N g l n v)
  | 0, n, v, h => by
    obtain ⟨w, h1, h2⟩ := h
    have : w = [] := List.length_eq_zero_iff.1 h1
    subst this
    exact ⟨rfl, h2⟩
  | l + 1, n, v, h => by
    obtain ⟨⟨b, k, u⟩, he⟩ := pick_some hE h
    obtain ⟨h1, h2, h3⟩ := pick_mem hE he
    obtain ⟨i1, i2, p, i3, i4⟩ := follow_wy hE h3
    rw [follow, he]
    exact ⟨by simp only [List.length_cons,i1],by rw [endV_cons];exact i2,u.add p,wv_cons.2 ⟨k,u,p,h1,i3,rfl⟩,by rw [← add_as];exact i4⟩
theorem follow_first {N : Nat} {E : Gf} (hE : GOk N E) {g : Nat} : ∀ {l n : Nat} {v : P6} {w : List Nat},Wy E g l n v w → ¬ lexN w (follow E N g l n v)
  | 0, n, v, w, h => by
    have : w = [] := List.length_eq_zero_iff.1 h.1
    subst this
    exact fun h => h
  | l + 1, n, v, w, h => by
    obtain ⟨⟨b, k, u⟩, he⟩ := pick_some hE ⟨w, h⟩
    obtain ⟨h1, h2, h3⟩ := pick_mem hE he
    rw [follow, he]
    obtain ⟨g1, g2, p, g3, g4⟩ := h
    match w, g1, g2, g3 with
    | c :: w, g1, g2, g3 =>
      obtain ⟨k2, u2, q, h5, h6, rfl⟩ := wv_cons.1 g3
      rw [endV_cons] at g2
      have hw : Wy E g l c (v.add u2) w := ⟨by simpa using g1, g2, q, h6, by rw [add_as]; exact g4⟩
      have hm : (c, k2, u2) ∈ row E N n := row_mem.2 ⟨(hE.rg _ _ _ h5).2, h5⟩
      obtain ⟨h7, as, bs, h8, h9⟩ := List.find?_eq_some_iff_append.1 he
      have hr := row_rise E N n
      rw [h8] at hm hr
      rintro (hlt | ⟨rfl, hlt⟩)
      · simp only [] at hlt
        rcases List.mem_append.1 hm with hm | hm
        · have := h9 _ hm
          rw [(opn_wy hE).2 ⟨w, hw⟩] at this
          cases this
        · rcases List.mem_cons.1 hm with hm | hm
          · cases hm; omega
          · have := (List.pairwise_cons.1 (List.pairwise_append.1 hr).2.1).1 _ hm
            simp only [] at this; omega
      · simp only [] at h1 hlt
        rw [h5] at h1
        cases h1
        exact follow_first hE hw hlt
def lenO (E : Gf) (N n most : Nat) : Option Nat := (List.range (most + 1)).find? fun l => opn z6 (rets E N n l n)
def thr (E : Gf) (N n most : Nat) : List Nat := match lenO E N n most with
  | none => []
  | some l => follow E N n l n z6
theorem wy_opn {E : Gf} {n l : Nat} {w : List Nat} : Wy E n l n z6 w ↔ Opn E n w ∧ w.length = l := by
  unfold Wy Opn
  simp only [z_add]
  exact ⟨fun ⟨h1, h2, h3⟩ => ⟨⟨h2, h3⟩, h1⟩, fun ⟨⟨h2, h3⟩, h1⟩ => ⟨h1, h2, h3⟩⟩
theorem rfind {p : Nat → Bool} {m l : Nat} : (List.range m).find? p = some l ↔ l < m ∧ p l = true ∧ ∀ k,k < l → p k = false := by
  induction m with
  | zero => simp
  | succ m ih =>
    rw [List.range_succ, List.find?_append]
    cases hq : (List.range m).find? p with
    | some x =>
      rw [hq] at ih
      simp only [Option.some_or, Option.some.injEq]
      constructor
      · intro e; have := ih.1 (by rw [e]); exact ⟨by omega, this.2⟩
      · rintro ⟨h1, h2, h3⟩
        have q2 := List.find?_some hq
        have q1 := List.mem_range.1 (List.mem_of_find?_eq_some hq)
        rcases Nat.lt_trichotomy x l with h | h | h
        · rw [h3 x h] at q2; cases q2
        · exact h
        · exact Option.some.inj (ih.2 ⟨by omega, h2, h3⟩)
    | none =>
      have hn := List.find?_eq_none.1 hq
      simp only [Option.none_or, List.find?_cons, List.find?_nil]
      cases hp : p m with
      | true =>
        simp only [Option.some.injEq]
        constructor
        · rintro rfl
          exact ⟨by omega, hp, fun k hk => by have := hn k (List.mem_range.2 hk); simpa using this⟩
        · rintro ⟨h1, h2, h3⟩
          by_cases e : l < m
          · exact absurd h2 (hn l (List.mem_range.2 e))
          · omega
      | false =>
        constructor
        · intro h; cases h
        · rintro ⟨h1, h2, h3⟩
          by_cases e : l < m
          · exact absurd h2 (hn l (List.mem_range.2 e))
          · have : l = m := by omega
            subst this; rw [hp] at h2; cases h2
theorem lenO_mono {E : Gf} {N n m m2 l : Nat} (h : lenO E N n m = some l) (h2 : l ≤ m2) : lenO E N n m2 = some l := by
  unfold lenO at *
  rw [rfind] at *
  exact ⟨by omega, h.2⟩
theorem thr_none {N : Nat} {E : Gf} (hE : GOk N E) {n most : Nat} (h : lenO E N n most = none) : ∀ w,Opn E n w → most < w.length := fun w hw => by
  refine Nat.lt_of_not_le fun hl => ?_
  have := List.find?_eq_none.1 h w.length (List.mem_range.2 (by omega))
  exact this ((opn_wy hE).2 ⟨w, wy_opn.2 ⟨hw, rfl⟩⟩)
theorem thr_some {N : Nat} {E : Gf} (hE : GOk N E) {n most l : Nat} (h : lenO E N n most = some l) : Opn E n (thr E N n most) ∧ (thr E N n most).length = l ∧ l ≤ most ∧ ∀ w,Opn E n w → l ≤ w.length ∧ (w.length = l → ¬ lexN w (thr E N n most)) := by
  have e : thr E N n most = follow E N n l n z6 := by unfold thr; rw [h]
  rw [e]
  unfold lenO at h
  rw [rfind] at h
  obtain ⟨h1, h2, h3⟩ := h
  obtain ⟨k1, k2⟩ := wy_opn.1 (follow_wy hE ((opn_wy hE).1 h2))
  refine ⟨k1, k2, by omega, fun w hw => ⟨Nat.le_of_not_lt fun hl => ?_, fun hl => follow_first hE (wy_opn.2 ⟨hw, hl⟩)⟩⟩
  have := h3 _ hl
  rw [(opn_wy hE).2 ⟨w, wy_opn.2 ⟨hw, rfl⟩⟩] at this
  cases this
theorem thr_nil {N : Nat} {E : Gf} (hE : GOk N E) {n most : Nat} : thr E N n most = [] ↔ lenO E N n most = none := by
  constructor
  · intro h
    cases hl : lenO E N n most with
    | none => rfl
    | some l => exact absurd h (thr_some hE hl).1.ne
  · intro h; unfold thr; rw [h]
def srt (E : Gf) (N : Nat) : Nat → (Nat × List Nat) × Nat
  | 0 => ((0, []), N)
  | k + 1 => if thr E N k (srt E N k).2 = [] then srt E N k else ((k,thr E N k (srt E N k).2),(thr E N k (srt E N k).2).length - 1)
theorem srt_spec {N : Nat} {E : Gf} (hE : GOk N E) : ∀ k,(srt E N k).2 ≤ N ∧ (((srt E N k).1.2 = [] ∧ (srt E N k).2 = N ∧ ∀ n w,n < k → Opn E n w → N < w.length) ∨
    ((srt E N k).1.1 < k ∧ Opn E (srt E N k).1.1 (srt E N k).1.2 ∧ (srt E N k).1.2.length = (srt E N k).2 + 1 ∧ lenO E N (srt E N k).1.1 N = some (srt E N k).1.2.length ∧ (srt E N k).1.2 = thr E N (srt E N k).1.1 N ∧
      ∀ n w,n < k → Opn E n w → (srt E N k).1.2.length ≤ w.length ∧ (w.length = (srt E N k).1.2.length → (srt E N k).1.1 ≤ n ∧ (n = (srt E N k).1.1 → ¬ lexN w (srt E N k).1.2))))
  | 0 => ⟨Nat.le_refl _, .inl ⟨rfl, rfl, fun n w h => absurd h (Nat.not_lt_zero n)⟩⟩
  | k + 1 => by
    have ih := srt_spec hE k
    rw [srt]
    generalize srt E N k = s at ih
    obtain ⟨i1, i2⟩ := ih
    by_cases ht : thr E N k s.2 = []
    · rw [if_pos ht]
      have hn := thr_none hE ((thr_nil hE).1 ht)
      refine ⟨i1, ?_⟩
      rcases i2 with ⟨j1, j2, j3⟩ | ⟨j1, j2, j3, j4, j5, j6⟩
      · refine .inl ⟨j1, j2, fun n w h1 h2 => ?_⟩
        by_cases e : n = k
        · subst e; rw [← j2]; exact hn w h2
        · exact j3 n w (by omega) h2
      · refine .inr ⟨by omega, j2, j3, j4, j5, fun n w h1 h2 => ?_⟩
        by_cases e : n = k
        · subst e
          have := hn w h2
          exact ⟨by omega, fun _ => ⟨by omega, fun h => by omega⟩⟩
        · exact j6 n w (by omega) h2
    · rw [if_neg ht]
      cases hl : lenO E N k s.2 with
      | none => exact absurd ((thr_nil hE).2 hl) ht
      | some l =>
        obtain ⟨t1, t2, t3, t4⟩ := thr_some hE hl
        have hl0 : 0 < (thr E N k s.2).length := List.length_pos_iff.2 ht
        have hlN := lenO_mono hl (show l ≤ N by omega)
        have hthr : thr E N k s.2 = thr E N k N := by unfold thr; rw [hl, hlN]
        simp only []
        refine ⟨by omega, .inr ⟨by omega, t1, by omega, by rw [t2]; exact hlN, hthr, fun n w h1 h2 => ?_⟩⟩
        rw [t2]
        by_cases e : n = k
        · subst e
          exact ⟨(t4 w h2).1, fun h => ⟨Nat.le_refl _, fun _ => (t4 w h2).2 h⟩⟩
        · rcases i2 with ⟨j1, j2, j3⟩ | ⟨j1, j2, j3, j4, j5, j6⟩
          · have := j3 n w (by omega) h2
            exact ⟨by omega, fun h => by omega⟩
          · have := (j6 n w (by omega) h2).1
            exact ⟨by omega, fun h => by omega⟩
end Go.Proofs.Ytmglcamgpgkblaa
