/-
  Calls; states that say less; contracts of functions that only look at what they are handed.
-/
import Derived.Test.YtnomenmakhielaaAb10
namespace Go.Ab

section
variable {P : Program} {Γ : Tab} {n : Nat}

def callA (env : List AV) (c : Call) : Option (FuncId × List AV × Prop) :=
  match c.callee with
  | .value f =>
    match us (opd env f) with
    | .fn (.func k) first captured => some (k, first ++ (mapL (fun x => us (opd env x)) c.args.toList ++ captured), ug true (opd env f) ∧ oblig true env c.args.toList)
    | _ => none
  | _ => none

def opCall : Op → Option Call
  | .call c => some c
  | _ => none

/-- What is owed at a call: the conditions, the function's contract, and what follows. -/
def callGoal (P : Program) (σ : List AObj) (next : AV → List AObj → Prop) : Option (FuncId × List AV × Prop) → Prop
  | some (k, args, C) => C ∧ ∃ Q0, TC P k args σ Q0 ∧ ∀ v σ', Q0 v σ' → next v σ'
  | none => False

def gCall (g : Bool) (A B : Prop) : Prop := (g = true → A) ∧ (g = false → B)

def callGoalG (P : Program) (n : Nat) (ops rest : List Oper) (K : St → Prop) (dst : Option Tmp) (env : List AV) (σ : List AObj) (ca : Option (FuncId × List AV × Prop)) : Option (Option Bool) → Prop
  | some none => callGoal P σ (fun v σ' => TO P n ops rest K ⟨setE env dst v, σ'⟩) ca
  | some (some g) => gCall g (callGoal P σ (fun v σ' => TO P n ops rest K ⟨setE env dst v, σ'⟩) ca) (TO P n ops rest K ⟨setE env dst (.imm undef), σ⟩)
  | none => False

/-- A call that is carried out, whatever follows. -/
theorem call_do {o : Oper} {c : Call} {st : St} {N : AV → List AObj → Prop} (hc : opCall o.op = some c) (h : callGoal P st.σ N (callA st.env c)) {ρ0 : Rho} {W0 : World} {a : Act} {w : World} (hR : Rel ρ0 W0 st a w)
    {Q : Exit → Act → World → Prop} {K : Act → World → Prop} (hK : ∀ v σ', N v σ' → ∀ a' w', Rel ρ0 W0 ⟨setE st.env o.dst v, σ'⟩ a' w' → K a' w') : o.wp P a w K Q := by
  have hop : o.op = .call c := by
    cases hh : o.op <;> rw [hh] at hc <;> simp [opCall] at hc
    subst hc; rfl
  obtain ⟨ρ, hst, hdf, henv, hH⟩ := hR
  cases hca : callA st.env c with
  | none => rw [hca] at h; exact h.elim
  | some q =>
    obtain ⟨k, args, C⟩ := q
    rw [hca] at h
    obtain ⟨hC, Q0, hTC, hnext⟩ := h
    unfold callA at hca
    split at hca
    case h_2 => cases hca
    rename_i f hf
    split at hca
    case h_2 => cases hca
    rename_i k' first captured hfn
    simp only [Option.some.injEq, Prod.mk.injEq] at hca
    obtain ⟨rfl, rfl, rfl⟩ := hca
    have hfv := us_sound rfl hC.1 (opd_sound hH.glob henv f)
    rw [hfn] at hfv
    simp only [Rv] at hfv
    obtain ⟨fs, cs, hfe, h1, h2⟩ := hfv
    have hargs := mapL_sound (ρ := ρ) (w := w) (r := fun x => us (opd st.env x)) (e := a.eval) (xs := c.args.toList) fun x hx => us_sound rfl (oblig_mem hC.2 x hx) (opd_sound hH.glob henv x)
    have hall := RvL.append h1 (RvL.append hargs h2)
    have hcall := hTC.2 ρ w _ hall hH
    have hrun : (execOp a.eval o).run P w = (callFunc k' (fs ++ (c.args.toList.map a.eval ++ cs)).toArray).run P w := by
      unfold execOp
      rw [hop]
      simp only [resolve, hf, Sem.run_bind, hfe, Deferred.ofValue, Sem.run_pure, Result.andThen_ok, invoke]
      congr 2
      apply Array.ext'
      simp
    have fin : ∀ e w', (∃ (ρ' : Rho) (v : AV) (σ' : List AObj) (x : Value), e = Ending.returned x ∧ Q0 v σ' ∧ Rv ρ' w' v x ∧ RH ρ' w' σ' ∧ Step ρ w ρ' w') → ∃ x, e = .returned x ∧ K (a.put o.dst x) w' := by
      rintro e w' ⟨ρ', v, σ', x, rfl, hq0, hv, hH', hs'⟩
      exact ⟨x, rfl, hK _ _ (hnext v σ' hq0) _ _ ⟨ρ', hst.trans hs', by cases o.dst <;> exact hdf, put_sound (RvL.mono hs' _ henv) hv _, hH'⟩⟩
    unfold Oper.wp
    rw [hrun]
    rcases hcall with ⟨h1, h2⟩ | ⟨v, w', h1, h2⟩
    · rw [h1, Oper.upon_enter]
      refine h2.mono fun e w' hq => ?_
      obtain ⟨x, rfl, h3⟩ := fin e w' hq
      exact h3
    · rw [h1, Oper.upon_value]
      obtain ⟨x, hx, h3⟩ := fin _ w' h2
      simp only [Ending.returned.injEq] at hx
      subst hx
      exact h3

theorem TO_call {ops rest : List Oper} {K : St → Prop} {o : Oper} {c : Call} {st : St} (hc : opCall o.op = some c) (h : callGoalG P n ops rest K o.dst st.env st.σ (callA st.env c) (guardOf ops st.env o.guard)) : TO P n ops (o :: rest) K st := by
  intro ρ0 W0 a w Q hn hR hQ
  obtain ⟨ρ, hst, hdf, henv, hH⟩ := id hR
  refine wpList_step fun K' hK => ?_
  have doit : callGoal P st.σ (fun v σ' => TO P n ops rest K ⟨setE st.env o.dst v, σ'⟩) (callA st.env c) → o.wp P a w K' Q := fun h =>
    call_do hc h hR fun v σ' hto a' w' hr => hK _ _ (hto ρ0 W0 _ w' Q hn hr hQ)
  cases hg : guardOf ops st.env o.guard with
  | none => rw [hg] at h; exact h.elim
  | some q =>
    rw [hg] at h
    rw [guardOf_sound henv hg]
    cases q with
    | none =>
      simp only [Option.getD_none, if_true]
      exact doit h
    | some g =>
      simp only [Option.getD_some]
      cases g with
      | true => simp only [if_true]; exact doit (h.1 rfl)
      | false =>
        simp only [Bool.false_eq_true, if_false]
        exact hK _ _ (h.2 rfl ρ0 W0 _ w Q hn ⟨ρ, hst, by cases o.dst <;> exact hdf, put_sound henv (by simp [Rv]) _, hH⟩ hQ)

/-- A guarded call of a function that answers one value and leaves all alone. -/
theorem gCall_pure {ops rest : List Oper} {K : St → Prop} {dst : Option Tmp} {env : List AV} {σ : List AObj} {g : Bool} {ca : Option (FuncId × List AV × Prop)} (v : AV)
    (h : g = true → callGoal P σ (fun v' σ' => v' = v ∧ σ' = σ) ca) (next : TO P n ops rest K ⟨setE env dst (.gd g v), σ⟩) :
    gCall g (callGoal P σ (fun v σ' => TO P n ops rest K ⟨setE env dst v, σ'⟩) ca) (TO P n ops rest K ⟨setE env dst (.imm undef), σ⟩) := by
  have up : ∀ v0, (∀ ρ w x, Rv ρ w v0 x → Rv ρ w (.gd g v) x) → TO P n ops rest K ⟨setE env dst v0, σ⟩ := by
    intro v0 hv ρ0 W0 a w Q hn hR hQ
    obtain ⟨ρ, h1, h2, h3, h4⟩ := hR
    refine next ρ0 W0 a w Q hn ⟨ρ, h1, h2, ?_, h4⟩ hQ
    cases dst with
    | none => exact h3
    | some d =>
      simp only [setE, setN_eq] at h3 ⊢
      refine RvL.of_get (by have := h3.length; simpa using this) fun i u x hu hx => ?_
      have hl := h3.length
      rw [List.getElem?_set] at hu
      split at hu
      · rename_i hi
        split at hu
        · rename_i hlt
          simp only [Option.some.injEq] at hu
          subst hu
          obtain ⟨y, hy, hv'⟩ := RvL.get h3 (i := i) (v := v0) (by rw [List.getElem?_set, if_pos hi, if_pos hlt])
          have hy' : a.tmps.toList[i]? = some y := hy
          rw [hx] at hy'
          simp only [Option.some.injEq] at hy'
          subst hy'
          exact hv _ _ _ hv'
        · cases hu
      · rename_i hi
        obtain ⟨y, hy, hv'⟩ := RvL.get h3 (i := i) (v := u) (by rw [List.getElem?_set, if_neg hi]; exact hu)
        have hy' : a.tmps.toList[i]? = some y := hy
        rw [hx] at hy'
        simp only [Option.some.injEq] at hy'
        subst hy'
        exact hv'
  refine And.intro (fun hg => ?_) (fun hg => ?_)
  · cases ca with
    | none => exact (h hg).elim
    | some q =>
      obtain ⟨k, args, C⟩ := q
      obtain ⟨hC, Q0, h1, h2⟩ := h hg
      refine ⟨hC, Q0, h1, fun v' σ' hq => ?_⟩
      obtain ⟨rfl, rfl⟩ := h2 v' σ' hq
      exact up _ fun ρ w x hx => by simp only [Rv, hg, if_true]; exact hx
  · exact up _ fun ρ w x hx => by simp only [Rv] at hx ⊢; rw [hg]; simpa using hx

theorem gCall_true {A B : Prop} (h : A) : gCall true A B := ⟨fun _ => h, fun h => nomatch h⟩
theorem gCall_false {A B : Prop} (h : B) : gCall false A B := ⟨(fun h => nomatch h), fun _ => h⟩

/-! ### States that say less -/

/-- st says all that st2 says. -/
def Wk (n : Nat) (st st2 : St) : Prop := ∀ ρ0 W0 a w, ρ0.length = n → Rel ρ0 W0 st a w → Rel ρ0 W0 st2 a w

theorem Wk.refl (s : St) : Wk n s s := fun _ _ _ _ _ h => h
theorem Wk.trans {a b c : St} (h : Wk n a b) (k : Wk n b c) : Wk n a c := fun ρ0 W0 x w hn hR => k ρ0 W0 x w hn (h ρ0 W0 x w hn hR)

theorem T_wk {c : Code} {Q : Exit → St → Prop} {st st2 : St} (h : Wk n st st2) (k : T P n c Q st2) : T P n c Q st := T_weak h k

theorem TO_wk {ops l : List Oper} {K : St → Prop} {st st2 : St} (h : Wk n st st2) (k : TO P n ops l K st2) : TO P n ops l K st :=
  fun ρ0 W0 a w Q hn hR hQ => k ρ0 W0 a w Q hn (h ρ0 W0 a w hn hR) hQ

/-- Q up to saying less. -/
def up (n : Nat) (K : St → Prop) (st : St) : Prop := ∃ st2, Wk n st st2 ∧ K st2

theorem T_up {c : Code} {Q : Exit → St → Prop} {st : St} (h : up n (T P n c Q) st) : T P n c Q st := by
  obtain ⟨st2, h1, h2⟩ := h
  exact T_wk h1 h2

/-- The loop's rule up to saying less. -/
theorem T_loopW {c : Code} {Q : Exit → St → Prop} {st : St} (I : Nat → St → Prop) (m0 : Nat) (h0 : up n (I m0) st) (round : ∀ m st, I m st → T P n c (thenQ (fun st' => ∃ m', m' < m ∧ up n (I m') st') Q) st) : T P n (.loop c) Q st :=
  T_loop (fun m st => up n (I m) st) m0 h0 fun m _ ⟨st2, h1, h2⟩ => T_wk h1 (round m st2 h2)

/-- Cut up to saying less. -/
theorem T_cutW {x y : Code} {Q : Exit → St → Prop} {st : St} (M : St → Prop) (h : T P n x (thenQ (up n M) Q) st) (k : ∀ st', M st' → T P n y Q st') : T P n (.seq x y) Q st :=
  T_cut (up n M) h fun _ ⟨st2, h1, h2⟩ => T_wk h1 (k st2 h2)

/-- ρ seen through a list of old numbers. -/
def pull (π : List Nat) (ρ : Rho) : Rho := π.map fun o => (ρ[o]?).getD none

theorem pull_get {π : List Nat} {ρ : Rho} {o' o : Nat} {l : Loc} (h : π[o']? = some o) (hl : ρ[o]? = some (some l)) : (pull π ρ)[o']? = some (some l) := by
  simp [pull, h, hl]

theorem pull_inv {π : List Nat} {ρ : Rho} {o' : Nat} {l : Loc} (h : (pull π ρ)[o']? = some (some l)) : ∃ o, π[o']? = some o ∧ ρ[o]? = some (some l) := by
  simp only [pull, List.getElem?_map] at h
  cases hp : π[o']? with
  | none => simp [hp] at h
  | some o =>
    simp only [hp, Option.map_some, Option.some.injEq] at h
    refine ⟨o, rfl, ?_⟩
    cases hr : ρ[o]? with
    | none => simp [hr] at h
    | some q => simp [hr] at h; rw [h]

theorem pull_has {π : List Nat} {ρ : Rho} {b : Nat} (h : (pull π ρ).has b) : ρ.has b := by
  obtain ⟨o', l, hl, rfl⟩ := h
  obtain ⟨o, _, h2⟩ := pull_inv hl
  exact ⟨o, l, h2, rfl⟩

def WkV (π : List Nat) (σ : List AObj) (v v2 : AV) : Prop := ∀ ρ w x, RH ρ w σ → Rv ρ w v x → Rv (pull π ρ) w v2 x
def WkVL (π : List Nat) (σ : List AObj) (vs vs2 : List AV) : Prop := ∀ ρ w xs, RH ρ w σ → RvL ρ w vs xs → RvL (pull π ρ) w vs2 xs

mutual
def Free : AV → Prop
  | .top => True
  | .imm _ => True
  | .gd _ v => Free v
  | .rptr _ cell => ∀ j, Free (cell j)
  | .view _ _ elem => ∀ i j, Free (elem i j)
  | .pv _ _ _ elem => ∀ i j, Free (elem i j)
  | .optr _ _ _ => False
  | .own _ _ _ _ => False
  | .emp => True
  | .bsl _ _ _ _ _ => False
  | .map _ => False
  | .fn _ a b => FreeL a ∧ FreeL b
  | .agg vs => FreeL vs
  | .tup vs => FreeL vs
def FreeL : List AV → Prop
  | [] => True
  | v :: vs => Free v ∧ FreeL vs
end

mutual
theorem Free.sound {ρ ρ' : Rho} {w : World} (hh : ∀ b, ρ'.has b → ρ.has b) : (v : AV) → Free v → ∀ {x}, Rv ρ w v x → Rv ρ' w v x
  | .top, _, _, _ => trivial
  | .imm _, _, _, h => h
  | .gd g v, hf, x, h => by
    simp only [Free] at hf
    simp only [Rv] at h ⊢
    split
    · rename_i hg; rw [if_pos hg] at h; exact Free.sound hh v hf h
    · rename_i hg; rw [if_neg hg] at h; exact h
  | .rptr n cell, hf, x, h => by
    simp only [Free] at hf
    simp only [Rv] at h ⊢
    obtain ⟨ad, rfl, h1, h2, h3⟩ := h
    refine ⟨ad, rfl, h1, fun hb => h2 (hh _ hb), fun j hj => ?_⟩
    obtain ⟨y, a, b, c⟩ := h3 j hj
    exact ⟨y, a, b, Free.sound hh (cell j) (hf j) c⟩
  | .view len esz elem, hf, x, h => by
    simp only [Free] at hf
    simp only [Rv] at h ⊢
    obtain ⟨a, cap, rfl, h1, h2⟩ := h
    refine ⟨a, cap, rfl, h1, fun hp => ?_⟩
    obtain ⟨ad, rfl, q1, q2, q3⟩ := h2 hp
    refine ⟨ad, rfl, q1, fun hb => q2 (hh _ hb), fun i hi j hj => ?_⟩
    obtain ⟨y, a, b, c⟩ := q3 i hi j hj
    exact ⟨y, a, b, Free.sound hh (elem i j) (hf i j) c⟩
  | .pv len esz _ elem, hf, x, h => by
    simp only [Free] at hf
    simp only [Rv] at h ⊢
    obtain ⟨b, d, cap, c, ety, rfl, h1, h2, h3, h4⟩ := h
    refine ⟨b, d, cap, c, ety, rfl, h1, fun hb => h2 (hh _ hb), h3, fun i hi j hj => ?_⟩
    obtain ⟨y, a, b, c⟩ := h4 i hi j hj
    exact ⟨y, a, b, Free.sound hh (elem i j) (hf i j) c⟩
  | .optr _ _ _, hf, _, _ => by simp [Free] at hf
  | .own _ _ _ _, hf, _, _ => by simp [Free] at hf
  | .emp, _, _, h => by simpa only [Rv] using h
  | .bsl _ _ _ _ _, hf, _, _ => by simp [Free] at hf
  | .map _, hf, _, _ => by simp [Free] at hf
  | .fn f a b, hf, x, h => by
    simp only [Free] at hf
    simp only [Rv] at h ⊢
    obtain ⟨fs, cs, rfl, h1, h2⟩ := h
    exact ⟨fs, cs, rfl, FreeL.sound hh a hf.1 h1, FreeL.sound hh b hf.2 h2⟩
  | .agg vs, hf, x, h => by
    simp only [Free] at hf
    simp only [Rv] at h ⊢
    obtain ⟨cs, rfl, h1⟩ := h
    exact ⟨cs, rfl, FreeL.sound hh vs hf h1⟩
  | .tup vs, hf, x, h => by
    simp only [Free] at hf
    simp only [Rv] at h ⊢
    obtain ⟨cs, rfl, h1⟩ := h
    exact ⟨cs, rfl, FreeL.sound hh vs hf h1⟩
theorem FreeL.sound {ρ ρ' : Rho} {w : World} (hh : ∀ b, ρ'.has b → ρ.has b) : (vs : List AV) → FreeL vs → ∀ {xs}, RvL ρ w vs xs → RvL ρ' w vs xs
  | [], _, [], _ => by simp [RvL]
  | v :: vs, hf, x :: xs, h => by
    simp only [FreeL] at hf
    simp only [RvL] at h ⊢
    exact ⟨Free.sound hh v hf.1 h.1, FreeL.sound hh vs hf.2 h.2⟩
  | [], _, _ :: _, h => by simp [RvL] at h
  | _ :: _, _, [], h => by simp [RvL] at h
end

theorem WkV.top {π : List Nat} {σ : List AObj} {v : AV} : WkV π σ v .top := fun _ _ _ _ _ => trivial
theorem WkV.imm {π : List Nat} {σ : List AObj} {v v2 : Value} (h : v = v2) : WkV π σ (.imm v) (.imm v2) := fun _ _ x _ hx => by simp only [Rv] at hx ⊢; rw [hx, h]
theorem WkV.free {π : List Nat} {σ : List AObj} {v : AV} (h : Free v) : WkV π σ v v := fun _ _ _ _ hx => Free.sound (fun _ hb => pull_has hb) v h hx
theorem WkV.own {π : List Nat} {σ : List AObj} {o o' s k : Nat} {c c2 : Option Nat} (h : π[o']? = some o) (hc : ∀ q, c2 = some q → c = some q) : WkV π σ (.own o s k c) (.own o' s k c2) := fun ρ w x hH hx => by
  simp only [Rv] at hx ⊢
  rcases hx with ⟨l, cap, hl, rfl, h1, h2, h3⟩ | ⟨h1, h2, h3⟩
  · exact .inl ⟨l, cap, pull_get h hl, rfl, h1, h2, fun q hq => h3 q (hc q hq)⟩
  · exact .inr ⟨h1, h2, fun q hq => h3 q (hc q hq)⟩
theorem WkV.emp_own {π : List Nat} {σ : List AObj} {o' s : Nat} {c : Option Nat} (hc : c = none ∨ c = some 0) : WkV π σ .emp (.own o' s 0 c) := fun ρ w x hH hx => by
  simp only [Rv] at hx ⊢
  exact .inr ⟨trivial, hx, fun q hq => by rcases hc with rfl | rfl <;> simp at hq; exact hq.symm⟩
theorem WkV.emp_view {π : List Nat} {σ : List AObj} {esz : Nat} {e : Nat → Nat → AV} : WkV π σ .emp (.view 0 esz e) := fun ρ w x hH hx => by
  simp only [Rv] at hx ⊢
  obtain ⟨a, rfl⟩ := hx
  exact ⟨_, _, rfl, Nat.le_refl _, fun h => by omega⟩
/-- A nil slice is an empty one. -/
theorem WkV.nil_own {π : List Nat} {σ : List AObj} {o' s : Nat} {c : Option Nat} (hc : c = none ∨ c = some 0) : WkV π σ (.imm (.slice none 0 0)) (.own o' s 0 c) := fun ρ w x hH hx => by
  simp only [Rv] at hx ⊢
  exact .inr ⟨trivial, ⟨_, hx⟩, fun q hq => by rcases hc with rfl | rfl <;> simp at hq; exact hq.symm⟩
theorem WkV.nil_view {π : List Nat} {σ : List AObj} {esz : Nat} {elem : Nat → Nat → AV} : WkV π σ (.imm (.slice none 0 0)) (.view 0 esz elem) := fun ρ w x hH hx => by
  simp only [Rv] at hx ⊢
  exact ⟨_, _, hx, Nat.le_refl _, fun h => by omega⟩
theorem WkV.optr {π : List Nat} {σ : List AObj} {o o' i off : Nat} (h : π[o']? = some o) : WkV π σ (.optr o i off) (.optr o' i off) := fun ρ w x hH hx => by
  simp only [Rv] at hx ⊢
  obtain ⟨l, hl, rfl⟩ := hx
  exact ⟨l, pull_get h hl, rfl⟩
theorem WkV.bsl {π : List Nat} {σ : List AObj} {o o' off esz k c : Nat} (h : π[o']? = some o) : WkV π σ (.bsl o off esz k c) (.bsl o' off esz k c) := fun ρ w x hH hx => by
  simp only [Rv] at hx ⊢
  obtain ⟨hc, l, hl, rfl⟩ := hx
  exact ⟨hc, l, pull_get h hl, rfl⟩
theorem WkV.map {π : List Nat} {σ : List AObj} {o o' : Nat} (h : π[o']? = some o) : WkV π σ (.map o) (.map o') := fun ρ w x hH hx => by
  simp only [Rv] at hx ⊢
  obtain ⟨l, hl, rfl⟩ := hx
  exact ⟨l, pull_get h hl, rfl⟩
theorem WkVL.nil {π : List Nat} {σ : List AObj} : WkVL π σ [] [] := fun _ _ xs _ h => by cases xs <;> simp [RvL] at h ⊢
theorem WkVL.cons {π : List Nat} {σ : List AObj} {v v2 : AV} {vs vs2 : List AV} (h : WkV π σ v v2) (hs : WkVL π σ vs vs2) : WkVL π σ (v :: vs) (v2 :: vs2) := fun ρ w xs hH hx => by
  cases xs with
  | nil => simp [RvL] at hx
  | cons x xs => simp only [RvL] at hx ⊢; exact ⟨h _ _ _ hH hx.1, hs _ _ _ hH hx.2⟩
theorem WkV.agg {π : List Nat} {σ : List AObj} {vs vs2 : List AV} (h : WkVL π σ vs vs2) : WkV π σ (.agg vs) (.agg vs2) := fun ρ w x hH hx => by
  simp only [Rv] at hx ⊢
  obtain ⟨cs, rfl, hc⟩ := hx
  exact ⟨cs, rfl, h _ _ _ hH hc⟩
theorem WkV.tup {π : List Nat} {σ : List AObj} {vs vs2 : List AV} (h : WkVL π σ vs vs2) : WkV π σ (.tup vs) (.tup vs2) := fun ρ w x hH hx => by
  simp only [Rv] at hx ⊢
  obtain ⟨cs, rfl, hc⟩ := hx
  exact ⟨cs, rfl, h _ _ _ hH hc⟩
theorem WkV.fn {π : List Nat} {σ : List AObj} {f : Fn} {a a2 b b2 : List AV} (h : WkVL π σ a a2) (k : WkVL π σ b b2) : WkV π σ (.fn f a b) (.fn f a2 b2) := fun ρ w x hH hx => by
  simp only [Rv] at hx ⊢
  obtain ⟨fs, cs, rfl, h1, h2⟩ := hx
  exact ⟨fs, cs, rfl, h _ _ _ hH h1, k _ _ _ hH h2⟩
theorem WkV.view {π : List Nat} {σ : List AObj} {len esz : Nat} {e e2 : Nat → Nat → AV} (h : ∀ i j, i < len → j < esz → WkV π σ (e i j) (e2 i j)) : WkV π σ (.view len esz e) (.view len esz e2) := fun ρ w x hH hx => by
  simp only [Rv] at hx ⊢
  obtain ⟨a, cap, rfl, h1, h2⟩ := hx
  refine ⟨a, cap, rfl, h1, fun hp => ?_⟩
  obtain ⟨ad, rfl, q1, q2, q3⟩ := h2 hp
  refine ⟨ad, rfl, q1, fun hb => q2 (pull_has hb), fun i hi j hj => ?_⟩
  obtain ⟨y, a, b, c⟩ := q3 i hi j hj
  exact ⟨y, a, b, h i j hi hj _ _ _ hH c⟩

/-- An own slice that is given up: from then on it is only read. -/
theorem WkV.freeze {π : List Nat} {σ : List AObj} {o s k n esz : Nat} {ety : TypeId} {c : Option Nat} {e e2 : Nat → Nat → AV} (hob : nthO σ o = .arr ety esz n e) (hn : s + k ≤ n) (ho : ∀ q ∈ π, q ≠ o ∧ (nthO σ q).alive = true)
    (he : ∀ i j, i < k → j < esz → WkV π σ (e (s + i) j) (e2 i j)) : WkV π σ (.own o s k c) (.view k esz e2) := fun ρ w x hH hx => by
  simp only [Rv] at hx ⊢
  rcases hx with ⟨l, cap, hl, rfl, h1, h2, h3⟩ | ⟨rfl, ⟨a, rfl⟩, h3⟩
  · refine ⟨_, cap, rfl, h1, fun hp => ⟨_, rfl, hH.lt o l hl, fun hb => ?_, fun i hi j hj => ?_⟩⟩
    · obtain ⟨o', l', hl', hb'⟩ := hb
      obtain ⟨q, hq, hlq⟩ := pull_inv hl'
      obtain ⟨g1, g2⟩ := ho q (List.mem_of_getElem? hq)
      exact hH.apart q o l' l _ _ g1 (nthO_eq rfl g2) g2 (nthO_eq hob rfl) rfl hlq hl hb'
    · rcases hH.obj o _ (nthO_eq hob rfl) with ⟨l2, cs, hl2, q1, q2, _, q4, q5⟩ | ⟨hn', _⟩
      · rw [hl] at hl2
        simp only [Option.some.injEq] at hl2
        subst hl2
        obtain ⟨y, hy, hy1, hv⟩ := q5 (s + i) (by omega) j hj
        refine ⟨y, ?_, hy1, he i j hi hj _ _ _ hH hv⟩
        rw [cell_plain q2, ← hy, Nat.add_mul, q1]
        congr 1
        omega
      · rw [hl] at hn'; simp at hn'
  · exact ⟨_, _, rfl, Nat.le_refl _, fun hp => by omega⟩

/-- The same, its capacity kept in mind. -/
theorem WkV.freezeP {π : List Nat} {σ : List AObj} {o s k n esz : Nat} {ety : TypeId} {c : Option Nat} {e e2 : Nat → Nat → AV} (hob : nthO σ o = .arr ety esz n e) (hn : s + k ≤ n) (hpos : 0 < k ∨ ∃ c', c = some c' ∧ 0 < c') (ho : ∀ q ∈ π, q ≠ o ∧ (nthO σ q).alive = true)
    (he : ∀ i j, i < k → j < esz → WkV π σ (e (s + i) j) (e2 i j)) : WkV π σ (.own o s k c) (.pv k esz c e2) := fun ρ w x hH hx => by
  simp only [Rv] at hx ⊢
  rcases hx with ⟨l, cap, hl, rfl, h1, h2, h3⟩ | ⟨rfl, ⟨a, rfl⟩, h3⟩
  · rcases hH.obj o _ (nthO_eq hob rfl) with ⟨l2, cs, hl2, q1, q2, _, q4, q5⟩ | ⟨hn', _⟩
    · rw [hl] at hl2
      simp only [Option.some.injEq] at hl2
      subst hl2
      refine ⟨_, _, cap, cs, _, rfl, ⟨h1, h3⟩, fun hb => ?_, q2, fun i hi j hj => ?_⟩
      · obtain ⟨o', l', hl', hb'⟩ := hb
        obtain ⟨q, hq, hlq⟩ := pull_inv hl'
        obtain ⟨g1, g2⟩ := ho q (List.mem_of_getElem? hq)
        exact hH.apart q o l' l _ _ g1 (nthO_eq rfl g2) g2 (nthO_eq hob rfl) rfl hlq hl hb'
      · obtain ⟨y, hy, hy1, hv⟩ := q5 (s + i) (by omega) j hj
        refine ⟨y, ?_, hy1, he i j hi hj _ _ _ hH hv⟩
        rw [← hy, Nat.add_mul, q1]
        congr 1
        omega
    · rw [hl] at hn'; simp at hn'
  · rcases hpos with h0 | ⟨c', rfl, h0⟩
    · omega
    · have := h3 c' rfl; omega
theorem WkV.pv_view {π : List Nat} {σ : List AObj} {k esz : Nat} {c : Option Nat} {e e2 : Nat → Nat → AV} (h : WkV π σ (.view k esz e) (.view k esz e2)) : WkV π σ (.pv k esz c e) (.view k esz e2) := fun ρ w x hH hx => h ρ w x hH (Go.Ab.pv_view hx)

/-- An object under new numbers. -/
inductive WkO (π : List Nat) (σ : List AObj) : AObj → AObj → Prop
  | dead {a} : WkO π σ a .dead
  | box {ety cells cells2} (h : WkVL π σ cells cells2) (hl : cells.length = cells2.length) : WkO π σ (.box ety cells) (.box ety cells2)
  | arr {ety esz len e e2} (h : ∀ i j, i < len → j < esz → WkV π σ (e i j) (e2 i j)) : WkO π σ (.arr ety esz len e) (.arr ety esz len e2)
  | arrLe {ety esz len len2 e e2} (hle : len2 ≤ len) (h : ∀ i j, i < len2 → j < esz → WkV π σ (e i j) (e2 i j)) : WkO π σ (.arr ety esz len e) (.arr ety esz len2 e2)
  | mp {sh es es2} (hk : es.map (·.1) = es2.map (·.1)) (h : WkVL π σ (es.map (·.2)) (es2.map (·.2))) : WkO π σ (.mp sh es) (.mp sh es2)

theorem WkO.sound {π : List Nat} {σ : List AObj} {a a2 : AObj} (h : WkO π σ a a2) {ρ : Rho} {w : World} (hH : RH ρ w σ) {o o' : Nat} (hp : π[o']? = some o) (ho : RO ρ w o a) : RO (pull π ρ) w o' a2 := by
  cases h with
  | dead => trivial
  | box h hl =>
    obtain ⟨l, c, hlo, h0, h1, h2, h3, h4, h5⟩ := ho
    exact ⟨l, c, pull_get hp hlo, h0, h1.trans hl, h2.trans hl, h3, h4, h _ _ _ hH h5⟩
  | arr h =>
    rcases ho with ⟨l, c, hl, he, hh, hc, hd, hr⟩ | ⟨hn, h0⟩
    · refine .inl ⟨l, c, pull_get hp hl, he, hh, hc, hd, fun i hi j hj => ?_⟩
      obtain ⟨y, a, b, c⟩ := hr i hi j hj
      exact ⟨y, a, b, h i j hi hj _ _ _ hH c⟩
    · exact .inr ⟨by simp [pull, hp, hn], h0⟩
  | @arrLe ety esz len len2 e e2 hle h =>
    rcases ho with ⟨l, c, hl, he, hh, hc, hd, hr⟩ | ⟨hn, h0⟩
    · have := Nat.mul_le_mul_right esz hle
      refine .inl ⟨l, c, pull_get hp hl, he, hh, hc, by omega, fun i hi j hj => ?_⟩
      obtain ⟨y, a, b, c⟩ := hr i (by omega) j hj
      exact ⟨y, a, b, h i j hi hj _ _ _ hH c⟩
    · exact .inr ⟨by simp [pull, hp, hn], by omega⟩
  | @mp sh es es2 hk h =>
    obtain ⟨l, a, clock, hl, hh, hb, hks, he, hv⟩ := ho
    refine ⟨l, a, clock, pull_get hp hl, hh, hb, fun e2 h2 => ?_, he.trans hk, h _ _ _ hH hv⟩
    have h3 : e2.1 ∈ es.map (·.1) := by rw [hk]; exact List.mem_map_of_mem h2
    obtain ⟨e1, h4, h5⟩ := List.mem_map.1 h3
    rw [← h5]; exact hks e1 h4

theorem WkO.mpE {π : List Nat} {σ : List AObj} {sh : KS} {es es2 : List (Value × AV)} (h : es = es2) (hf : FreeL (es.map (·.2))) : WkO π σ (.mp sh es) (.mp sh es2) := by
  subst h
  exact WkO.mp rfl fun ρ w xs _ hx => FreeL.sound (fun _ hb => pull_has hb) _ hf hx

def WkOL (π : List Nat) (σ : List AObj) : List Nat → List AObj → Prop
  | [], [] => True
  | o :: os, a :: as => WkO π σ (nthO σ o) a ∧ (a.alive = true → (nthO σ o).alive = true) ∧ WkOL π σ os as
  | _, _ => False

theorem WkOL.get {π : List Nat} {σ : List AObj} : ∀ {os : List Nat} {as : List AObj}, WkOL π σ os as → ∀ {i : Nat} {a : AObj}, as[i]? = some a → ∃ o, os[i]? = some o ∧ WkO π σ (nthO σ o) a ∧ (a.alive = true → (nthO σ o).alive = true)
  | [], [], _, i, a, h => by simp at h
  | o :: os, b :: as, h, 0, a, ha => by
    simp only [WkOL] at h
    simp at ha
    subst ha
    exact ⟨o, by simp, h.1, h.2.1⟩
  | o :: os, b :: as, h, i + 1, a, ha => by
    simp only [WkOL] at h
    simp only [List.getElem?_cons_succ] at ha ⊢
    exact WkOL.get h.2.2 ha
  | [], _ :: _, h, _, _, _ => by simp [WkOL] at h
  | _ :: _, [], h, _, _, _ => by simp [WkOL] at h

theorem WkOL.length {π : List Nat} {σ : List AObj} : ∀ {os : List Nat} {as : List AObj}, WkOL π σ os as → os.length = as.length
  | [], [], _ => rfl
  | _ :: _, _ :: _, h => by simp only [WkOL] at h; simp [WkOL.length h.2.2]
  | [], _ :: _, h => by simp [WkOL] at h
  | _ :: _, [], h => by simp [WkOL] at h

theorem RH.pullH (π : List Nat) {σ σ2 : List AObj} (hd : π.Nodup) (hb : ∀ o ∈ π, o < σ.length) (hσ : WkOL π σ π σ2) {ρ : Rho} {w : World} (h4 : RH ρ w σ) : RH (pull π ρ) w σ2 := by
  refine ⟨by simp [pull, hσ.length], fun o l hl => ?_, fun o' a' ha' => ?_, fun o o' l l' b b' hne hb1 hk1 hb2 hk2 r1 r2 => ?_, h4.glob.sub fun _ hb => pull_has hb⟩
  · obtain ⟨q, _, h⟩ := pull_inv hl
    exact h4.lt q l h
  · obtain ⟨o, ho, hw, _⟩ := WkOL.get hσ ha'
    have hlt : o < σ.length := hb o (List.mem_of_getElem? ho)
    have hso : σ[o]? = some (nthO σ o) := by
      have key : ∀ (l : List AObj) (i : Nat), i < l.length → l[i]? = some (nthO l i) := by
        intro l
        induction l with
        | nil => intro i hi; simp at hi
        | cons x xs ih => intro i hi; cases i with | zero => simp [nthO] | succ i => simpa [nthO] using ih i (by simpa using hi)
      exact key _ _ hlt
    exact hw.sound h4 ho (h4.obj o _ hso)
  · obtain ⟨q1, p1, s1⟩ := pull_inv r1
    obtain ⟨q2, p2, s2⟩ := pull_inv r2
    obtain ⟨o1, e1, _, a1⟩ := WkOL.get hσ hb1
    obtain ⟨o2, e2, _, a2⟩ := WkOL.get hσ hb2
    rw [p1] at e1
    rw [p2] at e2
    simp only [Option.some.injEq] at e1 e2
    subst e1; subst e2
    have hne' : q1 ≠ q2 := by
      intro e
      subst e
      have hi1 := (List.getElem?_eq_some_iff.1 p1)
      have hi2 := (List.getElem?_eq_some_iff.1 p2)
      obtain ⟨i1, g1⟩ := hi1
      obtain ⟨i2, g2⟩ := hi2
      exact hne (List.getElem_inj hd |>.1 (g1.trans g2.symm))
    exact h4.apart q1 q2 l l' _ _ hne' (nthO_eq rfl (a1 hk1)) (a1 hk1) (nthO_eq rfl (a2 hk2)) (a2 hk2) s1 s2

/-- The way to say less: new numbers π for the objects that are kept, the first n as they were. -/
theorem Wk.intro (π : List Nat) {st st2 : St} (hn : π.take n = List.range n) (hd : π.Nodup) (hb : ∀ o ∈ π, o < st.σ.length) (henv : WkVL π st.σ st.env st2.env) (hσ : WkOL π st.σ π st2.σ) : Wk n st st2 := by
  intro ρ0 W0 a w hlen hR
  obtain ⟨ρ, h1, h2, h3, h4⟩ := hR
  refine ⟨pull π ρ, ?_, h2, henv _ _ _ h4 h3, ?_⟩
  · refine ⟨h1.os, h1.tape, h1.output, h1.size, h1.same, ?_, fun b hb' => h1.own b (pull_has hb')⟩
    obtain ⟨t, ht⟩ := h1.pre
    have hle : n ≤ π.length := by
      have := congrArg List.length hn
      simp at this
      omega
    have e : (pull π ρ).take n = ρ0 := by
      rw [pull, ← List.map_take, hn]
      apply List.ext_getElem?
      intro i
      by_cases hi : i < n
      · have : ρ[i]? = ρ0[i]? := by rw [← ht, List.getElem?_append_left (by omega)]
        simp only [List.getElem?_map, List.getElem?_range hi, Option.map_some, this]
        rw [List.getElem?_eq_getElem (by omega)]
        rfl
      · rw [List.getElem?_eq_none (by simp; omega), List.getElem?_eq_none (by omega)]
    rw [← e]
    exact List.take_prefix _ _
  · exact RH.pullH π hd hb hσ h4
end
end Go.Ab
