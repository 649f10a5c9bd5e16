/-
  A loop of few rounds, walked round by round.
-/
import Derived.Test.YtdglbjjenihdlaaDoorWS8
set_option linter.unusedSimpArgs false
set_option linter.unusedVariables false
namespace Go.Ab
section
variable {P : Program} {Γ : Tab} {n : Nat} {rd : Rd}
def Rounds (P : Program) (n : Nat) {rd : Rd} (c : Code) (Q : Exit → St → Prop) : Nat → St → Prop
  | 0, _ => False
  | m + 1, st => T P n (rd := rd) c (thenQ (Rounds P n (rd := rd) c Q m) Q) st
theorem T_rounds (m : Nat) {c : Code} {Q : Exit → St → Prop} {st : St} (h : Rounds P n (rd := rd) c Q m st) : T P n (rd := rd) (.loop c) Q st :=
  T_loop (fun m st => Rounds P n (rd := rd) c Q m st) m h fun m st hm => by
    cases m with
    | zero => exact hm.elim
    | succ k =>
      refine T_mono hm fun e st' hq => ?_
      cases e <;> first | exact ⟨k, Nat.lt_succ_self k, hq⟩ | exact hq
theorem roundT_succ {c : Code} {Q : Exit → St → Prop} {m : Nat} {st : St} (h : T P n (rd := rd) c (thenQ (Rounds P n (rd := rd) c Q m) Q) st) : Rounds P n (rd := rd) c Q (m + 1) st := h
theorem stepS_scope {b : Frame} {a : Act} {k : List Item} {cs : List Frame} {w : World} {c : Code} : step P (lone (b.atR a (.code (.scope c) :: k)) cs w) = .next (lone (b.atR a (.code c :: .inScope c :: k)) cs w) :=
  step_lone_go (by simp [stepG, stepG.exec, Frame.atR])
theorem stepS_inScope {b : Frame} {a : Act} {k : List Item} {cs : List Frame} {w : World} {c : Code} : step P (lone (b.atR a (.inScope c :: k)) cs w) = .next (lone (b.atR a k) cs w) :=
  step_lone_go (by simp [stepG, stepG.exec, Frame.atR])
theorem wpIn_scopeS {F : Fence} {m : Nat} {Q : Exit → Act → World → Prop} {a : Act} {w : World} {c : Code} (h : c.wpIn F m P (fun e a w=>(∀ l,e ≠ .goto l) ∧ Q e a w) a w) : (Code.scope c).wpIn F m P Q a w := by
  intro b k cs hro hb hr
  have h0 : (lone (b.atR a (.code (.scope c) :: k)) cs w).fenced P F := fenced_calm hb hr rfl
  obtain ⟨e, a₁, w₁, hq, harr⟩ := h b (.inScope c :: k) cs hro hb hr
  cases e with
  | normal => exact ⟨.normal,a₁,w₁,hq.2,.head h0 stepS_scope (StepsIn.trans harr (.one (fenced_calm hb hr rfl) stepS_inScope))⟩
  | exit id =>
    have hx : exitTo id (.inScope c :: k) = exitTo id k := by simp [exitTo]
    exact ⟨.exit id, a₁, w₁, hq.2, fun k' hk => .head h0 stepS_scope (harr.1 k' (by rw [hx]; exact hk)),
      fun hr' hk => let ⟨k₁, h1, h2⟩ := harr.2 hr' (by rw [hx]; exact hk); ⟨k₁, h1, .head h0 stepS_scope h2⟩⟩
  | goto l => exact absurd rfl (hq.1 l)
  | ret => exact ⟨_, a₁, w₁, hq.2, .of_steps (.one h0 stepS_scope) harr⟩
  | panic ch => exact ⟨_, a₁, w₁, hq.2, .of_steps (.one h0 stepS_scope) harr⟩
  | outgrown => exact ⟨_, a₁, w₁, hq.2, .of_steps (.one h0 stepS_scope) harr⟩
def scopeQ (Q : Exit → St → Prop) : Exit → St → Prop
  | .goto _, _ => False
  | e, st => Q e st
theorem scopeQ_n {Q : Exit → St → Prop} {st : St} (h : Q .normal st) : scopeQ Q .normal st := h
theorem scopeQ_r {Q : Exit → St → Prop} {st : St} (h : Q .ret st) : scopeQ Q .ret st := h
theorem scopeQ_e {Q : Exit → St → Prop} {id : Nat} {st : St} (h : Q (.exit id) st) : scopeQ Q (.exit id) st := h
theorem T_scope {c : Code} {Q : Exit → St → Prop} {st : St} (h : T P n (rd := rd) c (scopeQ Q) st) : T P n (rd := rd) (.scope c) Q st := by
  intro ρ0 W0 a w hn hR
  refine wpIn_scopeS (wpIn_mono (h ρ0 W0 a w hn hR) fun e a' w' hq => ?_)
  obtain ⟨st', hk, hr⟩ := hq
  cases e
  case goto l => exact hk.elim
  all_goals exact ⟨fun l h => (by cases h), ⟨st', hk, hr⟩⟩
end
end Go.Ab
