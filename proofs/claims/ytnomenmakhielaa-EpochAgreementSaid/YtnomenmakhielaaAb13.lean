/-
  A call, what follows kept out of sight.
-/
import Derived.Test.YtnomenmakhielaaAb12
namespace Go.Ab

section
variable {P : Program} {Γ : Tab} {n : Nat}

/-- A guarded call: either it answers v and leaves all alone, or its guard is told apart. -/
def gC (P : Program) (σ : List AObj) (N : AV → List AObj → Prop) (g : Bool) (ca : Option (FuncId × List AV × Prop)) : Prop :=
  (∃ v, (g = true → callGoal P σ (fun v' σ' => v' = v ∧ σ' = σ) ca) ∧ N (.gd g v) σ) ∨ ((g = true → callGoal P σ N ca) ∧ (g = false → N (.imm undef) σ))

def gCallN (P : Program) (σ : List AObj) (N : AV → List AObj → Prop) (ca : Option (FuncId × List AV × Prop)) : Option (Option Bool) → Prop
  | some none => callGoal P σ N ca
  | some (some g) => gC P σ N g ca
  | none => False

theorem callGoal_imp {σ : List AObj} {N M : AV → List AObj → Prop} {ca : Option (FuncId × List AV × Prop)} (h : callGoal P σ N ca) (hi : ∀ v σ', N v σ' → M v σ') : callGoal P σ M ca := by
  cases ca with
  | none => exact h.elim
  | some q =>
    obtain ⟨k, args, C⟩ := q
    obtain ⟨hC, Q0, h1, h2⟩ := h
    exact ⟨hC, Q0, h1, fun v σ' hq => hi v σ' (h2 v σ' hq)⟩

theorem TO_callN {ops rest : List Oper} {K : St → Prop} {o : Oper} {c : Call} {st : St} (hc : opCall o.op = some c)
    (h : ∀ N : AV → List AObj → Prop, (∀ v σ', TO P n ops rest K ⟨setE st.env o.dst v, σ'⟩ → N v σ') → gCallN P st.σ N (callA st.env c) (guardOf ops st.env o.guard)) : TO P n ops (o :: rest) K st := by
  have h' := h _ fun _ _ h => h
  refine TO_call hc ?_
  revert h'
  generalize guardOf ops st.env o.guard = q
  intro h'
  cases q with
  | none => exact h'
  | some q =>
    cases q with
    | none => exact h'
    | some g =>
      rcases h' with ⟨v, h1, h2⟩ | ⟨h1, h2⟩
      · exact gCall_pure v h1 h2
      · exact ⟨h1, h2⟩

theorem gC_look {σ : List AObj} {N : AV → List AObj → Prop} {g : Bool} {k : FuncId} {args args0 : List AV} {C : Prop} {v : AV}
    (h : g = true → C ∧ CvL σ args args0 ∧ Look P k args0 v) (next : N (.gd g v) σ) : gC P σ N g (some (k, args, C)) :=
  .inl ⟨v, fun hg => callGoal_look (h hg).1 (h hg).2.1 (h hg).2.2 ⟨rfl, rfl⟩, next⟩

theorem gC_true {σ : List AObj} {N : AV → List AObj → Prop} {ca : Option (FuncId × List AV × Prop)} (h : callGoal P σ N ca) : gC P σ N true ca := .inr ⟨fun _ => h, fun h => nomatch h⟩
theorem gC_false {σ : List AObj} {N : AV → List AObj → Prop} {ca : Option (FuncId × List AV × Prop)} (h : N (.imm undef) σ) : gC P σ N false ca := .inr ⟨(fun h => nomatch h), fun _ => h⟩

attribute [go_sem] gCallN
end
end Go.Ab
