/-
  Contracts of functions that only look and give back maps of their own: called beside objects of which no more is known than that they live. Long states of which a part is a list of unknown length.
-/
import Derived.Test.YtddcnafocohghaaDoorQA5
set_option linter.unusedSimpArgs false
set_option linter.unusedVariables false
namespace Go.Ab
section
variable {P : Program} {Γ : Tab} {n : Nat} {rd : Rd}
def noneO : AObj := .arr 0 1 0 fun _ _ => .top
def AObj.isLive : AObj → Prop := fun a => (∃ b ob, a = .raw b ob) ∨ a = noneO
theorem AObj.isLive.alive {a : AObj} (h : a.isLive) : a.alive = true := by
  rcases h with ⟨b, ob, rfl⟩ | rfl <;> rfl
theorem WkO.live {π : List Nat} {σ : List AObj} {a : AObj} (h : a.isLive) : WkO π σ a a := by
  rcases h with ⟨b, ob, rfl⟩ | rfl
  · exact WkO.raw
  · exact WkO.arr fun i j hi => by omega
/-! Lists of maps. -/
theorem WkOL.append {π : List Nat} {σ : List AObj} : ∀ {p q : List Nat} {s t : List AObj}, WkOL π σ p s → WkOL π σ q t → WkOL π σ (p ++ q) (s ++ t)
  | [], q, [], t, _, h => by simpa using h
  | _ :: p, q, _ :: s, t, h1, h2 => by
    simp only [WkOL, List.cons_append] at h1 ⊢
    exact ⟨h1.1, h1.2.1, WkOL.append h1.2.2 h2⟩
  | [], _, _ :: _, _, h, _ => by simp [WkOL] at h
  | _ :: _, _, [], _, h, _ => by simp [WkOL] at h
theorem WkOL.of_get {π : List Nat} {σ : List AObj} : ∀ {p : List Nat} {s : List AObj}, p.length = s.length → (∀ (i o : Nat) (a : AObj), p[i]? = some o → s[i]? = some a → WkO π σ (nthO σ o) a ∧ (a.alive = true → (nthO σ o).alive = true)) → WkOL π σ p s
  | [], [], _, _ => trivial
  | o :: p, a :: s, hl, h => by
    simp only [WkOL]
    obtain ⟨h1, h2⟩ := h 0 o a rfl rfl
    exact ⟨h1, h2, WkOL.of_get (by simpa using hl) fun i o a e1 e2 => h (i + 1) o a e1 e2⟩
  | [], _ :: _, hl, _ => by simp at hl
  | _ :: _, [], hl, _ => by simp at hl
theorem WkVL.of_get {π : List Nat} {σ : List AObj} : ∀ {vs us : List AV}, vs.length = us.length → (∀ (i : Nat) (v u : AV), vs[i]? = some v → us[i]? = some u → WkV π σ v u) → WkVL π σ vs us
  | [], [], _, _ => WkVL.nil
  | v :: vs, u :: us, hl, h => WkVL.cons (h 0 v u rfl rfl) (WkVL.of_get (by simpa using hl) fun i v u e1 e2 => h (i + 1) v u e1 e2)
  | [], _ :: _, hl, _ => by simp at hl
  | _ :: _, [], hl, _ => by simp at hl
end
end Go.Ab
