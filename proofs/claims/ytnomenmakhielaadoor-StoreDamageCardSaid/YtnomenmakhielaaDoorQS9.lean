/-
  What the deed on the log does to the memory.
-/
import Derived.Test.YtnomenmakhielaaDoorQGo
import Derived.Test.YtnomenmakhielaaDoorQS8
set_option linter.unusedSimpArgs false
set_option linter.unusedVariables false
namespace Go.Proofs.YtnomenmakhielaaDoor
open Go.Ab

/-- What the deed on the log leaves: the log is as it was, or a new one. -/
def Deed3Q (A : List Acc) (L Lx L' : List Tk) (e : Int) (d : AObj) (v : AV) (σ' : List AObj) : Prop :=
  v = .imm (.int .i64 e) ∧ ((L' = L ∧ ∃ a, σ' = [memO 1 2 A L, acO A, tkO L, a, d]) ∨ (L' = Lx ∧ ∃ a, σ' = [memO 1 4 A L', acO A, tkO L, a, tkO L']))
theorem Deed3Q.fin {A : List Acc} {L Lx L' : List Tk} {e : Int} {d : AObj} {f : FuncId} {args : List AV} {σ : List AObj} (hσ : σ.length = 3) (h : TC Tryd.prog f args σ (Deed3Q A L Lx L' e d)) :
    TC Tryd.prog f args σ (fun v σ' => v = .imm (.int .i64 e) ∧ σ' = [memO 3 4 A L', .dead, .dead, acO A, tkO L']) :=
  h.weakM fun v σ' ⟨hv, hor⟩ => by
    subst hv
    rcases hor with ⟨rfl, a, rfl⟩ | ⟨_, a, rfl⟩
    · refine ⟨[0, 1, 2, 1, 2], _, _, by rw [hσ]; rfl, rfl, by simp, WkV.imm rfl, ?_, rfl, rfl⟩
      exact ⟨WkO.box (WkVL.cons (WkV.own rfl (by simp)) (WkVL.cons (WkV.own rfl (by simp)) WkVL.nil)) rfl, fun h => h, WkO.dead, nofun, WkO.dead, nofun, WkO.arr fun i j _ _ => WkV.free (acE_free _ _ _), fun _ => rfl, WkO.arr fun i j _ _ => WkV.free (tkE_free _ _ _), fun _ => rfl, trivial⟩
    · refine ⟨[0, 1, 2, 1, 4], _, _, by rw [hσ]; rfl, rfl, by simp, WkV.imm rfl, ?_, rfl, rfl⟩
      exact ⟨WkO.box (WkVL.cons (WkV.own rfl (by simp)) (WkVL.cons (WkV.own rfl (by simp)) WkVL.nil)) rfl, fun h => h, WkO.dead, nofun, WkO.dead, nofun, WkO.arr fun i j _ _ => WkV.free (acE_free _ _ _), fun _ => rfl, WkO.arr fun i j _ _ => WkV.free (tkE_free _ _ _), fun _ => rfl, trivial⟩

set_option maxRecDepth 100000 in
set_option maxHeartbeats 1000000 in
theorem deed3_tc (A : List Acc) (L : List Tk) (r : Rcd) (hk : r.k = 3) (hL : L.length ≤ 9223372036854775807) :
    TC Tryd.prog 58 [.optr 0 0 0, rcA r] [memO 1 2 A L, acO A, tkO L] (fun v σ' => v = .imm (.int .i64 (doR ⟨A, L⟩ r).2) ∧ σ' = [memO 3 4 (doR ⟨A, L⟩ r).1.A (doR ⟨A, L⟩ r).1.L, .dead, .dead, acO (doR ⟨A, L⟩ r).1.A, tkO (doR ⟨A, L⟩ r).1.L]) := by
  obtain ⟨k, s, b, ⟨s', c, n, d⟩⟩ := r
  simp only [] at hk
  subst hk
  have hle := learn_tc L ⟨s', c, n, d⟩ hL
  have e3 : doR ⟨A, L⟩ ⟨3, s, b, ⟨s', c, n, d⟩⟩ = if (learnR L ⟨s', c, n, d⟩).2 = 5 then (⟨A, L⟩, 0) else (⟨A, (learnR L ⟨s', c, n, d⟩).1⟩, (learnR L ⟨s', c, n, d⟩).2) := by unfold doR; rw [if_neg (by simp), if_neg (by simp)]
  rw [e3]
  generalize learnR L ⟨s', c, n, d⟩ = q at hle
  obtain ⟨L', e⟩ := q
  by_cases he : e = 5
  · subst he
    rw [if_pos rfl]
    refine Deed3Q.fin (L := L) (Lx := L') (d := tkO L') rfl ?_
    (refine TC_of_T Γ_ok Tryd.func58 rfl (by kernel_rfl) ?_; simp only [Tryd.ntmps58, Tryd.results58, List.length_cons, List.length_nil, Nat.reduceSub, Nat.reduceAdd, List.replicate, List.cons_append, List.nil_append])
    (have cm1 := hle; repeat' (first | with_reducible refine T_seq_drawT (id := 1) Γ_ok drawsAny pl58_1 (by kernel_rfl) (fun K hK => ?_) | with_reducible refine T_last_drawT (id := 1) Γ_ok drawsAny pl58_1 (by kernel_rfl) (fun K hK => ?_) | ((refine goR0 _ _ _ _ _ _ _ _ ?_ ?_ ?_ ?_ ?_ ?_ ?_ ?_) <;> (repeat intro hb) <;> first | exact True.intro | refine Lf.mk ?_)))
    all_goals first | exact ⟨rfl, .inl ⟨rfl, _, rfl⟩⟩ | exact ⟨rfl, .inr ⟨rfl, _, rfl⟩⟩
  · rw [if_neg he]
    refine Deed3Q.fin (L := L) (Lx := L') (d := tkO L') rfl ?_
    (refine TC_of_T Γ_ok Tryd.func58 rfl (by kernel_rfl) ?_; simp only [Tryd.ntmps58, Tryd.results58, List.length_cons, List.length_nil, Nat.reduceSub, Nat.reduceAdd, List.replicate, List.cons_append, List.nil_append])
    (have cm1 := hle; repeat' (first | with_reducible refine T_seq_drawT (id := 1) Γ_ok drawsAny pl58_1 (by kernel_rfl) (fun K hK => ?_) | with_reducible refine T_last_drawT (id := 1) Γ_ok drawsAny pl58_1 (by kernel_rfl) (fun K hK => ?_) | ((refine goR0 _ _ _ _ _ _ _ _ ?_ ?_ ?_ ?_ ?_ ?_ ?_ ?_) <;> (repeat intro hb) <;> first | exact True.intro | refine Lf.mk ?_)))
    all_goals first | exact ⟨rfl, .inl ⟨rfl, _, rfl⟩⟩ | exact ⟨rfl, .inr ⟨rfl, _, rfl⟩⟩
end Go.Proofs.YtnomenmakhielaaDoor
