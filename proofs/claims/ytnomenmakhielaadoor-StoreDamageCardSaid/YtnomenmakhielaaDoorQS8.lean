/-
  What the deeds on acceptors do to the memory.
-/
import Derived.Test.YtnomenmakhielaaDoorQGo
import Derived.Test.YtnomenmakhielaaDoorQS7
set_option linter.unusedSimpArgs false
set_option linter.unusedVariables false
namespace Go.Proofs.YtnomenmakhielaaDoor
open Go.Ab

/-- The memory, and what a record does to it. -/
structure Mem where
  A : List Acc
  L : List Tk
noncomputable def doR (m : Mem) (r : Rcd) : Mem × Int :=
  if r.k = 1 then (⟨(grow m.A r.s.toNat).set (r.s.toNat - 1) (prepR (gA' (grow m.A r.s.toNat) (r.s.toNat - 1)) 0 r.b).1, m.L⟩, (prepR (gA' (grow m.A r.s.toNat) (r.s.toNat - 1)) 0 r.b).2.2)
  else if r.k = 2 then (⟨(grow m.A r.s.toNat).set (r.s.toNat - 1) (accR (gA' (grow m.A r.s.toNat) (r.s.toNat - 1)) 0 r.b r.x).1, m.L⟩, (accR (gA' (grow m.A r.s.toNat) (r.s.toNat - 1)) 0 r.b r.x).2.2)
  else if (learnR m.L r.x).2 = 5 then (m, 0) else (⟨m.A, (learnR m.L r.x).1⟩, (learnR m.L r.x).2)

theorem ac_set (B : List Acc) (k : Nat) (x : Acc) (hk : k < B.length) {i j : Nat} (hi : i < B.length) (hj : j < 6) : updE (fun i j => acE B i j) k 0 (accL x) i j = acE (B.set k x) i j := by
  unfold updE acE gA'
  by_cases e : i = k
  · subst e
    rw [if_pos ⟨rfl, Nat.zero_le _, by simpa using hj⟩]
    simp [hi]
  · rw [if_neg (fun h => e h.1)]
    simp [List.getElem?_set, Ne.symm e]

/-- What a deed on an acceptor leaves, its own objects yet about. -/
def DeedQ (A' : List Acc) (L : List Tk) (e : Int) (v : AV) (σ' : List AObj) : Prop :=
  v = .imm (.int .i64 e) ∧ ∃ a c d E, σ' = [memO 4 2 A' L, .dead, tkO L, a, .arr 35 6 A'.length E, c, d] ∧ ∀ i j, i < A'.length → j < 6 → E i j = acE A' i j
theorem DeedQ.mk {B : List Acc} {L : List Tk} {e : Int} {x : Acc} {k : Nat} (hk : k < B.length) {a c d : AObj} : DeedQ (B.set k x) L e (.imm (.int .i64 e)) [.box 28 [.own 4 0 B.length none, .own 2 0 L.length none], .dead, tkO L, a, .arr 35 6 B.length (updE (acE B) k 0 (accL x)), c, d] :=
  ⟨rfl, a, c, d, _, by simp only [memO, List.length_set], fun i j hi hj => ac_set B k x hk (by simpa using hi) hj⟩
theorem DeedQ.fin {A' : List Acc} {L : List Tk} {e : Int} {f : FuncId} {args : List AV} {σ : List AObj} (hσ : σ.length = 3) (h : TC Tryd.prog f args σ (DeedQ A' L e)) :
    TC Tryd.prog f args σ (fun v σ' => v = .imm (.int .i64 e) ∧ σ' = [memO 3 4 A' L, .dead, .dead, acO A', tkO L]) :=
  h.weakM fun v σ' ⟨hv, a, c, d, E, hs, hE⟩ => by
    subst hv; subst hs
    refine ⟨[0, 1, 2, 4, 2], _, _, by rw [hσ]; rfl, rfl, by simp, WkV.imm rfl, ?_, rfl, rfl⟩
    exact ⟨WkO.box (WkVL.cons (WkV.own rfl (by simp)) (WkVL.cons (WkV.own rfl (by simp)) WkVL.nil)) rfl, fun h => h, WkO.dead, nofun, WkO.dead, nofun, WkO.arr fun i j hi hj => WkV.eqF (hE i j hi hj) (acE_free _ _ _), fun _ => rfl, WkO.arr fun i j _ _ => WkV.free (tkE_free _ _ _), fun _ => rfl, trivial⟩

set_option maxRecDepth 100000 in
set_option maxHeartbeats 1000000 in
theorem deed1_tc (A : List Acc) (L : List Tk) (r : Rcd) (hk : r.k = 1) (hs : 1 ≤ r.s ∧ r.s < 16) (hA : A.length ≤ 1000) :
    TC Tryd.prog 53 [.optr 0 0 0, rcA r] [memO 1 2 A L, acO A, tkO L] (fun v σ' => v = .imm (.int .i64 (doR ⟨A, L⟩ r).2) ∧ σ' = [memO 3 4 (doR ⟨A, L⟩ r).1.A (doR ⟨A, L⟩ r).1.L, .dead, .dead, acO (doR ⟨A, L⟩ r).1.A, tkO (doR ⟨A, L⟩ r).1.L]) := by
  obtain ⟨k, s, b, x⟩ := r
  simp only [] at hk hs
  subst hk
  obtain ⟨s, rfl⟩ : ∃ q : Nat, s = q := ⟨s.toNat, by omega⟩
  have hac := acceptor_turns A L s (by omega) (by omega) hA
  have hlen : s - 1 < (grow A s).length := by rw [grow_len]; omega
  refine DeedQ.fin rfl ?_
  (refine TC_of_T Γ_ok Tryd.func53 rfl (by kernel_rfl) ?_; simp only [Tryd.ntmps53, Tryd.results53, List.length_cons, List.length_nil, Nat.reduceSub, Nat.reduceAdd, List.replicate, List.cons_append, List.nil_append])
  (have ct1 := TurnsAt.mk [0, 1, 2] (hac); have cl1 := fun u1 u2 u3 u4 u5 u6 u7 u8 => prepare_e u1 u2 u3 u4 u5 u6 u7 u8; repeat' (first | with_reducible refine T_seq_drawT (id := 2) Γ_ok drawsAny pl53_2 (by kernel_rfl) (fun K hK => ?_) | with_reducible refine T_last_drawT (id := 2) Γ_ok drawsAny pl53_2 (by kernel_rfl) (fun K hK => ?_) | ((refine goR0 _ _ _ _ _ _ _ _ ?_ ?_ ?_ ?_ ?_ ?_ ?_ ?_) <;> (repeat intro hb) <;> first | exact True.intro | refine Lf.mk ?_)))
  all_goals exact DeedQ.mk hlen

set_option maxRecDepth 100000 in
set_option maxHeartbeats 1000000 in
theorem deed2_tc (A : List Acc) (L : List Tk) (r : Rcd) (hk : r.k = 2) (hs : 1 ≤ r.s ∧ r.s < 16) (hA : A.length ≤ 1000) :
    TC Tryd.prog 56 [.optr 0 0 0, rcA r] [memO 1 2 A L, acO A, tkO L] (fun v σ' => v = .imm (.int .i64 (doR ⟨A, L⟩ r).2) ∧ σ' = [memO 3 4 (doR ⟨A, L⟩ r).1.A (doR ⟨A, L⟩ r).1.L, .dead, .dead, acO (doR ⟨A, L⟩ r).1.A, tkO (doR ⟨A, L⟩ r).1.L]) := by
  obtain ⟨k, s, b, x⟩ := r
  simp only [] at hk hs
  subst hk
  obtain ⟨s, rfl⟩ : ∃ q : Nat, s = q := ⟨s.toNat, by omega⟩
  have hac := acceptor_turns A L s (by omega) (by omega) hA
  have hlen : s - 1 < (grow A s).length := by rw [grow_len]; omega
  refine DeedQ.fin rfl ?_
  (refine TC_of_T Γ_ok Tryd.func56 rfl (by kernel_rfl) ?_; simp only [Tryd.ntmps56, Tryd.results56, List.length_cons, List.length_nil, Nat.reduceSub, Nat.reduceAdd, List.replicate, List.cons_append, List.nil_append])
  (have ct1 := TurnsAt.mk [0, 1, 2] (hac); have cl1 := fun u1 u2 u3 u4 u5 u6 u7 u8 u9 u10 u11 u12 => accept_e u1 u2 u3 u4 u5 u6 u7 u8 u9 u10 u11 u12; repeat' (first | with_reducible refine T_seq_drawT (id := 2) Γ_ok drawsAny pl56_2 (by kernel_rfl) (fun K hK => ?_) | with_reducible refine T_last_drawT (id := 2) Γ_ok drawsAny pl56_2 (by kernel_rfl) (fun K hK => ?_) | ((refine goR0 _ _ _ _ _ _ _ _ ?_ ?_ ?_ ?_ ?_ ?_ ?_ ?_) <;> (repeat intro hb) <;> first | exact True.intro | refine Lf.mk ?_)))
  all_goals exact DeedQ.mk hlen

end Go.Proofs.YtnomenmakhielaaDoor
