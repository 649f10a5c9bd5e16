/-
  Acceptors: the contracts of isBallot, voted, isAcceptor, Prepare and Accept, and of the reference's Ballot, vote, Acceptor, Prepare and Accept.
-/
import Derived.Test.YtnomenmakhielaaDoorQGo
import Derived.Test.YtnomenmakhielaaDoorQS1
set_option linter.unusedSimpArgs false
set_option linter.unusedVariables false
namespace Go.Proofs.YtnomenmakhielaaDoor
open Go.Ab
instance : DecidableEq Tk := fun a b => by
  cases a; cases b
  rw [Tk.mk.injEq]
  infer_instance
abbrev tk0 : Tk := ⟨0, 0, 0, 0⟩
@[go_sem] theorem Tk.eta (x : Tk) : (⟨x.s, x.c, x.n, x.d⟩ : Tk) = x := rfl
/-- An acceptor: promised, voted, value. -/
structure Acc where
  p : Int
  v : Int
  x : Tk
structure Pro where
  d : Int
  b : Int
  v : Int
  x : Tk
structure Vot where
  d : Int
  b : Int
  x : Tk
@[go_sem, reducible] def accL (a : Acc) : List AV := [.imm (.int .i64 a.p), .imm (.int .i64 a.v), .imm (.int .i64 a.x.s), .imm (.int .i64 a.x.c), .imm (.int .i64 a.x.n), .imm (.int .i64 a.x.d)]
@[go_sem, reducible] def proL (a : Pro) : List AV := [.imm (.int .i64 a.d), .imm (.int .i64 a.b), .imm (.int .i64 a.v), .imm (.int .i64 a.x.s), .imm (.int .i64 a.x.c), .imm (.int .i64 a.x.n), .imm (.int .i64 a.x.d)]
@[go_sem, reducible] def votL (a : Vot) : List AV := [.imm (.int .i64 a.d), .imm (.int .i64 a.b), .imm (.int .i64 a.x.s), .imm (.int .i64 a.x.c), .imm (.int .i64 a.x.n), .imm (.int .i64 a.x.d)]
@[go_sem, reducible] def accA (a : Acc) : AV := .agg (accL a)
@[go_sem, reducible] def proA (a : Pro) : AV := .agg (proL a)
@[go_sem, reducible] def votA (a : Vot) : AV := .agg (votL a)

set_option maxRecDepth 100000 in
set_option maxHeartbeats 400000 in
theorem isBallot_tc (b : Int) : Look Tryd.prog 71 [.imm (.int .i64 b)] (.imm (.bool (decide (1 ≤ b) && decide (b ≤ 1000000)))) := by
  refine Look.mk trivial ?_
  (refine TC_of_T Γ_ok Tryd.func71 rfl (by kernel_rfl) ?_; simp only [Tryd.ntmps71, Tryd.results71, List.length_cons, List.length_nil, Nat.reduceSub, Nat.reduceAdd, List.replicate, List.cons_append, List.nil_append])
  (((refine goR0 _ _ _ _ _ _ _ _ ?_ ?_ ?_ ?_ ?_ ?_ ?_ ?_) <;> (repeat intro hb) <;> first | exact True.intro | refine Lf.mk ?_))

def votedB (v : Int) (t : Tk) : Bool := if v = 0 then decide (t = tk0) else takeB t.s t.c t.n t.d

set_option maxRecDepth 100000 in
set_option maxHeartbeats 400000 in
theorem voted_tc (v : Int) (t : Tk) : Look Tryd.prog 82 [.imm (.int .i64 v), tkA t] (.imm (.bool (votedB v t))) := by
  refine Look.mk trivial ?_
  (refine TC_of_T Γ_ok Tryd.func82 rfl (by kernel_rfl) ?_; simp only [Tryd.ntmps82, Tryd.results82, List.length_cons, List.length_nil, Nat.reduceSub, Nat.reduceAdd, List.replicate, List.cons_append, List.nil_append])
  (have cl1 := fun u1 u2 u3 u4 => take_tc u1 u2 u3 u4; ((refine goR0 _ _ _ _ _ _ _ _ ?_ ?_ ?_ ?_ ?_ ?_ ?_ ?_) <;> (repeat intro hb) <;> first | exact True.intro | refine Lf.mk ?_))
  · congr 2
    unfold votedB
    rw [if_pos hb, Bool.eq_iff_iff]
    simp [Tk.ext_iff', and_assoc]
  all_goals (first | grind [votedB, Tk.ext_iff'] | trace_state)

def Acc.ok (a : Acc) : Bool := decide (0 ≤ a.v ∧ a.v ≤ a.p ∧ a.p ≤ 1000000) && votedB a.v a.x

set_option maxRecDepth 100000 in
set_option maxHeartbeats 400000 in
theorem isAcceptor_tc (a : Acc) : Look Tryd.prog 70 [accA a] (.imm (.bool a.ok)) := by
  refine Look.mk trivial ?_
  (refine TC_of_T Γ_ok Tryd.func70 rfl (by kernel_rfl) ?_; simp only [Tryd.ntmps70, Tryd.results70, List.length_cons, List.length_nil, Nat.reduceSub, Nat.reduceAdd, List.replicate, List.cons_append, List.nil_append])
  (have cl1 := fun u1 u2 u3 u4 u5 => voted_tc u1 ⟨u2, u3, u4, u5⟩; ((refine goR0 _ _ _ _ _ _ _ _ ?_ ?_ ?_ ?_ ?_ ?_ ?_ ?_) <;> (repeat intro hb) <;> first | exact True.intro | refine Lf.mk ?_))
  all_goals (congr 2; simp [Acc.ok, and_assoc, Bool.and_assoc])

def balB (b : Int) : Bool := decide (1 ≤ b) && decide (b ≤ 1000000)
/-- The acceptor that heard of a ballot, its promise, and the error. -/
def prepR (a : Acc) (d b : Int) : Acc × Pro × Int :=
  if ¬ (a.ok = true ∧ (0 ≤ d ∧ d < 8) ∧ balB b = true) then (⟨0, 0, tk0⟩, ⟨0, 0, 0, tk0⟩, 1)
  else if b ≤ a.p then (⟨0, 0, tk0⟩, ⟨0, 0, 0, tk0⟩, 24) else ({ a with p := b }, ⟨d, b, a.v, a.x⟩, 0)

set_option maxRecDepth 100000 in
set_option maxHeartbeats 400000 in
theorem prepare_tc (a : Acc) (d b : Int) : Look Tryd.prog 55 [accA a, .imm (.int .i64 d), .imm (.int .i64 b)] (.tup [accA (prepR a d b).1, proA (prepR a d b).2.1, .imm (.int .i64 (prepR a d b).2.2)]) := by
  refine Look.mk (by simp [Pl, PlL]) ?_
  obtain ⟨p, v, ⟨s, c, n, e⟩⟩ := a
  (refine TC_of_T Γ_ok Tryd.func55 rfl (by kernel_rfl) ?_; simp only [Tryd.ntmps55, Tryd.results55, List.length_cons, List.length_nil, Nat.reduceSub, Nat.reduceAdd, List.replicate, List.cons_append, List.nil_append])
  (have cl1 := fun u1 u2 u3 u4 u5 u6 => isAcceptor_tc ⟨u1, u2, ⟨u3, u4, u5, u6⟩⟩; have cl2 := fun u1 u2 => isDesk_tc u1 u2; have cl3 := fun u1 => isBallot_tc u1; repeat' (first | with_reducible refine T_seq_drawT (id := 6) Γ_ok drawsAny pl55_6 (by kernel_rfl) (fun K hK => ?_) | with_reducible refine T_last_drawT (id := 6) Γ_ok drawsAny pl55_6 (by kernel_rfl) (fun K hK => ?_) | ((refine goR0 _ _ _ _ _ _ _ _ ?_ ?_ ?_ ?_ ?_ ?_ ?_ ?_) <;> (repeat intro hb) <;> first | exact True.intro | refine Lf.mk ?_)))
  · have e1 : prepR ⟨p, v, ⟨s, c, n, e⟩⟩ d b = (⟨0, 0, tk0⟩, ⟨0, 0, 0, tk0⟩, 1) := by unfold prepR balB; rw [if_pos]; simp only [Bool.and_eq_true, decide_eq_true_eq]; grind
    rw [e1]
  · rename_i h1
    have e1 : prepR ⟨p, v, ⟨s, c, n, e⟩⟩ d b = (⟨0, 0, tk0⟩, ⟨0, 0, 0, tk0⟩, 24) := by
      unfold prepR balB; rw [if_neg, if_pos]
      · assumption
      · simp only [Bool.and_eq_true, decide_eq_true_eq]; grind
    rw [e1]
  · have e1 : prepR ⟨p, v, ⟨s, c, n, e⟩⟩ d b = (⟨b, v, ⟨s, c, n, e⟩⟩, ⟨d, b, v, ⟨s, c, n, e⟩⟩, 0) := by
      unfold prepR balB; rw [if_neg, if_neg]
      · simp only; omega
      · simp only [Bool.and_eq_true, decide_eq_true_eq]; grind
    rw [e1]

/-- The acceptor that heard of a started ballot, its vote, and the error. -/
def accR (a : Acc) (d b : Int) (x : Tk) : Acc × Vot × Int :=
  if ¬ (a.ok = true ∧ (0 ≤ d ∧ d < 8) ∧ balB b = true ∧ takeB x.s x.c x.n x.d = true) then (⟨0, 0, tk0⟩, ⟨0, 0, tk0⟩, 1)
  else if b < a.p then (⟨0, 0, tk0⟩, ⟨0, 0, tk0⟩, 24) else (⟨b, b, x⟩, ⟨d, b, x⟩, 0)

set_option maxRecDepth 100000 in
set_option maxHeartbeats 400000 in
theorem accept_tc (a : Acc) (d b : Int) (x : Tk) : Look Tryd.prog 57 [accA a, .imm (.int .i64 d), .imm (.int .i64 b), tkA x] (.tup [accA (accR a d b x).1, votA (accR a d b x).2.1, .imm (.int .i64 (accR a d b x).2.2)]) := by
  refine Look.mk (by simp [Pl, PlL]) ?_
  obtain ⟨p, v, ⟨s, c, n, e⟩⟩ := a
  obtain ⟨s', c', n', e'⟩ := x
  (refine TC_of_T Γ_ok Tryd.func57 rfl (by kernel_rfl) ?_; simp only [Tryd.ntmps57, Tryd.results57, List.length_cons, List.length_nil, Nat.reduceSub, Nat.reduceAdd, List.replicate, List.cons_append, List.nil_append])
  (have cl1 := fun u1 u2 u3 u4 u5 u6 => isAcceptor_tc ⟨u1, u2, ⟨u3, u4, u5, u6⟩⟩; have cl2 := fun u1 u2 => isDesk_tc u1 u2; have cl3 := fun u1 => isBallot_tc u1; have cl4 := fun u1 u2 u3 u4 => take_tc u1 u2 u3 u4; repeat' (first | with_reducible refine T_seq_drawT (id := 5) Γ_ok drawsAny pl57_5 (by kernel_rfl) (fun K hK => ?_) | with_reducible refine T_last_drawT (id := 5) Γ_ok drawsAny pl57_5 (by kernel_rfl) (fun K hK => ?_) | ((refine goR0 _ _ _ _ _ _ _ _ ?_ ?_ ?_ ?_ ?_ ?_ ?_ ?_) <;> (repeat intro hb) <;> first | exact True.intro | refine Lf.mk ?_)))
  · have e1 : accR ⟨p, v, ⟨s, c, n, e⟩⟩ d b ⟨s', c', n', e'⟩ = (⟨0, 0, tk0⟩, ⟨0, 0, tk0⟩, 1) := by unfold accR balB; rw [if_pos]; simp only [Bool.and_eq_true, decide_eq_true_eq]; grind
    rw [e1]
  · have e1 : accR ⟨p, v, ⟨s, c, n, e⟩⟩ d b ⟨s', c', n', e'⟩ = (⟨0, 0, tk0⟩, ⟨0, 0, tk0⟩, 24) := by
      unfold accR balB; rw [if_neg, if_pos]
      · assumption
      · simp only [Bool.and_eq_true, decide_eq_true_eq]; grind
    rw [e1]
  · have e1 : accR ⟨p, v, ⟨s, c, n, e⟩⟩ d b ⟨s', c', n', e'⟩ = (⟨b, b, ⟨s', c', n', e'⟩⟩, ⟨d, b, ⟨s', c', n', e'⟩⟩, 0) := by
      unfold accR balB; rw [if_neg, if_neg]
      · simp only; omega
      · simp only [Bool.and_eq_true, decide_eq_true_eq]; grind
    rw [e1]

set_option maxRecDepth 100000 in
set_option maxHeartbeats 400000 in
theorem rballot_tc (b : Int) : Look Tryd.prog 49 [.imm (.int .i64 b)] (.imm (.bool (balB b))) := by
  refine Look.mk trivial ?_
  (refine TC_of_T Γ_ok Tryd.func49 rfl (by kernel_rfl) ?_; simp only [Tryd.ntmps49, Tryd.results49, List.length_cons, List.length_nil, Nat.reduceSub, Nat.reduceAdd, List.replicate, List.cons_append, List.nil_append])
  (((refine goR0 _ _ _ _ _ _ _ _ ?_ ?_ ?_ ?_ ?_ ?_ ?_ ?_) <;> (repeat intro hb) <;> first | exact True.intro | refine Lf.mk ?_))
  all_goals rfl

set_option maxRecDepth 100000 in
set_option maxHeartbeats 400000 in
theorem rvote_tc (v : Int) (t : Tk) : Look Tryd.prog 88 [.imm (.int .i64 v), tkA t] (.imm (.bool (votedB v t))) := by
  refine Look.mk trivial ?_
  (refine TC_of_T Γ_ok Tryd.func88 rfl (by kernel_rfl) ?_; simp only [Tryd.ntmps88, Tryd.results88, List.length_cons, List.length_nil, Nat.reduceSub, Nat.reduceAdd, List.replicate, List.cons_append, List.nil_append])
  (have cl1 := fun u1 u2 u3 u4 => rtake_tc u1 u2 u3 u4; ((refine goR0 _ _ _ _ _ _ _ _ ?_ ?_ ?_ ?_ ?_ ?_ ?_ ?_) <;> (repeat intro hb) <;> first | exact True.intro | refine Lf.mk ?_))
  · congr 2
    unfold votedB
    rw [if_pos hb, Bool.eq_iff_iff]
    simp [Tk.ext_iff', and_assoc]
  · congr 2
    unfold votedB
    rw [if_neg hb]

set_option maxRecDepth 100000 in
set_option maxHeartbeats 400000 in
theorem racceptor_tc (a : Acc) : Look Tryd.prog 81 [accA a] (.imm (.bool a.ok)) := by
  refine Look.mk trivial ?_
  (refine TC_of_T Γ_ok Tryd.func81 rfl (by kernel_rfl) ?_; simp only [Tryd.ntmps81, Tryd.results81, List.length_cons, List.length_nil, Nat.reduceSub, Nat.reduceAdd, List.replicate, List.cons_append, List.nil_append])
  (have cl1 := fun u1 u2 u3 u4 u5 => rvote_tc u1 ⟨u2, u3, u4, u5⟩; ((refine goR0 _ _ _ _ _ _ _ _ ?_ ?_ ?_ ?_ ?_ ?_ ?_ ?_) <;> (repeat intro hb) <;> first | exact True.intro | refine Lf.mk ?_))
  · congr 2
    unfold Acc.ok
    rw [decide_eq_false (by omega)]; rfl
  · congr 2
    unfold Acc.ok
    rw [decide_eq_true (by omega)]; rfl

theorem racceptor_e (p v s c n d : Int) : Look Tryd.prog 81 [.agg [.imm (.int .i64 p), .imm (.int .i64 v), .imm (.int .i64 s), .imm (.int .i64 c), .imm (.int .i64 n), .imm (.int .i64 d)]] (.imm (.bool (Acc.ok ⟨p, v, ⟨s, c, n, d⟩⟩))) := racceptor_tc ⟨p, v, ⟨s, c, n, d⟩⟩

set_option maxRecDepth 100000 in
set_option maxHeartbeats 400000 in
theorem rprepare_tc (a : Acc) (d b : Int) : Look Tryd.prog 67 [accA a, .imm (.int .i64 d), .imm (.int .i64 b)] (.tup [accA (prepR a d b).1, proA (prepR a d b).2.1, .imm (.int .i64 (prepR a d b).2.2)]) := by
  refine Look.mk (by simp [Pl, PlL]) ?_
  obtain ⟨p, v, ⟨s, c, n, e⟩⟩ := a
  (refine TC_of_T Γ_ok Tryd.func67 rfl (by kernel_rfl) ?_; simp only [Tryd.ntmps67, Tryd.results67, List.length_cons, List.length_nil, Nat.reduceSub, Nat.reduceAdd, List.replicate, List.cons_append, List.nil_append])
  (have cl1 := fun u1 u2 u3 u4 u5 u6 => racceptor_e u1 u2 u3 u4 u5 u6; have cl2 := fun u1 => rballot_tc u1; repeat' (first | with_reducible refine T_seq_drawT (id := 9) Γ_ok drawsAny pl67_9 (by kernel_rfl) (fun K hK => ?_) | with_reducible refine T_last_drawT (id := 9) Γ_ok drawsAny pl67_9 (by kernel_rfl) (fun K hK => ?_) | ((refine goR0 _ _ _ _ _ _ _ _ ?_ ?_ ?_ ?_ ?_ ?_ ?_ ?_) <;> (repeat intro hb) <;> first | exact True.intro | refine Lf.mk ?_)))
  · have e1 : prepR ⟨p, v, ⟨s, c, n, e⟩⟩ d b = (⟨0, 0, tk0⟩, ⟨0, 0, 0, tk0⟩, 1) := by unfold prepR; rw [if_pos]; grind
    rw [e1]
  · have e1 : prepR ⟨p, v, ⟨s, c, n, e⟩⟩ d b = (⟨0, 0, tk0⟩, ⟨0, 0, 0, tk0⟩, 24) := by unfold prepR; rw [if_neg (by grind), if_pos (by assumption)]
    rw [e1]
  · have e1 : prepR ⟨p, v, ⟨s, c, n, e⟩⟩ d b = (⟨b, v, ⟨s, c, n, e⟩⟩, ⟨d, b, v, ⟨s, c, n, e⟩⟩, 0) := by unfold prepR; rw [if_neg (by grind), if_neg (by simp only; omega)]
    rw [e1]

set_option maxRecDepth 100000 in
set_option maxHeartbeats 400000 in
theorem raccept_tc (a : Acc) (d b : Int) (x : Tk) : Look Tryd.prog 68 [accA a, .imm (.int .i64 d), .imm (.int .i64 b), tkA x] (.tup [accA (accR a d b x).1, votA (accR a d b x).2.1, .imm (.int .i64 (accR a d b x).2.2)]) := by
  refine Look.mk (by simp [Pl, PlL]) ?_
  obtain ⟨p, v, ⟨s, c, n, e⟩⟩ := a
  obtain ⟨s', c', n', e'⟩ := x
  (refine TC_of_T Γ_ok Tryd.func68 rfl (by kernel_rfl) ?_; simp only [Tryd.ntmps68, Tryd.results68, List.length_cons, List.length_nil, Nat.reduceSub, Nat.reduceAdd, List.replicate, List.cons_append, List.nil_append])
  (have cl1 := fun u1 u2 u3 u4 u5 u6 => racceptor_e u1 u2 u3 u4 u5 u6; have cl2 := fun u1 => rballot_tc u1; have cl3 := fun u1 u2 u3 u4 => rtake_tc u1 u2 u3 u4; repeat' (first | with_reducible refine T_seq_drawT (id := 8) Γ_ok drawsAny pl68_8 (by kernel_rfl) (fun K hK => ?_) | with_reducible refine T_last_drawT (id := 8) Γ_ok drawsAny pl68_8 (by kernel_rfl) (fun K hK => ?_) | ((refine goR0 _ _ _ _ _ _ _ _ ?_ ?_ ?_ ?_ ?_ ?_ ?_ ?_) <;> (repeat intro hb) <;> first | exact True.intro | refine Lf.mk ?_)))
  · have e1 : accR ⟨p, v, ⟨s, c, n, e⟩⟩ d b ⟨s', c', n', e'⟩ = (⟨0, 0, tk0⟩, ⟨0, 0, tk0⟩, 1) := by unfold accR; rw [if_pos]; grind
    rw [e1]
  · have e1 : accR ⟨p, v, ⟨s, c, n, e⟩⟩ d b ⟨s', c', n', e'⟩ = (⟨0, 0, tk0⟩, ⟨0, 0, tk0⟩, 24) := by unfold accR; rw [if_neg (by grind), if_pos (by assumption)]
    rw [e1]
  · have e1 : accR ⟨p, v, ⟨s, c, n, e⟩⟩ d b ⟨s', c', n', e'⟩ = (⟨b, b, ⟨s', c', n', e'⟩⟩, ⟨d, b, ⟨s', c', n', e'⟩⟩, 0) := by unfold accR; rw [if_neg (by grind), if_neg (by simp only; omega)]
    rw [e1]
end Go.Proofs.YtnomenmakhielaaDoor
