/-
  Records of package quorum, and the contracts of isBallot, isDesk, Take, voted, isAcceptor, Prepare and Accept.
-/
import Derived.Test.YtgljhmnmmaclaaaQGo
import Derived.Test.YtgljhmnmmaclaaaQGm
import Derived.Test.YtgljhmnmmaclaaaQA5
set_option linter.unusedSimpArgs false
set_option linter.unusedVariables false
namespace Go.Proofs.Ytgljhmnmmaclaaa.Q
open Go.Ab
structure Tk where
  s : Int
  c : Int
  n : Int
  d : Int
deriving DecidableEq
@[go_sem,reducible] def tkL (t : Tk) : List AV := [.imm (.int .i64 t.s),.imm (.int .i64 t.c),.imm (.int .i64 t.n),.imm (.int .i64 t.d)]
@[go_sem, reducible] def tkA (t : Tk) : AV := .agg (tkL t)
abbrev tk0 : Tk := ⟨0, 0, 0, 0⟩
@[go_sem] theorem Tk.eta (x : Tk) : (⟨x.s, x.c, x.n, x.d⟩ : Tk) = x := rfl
theorem Tk.ext_iff' {a b : Tk} : a = b ↔ a.s = b.s ∧ a.c = b.c ∧ a.n = b.n ∧ a.d = b.d := by cases a; cases b; simp
structure Acc where
  p : Int
  v : Int
  x : Tk
deriving DecidableEq
structure Pro where
  d : Int
  b : Int
  v : Int
  x : Tk
deriving DecidableEq
structure Vot where
  d : Int
  b : Int
  x : Tk
deriving DecidableEq
structure Sta where
  b : Int
  x : Tk
deriving DecidableEq
structure Mov where
  k : Int
  b : Int
  t : Int
  x : Tk
deriving DecidableEq
@[go_sem,reducible] def accL (a : Acc) : List AV := [.imm (.int .i64 a.p),.imm (.int .i64 a.v),.imm (.int .i64 a.x.s),.imm (.int .i64 a.x.c),.imm (.int .i64 a.x.n),.imm (.int .i64 a.x.d)]
@[go_sem,reducible] def proL (a : Pro) : List AV := [.imm (.int .i64 a.d),.imm (.int .i64 a.b),.imm (.int .i64 a.v),.imm (.int .i64 a.x.s),.imm (.int .i64 a.x.c),.imm (.int .i64 a.x.n),.imm (.int .i64 a.x.d)]
@[go_sem,reducible] def votL (a : Vot) : List AV := [.imm (.int .i64 a.d),.imm (.int .i64 a.b),.imm (.int .i64 a.x.s),.imm (.int .i64 a.x.c),.imm (.int .i64 a.x.n),.imm (.int .i64 a.x.d)]
@[go_sem,reducible] def staL (a : Sta) : List AV := [.imm (.int .i64 a.b),.imm (.int .i64 a.x.s),.imm (.int .i64 a.x.c),.imm (.int .i64 a.x.n),.imm (.int .i64 a.x.d)]
@[go_sem,reducible] def movL (a : Mov) : List AV := [.imm (.int .i64 a.k),.imm (.int .i64 a.b),.imm (.int .i64 a.t),.imm (.int .i64 a.x.s),.imm (.int .i64 a.x.c),.imm (.int .i64 a.x.n),.imm (.int .i64 a.x.d)]
@[go_sem, reducible] def accA (a : Acc) : AV := .agg (accL a)
@[go_sem, reducible] def proA (a : Pro) : AV := .agg (proL a)
@[go_sem, reducible] def votA (a : Vot) : AV := .agg (votL a)
@[go_sem, reducible] def staA (a : Sta) : AV := .agg (staL a)
@[go_sem, reducible] def movA (a : Mov) : AV := .agg (movL a)
set_option maxRecDepth 100000 in
set_option maxHeartbeats 4000000 in
theorem isDesk_tc (d n : Int) : Look Try.prog 20 [.imm (.int .i64 d),.imm (.int .i64 n)] (.imm (.bool (decide (0 ≤ d) && decide (d < n)))) := by
  refine Look.mk trivial ?_
  (refine TC_of_T Γ_ok Try.func20 rfl (by kernel_rfl) ?_;simp only [Try.ntmps20,Try.results20,List.length_cons,List.length_nil,Nat.reduceSub,Nat.reduceAdd,List.replicate,List.cons_append,List.nil_append])
  (((refine goR0 _ _ _ _ _ _ _ _ ?_ ?_ ?_ ?_ ?_ ?_ ?_ ?_) <;> (repeat intro hb) <;> first | exact True.intro | refine Lf.mk ?_))
set_option maxRecDepth 100000 in
set_option maxHeartbeats 4000000 in
theorem isBallot_tc (b : Int) : Look Try.prog 18 [.imm (.int .i64 b)] (.imm (.bool (decide (1 ≤ b) && decide (b ≤ 1000000)))) := by
  refine Look.mk trivial ?_
  (refine TC_of_T Γ_ok Try.func18 rfl (by kernel_rfl) ?_;simp only [Try.ntmps18,Try.results18,List.length_cons,List.length_nil,Nat.reduceSub,Nat.reduceAdd,List.replicate,List.cons_append,List.nil_append])
  (((refine goR0 _ _ _ _ _ _ _ _ ?_ ?_ ?_ ?_ ?_ ?_ ?_ ?_) <;> (repeat intro hb) <;> first | exact True.intro | refine Lf.mk ?_))
def takeB (s c n d : Int) : Bool :=
  if s < 1 ∨ s ≥ 16 ∨ c < 0 ∨ c ≥ 6 ∨ d < 0 ∨ d ≥ 8 then false else if n = 0 then decide (c = 0) else decide (n = 1 ∨ n = -1)
abbrev Tk.ok (t : Tk) : Bool := takeB t.s t.c t.n t.d
set_option maxRecDepth 100000 in
set_option maxHeartbeats 4000000 in
theorem take_tc (s c n d : Int) : Look Try.prog 21 [.agg [.imm (.int .i64 s),.imm (.int .i64 c),.imm (.int .i64 n),.imm (.int .i64 d)]] (.imm (.bool (takeB s c n d))) := by
  refine Look.mk trivial ?_
  (refine TC_of_T Γ_ok Try.func21 rfl (by kernel_rfl) ?_;simp only [Try.ntmps21,Try.results21,List.length_cons,List.length_nil,Nat.reduceSub,Nat.reduceAdd,List.replicate,List.cons_append,List.nil_append])
  (have cl1 := fun u1 u2 => isDesk_tc u1 u2;((refine goR0 _ _ _ _ _ _ _ _ ?_ ?_ ?_ ?_ ?_ ?_ ?_ ?_) <;> (repeat intro hb) <;> first | exact True.intro | refine Lf.mk ?_))
  all_goals (first | grind [takeB] | trace_state)
def votedB (v : Int) (t : Tk) : Bool := if v = 0 then decide (t = tk0) else t.ok
set_option maxRecDepth 100000 in
set_option maxHeartbeats 4000000 in
theorem voted_tc (v : Int) (t : Tk) : Look Try.prog 71 [.imm (.int .i64 v), tkA t] (.imm (.bool (votedB v t))) := by
  refine Look.mk trivial ?_
  (refine TC_of_T Γ_ok Try.func71 rfl (by kernel_rfl) ?_;simp only [Try.ntmps71,Try.results71,List.length_cons,List.length_nil,Nat.reduceSub,Nat.reduceAdd,List.replicate,List.cons_append,List.nil_append])
  (have cl1 := fun u1 u2 u3 u4 => take_tc u1 u2 u3 u4;((refine goR0 _ _ _ _ _ _ _ _ ?_ ?_ ?_ ?_ ?_ ?_ ?_ ?_) <;> (repeat intro hb) <;> first | exact True.intro | refine Lf.mk ?_))
  · congr 2
    unfold votedB
    rw [if_pos hb, Bool.eq_iff_iff]
    simp [Tk.ext_iff', and_assoc]
  all_goals (first | grind [votedB, Tk.ext_iff'] | trace_state)
def Acc.ok (a : Acc) : Bool := decide (0 ≤ a.v ∧ a.v ≤ a.p ∧ a.p ≤ 1000000) && votedB a.v a.x
set_option maxRecDepth 100000 in
set_option maxHeartbeats 4000000 in
theorem isAcceptor_tc (a : Acc) : Look Try.prog 70 [accA a] (.imm (.bool a.ok)) := by
  refine Look.mk trivial ?_
  (refine TC_of_T Γ_ok Try.func70 rfl (by kernel_rfl) ?_;simp only [Try.ntmps70,Try.results70,List.length_cons,List.length_nil,Nat.reduceSub,Nat.reduceAdd,List.replicate,List.cons_append,List.nil_append])
  (have cl1 := fun u1 u2 u3 u4 u5 => voted_tc u1 ⟨u2,u3,u4,u5⟩;((refine goR0 _ _ _ _ _ _ _ _ ?_ ?_ ?_ ?_ ?_ ?_ ?_ ?_) <;> (repeat intro hb) <;> first | exact True.intro | refine Lf.mk ?_))
  all_goals (congr 2; simp [Acc.ok, and_assoc, Bool.and_assoc])
def balB (b : Int) : Bool := decide (1 ≤ b) && decide (b ≤ 1000000)
def prepR (a : Acc) (d b : Int) : Acc × Pro × Int :=
  if ¬ (a.ok = true ∧ (0 ≤ d ∧ d < 8) ∧ balB b = true) then (⟨0, 0, tk0⟩, ⟨0, 0, 0, tk0⟩, 1)
  else if b ≤ a.p then (⟨0, 0, tk0⟩, ⟨0, 0, 0, tk0⟩, 24) else ({ a with p := b }, ⟨d, b, a.v, a.x⟩, 0)
set_option maxRecDepth 100000 in
set_option maxHeartbeats 4000000 in
theorem prepare_tc (a : Acc) (d b : Int) : Look Try.prog 53 [accA a,.imm (.int .i64 d),.imm (.int .i64 b)] (.tup [accA (prepR a d b).1,proA (prepR a d b).2.1,.imm (.int .i64 (prepR a d b).2.2)]) := by
  refine Look.mk (by simp [Pl, PlL]) ?_
  obtain ⟨p, v, ⟨s, c, n, e⟩⟩ := a
  (refine TC_of_T Γ_ok Try.func53 rfl (by kernel_rfl) ?_;simp only [Try.ntmps53,Try.results53,List.length_cons,List.length_nil,Nat.reduceSub,Nat.reduceAdd,List.replicate,List.cons_append,List.nil_append])
  (have cl1 := fun u1 u2 u3 u4 u5 u6=>isAcceptor_tc ⟨u1,u2,⟨u3,u4,u5,u6⟩⟩;have cl2 := fun u1 u2=>isDesk_tc u1 u2;have cl3 := fun u1=>isBallot_tc u1;repeat' (first|with_reducible refine T_seq_drawT (id := 6) Γ_ok drawsAny pl53_6 (by kernel_rfl) (fun K hK=>?_)|with_reducible refine T_last_drawT (id := 6) Γ_ok drawsAny pl53_6 (by kernel_rfl) (fun K hK=>?_)|((refine goR0 _ _ _ _ _ _ _ _ ?_ ?_ ?_ ?_ ?_ ?_ ?_ ?_) <;> (repeat intro hb) <;> first|exact True.intro|refine Lf.mk ?_)))
  · have e1 : prepR ⟨p,v,⟨s,c,n,e⟩⟩ d b = (⟨0,0,tk0⟩,⟨0,0,0,tk0⟩,1) := by unfold prepR balB;rw [if_pos];simp only [Bool.and_eq_true,decide_eq_true_eq];grind
    rw [e1]
  · rename_i h1
    have e1 : prepR ⟨p, v, ⟨s, c, n, e⟩⟩ d b = (⟨0, 0, tk0⟩, ⟨0, 0, 0, tk0⟩, 24) := by
      unfold prepR balB; rw [if_neg, if_pos]
      · assumption
      · simp only [Bool.and_eq_true, decide_eq_true_eq]; grind
    rw [e1]
  · have e1 : prepR ⟨p, v, ⟨s, c, n, e⟩⟩ d b = (⟨b, v, ⟨s, c, n, e⟩⟩, ⟨d, b, v, ⟨s, c, n, e⟩⟩, 0) := by
      unfold prepR balB; rw [if_neg, if_neg]
      · simp only; omega
      · simp only [Bool.and_eq_true, decide_eq_true_eq]; grind
    rw [e1]
def accR (a : Acc) (d b : Int) (x : Tk) : Acc × Vot × Int :=
  if ¬ (a.ok = true ∧ (0 ≤ d ∧ d < 8) ∧ balB b = true ∧ x.ok = true) then (⟨0, 0, tk0⟩, ⟨0, 0, tk0⟩, 1)
  else if b < a.p then (⟨0, 0, tk0⟩, ⟨0, 0, tk0⟩, 24) else (⟨b, b, x⟩, ⟨d, b, x⟩, 0)
set_option maxRecDepth 100000 in
set_option maxHeartbeats 4000000 in
theorem accept_tc (a : Acc) (d b : Int) (x : Tk) : Look Try.prog 55 [accA a,.imm (.int .i64 d),.imm (.int .i64 b),tkA x] (.tup [accA (accR a d b x).1,votA (accR a d b x).2.1,.imm (.int .i64 (accR a d b x).2.2)]) := by
  refine Look.mk (by simp [Pl, PlL]) ?_
  obtain ⟨p, v, ⟨s, c, n, e⟩⟩ := a
  obtain ⟨s', c', n', e'⟩ := x
  (refine TC_of_T Γ_ok Try.func55 rfl (by kernel_rfl) ?_;simp only [Try.ntmps55,Try.results55,List.length_cons,List.length_nil,Nat.reduceSub,Nat.reduceAdd,List.replicate,List.cons_append,List.nil_append])
  (have cl1 := fun u1 u2 u3 u4 u5 u6=>isAcceptor_tc ⟨u1,u2,⟨u3,u4,u5,u6⟩⟩;have cl2 := fun u1 u2=>isDesk_tc u1 u2;have cl3 := fun u1=>isBallot_tc u1;have cl4 := fun u1 u2 u3 u4=>take_tc u1 u2 u3 u4;repeat' (first|with_reducible refine T_seq_drawT (id := 5) Γ_ok drawsAny pl55_5 (by kernel_rfl) (fun K hK=>?_)|with_reducible refine T_last_drawT (id := 5) Γ_ok drawsAny pl55_5 (by kernel_rfl) (fun K hK=>?_)|((refine goR0 _ _ _ _ _ _ _ _ ?_ ?_ ?_ ?_ ?_ ?_ ?_ ?_) <;> (repeat intro hb) <;> first|exact True.intro|refine Lf.mk ?_)))
  · have e1 : accR ⟨p,v,⟨s,c,n,e⟩⟩ d b ⟨s',c',n',e'⟩ = (⟨0,0,tk0⟩,⟨0,0,tk0⟩,1) := by unfold accR balB;rw [if_pos];simp only [Bool.and_eq_true,decide_eq_true_eq];grind
    rw [e1]
  · have e1 : accR ⟨p, v, ⟨s, c, n, e⟩⟩ d b ⟨s', c', n', e'⟩ = (⟨0, 0, tk0⟩, ⟨0, 0, tk0⟩, 24) := by
      unfold accR balB; rw [if_neg, if_pos]
      · assumption
      · simp only [Bool.and_eq_true, decide_eq_true_eq]; grind
    rw [e1]
  · have e1 : accR ⟨p,v,⟨s,c,n,e⟩⟩ d b ⟨s',c',n',e'⟩ = (⟨b,b,⟨s',c',n',e'⟩⟩,⟨d,b,⟨s',c',n',e'⟩⟩,0) := by
      unfold accR balB; rw [if_neg, if_neg]
      · simp only; omega
      · simp only [Bool.and_eq_true, decide_eq_true_eq]; grind
    rw [e1]
end Go.Proofs.Ytgljhmnmmaclaaa.Q
