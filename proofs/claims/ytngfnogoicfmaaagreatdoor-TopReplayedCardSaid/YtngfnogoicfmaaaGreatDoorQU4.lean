/-
  Parts joined: S6 S7 S8 S9.
-/
import Derived.Test.YtngfnogoicfmaaaGreatDoorQGo
import Derived.Test.YtngfnogoicfmaaaGreatDoorQU3
import Derived.Test.YtngfnogoicfmaaaGreatDoorQA5
set_option linter.unusedSimpArgs false
set_option linter.unusedVariables false
namespace Go.Proofs.YtngfnogoicfmaaaGreatDoor
open Go.Ab
instance : DecidableEq Tk := fun a b => by
  cases a; cases b
  rw [Tk.mk.injEq]
  infer_instance
abbrev tk0 : Tk := ⟨0, 0, 0, 0⟩
@[go_sem] theorem Tk.eta (x : Tk) : (⟨x.s, x.c, x.n, x.d⟩ : Tk) = x := rfl
structure Acc where
  p : Int
  v : Int
  x : Tk
structure Pro where
  d : Int
  b : Int
  v : Int
  x : Tk
structure Vot where
  d : Int
  b : Int
  x : Tk
@[go_sem,reducible] def accL (a : Acc) : List AV := [.imm (.int .i64 a.p),.imm (.int .i64 a.v),.imm (.int .i64 a.x.s),.imm (.int .i64 a.x.c),.imm (.int .i64 a.x.n),.imm (.int .i64 a.x.d)]
@[go_sem,reducible] def proL (a : Pro) : List AV := [.imm (.int .i64 a.d),.imm (.int .i64 a.b),.imm (.int .i64 a.v),.imm (.int .i64 a.x.s),.imm (.int .i64 a.x.c),.imm (.int .i64 a.x.n),.imm (.int .i64 a.x.d)]
@[go_sem,reducible] def votL (a : Vot) : List AV := [.imm (.int .i64 a.d),.imm (.int .i64 a.b),.imm (.int .i64 a.x.s),.imm (.int .i64 a.x.c),.imm (.int .i64 a.x.n),.imm (.int .i64 a.x.d)]
@[go_sem, reducible] def accA (a : Acc) : AV := .agg (accL a)
@[go_sem, reducible] def proA (a : Pro) : AV := .agg (proL a)
@[go_sem, reducible] def votA (a : Vot) : AV := .agg (votL a)
set_option maxRecDepth 100000 in
set_option maxHeartbeats 4000000 in
theorem isBallot_tc (b : Int) : Look Tryz.prog 71 [.imm (.int .i64 b)] (.imm (.bool (decide (1 ≤ b) && decide (b ≤ 1000000)))) := by
  refine Look.mk trivial ?_
  (refine TC_of_T Γ_ok Tryz.func71 rfl (by kernel_rfl) ?_;simp only [Tryz.ntmps71,Tryz.results71,List.length_cons,List.length_nil,Nat.reduceSub,Nat.reduceAdd,List.replicate,List.cons_append,List.nil_append])
  (((refine goR0 _ _ _ _ _ _ _ _ ?_ ?_ ?_ ?_ ?_ ?_ ?_ ?_) <;> (repeat intro hb) <;> first | exact True.intro | refine Lf.mk ?_))
def votedB (v : Int) (t : Tk) : Bool := if v = 0 then decide (t = tk0) else takeB t.s t.c t.n t.d
set_option maxRecDepth 100000 in
set_option maxHeartbeats 4000000 in
theorem voted_tc (v : Int) (t : Tk) : Look Tryz.prog 89 [.imm (.int .i64 v), tkA t] (.imm (.bool (votedB v t))) := by
  refine Look.mk trivial ?_
  (refine TC_of_T Γ_ok Tryz.func89 rfl (by kernel_rfl) ?_;simp only [Tryz.ntmps89,Tryz.results89,List.length_cons,List.length_nil,Nat.reduceSub,Nat.reduceAdd,List.replicate,List.cons_append,List.nil_append])
  (have cl1 := fun u1 u2 u3 u4 => take_tc u1 u2 u3 u4;((refine goR0 _ _ _ _ _ _ _ _ ?_ ?_ ?_ ?_ ?_ ?_ ?_ ?_) <;> (repeat intro hb) <;> first | exact True.intro | refine Lf.mk ?_))
  · congr 2
    unfold votedB
    rw [if_pos hb, Bool.eq_iff_iff]
    simp [Tk.ext_iff', and_assoc]
  all_goals (first | grind [votedB, Tk.ext_iff'] | trace_state)
def Acc.ok (a : Acc) : Bool := decide (0 ≤ a.v ∧ a.v ≤ a.p ∧ a.p ≤ 1000000) && votedB a.v a.x
set_option maxRecDepth 100000 in
set_option maxHeartbeats 4000000 in
theorem isAcceptor_tc (a : Acc) : Look Tryz.prog 70 [accA a] (.imm (.bool a.ok)) := by
  refine Look.mk trivial ?_
  (refine TC_of_T Γ_ok Tryz.func70 rfl (by kernel_rfl) ?_;simp only [Tryz.ntmps70,Tryz.results70,List.length_cons,List.length_nil,Nat.reduceSub,Nat.reduceAdd,List.replicate,List.cons_append,List.nil_append])
  (have cl1 := fun u1 u2 u3 u4 u5 => voted_tc u1 ⟨u2,u3,u4,u5⟩;((refine goR0 _ _ _ _ _ _ _ _ ?_ ?_ ?_ ?_ ?_ ?_ ?_ ?_) <;> (repeat intro hb) <;> first | exact True.intro | refine Lf.mk ?_))
  all_goals (congr 2; simp [Acc.ok, and_assoc, Bool.and_assoc])
def balB (b : Int) : Bool := decide (1 ≤ b) && decide (b ≤ 1000000)
def prepR (a : Acc) (d b : Int) : Acc × Pro × Int :=
  if ¬ (a.ok = true ∧ (0 ≤ d ∧ d < 8) ∧ balB b = true) then (⟨0, 0, tk0⟩, ⟨0, 0, 0, tk0⟩, 1)
  else if b ≤ a.p then (⟨0, 0, tk0⟩, ⟨0, 0, 0, tk0⟩, 24) else ({ a with p := b }, ⟨d, b, a.v, a.x⟩, 0)
set_option maxRecDepth 100000 in
set_option maxHeartbeats 4000000 in
theorem prepare_tc (a : Acc) (d b : Int) : Look Tryz.prog 55 [accA a,.imm (.int .i64 d),.imm (.int .i64 b)] (.tup [accA (prepR a d b).1,proA (prepR a d b).2.1,.imm (.int .i64 (prepR a d b).2.2)]) := by
  refine Look.mk (by simp [Pl, PlL]) ?_
  obtain ⟨p, v, ⟨s, c, n, e⟩⟩ := a
  (refine TC_of_T Γ_ok Tryz.func55 rfl (by kernel_rfl) ?_;simp only [Tryz.ntmps55,Tryz.results55,List.length_cons,List.length_nil,Nat.reduceSub,Nat.reduceAdd,List.replicate,List.cons_append,List.nil_append])
  (have cl1 := fun u1 u2 u3 u4 u5 u6=>isAcceptor_tc ⟨u1,u2,⟨u3,u4,u5,u6⟩⟩;have cl2 := fun u1 u2=>isDesk_tc u1 u2;have cl3 := fun u1=>isBallot_tc u1;repeat' (first|with_reducible refine T_seq_drawT (id := 6) Γ_ok drawsAny pl55_6 (by kernel_rfl) (fun K hK=>?_)|with_reducible refine T_last_drawT (id := 6) Γ_ok drawsAny pl55_6 (by kernel_rfl) (fun K hK=>?_)|((refine goR0 _ _ _ _ _ _ _ _ ?_ ?_ ?_ ?_ ?_ ?_ ?_ ?_) <;> (repeat intro hb) <;> first|exact True.intro|refine Lf.mk ?_)))
  · have e1 : prepR ⟨p,v,⟨s,c,n,e⟩⟩ d b = (⟨0,0,tk0⟩,⟨0,0,0,tk0⟩,1) := by unfold prepR balB;rw [if_pos];simp only [Bool.and_eq_true,decide_eq_true_eq];grind
    rw [e1]
  · rename_i h1
    have e1 : prepR ⟨p, v, ⟨s, c, n, e⟩⟩ d b = (⟨0, 0, tk0⟩, ⟨0, 0, 0, tk0⟩, 24) := by
      unfold prepR balB; rw [if_neg, if_pos]
      · assumption
      · simp only [Bool.and_eq_true, decide_eq_true_eq]; grind
    rw [e1]
  · have e1 : prepR ⟨p, v, ⟨s, c, n, e⟩⟩ d b = (⟨b, v, ⟨s, c, n, e⟩⟩, ⟨d, b, v, ⟨s, c, n, e⟩⟩, 0) := by
      unfold prepR balB; rw [if_neg, if_neg]
      · simp only; omega
      · simp only [Bool.and_eq_true, decide_eq_true_eq]; grind
    rw [e1]
def accR (a : Acc) (d b : Int) (x : Tk) : Acc × Vot × Int :=
  if ¬ (a.ok = true ∧ (0 ≤ d ∧ d < 8) ∧ balB b = true ∧ takeB x.s x.c x.n x.d = true) then (⟨0, 0, tk0⟩, ⟨0, 0, tk0⟩, 1)
  else if b < a.p then (⟨0, 0, tk0⟩, ⟨0, 0, tk0⟩, 24) else (⟨b, b, x⟩, ⟨d, b, x⟩, 0)
set_option maxRecDepth 100000 in
set_option maxHeartbeats 4000000 in
theorem accept_tc (a : Acc) (d b : Int) (x : Tk) : Look Tryz.prog 57 [accA a,.imm (.int .i64 d),.imm (.int .i64 b),tkA x] (.tup [accA (accR a d b x).1,votA (accR a d b x).2.1,.imm (.int .i64 (accR a d b x).2.2)]) := by
  refine Look.mk (by simp [Pl, PlL]) ?_
  obtain ⟨p, v, ⟨s, c, n, e⟩⟩ := a
  obtain ⟨s', c', n', e'⟩ := x
  (refine TC_of_T Γ_ok Tryz.func57 rfl (by kernel_rfl) ?_;simp only [Tryz.ntmps57,Tryz.results57,List.length_cons,List.length_nil,Nat.reduceSub,Nat.reduceAdd,List.replicate,List.cons_append,List.nil_append])
  (have cl1 := fun u1 u2 u3 u4 u5 u6=>isAcceptor_tc ⟨u1,u2,⟨u3,u4,u5,u6⟩⟩;have cl2 := fun u1 u2=>isDesk_tc u1 u2;have cl3 := fun u1=>isBallot_tc u1;have cl4 := fun u1 u2 u3 u4=>take_tc u1 u2 u3 u4;repeat' (first|with_reducible refine T_seq_drawT (id := 5) Γ_ok drawsAny pl57_5 (by kernel_rfl) (fun K hK=>?_)|with_reducible refine T_last_drawT (id := 5) Γ_ok drawsAny pl57_5 (by kernel_rfl) (fun K hK=>?_)|((refine goR0 _ _ _ _ _ _ _ _ ?_ ?_ ?_ ?_ ?_ ?_ ?_ ?_) <;> (repeat intro hb) <;> first|exact True.intro|refine Lf.mk ?_)))
  · have e1 : accR ⟨p,v,⟨s,c,n,e⟩⟩ d b ⟨s',c',n',e'⟩ = (⟨0,0,tk0⟩,⟨0,0,tk0⟩,1) := by unfold accR balB;rw [if_pos];simp only [Bool.and_eq_true,decide_eq_true_eq];grind
    rw [e1]
  · have e1 : accR ⟨p, v, ⟨s, c, n, e⟩⟩ d b ⟨s', c', n', e'⟩ = (⟨0, 0, tk0⟩, ⟨0, 0, tk0⟩, 24) := by
      unfold accR balB; rw [if_neg, if_pos]
      · assumption
      · simp only [Bool.and_eq_true, decide_eq_true_eq]; grind
    rw [e1]
  · have e1 : accR ⟨p,v,⟨s,c,n,e⟩⟩ d b ⟨s',c',n',e'⟩ = (⟨b,b,⟨s',c',n',e'⟩⟩,⟨d,b,⟨s',c',n',e'⟩⟩,0) := by
      unfold accR balB; rw [if_neg, if_neg]
      · simp only; omega
      · simp only [Bool.and_eq_true, decide_eq_true_eq]; grind
    rw [e1]
end Go.Proofs.YtngfnogoicfmaaaGreatDoor
namespace Go.Proofs.YtngfnogoicfmaaaGreatDoor
open Go.Ab
def gA' (l : List Acc) (i : Nat) : Acc := l.getD i ⟨0, 0, tk0⟩
def acE (l : List Acc) (i j : Nat) : AV := nth (accL (gA' l i)) j
@[go_sem] theorem acE_0 (l : List Acc) (i : Nat) : acE l i 0 = .imm (.int .i64 (gA' l i).p) := rfl
@[go_sem] theorem acE_1 (l : List Acc) (i : Nat) : acE l i 1 = .imm (.int .i64 (gA' l i).v) := rfl
@[go_sem] theorem acE_2 (l : List Acc) (i : Nat) : acE l i 2 = .imm (.int .i64 (gA' l i).x.s) := rfl
@[go_sem] theorem acE_3 (l : List Acc) (i : Nat) : acE l i 3 = .imm (.int .i64 (gA' l i).x.c) := rfl
@[go_sem] theorem acE_4 (l : List Acc) (i : Nat) : acE l i 4 = .imm (.int .i64 (gA' l i).x.n) := rfl
@[go_sem] theorem acE_5 (l : List Acc) (i : Nat) : acE l i 5 = .imm (.int .i64 (gA' l i).x.d) := rfl
theorem acE_cases (l : List Acc) (i j : Nat) (Q : AV → Prop) (h0 : ∀ v, Q (.imm v)) (ht : Q .top) : Q (acE l i j) := by
  match j with
  | 0 | 1 | 2 | 3 | 4 | 5 => exact h0 _
  | j + 6 => exact ht
@[simp] theorem acE_free (l : List Acc) (i j : Nat) : Free (acE l i j) := acE_cases l i j Free (fun _ => trivial) trivial
@[simp] theorem acE_pl (l : List Acc) (i j : Nat) : Pl (acE l i j) := acE_cases l i j Pl (fun _ => trivial) trivial
@[go_sem, reducible] def acs (l : List Acc) : AV := .view l.length 6 (acE l)
@[go_sem, reducible] def acO (l : List Acc) : AObj := .arr 107 6 l.length (acE l)
theorem ac_snoc (l : List Acc) (x : Acc) {i j : Nat} (h : i < l.length + 1) (hj : j < 6) : catE l.length (acE l) (fun i j => nth (accL x) (i * 6 + j)) i j = acE (l ++ [x]) i j := by
  unfold catE acE gA'
  split
  · rename_i h1; simp [List.getElem?_append_left h1]
  · rename_i h1
    have e : i = l.length := by omega
    subst e
    simp
def ac0 : Acc := ⟨0, 0, tk0⟩
def grow (A : List Acc) (s : Nat) : List Acc := A ++ List.replicate (s - A.length) ac0
theorem grow_len (A : List Acc) (s : Nat) : (grow A s).length = max A.length s := by simp [grow]; omega
@[go_sem,reducible] def memO (o1 o2 : Nat) (A : List Acc) (L : List Tk) : AObj := .box 52 [.own o1 0 A.length none,.own o2 0 L.length none]
set_option maxRecDepth 100000 in
set_option maxHeartbeats 1000000 in
theorem acceptor_tc (A : List Acc) (L : List Tk) (s : Nat) (h1 : 1 ≤ s) (h2 : s < 16) (hA : A.length ≤ 1000) :
    TC Tryz.prog 54 [.optr 0 0 0,.imm (.int .i64 s)] [memO 1 2 A L,acO A,tkO L] (fun v σ' => v = .optr 3 (s - 1) 0 ∧ σ' = [memO 3 2 (grow A s) L,.dead,tkO L,acO (grow A s)]) := by
  (refine TC_of_T Γ_ok Tryz.func54 rfl (by kernel_rfl) ?_;simp only [Tryz.ntmps54,Tryz.results54,List.length_cons,List.length_nil,Nat.reduceSub,Nat.reduceAdd,List.replicate,List.cons_append,List.nil_append])
  (((refine goR0 _ _ _ _ _ _ _ _ ?_ ?_ ?_ ?_ ?_ ?_ ?_ ?_) <;> (repeat intro hb) <;> first | exact True.intro | refine Lf.mk ?_))
  refine T_loopW (fun m st=>∃ k : Nat,k ≤ s - A.length ∧ m + k = s - A.length ∧ st = ⟨[.optr 0 0 0,.imm (.int .i64 s),.top,.top,.imm (.pointer none)] ++ List.replicate 24 .top,[memO 3 2 (grow A (A.length + k)) L,.dead,tkO L,acO (grow A (A.length + k))]⟩)
    (s - A.length) ⟨_, ?_, 0, by omega, by omega, rfl⟩ ?_
  · rw [Nat.add_zero, show grow A A.length = A by simp [grow]]
    ((try simp only [List.length_append,List.length_cons,List.length_nil,Nat.zero_add]);refine Wk.introM [0,1,2,1] (by decide) (rfl) (by intro o ho;simp at ho ⊢ <;> omega) ?_ ?_ <;> repeat' (first|exact WkVL.nil|refine WkVL.cons ?_ ?_|exact WkV.top|exact WkV.imm rfl|exact WkV.imm (by simp)|exact WkV.optr rfl|exact WkV.own rfl (by simp)|exact WkV.nil_own (.inl rfl)|exact WkV.map rfl|(refine WkV.free ?_;simp [Free,FreeL] <;> assumption)|(refine WkV.free (fun _ _=>FreeL_nth ?_ _);simp [Free,FreeL];done)|refine WkV.agg ?_|refine WkV.tup ?_|refine WkV.fn ?_ ?_|exact WkO.dead|exact WkO.raw|refine WkO.ghost ?_|exact WkO.mpE rfl trivial|refine WkO.box ?_ rfl|refine WkO.arr ?_|refine And.intro ?_ (And.intro (by first|exact fun h=>h|exact fun _=>rfl|exact nofun) ?_)|exact trivial|(intro i j hi hj)))
  rintro m st ⟨k, g1, g2, rfl⟩
  have hlen : (grow A (A.length + k)).length = A.length + k := by rw [grow_len]; omega
  (simp only [go_sem,↓reduceIte,Nat.reduceAdd,Nat.reduceSub,Nat.reduceMul,Nat.reduceLT,Nat.reduceLeDiff,Nat.reduceEqDiff,Nat.reduceGT,Int.reduceToNat,Int.reduceBEq,Int.reduceBNe];try simp (disch := omega) only [wrapI,wrapU,half_sum,toNat_sub1,toNat_add1,Int.toNat_natCast])
  by_cases hk : k < s - A.length
  · (((refine goR0 _ _ _ _ _ _ _ _ ?_ ?_ ?_ ?_ ?_ ?_ ?_ ?_) <;> (repeat intro hb) <;> first | exact True.intro | refine Lf.mk ?_))
    · refine ⟨s - A.length - (k + 1), by omega, _, ?_, k + 1, by omega, by omega, rfl⟩
      have e : grow A (A.length + (k + 1)) = grow A (A.length + k) ++ [ac0] := by
        unfold grow
        rw [show A.length + (k + 1) - A.length = k + 1 by omega,show A.length + k - A.length = k by omega,List.replicate_succ',List.append_assoc]
      rw [e]
      generalize grow A (A.length + k) = B
      ((try simp only [List.length_append,List.length_cons,List.length_nil,Nat.zero_add]);refine Wk.intro [0,1,2,5] (by decide) (by decide) (by intro o ho;simp at ho ⊢ <;> omega) ?_ ?_ <;> repeat' (first|exact WkV.eqF (ac_snoc B ac0 (by simpa using hi) hj) (acE_free _ _ _)|exact WkVL.nil|refine WkVL.cons ?_ ?_|exact WkV.top|exact WkV.imm rfl|exact WkV.imm (by simp)|exact WkV.optr rfl|exact WkV.own rfl (by simp)|exact WkV.nil_own (.inl rfl)|exact WkV.map rfl|(refine WkV.free ?_;simp [Free,FreeL] <;> assumption)|(refine WkV.free (fun _ _=>FreeL_nth ?_ _);simp [Free,FreeL];done)|refine WkV.agg ?_|refine WkV.tup ?_|refine WkV.fn ?_ ?_|exact WkO.dead|exact WkO.raw|refine WkO.ghost ?_|exact WkO.mpE rfl trivial|refine WkO.box ?_ rfl|refine WkO.arr ?_|refine And.intro ?_ (And.intro (by first|exact fun h=>h|exact fun _=>rfl|exact nofun) ?_)|exact trivial|(intro i j hi hj)))
  · have e : grow A (A.length + k) = grow A s := by unfold grow;rw [show A.length + k - A.length = s - A.length by omega]
    rw [e] at hlen ⊢
    have hge : s ≤ (grow A s).length := by rw [grow_len]; omega
    (((refine goR0 _ _ _ _ _ _ _ _ ?_ ?_ ?_ ?_ ?_ ?_ ?_ ?_) <;> (repeat intro hb) <;> first | exact True.intro | refine Lf.mk ?_))
theorem acceptor_turns (A : List Acc) (L : List Tk) (s : Nat) (h1 : 1 ≤ s) (h2 : s < 16) (hA : A.length ≤ 1000) :
    Turns Tryz.prog 54 [.optr 0 0 0,.imm (.int .i64 s)] [memO 1 2 A L,acO A,tkO L] (.optr 3 (s - 1) 0) [memO 3 2 (grow A s) L,.dead,tkO L,acO (grow A s)] :=
  ⟨acceptor_tc A L s h1 h2 hA,trivial,fun a ha => by simp at ha;rcases ha with rfl | rfl | rfl | rfl <;> simp [VFO,VFL,VF]⟩
theorem prepare_e (p v s c n e d b : Int) : Look Tryz.prog 55 [.agg [.imm (.int .i64 p),.imm (.int .i64 v),.imm (.int .i64 s),.imm (.int .i64 c),.imm (.int .i64 n),.imm (.int .i64 e)],.imm (.int .i64 d),.imm (.int .i64 b)]
    (.tup [accA (prepR ⟨p,v,⟨s,c,n,e⟩⟩ d b).1,proA (prepR ⟨p,v,⟨s,c,n,e⟩⟩ d b).2.1,.imm (.int .i64 (prepR ⟨p,v,⟨s,c,n,e⟩⟩ d b).2.2)]) := prepare_tc ⟨p,v,⟨s,c,n,e⟩⟩ d b
theorem accept_e (p v s c n e d b s' c' n' e' : Int) : Look Tryz.prog 57 [.agg [.imm (.int .i64 p),.imm (.int .i64 v),.imm (.int .i64 s),.imm (.int .i64 c),.imm (.int .i64 n),.imm (.int .i64 e)],.imm (.int .i64 d),.imm (.int .i64 b),.agg [.imm (.int .i64 s'),.imm (.int .i64 c'),.imm (.int .i64 n'),.imm (.int .i64 e')]]
    (.tup [accA (accR ⟨p,v,⟨s,c,n,e⟩⟩ d b ⟨s',c',n',e'⟩).1,votA (accR ⟨p,v,⟨s,c,n,e⟩⟩ d b ⟨s',c',n',e'⟩).2.1,.imm (.int .i64 (accR ⟨p,v,⟨s,c,n,e⟩⟩ d b ⟨s',c',n',e'⟩).2.2)]) := accept_tc ⟨p,v,⟨s,c,n,e⟩⟩ d b ⟨s',c',n',e'⟩
end Go.Proofs.YtngfnogoicfmaaaGreatDoor
namespace Go.Proofs.YtngfnogoicfmaaaGreatDoor
open Go.Ab
structure Mem where
  A : List Acc
  L : List Tk
noncomputable def doR (m : Mem) (r : Rcd) : Mem × Int :=
  if r.k = 1 then (⟨(grow m.A r.s.toNat).set (r.s.toNat - 1) (prepR (gA' (grow m.A r.s.toNat) (r.s.toNat - 1)) 0 r.b).1,m.L⟩,(prepR (gA' (grow m.A r.s.toNat) (r.s.toNat - 1)) 0 r.b).2.2)
  else if r.k = 2 then (⟨(grow m.A r.s.toNat).set (r.s.toNat - 1) (accR (gA' (grow m.A r.s.toNat) (r.s.toNat - 1)) 0 r.b r.x).1,m.L⟩,(accR (gA' (grow m.A r.s.toNat) (r.s.toNat - 1)) 0 r.b r.x).2.2)
  else if (learnR m.L r.x).2 = 5 then (m, 0) else (⟨m.A, (learnR m.L r.x).1⟩, (learnR m.L r.x).2)
theorem ac_set (B : List Acc) (k : Nat) (x : Acc) (hk : k < B.length) {i j : Nat} (hi : i < B.length) (hj : j < 6) : updE (fun i j => acE B i j) k 0 (accL x) i j = acE (B.set k x) i j := by
  unfold updE acE gA'
  by_cases e : i = k
  · subst e
    rw [if_pos ⟨rfl, Nat.zero_le _, by simpa using hj⟩]
    simp [hi]
  · rw [if_neg (fun h => e h.1)]
    simp [List.getElem?_set, Ne.symm e]
def DeedQ (A' : List Acc) (L : List Tk) (e : Int) (v : AV) (σ' : List AObj) : Prop :=
  v = .imm (.int .i64 e) ∧ ∃ a c d E,σ' = [memO 4 2 A' L,.dead,tkO L,a,.arr 107 6 A'.length E,c,d] ∧ ∀ i j,i < A'.length → j < 6 → E i j = acE A' i j
theorem DeedQ.mk {B : List Acc} {L : List Tk} {e : Int} {x : Acc} {k : Nat} (hk : k < B.length) {a c d : AObj} : DeedQ (B.set k x) L e (.imm (.int .i64 e)) [.box 52 [.own 4 0 B.length none,.own 2 0 L.length none],.dead,tkO L,a,.arr 107 6 B.length (updE (acE B) k 0 (accL x)),c,d] :=
  ⟨rfl, a, c, d, _, by simp only [memO, List.length_set], fun i j hi hj => ac_set B k x hk (by simpa using hi) hj⟩
theorem DeedQ.fin {A' : List Acc} {L : List Tk} {e : Int} {f : FuncId} {args : List AV} {σ : List AObj} (hσ : σ.length = 3) (h : TC Tryz.prog f args σ (DeedQ A' L e)) :
    TC Tryz.prog f args σ (fun v σ' => v = .imm (.int .i64 e) ∧ σ' = [memO 3 4 A' L, .dead, .dead, acO A', tkO L]) :=
  h.weakM fun v σ' ⟨hv, a, c, d, E, hs, hE⟩ => by
    subst hv; subst hs
    refine ⟨[0, 1, 2, 4, 2], _, _, by rw [hσ]; rfl, rfl, by simp, WkV.imm rfl, ?_, rfl, rfl⟩
    exact ⟨WkO.box (WkVL.cons (WkV.own rfl (by simp)) (WkVL.cons (WkV.own rfl (by simp)) WkVL.nil)) rfl,fun h=>h,WkO.dead,nofun,WkO.dead,nofun,WkO.arr fun i j hi hj=>WkV.eqF (hE i j hi hj) (acE_free _ _ _),fun _=>rfl,WkO.arr fun i j _ _=>WkV.free (tkE_free _ _ _),fun _=>rfl,trivial⟩
set_option maxRecDepth 100000 in
set_option maxHeartbeats 1000000 in
theorem deed1_tc (A : List Acc) (L : List Tk) (r : Rcd) (hk : r.k = 1) (hs : 1 ≤ r.s ∧ r.s < 16) (hA : A.length ≤ 1000) :
    TC Tryz.prog 53 [.optr 0 0 0,rcA r] [memO 1 2 A L,acO A,tkO L] (fun v σ'=>v = .imm (.int .i64 (doR ⟨A,L⟩ r).2) ∧ σ' = [memO 3 4 (doR ⟨A,L⟩ r).1.A (doR ⟨A,L⟩ r).1.L,.dead,.dead,acO (doR ⟨A,L⟩ r).1.A,tkO (doR ⟨A,L⟩ r).1.L]) := by
  obtain ⟨k, s, b, x⟩ := r
  simp only [] at hk hs
  subst hk
  obtain ⟨s, rfl⟩ : ∃ q : Nat, s = q := ⟨s.toNat, by omega⟩
  have hac := acceptor_turns A L s (by omega) (by omega) hA
  have hlen : s - 1 < (grow A s).length := by rw [grow_len]; omega
  refine DeedQ.fin rfl ?_
  (refine TC_of_T Γ_ok Tryz.func53 rfl (by kernel_rfl) ?_;simp only [Tryz.ntmps53,Tryz.results53,List.length_cons,List.length_nil,Nat.reduceSub,Nat.reduceAdd,List.replicate,List.cons_append,List.nil_append])
  (have ct1 := TurnsAt.mk [0,1,2] (hac);have cl1 := fun u1 u2 u3 u4 u5 u6 u7 u8=>prepare_e u1 u2 u3 u4 u5 u6 u7 u8;repeat' (first|with_reducible refine T_seq_drawT (id := 2) Γ_ok drawsAny pl53_2 (by kernel_rfl) (fun K hK=>?_)|with_reducible refine T_last_drawT (id := 2) Γ_ok drawsAny pl53_2 (by kernel_rfl) (fun K hK=>?_)|((refine goR0 _ _ _ _ _ _ _ _ ?_ ?_ ?_ ?_ ?_ ?_ ?_ ?_) <;> (repeat intro hb) <;> first|exact True.intro|refine Lf.mk ?_)))
  all_goals exact DeedQ.mk hlen
set_option maxRecDepth 100000 in
set_option maxHeartbeats 1000000 in
theorem deed2_tc (A : List Acc) (L : List Tk) (r : Rcd) (hk : r.k = 2) (hs : 1 ≤ r.s ∧ r.s < 16) (hA : A.length ≤ 1000) :
    TC Tryz.prog 56 [.optr 0 0 0,rcA r] [memO 1 2 A L,acO A,tkO L] (fun v σ'=>v = .imm (.int .i64 (doR ⟨A,L⟩ r).2) ∧ σ' = [memO 3 4 (doR ⟨A,L⟩ r).1.A (doR ⟨A,L⟩ r).1.L,.dead,.dead,acO (doR ⟨A,L⟩ r).1.A,tkO (doR ⟨A,L⟩ r).1.L]) := by
  obtain ⟨k, s, b, x⟩ := r
  simp only [] at hk hs
  subst hk
  obtain ⟨s, rfl⟩ : ∃ q : Nat, s = q := ⟨s.toNat, by omega⟩
  have hac := acceptor_turns A L s (by omega) (by omega) hA
  have hlen : s - 1 < (grow A s).length := by rw [grow_len]; omega
  refine DeedQ.fin rfl ?_
  (refine TC_of_T Γ_ok Tryz.func56 rfl (by kernel_rfl) ?_;simp only [Tryz.ntmps56,Tryz.results56,List.length_cons,List.length_nil,Nat.reduceSub,Nat.reduceAdd,List.replicate,List.cons_append,List.nil_append])
  (have ct1 := TurnsAt.mk [0,1,2] (hac);have cl1 := fun u1 u2 u3 u4 u5 u6 u7 u8 u9 u10 u11 u12=>accept_e u1 u2 u3 u4 u5 u6 u7 u8 u9 u10 u11 u12;repeat' (first|with_reducible refine T_seq_drawT (id := 2) Γ_ok drawsAny pl56_2 (by kernel_rfl) (fun K hK=>?_)|with_reducible refine T_last_drawT (id := 2) Γ_ok drawsAny pl56_2 (by kernel_rfl) (fun K hK=>?_)|((refine goR0 _ _ _ _ _ _ _ _ ?_ ?_ ?_ ?_ ?_ ?_ ?_ ?_) <;> (repeat intro hb) <;> first|exact True.intro|refine Lf.mk ?_)))
  all_goals exact DeedQ.mk hlen
end Go.Proofs.YtngfnogoicfmaaaGreatDoor
namespace Go.Proofs.YtngfnogoicfmaaaGreatDoor
open Go.Ab
def Deed3Q (A : List Acc) (L Lx L' : List Tk) (e : Int) (d : AObj) (v : AV) (σ' : List AObj) : Prop :=
  v = .imm (.int .i64 e) ∧ ((L' = L ∧ ∃ a,σ' = [memO 1 2 A L,acO A,tkO L,a,d]) ∨ (L' = Lx ∧ ∃ a,σ' = [memO 1 4 A L',acO A,tkO L,a,tkO L']))
theorem Deed3Q.fin {A : List Acc} {L Lx L' : List Tk} {e : Int} {d : AObj} {f : FuncId} {args : List AV} {σ : List AObj} (hσ : σ.length = 3) (h : TC Tryz.prog f args σ (Deed3Q A L Lx L' e d)) :
    TC Tryz.prog f args σ (fun v σ' => v = .imm (.int .i64 e) ∧ σ' = [memO 3 4 A L', .dead, .dead, acO A, tkO L']) :=
  h.weakM fun v σ' ⟨hv, hor⟩ => by
    subst hv
    rcases hor with ⟨rfl, a, rfl⟩ | ⟨_, a, rfl⟩
    · refine ⟨[0, 1, 2, 1, 2], _, _, by rw [hσ]; rfl, rfl, by simp, WkV.imm rfl, ?_, rfl, rfl⟩
      exact ⟨WkO.box (WkVL.cons (WkV.own rfl (by simp)) (WkVL.cons (WkV.own rfl (by simp)) WkVL.nil)) rfl,fun h=>h,WkO.dead,nofun,WkO.dead,nofun,WkO.arr fun i j _ _=>WkV.free (acE_free _ _ _),fun _=>rfl,WkO.arr fun i j _ _=>WkV.free (tkE_free _ _ _),fun _=>rfl,trivial⟩
    · refine ⟨[0, 1, 2, 1, 4], _, _, by rw [hσ]; rfl, rfl, by simp, WkV.imm rfl, ?_, rfl, rfl⟩
      exact ⟨WkO.box (WkVL.cons (WkV.own rfl (by simp)) (WkVL.cons (WkV.own rfl (by simp)) WkVL.nil)) rfl,fun h=>h,WkO.dead,nofun,WkO.dead,nofun,WkO.arr fun i j _ _=>WkV.free (acE_free _ _ _),fun _=>rfl,WkO.arr fun i j _ _=>WkV.free (tkE_free _ _ _),fun _=>rfl,trivial⟩
set_option maxRecDepth 100000 in
set_option maxHeartbeats 1000000 in
theorem deed3_tc (A : List Acc) (L : List Tk) (r : Rcd) (hk : r.k = 3) (hL : L.length ≤ 9223372036854775807) :
    TC Tryz.prog 58 [.optr 0 0 0,rcA r] [memO 1 2 A L,acO A,tkO L] (fun v σ'=>v = .imm (.int .i64 (doR ⟨A,L⟩ r).2) ∧ σ' = [memO 3 4 (doR ⟨A,L⟩ r).1.A (doR ⟨A,L⟩ r).1.L,.dead,.dead,acO (doR ⟨A,L⟩ r).1.A,tkO (doR ⟨A,L⟩ r).1.L]) := by
  obtain ⟨k, s, b, ⟨s', c, n, d⟩⟩ := r
  simp only [] at hk
  subst hk
  have hle := learn_tc L ⟨s', c, n, d⟩ hL
  have e3 : doR ⟨A,L⟩ ⟨3,s,b,⟨s',c,n,d⟩⟩ = if (learnR L ⟨s',c,n,d⟩).2 = 5 then (⟨A,L⟩,0) else (⟨A,(learnR L ⟨s',c,n,d⟩).1⟩,(learnR L ⟨s',c,n,d⟩).2) := by unfold doR;rw [if_neg (by simp),if_neg (by simp)]
  rw [e3]
  generalize learnR L ⟨s', c, n, d⟩ = q at hle
  obtain ⟨L', e⟩ := q
  by_cases he : e = 5
  · subst he
    rw [if_pos rfl]
    refine Deed3Q.fin (L := L) (Lx := L') (d := tkO L') rfl ?_
    (refine TC_of_T Γ_ok Tryz.func58 rfl (by kernel_rfl) ?_;simp only [Tryz.ntmps58,Tryz.results58,List.length_cons,List.length_nil,Nat.reduceSub,Nat.reduceAdd,List.replicate,List.cons_append,List.nil_append])
    (have cm1 := hle;repeat' (first|with_reducible refine T_seq_drawT (id := 1) Γ_ok drawsAny pl58_1 (by kernel_rfl) (fun K hK=>?_)|with_reducible refine T_last_drawT (id := 1) Γ_ok drawsAny pl58_1 (by kernel_rfl) (fun K hK=>?_)|((refine goR0 _ _ _ _ _ _ _ _ ?_ ?_ ?_ ?_ ?_ ?_ ?_ ?_) <;> (repeat intro hb) <;> first|exact True.intro|refine Lf.mk ?_)))
    all_goals first | exact ⟨rfl, .inl ⟨rfl, _, rfl⟩⟩ | exact ⟨rfl, .inr ⟨rfl, _, rfl⟩⟩
  · rw [if_neg he]
    refine Deed3Q.fin (L := L) (Lx := L') (d := tkO L') rfl ?_
    (refine TC_of_T Γ_ok Tryz.func58 rfl (by kernel_rfl) ?_;simp only [Tryz.ntmps58,Tryz.results58,List.length_cons,List.length_nil,Nat.reduceSub,Nat.reduceAdd,List.replicate,List.cons_append,List.nil_append])
    (have cm1 := hle;repeat' (first|with_reducible refine T_seq_drawT (id := 1) Γ_ok drawsAny pl58_1 (by kernel_rfl) (fun K hK=>?_)|with_reducible refine T_last_drawT (id := 1) Γ_ok drawsAny pl58_1 (by kernel_rfl) (fun K hK=>?_)|((refine goR0 _ _ _ _ _ _ _ _ ?_ ?_ ?_ ?_ ?_ ?_ ?_ ?_) <;> (repeat intro hb) <;> first|exact True.intro|refine Lf.mk ?_)))
    all_goals first | exact ⟨rfl, .inl ⟨rfl, _, rfl⟩⟩ | exact ⟨rfl, .inr ⟨rfl, _, rfl⟩⟩
end Go.Proofs.YtngfnogoicfmaaaGreatDoor
