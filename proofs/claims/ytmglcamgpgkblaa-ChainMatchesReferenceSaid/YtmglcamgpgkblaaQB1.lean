/-
  Products, notes, pairs, scores as values; score.bounded, score.sizes.
-/
import Derived.Test.YtmglcamgpgkblaaQGo
import Derived.Test.YtmglcamgpgkblaaQP4
import Derived.Test.YtmglcamgpgkblaaQAb29
import Derived.Test.YtmglcamgpgkblaaQA5
set_option linter.unusedSimpArgs false
set_option linter.unusedVariables false
namespace Go.Proofs.Ytmglcamgpgkblaa
open Go.Ab
@[go_sem,reducible] def p6L (p : P6) : List AV := [.imm (.int .i64 p.a),.imm (.int .i64 p.b),.imm (.int .i64 p.c),.imm (.int .i64 p.d),.imm (.int .i64 p.e),.imm (.int .i64 p.f)]
@[go_sem, reducible] def p6A (p : P6) : AV := .agg (p6L p)
@[go_sem] theorem P6.eta (p : P6) : (⟨p.a, p.b, p.c, p.d, p.e, p.f⟩ : P6) = p := rfl
@[go_sem,reducible] def ntL (n : Nt) : List AV := [.imm (.int .i64 n.v),.imm (.int .i64 n.f),.imm (.int .i64 n.u),.imm (.int .i64 n.pl.a),.imm (.int .i64 n.pl.b),.imm (.int .i64 n.pl.c),.imm (.int .i64 n.pl.d),.imm (.int .i64 n.pl.e),.imm (.int .i64 n.pl.f),.imm (.bool n.tied)]
@[go_sem, reducible] def ntA (n : Nt) : AV := .agg (ntL n)
def ntE (l : List Nt) (i j : Nat) : AV := nth (ntL (gn l i)) j
@[go_sem] theorem ntE_0 (l : List Nt) (i : Nat) : ntE l i 0 = .imm (.int .i64 (gn l i).v) := rfl
@[go_sem] theorem ntE_1 (l : List Nt) (i : Nat) : ntE l i 1 = .imm (.int .i64 (gn l i).f) := rfl
@[go_sem] theorem ntE_2 (l : List Nt) (i : Nat) : ntE l i 2 = .imm (.int .i64 (gn l i).u) := rfl
@[go_sem] theorem ntE_3 (l : List Nt) (i : Nat) : ntE l i 3 = .imm (.int .i64 (gn l i).pl.a) := rfl
@[go_sem] theorem ntE_4 (l : List Nt) (i : Nat) : ntE l i 4 = .imm (.int .i64 (gn l i).pl.b) := rfl
@[go_sem] theorem ntE_5 (l : List Nt) (i : Nat) : ntE l i 5 = .imm (.int .i64 (gn l i).pl.c) := rfl
@[go_sem] theorem ntE_6 (l : List Nt) (i : Nat) : ntE l i 6 = .imm (.int .i64 (gn l i).pl.d) := rfl
@[go_sem] theorem ntE_7 (l : List Nt) (i : Nat) : ntE l i 7 = .imm (.int .i64 (gn l i).pl.e) := rfl
@[go_sem] theorem ntE_8 (l : List Nt) (i : Nat) : ntE l i 8 = .imm (.int .i64 (gn l i).pl.f) := rfl
@[go_sem] theorem ntE_9 (l : List Nt) (i : Nat) : ntE l i 9 = .imm (.bool (gn l i).tied) := rfl
@[simp] theorem ntE_pl (l : List Nt) (i j : Nat) : Pl (ntE l i j) := by rcases j with _ | _ | _ | _ | _ | _ | _ | _ | _ | _ | j <;> trivial
@[simp] theorem ntE_free (l : List Nt) (i j : Nat) : Free (ntE l i j) := Pl.free _ (ntE_pl l i j)
@[go_sem, reducible] def nts (l : List Nt) : AV := .view l.length 10 (ntE l)
@[go_sem,reducible] def prL (p : Pr) : List AV := [.imm (.int .i64 p.a),.imm (.int .i64 p.b),.imm (.int .i64 p.want.a),.imm (.int .i64 p.want.b),.imm (.int .i64 p.want.c),.imm (.int .i64 p.want.d),.imm (.int .i64 p.want.e),.imm (.int .i64 p.want.f),.imm (.int .i64 p.bound)]
@[go_sem, reducible] def prA (p : Pr) : AV := .agg (prL p)
def prE (l : List Pr) (i j : Nat) : AV := nth (prL (gp l i)) j
@[go_sem] theorem prE_0 (l : List Pr) (i : Nat) : prE l i 0 = .imm (.int .i64 (gp l i).a) := rfl
@[go_sem] theorem prE_1 (l : List Pr) (i : Nat) : prE l i 1 = .imm (.int .i64 (gp l i).b) := rfl
@[go_sem] theorem prE_2 (l : List Pr) (i : Nat) : prE l i 2 = .imm (.int .i64 (gp l i).want.a) := rfl
@[go_sem] theorem prE_3 (l : List Pr) (i : Nat) : prE l i 3 = .imm (.int .i64 (gp l i).want.b) := rfl
@[go_sem] theorem prE_4 (l : List Pr) (i : Nat) : prE l i 4 = .imm (.int .i64 (gp l i).want.c) := rfl
@[go_sem] theorem prE_5 (l : List Pr) (i : Nat) : prE l i 5 = .imm (.int .i64 (gp l i).want.d) := rfl
@[go_sem] theorem prE_6 (l : List Pr) (i : Nat) : prE l i 6 = .imm (.int .i64 (gp l i).want.e) := rfl
@[go_sem] theorem prE_7 (l : List Pr) (i : Nat) : prE l i 7 = .imm (.int .i64 (gp l i).want.f) := rfl
@[go_sem] theorem prE_8 (l : List Pr) (i : Nat) : prE l i 8 = .imm (.int .i64 (gp l i).bound) := rfl
@[simp] theorem prE_pl (l : List Pr) (i j : Nat) : Pl (prE l i j) := by rcases j with _ | _ | _ | _ | _ | _ | _ | _ | _ | j <;> trivial
@[simp] theorem prE_free (l : List Pr) (i j : Nat) : Free (prE l i j) := Pl.free _ (prE_pl l i j)
@[go_sem, reducible] def prs (l : List Pr) : AV := .view l.length 9 (prE l)
def inE (l : List Int) (i : Nat) (_ : Nat) : AV := .imm (.int .i64 (gi l i))
@[simp] theorem inE_free (l : List Int) (i j : Nat) : Free (inE l i j) := trivial
@[simp] theorem inE_pl (l : List Int) (i j : Nat) : Pl (inE l i j) := trivial
@[go_sem] theorem inE_us (l : List Int) (i j : Nat) : inE l i j = .imm (.int .i64 (gi l i)) := rfl
@[go_sem, reducible] def ints (l : List Int) : AV := .view l.length 1 (inE l)
@[go_sem, reducible] def intO (l : List Int) : AObj := .arr 3 1 l.length (inE l)
@[go_sem, reducible] def scL (s : Sc) : List AV := [.imm (.int .i64 s.voices), nts s.notes, prs s.pairs, ints s.cads]
@[go_sem, reducible] def scA (s : Sc) : AV := .agg (scL s)
set_option maxRecDepth 100000 in
set_option maxHeartbeats 4000000 in
theorem bounded_tc (p : P6) (n : Int) (h0 : 0 ≤ n) (h1 : n ≤ 1000) : Look Try.prog 60 [p6A p,.imm (.int .i64 n)] (.imm (.bool (p.all (inB n)))) := by
  refine Look.mk trivial ?_
  (refine TC_of_T Γ_ok Try.func60 rfl (by kernel_rfl) ?_;simp only [Try.ntmps60,Try.results60,List.length_cons,List.length_nil,Nat.reduceSub,Nat.reduceAdd,List.replicate,List.cons_append,List.nil_append])
  (have sx1 : (0 : Nat) + 0 = 0 := rfl;((refine goU1 _ _ _ _ _ _ _ _ _ _ _ _ ?_ ?_ ?_ ?_ ?_ ?_ ?_ ?_ ?_ ?_ ?_ ?_) <;> (repeat intro hb) <;> first | exact True.intro | refine Lf.mk ?_))
  refine T_rounds 7 ?_
  (have sx1 : (0 : Nat) + 0 = 0 := rfl;((refine goU1 _ _ _ _ _ _ _ _ _ _ _ _ ?_ ?_ ?_ ?_ ?_ ?_ ?_ ?_ ?_ ?_ ?_ ?_) <;> (repeat intro hb) <;> first | exact True.intro | refine Lf.mk ?_))
  all_goals (refine congrArg (fun b => AV.imm (.bool b)) ?_; simp only [P6.all, inB]; grind)
set_option maxRecDepth 100000 in
set_option maxHeartbeats 4000000 in
theorem rbounded_tc (p : P6) (n : Int) (h0 : 0 ≤ n) (h1 : n ≤ 1000) : Look Try.prog 37 [p6A p,.imm (.int .i64 n)] (.imm (.bool (p.all (inB n)))) := by
  refine Look.mk trivial ?_
  (refine TC_of_T Γ_ok Try.func37 rfl (by kernel_rfl) ?_;simp only [Try.ntmps37,Try.results37,List.length_cons,List.length_nil,Nat.reduceSub,Nat.reduceAdd,List.replicate,List.cons_append,List.nil_append])
  (have sx1 : (0 : Nat) + 0 = 0 := rfl;((refine goU1 _ _ _ _ _ _ _ _ _ _ _ _ ?_ ?_ ?_ ?_ ?_ ?_ ?_ ?_ ?_ ?_ ?_ ?_) <;> (repeat intro hb) <;> first | exact True.intro | refine Lf.mk ?_))
  refine T_rounds 7 ?_
  (have sx1 : (0 : Nat) + 0 = 0 := rfl;((refine goU1 _ _ _ _ _ _ _ _ _ _ _ _ ?_ ?_ ?_ ?_ ?_ ?_ ?_ ?_ ?_ ?_ ?_ ?_) <;> (repeat intro hb) <;> first | exact True.intro | refine Lf.mk ?_))
  all_goals (refine congrArg (fun b => AV.imm (.bool b)) ?_; simp only [P6.all, inB]; grind)
set_option maxRecDepth 100000 in
set_option maxHeartbeats 4000000 in
theorem add_tc (p q : P6) (h0 : Bd6 100000 p) (h1 : Bd6 100000 q) : Look Try.prog 50 [p6A p,p6A q] (p6A (p.add q)) := by
  unfold Bd6 at h0 h1
  refine Look.mk (by simp [Pl, PlL]) ?_
  (refine TC_of_T Γ_ok Try.func50 rfl (by kernel_rfl) ?_;simp only [Try.ntmps50,Try.results50,List.length_cons,List.length_nil,Nat.reduceSub,Nat.reduceAdd,List.replicate,List.cons_append,List.nil_append])
  (have sx1 : (0 : Nat) + 0 = 0 := rfl;((refine goU1 _ _ _ _ _ _ _ _ _ _ _ _ ?_ ?_ ?_ ?_ ?_ ?_ ?_ ?_ ?_ ?_ ?_ ?_) <;> (repeat intro hb) <;> first | exact True.intro | refine Lf.mk ?_))
  refine T_rounds 7 ?_
  (have sx1 : (0 : Nat) + 0 = 0 := rfl;((refine goU1 _ _ _ _ _ _ _ _ _ _ _ _ ?_ ?_ ?_ ?_ ?_ ?_ ?_ ?_ ?_ ?_ ?_ ?_) <;> (repeat intro hb) <;> first | exact True.intro | refine Lf.mk ?_))
  rfl
end Go.Proofs.Ytmglcamgpgkblaa
