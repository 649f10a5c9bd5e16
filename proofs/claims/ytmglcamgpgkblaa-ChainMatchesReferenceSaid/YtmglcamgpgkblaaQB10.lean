/-
  chain: put, opens.
-/
import Derived.Test.YtmglcamgpgkblaaQGo
import Derived.Test.YtmglcamgpgkblaaQB9
set_option linter.unusedSimpArgs false
set_option linter.unusedVariables false
namespace Go.Proofs.Ytmglcamgpgkblaa
open Go.Ab
@[go_sem,reducible] def rtL (R : List P6) : List AV := [.imm (.int .i64 R.length),.imm (.int .i64 (R.getD 0 z6).a),.imm (.int .i64 (R.getD 0 z6).b),.imm (.int .i64 (R.getD 0 z6).c),.imm (.int .i64 (R.getD 0 z6).d),.imm (.int .i64 (R.getD 0 z6).e),.imm (.int .i64 (R.getD 0 z6).f),.imm (.int .i64 (R.getD 1 z6).a),.imm (.int .i64 (R.getD 1 z6).b),.imm (.int .i64 (R.getD 1 z6).c),.imm (.int .i64 (R.getD 1 z6).d),.imm (.int .i64 (R.getD 1 z6).e),.imm (.int .i64 (R.getD 1 z6).f)]
@[go_sem, reducible] def rtA (R : List P6) : AV := .agg (rtL R)
def rtE (T : Nat → List P6) (i j : Nat) : AV := nth (rtL (T i)) j
@[go_sem] theorem rtE_0 (T : Nat → List P6) (i : Nat) : rtE T i 0 = .imm (.int .i64 (T i).length) := rfl
@[go_sem] theorem rtE_1 (T : Nat → List P6) (i : Nat) : rtE T i 1 = .imm (.int .i64 ((T i).getD 0 z6).a) := rfl
@[go_sem] theorem rtE_2 (T : Nat → List P6) (i : Nat) : rtE T i 2 = .imm (.int .i64 ((T i).getD 0 z6).b) := rfl
@[go_sem] theorem rtE_3 (T : Nat → List P6) (i : Nat) : rtE T i 3 = .imm (.int .i64 ((T i).getD 0 z6).c) := rfl
@[go_sem] theorem rtE_4 (T : Nat → List P6) (i : Nat) : rtE T i 4 = .imm (.int .i64 ((T i).getD 0 z6).d) := rfl
@[go_sem] theorem rtE_5 (T : Nat → List P6) (i : Nat) : rtE T i 5 = .imm (.int .i64 ((T i).getD 0 z6).e) := rfl
@[go_sem] theorem rtE_6 (T : Nat → List P6) (i : Nat) : rtE T i 6 = .imm (.int .i64 ((T i).getD 0 z6).f) := rfl
@[go_sem] theorem rtE_7 (T : Nat → List P6) (i : Nat) : rtE T i 7 = .imm (.int .i64 ((T i).getD 1 z6).a) := rfl
@[go_sem] theorem rtE_8 (T : Nat → List P6) (i : Nat) : rtE T i 8 = .imm (.int .i64 ((T i).getD 1 z6).b) := rfl
@[go_sem] theorem rtE_9 (T : Nat → List P6) (i : Nat) : rtE T i 9 = .imm (.int .i64 ((T i).getD 1 z6).c) := rfl
@[go_sem] theorem rtE_10 (T : Nat → List P6) (i : Nat) : rtE T i 10 = .imm (.int .i64 ((T i).getD 1 z6).d) := rfl
@[go_sem] theorem rtE_11 (T : Nat → List P6) (i : Nat) : rtE T i 11 = .imm (.int .i64 ((T i).getD 1 z6).e) := rfl
@[go_sem] theorem rtE_12 (T : Nat → List P6) (i : Nat) : rtE T i 12 = .imm (.int .i64 ((T i).getD 1 z6).f) := rfl
theorem rtE_pl (T : Nat → List P6) (i j : Nat) : Pl (rtE T i j) := by rcases j with _ | _ | _ | _ | _ | _ | _ | _ | _ | _ | _ | _ | _ | j <;> trivial
@[simp] theorem rtE_free (T : Nat → List P6) (i j : Nat) : Free (rtE T i j) := Pl.free _ (rtE_pl T i j)
@[go_sem, reducible] def rtO (n : Nat) (T : Nat → List P6) : AObj := .arr 87 13 n (rtE T)
@[go_sem, reducible] def rtV (n : Nat) (T : Nat → List P6) : AV := .view n 13 (rtE T)
def updT (T : Nat → List P6) (i : Nat) (R : List P6) (k : Nat) : List P6 := if k = i then R else T k
theorem rt_1 (T : Nat → List P6) (i : Nat) (v : P6) (h : T i = []) (p q : Nat) (hq : q < 13) : updE (updE (rtE T) i 1 (p6L v)) i 0 [.imm (.int .i64 1)] p q = rtE (updT T i [v]) p q := by
  by_cases hp : p = i
  · subst hp
    unfold updE rtE updT
    rw [if_pos rfl, h]
    rcases q with _ | _ | _ | _ | _ | _ | _ | _ | _ | _ | _ | _ | _ | q
    case succ.succ.succ.succ.succ.succ.succ.succ.succ.succ.succ.succ.succ => omega
    all_goals (simp [nth]; try rfl)
  · unfold updE; rw [if_neg (by omega), if_neg (by omega)]; unfold rtE updT; rw [if_neg hp]
theorem rt_2 (T : Nat → List P6) (i : Nat) (x v : P6) (h : T i = [x]) (p q : Nat) (hq : q < 13) : updE (updE (rtE T) i 7 (p6L v)) i 0 [.imm (.int .i64 2)] p q = rtE (updT T i [x,v]) p q := by
  by_cases hp : p = i
  · subst hp
    unfold updE rtE updT
    rw [if_pos rfl, h]
    rcases q with _ | _ | _ | _ | _ | _ | _ | _ | _ | _ | _ | _ | _ | q
    case succ.succ.succ.succ.succ.succ.succ.succ.succ.succ.succ.succ.succ => omega
    all_goals (simp [nth]; try rfl)
  · unfold updE; rw [if_neg (by omega), if_neg (by omega)]; unfold rtE updT; rw [if_neg hp]
theorem rt_0 (T : Nat → List P6) (i : Nat) (p q : Nat) : rtE T p q = rtE (updT T i (T i)) p q := by
  unfold rtE updT
  by_cases hp : p = i
  · subst hp; rw [if_pos rfl]
  · rw [if_neg hp]
theorem p6_eq (p q : P6) : (p.a = q.a ∧ p.b = q.b ∧ p.c = q.c ∧ p.d = q.d ∧ p.e = q.e ∧ p.f = q.f) ↔ p = q :=
  ⟨fun ⟨h1, h2, h3, h4, h5, h6⟩ => P6.ext' h1 h2 h3 h4 h5 h6, fun h => by subst h; exact ⟨rfl, rfl, rfl, rfl, rfl, rfl⟩⟩
set_option maxRecDepth 100000 in
set_option maxHeartbeats 4000000 in
theorem put_raw (n : Nat) (T : Nat → List P6) (i : Nat) (hi : i < n) (hT : (T i).length ≤ 2) (v : P6) : TC Try.prog 52 [.optr 0 i 0,p6A v] [rtO n T] (fun u σ'=>u = .tup [] ∧ ∃ E,nthO σ' 0 = .arr 87 13 n E ∧ 0 < σ'.length ∧ ∀ p q,p < n → q < 13 → E p q = rtE (updT T i (putR (T i) v)) p q) := by
  have key : ∀ R,T i = R → R.length ≤ 2 → TC Try.prog 52 [.optr 0 i 0,p6A v] [rtO n T] (fun u σ'=>u = .tup [] ∧ ∃ E,nthO σ' 0 = .arr 87 13 n E ∧ 0 < σ'.length ∧ ∀ p q,p < n → q < 13 → E p q = rtE (updT T i (putR (T i) v)) p q) := by
    intro R hR hl
    have hu1 : ∀ vs,updE (rtE T) i 1 vs i 0 = .imm (.int .i64 (T i).length) := fun vs => by unfold updE;rw [if_neg (by omega)];rfl
    have hu7 : ∀ vs,updE (rtE T) i 7 vs i 0 = .imm (.int .i64 (T i).length) := fun vs => by unfold updE;rw [if_neg (by omega)];rfl
    match R, hR, hl with
    | [], hR, _ =>
      (refine TC_of_T Γ_ok Try.func52 rfl (by kernel_rfl) ?_;simp only [Try.ntmps52,Try.results52,List.length_cons,List.length_nil,Nat.reduceSub,Nat.reduceAdd,List.replicate,List.cons_append,List.nil_append])
      (have sx1 := (And.intro hu1 (And.intro hu7 hR));repeat' (first|with_reducible refine T_seq_drawT (id := 1) Γ_ok drawsAny pl52_1 (by kernel_rfl) (fun K hK=>?_)|with_reducible refine T_last_drawT (id := 1) Γ_ok drawsAny pl52_1 (by kernel_rfl) (fun K hK=>?_)|with_reducible refine T_seq_drawT (id := 2) Γ_ok drawsAny pl52_2 (by kernel_rfl) (fun K hK=>?_)|with_reducible refine T_last_drawT (id := 2) Γ_ok drawsAny pl52_2 (by kernel_rfl) (fun K hK=>?_)|((refine goU1 _ _ _ _ _ _ _ _ _ _ _ _ ?_ ?_ ?_ ?_ ?_ ?_ ?_ ?_ ?_ ?_ ?_ ?_) <;> (repeat intro hb) <;> first|exact True.intro|refine Lf.mk ?_)))
      exact ⟨_, rfl, fun p q _ hq => rt_1 T i v hR p q hq⟩
    | [x], hR, _ =>
      (refine TC_of_T Γ_ok Try.func52 rfl (by kernel_rfl) ?_;simp only [Try.ntmps52,Try.results52,List.length_cons,List.length_nil,Nat.reduceSub,Nat.reduceAdd,List.replicate,List.cons_append,List.nil_append])
      (have sx1 := (And.intro hu1 (And.intro hu7 hR));repeat' (first|with_reducible refine T_seq_drawT (id := 1) Γ_ok drawsAny pl52_1 (by kernel_rfl) (fun K hK=>?_)|with_reducible refine T_last_drawT (id := 1) Γ_ok drawsAny pl52_1 (by kernel_rfl) (fun K hK=>?_)|with_reducible refine T_seq_drawT (id := 2) Γ_ok drawsAny pl52_2 (by kernel_rfl) (fun K hK=>?_)|with_reducible refine T_last_drawT (id := 2) Γ_ok drawsAny pl52_2 (by kernel_rfl) (fun K hK=>?_)|((refine goU1 _ _ _ _ _ _ _ _ _ _ _ _ ?_ ?_ ?_ ?_ ?_ ?_ ?_ ?_ ?_ ?_ ?_ ?_) <;> (repeat intro hb) <;> first|exact True.intro|refine Lf.mk ?_)))
      · have hne : putR [x] v = [x, v] := by
          unfold putR
          have hc : x ≠ v := fun e => by
            subst e
            exact hb rfl rfl rfl rfl rfl rfl
          rw [if_pos ⟨by simp, .inr hc⟩]; rfl
        exact ⟨_, rfl, fun p q _ hq => by rw [hne]; exact rt_2 T i x v hR p q hq⟩
      · have hne : putR [x] v = [x] := by
          unfold putR
          rw [if_neg]
          rintro ⟨_, h | h⟩
          · simp at h
          · exact h ((p6_eq x v).1 hb)
        exact ⟨_, rfl, fun p q _ hq => by rw [hne, ← hR]; exact rt_0 T i p q⟩
    | [x, y], hR, _ =>
      (refine TC_of_T Γ_ok Try.func52 rfl (by kernel_rfl) ?_;simp only [Try.ntmps52,Try.results52,List.length_cons,List.length_nil,Nat.reduceSub,Nat.reduceAdd,List.replicate,List.cons_append,List.nil_append])
      (have sx1 := (And.intro hu1 (And.intro hu7 hR));repeat' (first|with_reducible refine T_seq_drawT (id := 1) Γ_ok drawsAny pl52_1 (by kernel_rfl) (fun K hK=>?_)|with_reducible refine T_last_drawT (id := 1) Γ_ok drawsAny pl52_1 (by kernel_rfl) (fun K hK=>?_)|with_reducible refine T_seq_drawT (id := 2) Γ_ok drawsAny pl52_2 (by kernel_rfl) (fun K hK=>?_)|with_reducible refine T_last_drawT (id := 2) Γ_ok drawsAny pl52_2 (by kernel_rfl) (fun K hK=>?_)|((refine goU1 _ _ _ _ _ _ _ _ _ _ _ _ ?_ ?_ ?_ ?_ ?_ ?_ ?_ ?_ ?_ ?_ ?_ ?_) <;> (repeat intro hb) <;> first|exact True.intro|refine Lf.mk ?_)))
      have hne : putR [x, y] v = [x, y] := by
        unfold putR
        rw [if_neg]
        rintro ⟨h, _⟩
        simp at h
      exact ⟨_, rfl, fun p q _ hq => by rw [hne, ← hR]; exact rt_0 T i p q⟩
  exact key _ rfl hT
theorem put_tc (n : Nat) (T : Nat → List P6) (i : Nat) (hi : i < n) (hT : (T i).length ≤ 2) (v : P6) : TC Try.prog 52 [.optr 0 i 0,p6A v] [rtO n T] (fun u σ'=>u = .tup [] ∧ σ' = [rtO n (updT T i (putR (T i) v))]) :=
  (put_raw n T i hi hT v).weak fun u σ' ⟨hu,E,h1,h2,h3⟩ => ⟨[0],.tup [],[rtO n (updT T i (putR (T i) v))],rfl,by simp,by intro o ho;simp at ho;omega,by rw [hu];exact WkV.tup WkVL.nil,
    ⟨by rw [h1];exact WkO.arr fun p q hp hq => WkV.eqF (h3 p q hp hq) (rtE_free _ _ _),fun _ => by rw [h1];rfl,trivial⟩,rfl,rfl⟩
theorem put_tu (n : Nat) (T : Nat → List P6) (i : Nat) (hi : i < n) (hT : (T i).length ≤ 2) (v : P6) : Turns Try.prog 52 [.optr 0 i 0,p6A v] [rtO n T] (.tup []) [rtO n (updT T i (putR (T i) v))] :=
  ⟨put_tc n T i hi hT v,by simp [VF,VFL],fun a ha => by simp only [List.mem_singleton] at ha;subst ha;exact fun p q => rtE_pl _ p q⟩
set_option maxRecDepth 100000 in
set_option maxHeartbeats 4000000 in
theorem opens_tc (R : List P6) (v : P6) (hR : R.length ≤ 2) (hb : ∀ x ∈ R,Bd6 100000 x) (hv : Bd6 100000 v) : Look Try.prog 53 [rtA R,p6A v] (.imm (.bool (opn v R))) := by
  refine Look.mk trivial ?_
  match R, hR, hb with
  | [], _, _ =>
    (refine TC_of_T Γ_ok Try.func53 rfl (by kernel_rfl) ?_;simp only [Try.ntmps53,Try.results53,List.length_cons,List.length_nil,Nat.reduceSub,Nat.reduceAdd,List.replicate,List.cons_append,List.nil_append])
    (have sx1 : (0 : Nat) + 0 = 0 := rfl;((refine goU1 _ _ _ _ _ _ _ _ _ _ _ _ ?_ ?_ ?_ ?_ ?_ ?_ ?_ ?_ ?_ ?_ ?_ ?_) <;> (repeat intro hb) <;> first | exact True.intro | refine Lf.mk ?_))
    refine T_rounds 4 ?_
    (have sx1 : (0 : Nat) + 0 = 0 := rfl;((refine goU1 _ _ _ _ _ _ _ _ _ _ _ _ ?_ ?_ ?_ ?_ ?_ ?_ ?_ ?_ ?_ ?_ ?_ ?_) <;> (repeat intro hb) <;> first | exact True.intro | refine Lf.mk ?_))
    rfl
  | [x], _, hb =>
    have c1 := add_tc v x hv (hb x (by simp))
    (refine TC_of_T Γ_ok Try.func53 rfl (by kernel_rfl) ?_;simp only [Try.ntmps53,Try.results53,List.length_cons,List.length_nil,Nat.reduceSub,Nat.reduceAdd,List.replicate,List.cons_append,List.nil_append])
    (have sx1 : (0 : Nat) + 0 = 0 := rfl;((refine goU1 _ _ _ _ _ _ _ _ _ _ _ _ ?_ ?_ ?_ ?_ ?_ ?_ ?_ ?_ ?_ ?_ ?_ ?_) <;> (repeat intro hb) <;> first | exact True.intro | refine Lf.mk ?_))
    refine T_rounds 4 ?_
    (have cl1 := c1;have sx1 : (0 : Nat) + 0 = 0 := rfl;((refine goU1 _ _ _ _ _ _ _ _ _ _ _ _ ?_ ?_ ?_ ?_ ?_ ?_ ?_ ?_ ?_ ?_ ?_ ?_) <;> (repeat intro hb) <;> first|exact True.intro|refine Lf.mk ?_))
    · have h1 : v.add x ≠ z6 := fun e => by obtain ⟨e1,e2,e3,e4,e5,e6⟩ := (p6_eq _ _).2 e;exact hb e1 e2 e3 e4 e5 e6
      simp [opn, h1]
    · have h2 := (p6_eq (v.add x) z6).1 (by assumption)
      simp [opn, h2]
  | [x, y], _, hb =>
    have c1 := add_tc v x hv (hb x (by simp))
    have c2 := add_tc v y hv (hb y (by simp))
    (refine TC_of_T Γ_ok Try.func53 rfl (by kernel_rfl) ?_;simp only [Try.ntmps53,Try.results53,List.length_cons,List.length_nil,Nat.reduceSub,Nat.reduceAdd,List.replicate,List.cons_append,List.nil_append])
    (have sx1 : (0 : Nat) + 0 = 0 := rfl;((refine goU1 _ _ _ _ _ _ _ _ _ _ _ _ ?_ ?_ ?_ ?_ ?_ ?_ ?_ ?_ ?_ ?_ ?_ ?_) <;> (repeat intro hb) <;> first | exact True.intro | refine Lf.mk ?_))
    refine T_rounds 4 ?_
    (have dl1 := c1;have dl2 := c2;have sx1 : (0 : Nat) + 0 = 0 := rfl;((refine goU1 _ _ _ _ _ _ _ _ _ _ _ _ ?_ ?_ ?_ ?_ ?_ ?_ ?_ ?_ ?_ ?_ ?_ ?_) <;> (repeat intro hb) <;> first|exact True.intro|refine Lf.mk ?_))
    · have h1 : v.add x ≠ z6 := fun e => by obtain ⟨e1,e2,e3,e4,e5,e6⟩ := (p6_eq _ _).2 e;exact hb e1 e2 e3 e4 e5 e6
      simp [opn, h1]
    · have h1 : v.add y ≠ z6 := fun e => by obtain ⟨e1,e2,e3,e4,e5,e6⟩ := (p6_eq _ _).2 e;exact hb e1 e2 e3 e4 e5 e6
      simp [opn, h1]
    · have h3 := (p6_eq (v.add x) z6).1 (by assumption)
      have h4 := (p6_eq (v.add y) z6).1 (by assumption)
      simp [opn, h3, h4]
end Go.Proofs.Ytmglcamgpgkblaa
