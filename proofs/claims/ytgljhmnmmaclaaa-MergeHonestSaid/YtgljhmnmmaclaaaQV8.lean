/-
  Contracts of kinds, run.prepare, run.start and run.accept.
-/
import Derived.Test.YtgljhmnmmaclaaaQGo
import Derived.Test.YtgljhmnmmaclaaaQV7
set_option linter.unusedSimpArgs false
set_option linter.unusedVariables false
namespace Go.Proofs.Ytgljhmnmmaclaaa.Q
open Go.Ab
def valE (l : List Sta) : List (Value × AV) := l.map fun s => (.int .i64 s.b, tkA s.x)
theorem mget_val (b : Int) : ∀ l : List Sta, mget (valE l) (.int .i64 b) = (started l b).map tkA
  | [] => rfl
  | s :: l => by
    have ih := mget_val b l
    simp only [valE] at ih
    simp only [valE, List.map_cons, mget, keq, ih, started]
    by_cases h : b = s.b
    · simp [h]
    · simp only [beq_iff_eq, h, if_false]
      rw [if_neg (fun e => h e.symm)]
def valT (l : List Sta) (b : Int) : Tk := (started l b).getD tk0
@[go_sem] theorem mval_val (l : List Sta) (b : Int) : mval (valE l) (.agg [.imm (.int .i64 0),.imm (.int .i64 0),.imm (.int .i64 0),.imm (.int .i64 0)]) (.int .i64 b) = tkA (valT l b) := by
  unfold mval valT
  rw [mget_val]
  cases started l b <;> rfl
@[go_sem] theorem mhas_val (l : List Sta) (b : Int) : mhas (valE l) (.int .i64 b) = (started l b).isSome := by
  unfold mhas
  rw [mget_val]
  cases started l b <;> rfl
theorem mput_val (b : Int) (x : Tk) : ∀ l : List Sta,started l b = none → mput (valE l) (.int .i64 b) (tkA x) = valE (l ++ [⟨b,x⟩])
  | [], _ => rfl
  | s :: l, h => by
    unfold started at h
    split at h
    · cases h
    · rename_i hne
      have ih := mput_val b x l h
      simp only [valE] at ih
      simp only [valE, List.map_cons, mput, keq, ih, List.cons_append]
      rw [if_neg (by simpa using fun e : b = s.b => hne e.symm)]
theorem valE_free (l : List Sta) : FreeL ((valE l).map (·.2)) := by
  induction l with
  | nil => trivial
  | cons d D ih => exact ⟨by simp [Free, FreeL], ih⟩
def kindE : List (Value × AV) := [(.int .i64 1,.agg [.fn (.func 38) [] [],.fn (.func 39) [] []]),(.int .i64 2,.agg [.fn (.func 40) [] [],.fn (.func 41) [] []]),(.int .i64 3,.agg [.fn (.func 38) [] [],.fn (.func 42) [] []])]
set_option maxRecDepth 100000 in
set_option maxHeartbeats 4000000 in
theorem kinds_tc : Makes Try.prog 17 [] (.map 0) [.mp (.int .i64) kindE] := by
  refine ⟨?_, trivial, fun a ha => by simp only [List.mem_singleton] at ha; subst ha; simp [PlO, kindE, Pl, PlL]⟩
  (refine TC_of_T Γ_ok Try.func17 rfl (by kernel_rfl) ?_;simp only [Try.ntmps17,Try.results17,List.length_cons,List.length_nil,Nat.reduceSub,Nat.reduceAdd,List.replicate,List.cons_append,List.nil_append])
  (((refine goR0 _ _ _ _ _ _ _ _ ?_ ?_ ?_ ?_ ?_ ?_ ?_ ?_) <;> (repeat intro hb) <;> first | exact True.intro | refine Lf.mk ?_))
  rfl
set_option maxRecDepth 100000 in
set_option maxHeartbeats 4000000 in
theorem validTo_tc (n k b t s c e d : Int) : Look Try.prog 38 [.imm (.int .i64 n),.agg [.imm (.int .i64 k),.imm (.int .i64 b),.imm (.int .i64 t),.imm (.int .i64 s),.imm (.int .i64 c),.imm (.int .i64 e),.imm (.int .i64 d)]] (.imm (.bool (decide (0 ≤ t) && decide (t < n)))) := by
  refine Look.mk trivial ?_
  (refine TC_of_T Γ_ok Try.func38 rfl (by kernel_rfl) ?_;simp only [Try.ntmps38,Try.results38,List.length_cons,List.length_nil,Nat.reduceSub,Nat.reduceAdd,List.replicate,List.cons_append,List.nil_append])
  (have cl1 := fun u1 u2 => isDesk_tc u1 u2;((refine goR0 _ _ _ _ _ _ _ _ ?_ ?_ ?_ ?_ ?_ ?_ ?_ ?_) <;> (repeat intro hb) <;> first | exact True.intro | refine Lf.mk ?_))
set_option maxRecDepth 100000 in
set_option maxHeartbeats 4000000 in
theorem validVal_tc (n k b t s c e d : Int) : Look Try.prog 40 [.imm (.int .i64 n),.agg [.imm (.int .i64 k),.imm (.int .i64 b),.imm (.int .i64 t),.imm (.int .i64 s),.imm (.int .i64 c),.imm (.int .i64 e),.imm (.int .i64 d)]] (.imm (.bool (takeB s c e d))) := by
  refine Look.mk trivial ?_
  (refine TC_of_T Γ_ok Try.func40 rfl (by kernel_rfl) ?_;simp only [Try.ntmps40,Try.results40,List.length_cons,List.length_nil,Nat.reduceSub,Nat.reduceAdd,List.replicate,List.cons_append,List.nil_append])
  (have cl1 := fun u1 u2 u3 u4 => take_tc u1 u2 u3 u4;((refine goR0 _ _ _ _ _ _ _ _ ?_ ?_ ?_ ?_ ?_ ?_ ?_ ?_) <;> (repeat intro hb) <;> first | exact True.intro | refine Lf.mk ?_))
@[go_sem, reducible] def nilA : AV := .imm (.slice none 0 0)
@[go_sem, reducible] def rObj (n : Int) (R : Rnd) (m : Mov) : List AObj :=
  [.box 30 [nilA, nilA, nilA, nilA], .mp (.int .i64) kindE,
   .box 80 [.own 3 0 R.acc.length none,.own 4 0 R.pro.length none,.own 5 0 R.sta.length none,.own 6 0 R.vot.length none,.imm (.int .i64 n),.map 7],
   .arr 120 6 R.acc.length (accE R.acc),.arr 122 7 R.pro.length (proE R.pro),.arr 40 5 R.sta.length (staE R.sta),.arr 45 6 R.vot.length (votE R.vot),.mp (.int .i64) (valE R.sta),.box 70 (movL m)]
@[go_sem] theorem Acc.eta (x : Acc) : (⟨x.p, x.v, x.x⟩ : Acc) = x := rfl
theorem prepare_e (p v s c n e d b : Int) : Look Try.prog 53 [.agg [.imm (.int .i64 p),.imm (.int .i64 v),.imm (.int .i64 s),.imm (.int .i64 c),.imm (.int .i64 n),.imm (.int .i64 e)],.imm (.int .i64 d),.imm (.int .i64 b)]
    (.tup [accA (prepR ⟨p,v,⟨s,c,n,e⟩⟩ d b).1,proA (prepR ⟨p,v,⟨s,c,n,e⟩⟩ d b).2.1,.imm (.int .i64 (prepR ⟨p,v,⟨s,c,n,e⟩⟩ d b).2.2)]) := prepare_tc ⟨p,v,⟨s,c,n,e⟩⟩ d b
theorem accept_e (p v s c n e d b s' c' n' e' : Int) : Look Try.prog 55 [.agg [.imm (.int .i64 p),.imm (.int .i64 v),.imm (.int .i64 s),.imm (.int .i64 c),.imm (.int .i64 n),.imm (.int .i64 e)],.imm (.int .i64 d),.imm (.int .i64 b),.agg [.imm (.int .i64 s'),.imm (.int .i64 c'),.imm (.int .i64 n'),.imm (.int .i64 e')]]
    (.tup [accA (accR ⟨p,v,⟨s,c,n,e⟩⟩ d b ⟨s',c',n',e'⟩).1,votA (accR ⟨p,v,⟨s,c,n,e⟩⟩ d b ⟨s',c',n',e'⟩).2.1,.imm (.int .i64 (accR ⟨p,v,⟨s,c,n,e⟩⟩ d b ⟨s',c',n',e'⟩).2.2)]) := accept_tc ⟨p,v,⟨s,c,n,e⟩⟩ d b ⟨s',c',n',e'⟩
def Holds (n : Nat) (σ' σ2 : List AObj) : Prop := ∃ π : List Nat,π.take n = List.range n ∧ π.Nodup ∧ (∀ o ∈ π,o < σ'.length) ∧ WkOL π σ' π σ2
theorem TC.holds {f : FuncId} {args : List AV} {σ : List AObj} {Q : List AObj → Prop} (h : TC Try.prog f args σ (fun v σ'=>v = .tup [] ∧ ∃ σ2,Holds σ.length σ' σ2 ∧ Q σ2)) : TC Try.prog f args σ (fun v σ'=>v = .tup [] ∧ Q σ') :=
  h.weak fun v σ' ⟨hv,σ2,⟨π,h1,h2,h3,h4⟩,hq⟩ => ⟨π,v,σ2,h1,h2,h3,by subst hv;exact WkV.free (by simp [Free,FreeL]),h4,hv,hq⟩
theorem updE_set {R : Type} (L : R → List AV) (d : R) (l : List R) (x : R) {k i j : Nat} (hk : k < l.length) (hj : j < (L x).length) :
    updE (fun i j => nth (L (l.getD i d)) j) k 0 (L x) i j = nth (L ((l.set k x).getD i d)) j := by
  unfold updE
  simp only [List.getD_eq_getElem?_getD, List.getElem?_set, Nat.sub_zero, Nat.zero_le, true_and, Nat.zero_add]
  by_cases h : i = k
  · subst h
    simp [hj, hk]
  · rw [if_neg (by rintro ⟨q, _⟩; exact h q), if_neg (by omega)]
theorem acc_upd (l : List Acc) (x : Acc) {k i j : Nat} (hk : k < l.length) (hj : j < 6) : updE (accE l) k 0 (accL x) i j = accE (l.set k x) i j := updE_set accL _ l x hk hj
theorem pro_snoc (l : List Pro) (x : Pro) {i j : Nat} (h : i < l.length + 1) : catE l.length (proE l) (fun i j => nth (proL x) (i * 7 + j)) i j = proE (l ++ [x]) i j := catE_snoc proL _ 7 l x h
theorem vot_snoc (l : List Vot) (x : Vot) {i j : Nat} (h : i < l.length + 1) : catE l.length (votE l) (fun i j => nth (votL x) (i * 6 + j)) i j = votE (l ++ [x]) i j := catE_snoc votL _ 6 l x h
@[go_sem, reducible] def rObjP (n : Int) (R : Rnd) (m : Mov) : List AObj :=
  [.box 30 [nilA, nilA, nilA, nilA], .mp (.int .i64) kindE,
   .box 80 [.own 3 0 R.acc.length none,.own 9 0 R.pro.length none,.own 5 0 R.sta.length none,.own 6 0 R.vot.length none,.imm (.int .i64 n),.map 7],
   .arr 120 6 R.acc.length (accE R.acc),.dead,.arr 40 5 R.sta.length (staE R.sta),.arr 45 6 R.vot.length (votE R.vot),.mp (.int .i64) (valE R.sta),.box 70 (movL m),.arr 122 7 R.pro.length (proE R.pro)]
@[go_sem, reducible] def rObjS (n : Int) (R : Rnd) (m : Mov) : List AObj :=
  [.box 30 [nilA, nilA, nilA, nilA], .mp (.int .i64) kindE,
   .box 80 [.own 3 0 R.acc.length none,.own 4 0 R.pro.length none,.own 9 0 R.sta.length none,.own 6 0 R.vot.length none,.imm (.int .i64 n),.map 7],
   .arr 120 6 R.acc.length (accE R.acc),.arr 122 7 R.pro.length (proE R.pro),.dead,.arr 45 6 R.vot.length (votE R.vot),.mp (.int .i64) (valE R.sta),.box 70 (movL m),.arr 40 5 R.sta.length (staE R.sta)]
@[go_sem, reducible] def rObjV (n : Int) (R : Rnd) (m : Mov) : List AObj :=
  [.box 30 [nilA, nilA, nilA, nilA], .mp (.int .i64) kindE,
   .box 80 [.own 3 0 R.acc.length none,.own 4 0 R.pro.length none,.own 5 0 R.sta.length none,.own 9 0 R.vot.length none,.imm (.int .i64 n),.map 7],
   .arr 120 6 R.acc.length (accE R.acc),.arr 122 7 R.pro.length (proE R.pro),.arr 40 5 R.sta.length (staE R.sta),.dead,.mp (.int .i64) (valE R.sta),.box 70 (movL m),.arr 45 6 R.vot.length (votE R.vot)]
theorem kindE_free : FreeL (kindE.map (·.2)) := by simp [kindE, Free, FreeL]
set_option maxRecDepth 100000 in
set_option maxHeartbeats 4000000 in
theorem prepare_raw (n : Int) (R : Rnd) (m : Mov) (h1 : 0 ≤ m.t) (h2 : m.t < R.acc.length) (hp : R.pro.length ≤ 1000000) :
    TC Try.prog 39 [.optr 2 0 0,movA m] (rObj n R m) (fun v σ' => v = .tup [] ∧ ∃ σ2,Holds 9 σ' σ2 ∧ ((prepS R m = R ∧ σ2 = rObj n R m) ∨ σ2 = rObjP n (prepS R m) m)) := by
  have hup := fun (x : Acc) (i j : Nat) (hj : j < 6) => acc_upd R.acc x (k := m.t.toNat) (i := i) (j := j) (by omega) hj
  have hsn := fun (x : Pro) (i j : Nat) h => pro_snoc R.pro x (i := i) (j := j) h
  (refine TC_of_T Γ_ok Try.func39 rfl (by kernel_rfl) ?_;simp only [Try.ntmps39,Try.results39,List.length_cons,List.length_nil,Nat.reduceSub,Nat.reduceAdd,List.replicate,List.cons_append,List.nil_append])
  (have cl1 := fun u1 u2 u3 u4 u5 u6 u7 u8=>prepare_e u1 u2 u3 u4 u5 u6 u7 u8;repeat' (first|with_reducible refine T_seq_drawT (id := 1) Γ_ok drawsAny pl39_1 (by kernel_rfl) (fun K hK=>?_)|with_reducible refine T_last_drawT (id := 1) Γ_ok drawsAny pl39_1 (by kernel_rfl) (fun K hK=>?_)|with_reducible refine T_seq_drawT (id := 3) Γ_ok drawsAny pl39_3 (by kernel_rfl) (fun K hK=>?_)|with_reducible refine T_last_drawT (id := 3) Γ_ok drawsAny pl39_3 (by kernel_rfl) (fun K hK=>?_)|with_reducible refine T_seq_drawT (id := 4) Γ_ok drawsAny pl39_4 (by kernel_rfl) (fun K hK=>?_)|with_reducible refine T_last_drawT (id := 4) Γ_ok drawsAny pl39_4 (by kernel_rfl) (fun K hK=>?_)|((refine goR0 _ _ _ _ _ _ _ _ ?_ ?_ ?_ ?_ ?_ ?_ ?_ ?_) <;> (repeat intro hb) <;> first|exact True.intro|refine Lf.mk ?_)))
  all_goals first
    | (have hs : prepS R m = { R with acc := R.acc.set m.t.toNat (prepR (gA R.acc m.t.toNat) m.t m.b).1,pro := R.pro ++ [(prepR (gA R.acc m.t.toNat) m.t m.b).2.1] } := by unfold prepS;rw [if_pos hb]
       rw [hs]
       simp only [List.length_set, List.length_append, List.length_cons, List.length_nil, Nat.zero_add]
       refine ⟨_, ⟨[0, 1, 2, 3, 4, 5, 6, 7, 8, 12], rfl, by decide, by intro o ho; simp at ho ⊢; omega, ?_⟩, .inr rfl⟩
       (repeat' (first|exact WkO.mpE rfl kindE_free|exact WkO.mpE rfl (valE_free _)|exact WkV.eqF (hup _ _ _ (by assumption)) (accE_free _ _ _)|exact WkV.eqF (hsn _ _ _ (by assumption)) (proE_free _ _ _)|exact WkVL.nil|refine WkVL.cons ?_ ?_|exact WkV.imm rfl|exact WkV.own rfl (by simp)|exact WkV.map rfl|(refine WkV.free ?_;simp [Free,FreeL];done)|exact WkO.dead|refine WkO.box ?_ rfl|refine WkO.arr ?_|refine And.intro ?_ (And.intro (fun h=>h) ?_)|refine And.intro ?_ (And.intro (fun h=>by cases h) ?_)|exact trivial|(intro _ _ _ _)))
       done)
    | (have hs : prepS R m = R := by unfold prepS; rw [if_neg hb]
       refine ⟨_, ⟨[0, 1, 2, 3, 4, 5, 6, 7, 8], rfl, by decide, by intro o ho; simp at ho ⊢; omega, ?_⟩, .inl ⟨hs, rfl⟩⟩
       (repeat' (first|exact WkO.mpE rfl kindE_free|exact WkO.mpE rfl (valE_free _)|exact WkVL.nil|refine WkVL.cons ?_ ?_|exact WkV.imm rfl|exact WkV.own rfl (by simp)|exact WkV.map rfl|(refine WkV.free ?_;simp [Free,FreeL];done)|exact WkO.dead|refine WkO.box ?_ rfl|refine WkO.arr ?_|refine And.intro ?_ (And.intro (fun h=>h) ?_)|exact trivial|(intro _ _ _ _)))
       done)
theorem prepare_run (n : Int) (R : Rnd) (m : Mov) (h1 : 0 ≤ m.t) (h2 : m.t < R.acc.length) (hp : R.pro.length ≤ 1000000) :
    TC Try.prog 39 [.optr 2 0 0,movA m] (rObj n R m) (fun v σ' => v = .tup [] ∧ ((prepS R m = R ∧ σ' = rObj n R m) ∨ σ' = rObjP n (prepS R m) m)) := TC.holds (prepare_raw n R m h1 h2 hp)
end Go.Proofs.Ytgljhmnmmaclaaa.Q
