/-
  Contracts of run.start and run.accept.
-/
import Derived.Test.YtgljhmnmmaclaaaQGo
import Derived.Test.YtgljhmnmmaclaaaQV8
set_option linter.unusedSimpArgs false
set_option linter.unusedVariables false
namespace Go.Proofs.Ytgljhmnmmaclaaa.Q
open Go.Ab
theorem choose_e (n b : Int) (ps : List Pro) (s c k d : Int) (hl : ps.length ≤ 1000000) : Look Try.prog 54 [.imm (.int .i64 n),.imm (.int .i64 b),pros ps,.agg [.imm (.int .i64 s),.imm (.int .i64 c),.imm (.int .i64 k),.imm (.int .i64 d)]]
    (.tup [tkA (chooseR n b ps ⟨s,c,k,d⟩).1,.imm (.int .i64 (chooseR n b ps ⟨s,c,k,d⟩).2)]) := choose_tc n b ps ⟨s,c,k,d⟩ hl
set_option maxRecDepth 100000 in
set_option maxHeartbeats 4000000 in
theorem start_raw (n : Int) (R : Rnd) (m : Mov) (hp : R.pro.length ≤ 1000000) (hst : R.sta.length ≤ 1000000) :
    TC Try.prog 41 [.optr 2 0 0,movA m] (rObj n R m) (fun v σ' => v = .tup [] ∧ ∃ σ2,Holds 9 σ' σ2 ∧ ((startS n R m = R ∧ σ2 = rObj n R m) ∨ σ2 = rObjS n (startS n R m) m)) := by
  have hsn := fun (i j : Nat) h => sta_snoc R.sta ⟨m.b, (chooseR n m.b R.pro m.x).1⟩ (i := i) (j := j) h
  (refine TC_of_T Γ_ok Try.func41 rfl (by kernel_rfl) ?_;simp only [Try.ntmps41,Try.results41,List.length_cons,List.length_nil,Nat.reduceSub,Nat.reduceAdd,List.replicate,List.cons_append,List.nil_append])
  have c1 := choose_e n m.b R.pro m.x.s m.x.c m.x.n m.x.d hp
  (have cl1 := c1;repeat' (first|with_reducible refine T_seq_drawT (id := 1) Γ_ok drawsAny pl41_1 (by kernel_rfl) (fun K hK=>?_)|with_reducible refine T_last_drawT (id := 1) Γ_ok drawsAny pl41_1 (by kernel_rfl) (fun K hK=>?_)|with_reducible refine T_seq_drawT (id := 3) Γ_ok drawsAny pl41_3 (by kernel_rfl) (fun K hK=>?_)|with_reducible refine T_last_drawT (id := 3) Γ_ok drawsAny pl41_3 (by kernel_rfl) (fun K hK=>?_)|with_reducible refine T_seq_drawT (id := 5) Γ_ok drawsAny pl41_5 (by kernel_rfl) (fun K hK=>?_)|with_reducible refine T_last_drawT (id := 5) Γ_ok drawsAny pl41_5 (by kernel_rfl) (fun K hK=>?_)|with_reducible refine T_seq_drawT (id := 6) Γ_ok drawsAny pl41_6 (by kernel_rfl) (fun K hK=>?_)|with_reducible refine T_last_drawT (id := 6) Γ_ok drawsAny pl41_6 (by kernel_rfl) (fun K hK=>?_)|((refine goR0 _ _ _ _ _ _ _ _ ?_ ?_ ?_ ?_ ?_ ?_ ?_ ?_) <;> (repeat intro hb) <;> first|exact True.intro|refine Lf.mk ?_)))
  · refine ⟨_,⟨[0,1,2,3,4,5,6,7,8],rfl,by decide,by intro o ho;simp at ho ⊢;omega,?_⟩,.inl ⟨by unfold startS;rw [if_pos hb],rfl⟩⟩
    ((repeat' (first|exact WkO.mpE rfl kindE_free|exact WkO.mpE rfl (valE_free _)|exact WkVL.nil|refine WkVL.cons ?_ ?_|exact WkV.imm rfl|exact WkV.own rfl (by simp)|exact WkV.map rfl|(refine WkV.free ?_;simp [Free,FreeL];done)|exact WkO.dead|refine WkO.box ?_ rfl|refine WkO.arr ?_|refine And.intro ?_ (And.intro (fun h=>h) ?_)|refine And.intro ?_ (And.intro (fun h=>by cases h) ?_)|exact trivial|(intro _ _ _ _)))
     done)
  all_goals have hne : ¬ (started R.sta m.b).isSome = true := fun q9 => by rw [(by assumption : (started R.sta m.b).isSome = false)] at q9;cases q9
  all_goals have hnone : started R.sta m.b = none := (by
    cases hq : started R.sta m.b with
    | none => rfl
    | some x => exact absurd (by rw [hq]; rfl) hne)
  all_goals first
    | (have hs : startS n R m = { R with sta := R.sta ++ [⟨m.b,(chooseR n m.b R.pro m.x).1⟩] } := by unfold startS;rw [if_neg hne,if_pos hb]
       have hmp := mput_val m.b (chooseR n m.b R.pro m.x).1 R.sta hnone
       have hmf := mput_free (.int .i64 m.b) (v := tkA (chooseR n m.b R.pro m.x).1) (valE_free R.sta) (by simp [Free,FreeL])
       rw [hs]
       simp only [List.length_set, List.length_append, List.length_cons, List.length_nil, Nat.zero_add]
       refine ⟨_, ⟨[0, 1, 2, 3, 4, 5, 6, 7, 8, 12], rfl, by decide, by intro o ho; simp at ho ⊢; omega, ?_⟩, .inr rfl⟩
       (repeat' (first|exact WkO.mpE rfl kindE_free|exact WkO.mpE rfl (valE_free _)|exact WkO.mpE hmp hmf|exact WkV.eqF (hsn _ _ (by assumption)) (staE_free _ _ _)|exact WkVL.nil|refine WkVL.cons ?_ ?_|exact WkV.imm rfl|exact WkV.own rfl (by simp)|exact WkV.map rfl|(refine WkV.free ?_;simp [Free,FreeL];done)|exact WkO.dead|refine WkO.box ?_ rfl|refine WkO.arr ?_|refine And.intro ?_ (And.intro (fun h=>h) ?_)|refine And.intro ?_ (And.intro (fun h=>by cases h) ?_)|exact trivial|(intro _ _ _ _)))
       done)
    | (have hs : startS n R m = R := by unfold startS; rw [if_neg hne, if_neg hb]
       refine ⟨_, ⟨[0, 1, 2, 3, 4, 5, 6, 7, 8], rfl, by decide, by intro o ho; simp at ho ⊢; omega, ?_⟩, .inl ⟨hs, rfl⟩⟩
       (repeat' (first|exact WkO.mpE rfl kindE_free|exact WkO.mpE rfl (valE_free _)|exact WkVL.nil|refine WkVL.cons ?_ ?_|exact WkV.imm rfl|exact WkV.own rfl (by simp)|exact WkV.map rfl|(refine WkV.free ?_;simp [Free,FreeL];done)|exact WkO.dead|refine WkO.box ?_ rfl|refine WkO.arr ?_|refine And.intro ?_ (And.intro (fun h=>h) ?_)|refine And.intro ?_ (And.intro (fun h=>by cases h) ?_)|exact trivial|(intro _ _ _ _)))
       done)
theorem start_run (n : Int) (R : Rnd) (m : Mov) (hp : R.pro.length ≤ 1000000) (hst : R.sta.length ≤ 1000000) :
    TC Try.prog 41 [.optr 2 0 0,movA m] (rObj n R m) (fun v σ' => v = .tup [] ∧ ((startS n R m = R ∧ σ' = rObj n R m) ∨ σ' = rObjS n (startS n R m) m)) := TC.holds (start_raw n R m hp hst)
set_option maxRecDepth 100000 in
set_option maxHeartbeats 4000000 in
theorem accept_raw (n : Int) (R : Rnd) (m : Mov) (h1 : 0 ≤ m.t) (h2 : m.t < R.acc.length) (hp : R.vot.length ≤ 1000000) :
    TC Try.prog 42 [.optr 2 0 0,movA m] (rObj n R m) (fun v σ' => v = .tup [] ∧ ∃ σ2,Holds 9 σ' σ2 ∧ ((accS R m = R ∧ σ2 = rObj n R m) ∨ σ2 = rObjV n (accS R m) m)) := by
  have hup := fun (x : Acc) (i j : Nat) (hj : j < 6) => acc_upd R.acc x (k := m.t.toNat) (i := i) (j := j) (by omega) hj
  have hsn := fun (x : Vot) (i j : Nat) h => vot_snoc R.vot x (i := i) (j := j) h
  (refine TC_of_T Γ_ok Try.func42 rfl (by kernel_rfl) ?_;simp only [Try.ntmps42,Try.results42,List.length_cons,List.length_nil,Nat.reduceSub,Nat.reduceAdd,List.replicate,List.cons_append,List.nil_append])
  (have cl1 := fun u1 u2 u3 u4 u5 u6 u7 u8 u9 u10 u11 u12=>accept_e u1 u2 u3 u4 u5 u6 u7 u8 u9 u10 u11 u12;repeat' (first|with_reducible refine T_seq_drawT (id := 1) Γ_ok drawsAny pl42_1 (by kernel_rfl) (fun K hK=>?_)|with_reducible refine T_last_drawT (id := 1) Γ_ok drawsAny pl42_1 (by kernel_rfl) (fun K hK=>?_)|with_reducible refine T_seq_drawT (id := 3) Γ_ok drawsAny pl42_3 (by kernel_rfl) (fun K hK=>?_)|with_reducible refine T_last_drawT (id := 3) Γ_ok drawsAny pl42_3 (by kernel_rfl) (fun K hK=>?_)|with_reducible refine T_seq_drawT (id := 5) Γ_ok drawsAny pl42_5 (by kernel_rfl) (fun K hK=>?_)|with_reducible refine T_last_drawT (id := 5) Γ_ok drawsAny pl42_5 (by kernel_rfl) (fun K hK=>?_)|with_reducible refine T_seq_drawT (id := 6) Γ_ok drawsAny pl42_6 (by kernel_rfl) (fun K hK=>?_)|with_reducible refine T_last_drawT (id := 6) Γ_ok drawsAny pl42_6 (by kernel_rfl) (fun K hK=>?_)|((refine goR0 _ _ _ _ _ _ _ _ ?_ ?_ ?_ ?_ ?_ ?_ ?_ ?_) <;> (repeat intro hb) <;> first|exact True.intro|refine Lf.mk ?_)))
  all_goals first
    | (have hnone : started R.sta m.b = none := by cases hq : started R.sta m.b <;> simp_all
       have hs : accS R m = R := by unfold accS; rw [hnone]
       refine ⟨_, ⟨[0, 1, 2, 3, 4, 5, 6, 7, 8], rfl, by decide, by intro o ho; simp at ho ⊢; omega, ?_⟩, .inl ⟨hs, rfl⟩⟩
       (repeat' (first|exact WkO.mpE rfl kindE_free|exact WkO.mpE rfl (valE_free _)|exact WkVL.nil|refine WkVL.cons ?_ ?_|exact WkV.imm rfl|exact WkV.own rfl (by simp)|exact WkV.map rfl|(refine WkV.free ?_;simp [Free,FreeL];done)|exact WkO.dead|refine WkO.box ?_ rfl|refine WkO.arr ?_|refine And.intro ?_ (And.intro (fun h=>h) ?_)|refine And.intro ?_ (And.intro (fun h=>by cases h) ?_)|exact trivial|(intro _ _ _ _)))
       done)
    | (have hv : started R.sta m.b = some (valT R.sta m.b) := by unfold valT; cases hq : started R.sta m.b <;> simp_all
       have hs : accS R m = { R with acc := R.acc.set m.t.toNat (accR (gA R.acc m.t.toNat) m.t m.b (valT R.sta m.b)).1,vot := R.vot ++ [(accR (gA R.acc m.t.toNat) m.t m.b (valT R.sta m.b)).2.1] } := by unfold accS;rw [hv];simp only [];rw [if_pos hb]
       rw [hs]
       simp only [List.length_set, List.length_append, List.length_cons, List.length_nil, Nat.zero_add]
       refine ⟨_, ⟨[0, 1, 2, 3, 4, 5, 6, 7, 8, 13], rfl, by decide, by intro o ho; simp at ho ⊢; omega, ?_⟩, .inr rfl⟩
       (repeat' (first|exact WkO.mpE rfl kindE_free|exact WkO.mpE rfl (valE_free _)|exact WkV.eqF (hup _ _ _ (by assumption)) (accE_free _ _ _)|exact WkV.eqF (hsn _ _ _ (by assumption)) (votE_free _ _ _)|exact WkVL.nil|refine WkVL.cons ?_ ?_|exact WkV.imm rfl|exact WkV.own rfl (by simp)|exact WkV.map rfl|(refine WkV.free ?_;simp [Free,FreeL];done)|exact WkO.dead|refine WkO.box ?_ rfl|refine WkO.arr ?_|refine And.intro ?_ (And.intro (fun h=>h) ?_)|refine And.intro ?_ (And.intro (fun h=>by cases h) ?_)|exact trivial|(intro _ _ _ _)))
       done)
    | (have hv : started R.sta m.b = some (valT R.sta m.b) := by unfold valT; cases hq : started R.sta m.b <;> simp_all
       have hs : accS R m = R := by unfold accS; rw [hv]; simp only []; rw [if_neg hb]
       refine ⟨_, ⟨[0, 1, 2, 3, 4, 5, 6, 7, 8], rfl, by decide, by intro o ho; simp at ho ⊢; omega, ?_⟩, .inl ⟨hs, rfl⟩⟩
       (repeat' (first|exact WkO.mpE rfl kindE_free|exact WkO.mpE rfl (valE_free _)|exact WkVL.nil|refine WkVL.cons ?_ ?_|exact WkV.imm rfl|exact WkV.own rfl (by simp)|exact WkV.map rfl|(refine WkV.free ?_;simp [Free,FreeL];done)|exact WkO.dead|refine WkO.box ?_ rfl|refine WkO.arr ?_|refine And.intro ?_ (And.intro (fun h=>h) ?_)|refine And.intro ?_ (And.intro (fun h=>by cases h) ?_)|exact trivial|(intro _ _ _ _)))
       done)
theorem accept_run (n : Int) (R : Rnd) (m : Mov) (h1 : 0 ≤ m.t) (h2 : m.t < R.acc.length) (hp : R.vot.length ≤ 1000000) :
    TC Try.prog 42 [.optr 2 0 0,movA m] (rObj n R m) (fun v σ' => v = .tup [] ∧ ((accS R m = R ∧ σ' = rObj n R m) ∨ σ' = rObjV n (accS R m) m)) := TC.holds (accept_raw n R m h1 h2 hp)
end Go.Proofs.Ytgljhmnmmaclaaa.Q
