/-
  scale.Steps, Mode.
-/
import Derived.Test.YtdglbjjenihdlaaDoorWGo
import Derived.Test.YtdglbjjenihdlaaDoorWN19
set_option linter.unusedSimpArgs false
set_option linter.unusedVariables false
namespace Go.Proofs.YtdglbjjenihdlaaDoor
open Go.Ab
theorem ptMk {f : FuncId} {args : List AV} {m : List P6} {e : Int} (h : TC Tryd.prog f args [] (fun v σ'=>(v = .tup [.imm (.slice none 0 0),.imm (.int .i64 e)] ∧ m.length = 0) ∨ ∃ k E',v = .tup [.own k 0 m.length none,.imm (.int .i64 e)] ∧ nthO σ' k = .arr 24 6 m.length E' ∧ ∀ i j,i < m.length → j < 6 → E' i j = ptE m i j)) :
    Makes Tryd.prog f args (.tup [.own 0 0 m.length none, .imm (.int .i64 e)]) [ptO m] :=
  Makes.lstJ (fun i j => ptE_pl m i j) trivial h
theorem quot_mk (s : List P6) (h : SclOk s) (f1 f2 : FuncId) (a1 a2 : List AV) (ov un : Nat → Nat) (g1 : FreeL a1) (g2 : FreeL a2)
    (h1 : ∀ i,i < s.length → ov i ≤ 1000 ∧ Look Tryd.prog f1 (.imm (.int .i64 i) :: a1) (.imm (.int .i64 (ov i)))) (h2 : ∀ i,i < s.length → un i ≤ 1000 ∧ Look Tryd.prog f2 (.imm (.int .i64 i) :: a2) (.imm (.int .i64 (un i)))) :
    Makes Tryd.prog 44 [pts s,.fn (.func f1) [] a1,.fn (.func f2) [] a2] (.tup [.own 0 0 (quR s ov un).1.length none,.imm (.int .i64 (quR s ov un).2)]) [ptO (quR s ov un).1] := by
  refine ptMk (quot_raw s h f1 f2 a1 a2 ov un g1 g2 h1 h2 _ (fun hn σ' => ?_) fun l σ' k hs hk => ?_)
  · unfold quR; rw [hn]; exact .inl ⟨rfl, rfl⟩
  · unfold quR; rw [hs]; exact .inr ⟨k, _, rfl, hk, fun _ _ _ _ => rfl⟩
noncomputable def stepsR (s : List P6) : List P6 × Int := if tf (SclOk s) = true then quR s (fun i => i + 1) (fun i => i) else ([],1)
noncomputable def modeR (s : List P6) (d : Int) : List P6 × Int := if tf (SclOk s) = true ∧ 0 ≤ d ∧ d < s.length then quR s (fun i => d.toNat + i) (fun _ => d.toNat) else ([],1)
set_option maxRecDepth 100000 in
set_option maxHeartbeats 4000000 in
theorem steps1_tc (i : Nat) (hi : i ≤ 1000) : Look Tryd.prog 45 [.imm (.int .i64 i)] (.imm (.int .i64 ((i + 1 : Nat) : Int))) := by
  refine Look.mk trivial ?_
  (refine TC_of_T Γ_ok Tryd.func45 rfl (by kernel_rfl) ?_;simp only [Tryd.ntmps45,Tryd.results45,List.length_cons,List.length_nil,Nat.reduceSub,Nat.reduceAdd,List.replicate,List.cons_append,List.nil_append])
  (((refine goR0 _ _ _ _ _ _ _ _ ?_ ?_ ?_ ?_ ?_ ?_ ?_ ?_) <;> (repeat intro hb) <;> first | exact True.intro | refine Lf.mk ?_))
  rfl
set_option maxRecDepth 100000 in
set_option maxHeartbeats 4000000 in
theorem steps2_tc (i : Nat) : Look Tryd.prog 46 [.imm (.int .i64 i)] (.imm (.int .i64 (i : Int))) := by
  refine Look.mk trivial ?_
  (refine TC_of_T Γ_ok Tryd.func46 rfl (by kernel_rfl) ?_;simp only [Tryd.ntmps46,Tryd.results46,List.length_cons,List.length_nil,Nat.reduceSub,Nat.reduceAdd,List.replicate,List.cons_append,List.nil_append])
  (((refine goR0 _ _ _ _ _ _ _ _ ?_ ?_ ?_ ?_ ?_ ?_ ?_ ?_) <;> (repeat intro hb) <;> first | exact True.intro | refine Lf.mk ?_))
set_option maxRecDepth 100000 in
set_option maxHeartbeats 4000000 in
theorem mode1_tc (d i : Nat) (hd : d ≤ 1000) (hi : i ≤ 1000) : Look Tryd.prog 49 [.imm (.int .i64 i),rpI d] (.imm (.int .i64 ((d + i : Nat) : Int))) := by
  refine Look.mk trivial ?_
  (refine TC_of_T Γ_ok Tryd.func49 rfl (by kernel_rfl) ?_;simp only [Tryd.ntmps49,Tryd.results49,List.length_cons,List.length_nil,Nat.reduceSub,Nat.reduceAdd,List.replicate,List.cons_append,List.nil_append])
  (((refine goR0 _ _ _ _ _ _ _ _ ?_ ?_ ?_ ?_ ?_ ?_ ?_ ?_) <;> (repeat intro hb) <;> first | exact True.intro | refine Lf.mk ?_))
  rfl
set_option maxRecDepth 100000 in
set_option maxHeartbeats 4000000 in
theorem mode2_tc (d i : Nat) : Look Tryd.prog 50 [.imm (.int .i64 i), rpI d] (.imm (.int .i64 (d : Int))) := by
  refine Look.mk trivial ?_
  (refine TC_of_T Γ_ok Tryd.func50 rfl (by kernel_rfl) ?_;simp only [Tryd.ntmps50,Tryd.results50,List.length_cons,List.length_nil,Nat.reduceSub,Nat.reduceAdd,List.replicate,List.cons_append,List.nil_append])
  (((refine goR0 _ _ _ _ _ _ _ _ ?_ ?_ ?_ ?_ ?_ ?_ ?_ ?_) <;> (repeat intro hb) <;> first | exact True.intro | refine Lf.mk ?_))
set_option maxRecDepth 100000 in
set_option maxHeartbeats 4000000 in
theorem steps_mk (s : List P6) (h0 : s.length ≤ 9223372036854775807) : Makes Tryd.prog 19 [pts s] (.tup [.own 0 0 (stepsR s).1.length none,.imm (.int .i64 (stepsR s).2)]) [ptO (stepsR s).1] := by
  refine ptMk ?_
  have c1 := svalid_tc s h0
  generalize hR : stepsR s = R
  unfold stepsR at hR
  generalize hQ : (fun (v : AV) (σ' : List AObj)=>(v = .tup [.imm (.slice none 0 0),.imm (.int .i64 R.2)] ∧ R.1.length = 0) ∨ ∃ k E',v = .tup [.own k 0 R.1.length none,.imm (.int .i64 R.2)] ∧ nthO σ' k = .arr 24 6 R.1.length E' ∧ ∀ i j,i < R.1.length → j < 6 → E' i j = ptE R.1 i j) = Q
  by_cases h : SclOk s
  · rw [tf_t h] at c1 hR
    rw [if_pos rfl] at hR
    have hl := h.len
    have c2 := quot_mk s h 45 46 [] [] (fun i => i + 1) (fun i => i) trivial trivial (fun i hi => ⟨by omega,steps1_tc i (by omega)⟩) (fun i hi => ⟨by omega,steps2_tc i⟩)
    rw [hR] at c2
    (refine TC_of_T Γ_ok Tryd.func19 rfl (by kernel_rfl) ?_;simp only [Tryd.ntmps19,Tryd.results19,List.length_cons,List.length_nil,Nat.reduceSub,Nat.reduceAdd,List.replicate,List.cons_append,List.nil_append])
    (have dl1 := c1;have cm1 := c2;((refine goR0 _ _ _ _ _ _ _ _ ?_ ?_ ?_ ?_ ?_ ?_ ?_ ?_) <;> (repeat intro hb) <;> first | exact True.intro | refine Lf.mk ?_))
    rw [← hQ]
    exact .inr ⟨0, _, rfl, rfl, fun _ _ _ _ => rfl⟩
  · rw [tf_f h] at c1 hR
    rw [if_neg (by simp)] at hR
    (refine TC_of_T Γ_ok Tryd.func19 rfl (by kernel_rfl) ?_;simp only [Tryd.ntmps19,Tryd.results19,List.length_cons,List.length_nil,Nat.reduceSub,Nat.reduceAdd,List.replicate,List.cons_append,List.nil_append])
    (have dl1 := c1;((refine goR0 _ _ _ _ _ _ _ _ ?_ ?_ ?_ ?_ ?_ ?_ ?_ ?_) <;> (repeat intro hb) <;> first | exact True.intro | refine Lf.mk ?_))
    rw [← hQ, ← hR]
    exact .inl ⟨rfl, rfl⟩
set_option maxRecDepth 100000 in
set_option maxHeartbeats 4000000 in
theorem mode_mk (s : List P6) (h0 : s.length ≤ 9223372036854775807) (d : Int) : Makes Tryd.prog 21 [pts s,.imm (.int .i64 d)] (.tup [.own 0 0 (modeR s d).1.length none,.imm (.int .i64 (modeR s d).2)]) [ptO (modeR s d).1] := by
  refine ptMk ?_
  have c1 := svalid_tc s h0
  generalize hR : modeR s d = R
  unfold modeR at hR
  generalize hQ : (fun (v : AV) (σ' : List AObj)=>(v = .tup [.imm (.slice none 0 0),.imm (.int .i64 R.2)] ∧ R.1.length = 0) ∨ ∃ k E',v = .tup [.own k 0 R.1.length none,.imm (.int .i64 R.2)] ∧ nthO σ' k = .arr 24 6 R.1.length E' ∧ ∀ i j,i < R.1.length → j < 6 → E' i j = ptE R.1 i j) = Q
  by_cases h : SclOk s ∧ 0 ≤ d ∧ d < s.length
  · rw [tf_t h.1] at c1 hR
    rw [if_pos ⟨rfl, h.2⟩] at hR
    have hl := h.1.len
    obtain ⟨n, rfl⟩ := Int.eq_ofNat_of_zero_le h.2.1
    have hn : n < s.length := by omega
    rw [Int.toNat_natCast] at hR
    have c2 := quot_mk s h.1 49 50 [rpI n] [rpI n] (fun i=>n + i) (fun _=>n) (by simp [FreeL,Free,nth]) (by simp [FreeL,Free,nth]) (fun i hi=>⟨by omega,mode1_tc n i (by omega) (by omega)⟩) (fun i hi=>⟨by omega,mode2_tc n i⟩)
    rw [hR] at c2
    (refine TC_of_T Γ_ok Tryd.func21 rfl (by kernel_rfl) ?_;simp only [Tryd.ntmps21,Tryd.results21,List.length_cons,List.length_nil,Nat.reduceSub,Nat.reduceAdd,List.replicate,List.cons_append,List.nil_append])
    (have dl1 := c1;((refine goR0 _ _ _ _ _ _ _ _ ?_ ?_ ?_ ?_ ?_ ?_ ?_ ?_) <;> (repeat intro hb) <;> first | exact True.intro | refine Lf.mk ?_))
    have hcv : ∀ {σ : List AObj} {o : Nat} {ety : TypeId},nthO σ o = .box ety [AV.imm (.int .i64 (n : Int))] → Cv σ (.optr o 0 0) (rpI n) := fun h => Cv.ptr h rfl (CvL.cons (Cv.imm rfl) CvL.nil)
    refine callGoal_makeA c2 trivial (CvL.cons (Cv.free (by simp [Free])) (CvL.cons (Cv.fn CvL.nil (CvL.cons (hcv rfl) CvL.nil)) (CvL.cons (Cv.fn CvL.nil (CvL.cons (hcv rfl) CvL.nil)) CvL.nil))) ?_
    (simp only [go_sem,↓reduceIte,Nat.reduceAdd,Nat.reduceSub,Nat.reduceMul,Nat.reduceLT,Nat.reduceLeDiff,Nat.reduceEqDiff,Nat.reduceGT,Int.reduceToNat,Int.reduceBEq,Int.reduceBNe];try simp (disch := omega) only [wrapI,wrapU,half_sum,toNat_sub1,toNat_add1,Int.toNat_natCast])
    rename_i KF hKF NF hNF
    refine hNF _ _ ?_
    (((refine goR0 _ _ _ _ _ _ _ _ ?_ ?_ ?_ ?_ ?_ ?_ ?_ ?_) <;> (repeat intro hb) <;> first | exact True.intro | refine Lf.mk ?_))
    refine hKF _ ?_
    (((refine goR0 _ _ _ _ _ _ _ _ ?_ ?_ ?_ ?_ ?_ ?_ ?_ ?_) <;> (repeat intro hb) <;> first | exact True.intro | refine Lf.mk ?_))
    rw [← hQ]
    exact .inr ⟨1, _, rfl, rfl, fun _ _ _ _ => rfl⟩
  · have hR2 : R = ([], 1) := by rw [← hR, if_neg]; intro k; exact h ⟨tf_iff.1 k.1, k.2⟩
    subst hR2
    (refine TC_of_T Γ_ok Tryd.func21 rfl (by kernel_rfl) ?_;simp only [Tryd.ntmps21,Tryd.results21,List.length_cons,List.length_nil,Nat.reduceSub,Nat.reduceAdd,List.replicate,List.cons_append,List.nil_append])
    (have dl1 := c1;((refine goR0 _ _ _ _ _ _ _ _ ?_ ?_ ?_ ?_ ?_ ?_ ?_ ?_) <;> (repeat intro hb) <;> first | exact True.intro | refine Lf.mk ?_))
    · rw [← hQ]
      exact .inl ⟨rfl, rfl⟩
    · exact absurd ⟨tf_iff.1 hb.1.1, hb.1.2, hb.2⟩ h
end Go.Proofs.YtdglbjjenihdlaaDoor
