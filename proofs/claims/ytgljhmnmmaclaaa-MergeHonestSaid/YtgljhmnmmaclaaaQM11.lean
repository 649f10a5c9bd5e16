/-
  Lists of journals: merge.valid and the reference's Journals.
-/
import Derived.Test.YtgljhmnmmaclaaaQGo
import Derived.Test.YtgljhmnmmaclaaaQM10
set_option linter.unusedSimpArgs false
set_option linter.unusedVariables false
namespace Go.Proofs.Ytgljhmnmmaclaaa
open Go.Ab
def jn0 : Jn := ⟨0, []⟩
def gj (l : List Jn) (i : Nat) : Jn := l.getD i jn0
def jnE (l : List Jn) (i j : Nat) : AV := nth (jnL (gj l i)) j
@[go_sem] theorem jnE_0 (l : List Jn) (i : Nat) : jnE l i 0 = .imm (.int .i64 (gj l i).d) := rfl
@[go_sem] theorem jnE_1 (l : List Jn) (i : Nat) : jnE l i 1 = ens (gj l i).e := rfl
@[simp] theorem jnE_free (l : List Jn) (i j : Nat) : Free (jnE l i j) := FreeL_nth (by simp [jnL, ens, FreeL, Free]) _
@[go_sem, reducible] def jns (l : List Jn) : AV := .view l.length 2 (jnE l)
def JnOk (j : Jn) : Prop := j.e.length ≤ 9223372036854775807 ∧ ∀ i, (ge j.e i).v.length ≤ 9223372036854775807
def JsOk (l : List Jn) : Prop := l.length ≤ 9223372036854775807 ∧ ∀ i, JnOk (gj l i)
def allJ (n : Int) (l : List Jn) : Bool := l.all (jnB n)
def jsB (n : Int) (l : List Jn) : Bool := cntB n && decide (l.length ≤ 8) && allJ n l
theorem allJ_gj {n : Int} {l : List Jn} (h : allJ n l = true) {i : Nat} (hi : i < l.length) : jnB n (gj l i) = true := by
  unfold allJ at h
  rw [List.all_eq_true] at h
  exact h _ (by simp [gj, hi])
theorem allJ_of {n : Int} {l : List Jn} (h : ∀ i, i < l.length → jnB n (gj l i) = true) : allJ n l = true := by
  unfold allJ
  rw [List.all_eq_true]
  intro r hr
  obtain ⟨i, hi, rfl⟩ := List.getElem_of_mem hr
  have := h i hi
  simpa [gj, hi] using this
theorem allJ_not {n : Int} {l : List Jn} {i : Nat} (hi : i < l.length) (h : jnB n (gj l i) = false) : allJ n l = false := by
  cases hq : allJ n l with
  | false => rfl
  | true => rw [allJ_gj hq hi] at h; cases h
@[go_sem, reducible] def badF (n : Int) : AV := .fn (.func 49) [] [.rptr 1 (nth [.imm (.int .i64 n)])]
set_option maxRecDepth 100000 in
set_option maxHeartbeats 4000000 in
theorem bad_tc (n : Int) (j : Jn) (h : JnOk j) : Look Try.prog 49 [jnA j,.rptr 1 (nth [.imm (.int .i64 n)])] (.imm (.bool (!jnB n j))) := by
  refine Look.mk trivial ?_
  (refine TC_of_T Γ_ok Try.func49 rfl (by kernel_rfl) ?_;simp only [Try.ntmps49,Try.results49,List.length_cons,List.length_nil,Nat.reduceSub,Nat.reduceAdd,List.replicate,List.cons_append,List.nil_append])
  (have cl1 := valid_tc n j h.1 h.2;((refine goR0 _ _ _ _ _ _ _ _ ?_ ?_ ?_ ?_ ?_ ?_ ?_ ?_) <;> (repeat intro hb) <;> first | exact True.intro | refine Lf.mk ?_))
set_option maxRecDepth 100000 in
set_option maxHeartbeats 4000000 in
theorem ixj_tc (n : Int) (l : List Jn) (h : JsOk l) : TC Try.prog 59 [jns l,badF n] [] (fun v σ' => ∃ x : Int,v = .imm (.int .i64 x) ∧ σ' = [] ∧ (0 ≤ x ↔ allJ n l = false)) := by
  have hl := h.1
  (refine TC_of_T Γ_ok Try.func59 rfl (by kernel_rfl) ?_;simp only [Try.ntmps59,Try.results59,List.length_cons,List.length_nil,Nat.reduceSub,Nat.reduceAdd,List.replicate,List.cons_append,List.nil_append])
  (((refine goR0 _ _ _ _ _ _ _ _ ?_ ?_ ?_ ?_ ?_ ?_ ?_ ?_) <;> (repeat intro hb) <;> first | exact True.intro | refine Lf.mk ?_))
  refine T_loopW (fun m st=>∃ i : Nat,i ≤ l.length ∧ m + i = l.length ∧ (∀ j,j < i → jnB n (gj l j) = true) ∧ st = ⟨[jns l,badF n,.top,.top,.imm (.int .i64 0),.top,jns l,.imm (.int .i64 l.length),.imm (.int .i64 i)] ++ List.replicate 10 .top,[]⟩)
    l.length ⟨_, ?_, 0, by omega, rfl, by omega, rfl⟩ ?_
  · ((try simp only [List.length_append,List.length_cons,List.length_nil,Nat.zero_add]);refine Wk.intro [] (by decide) (by decide) (by intro o ho;simp at ho ⊢ <;> omega) ?_ ?_ <;> repeat' (first|exact WkVL.nil|refine WkVL.cons ?_ ?_|exact WkV.top|exact WkV.imm rfl|exact WkV.imm (by simp)|exact WkV.optr rfl|exact WkV.own rfl (by simp)|exact WkV.nil_own (.inl rfl)|exact WkV.map rfl|(refine WkV.free ?_;simp [Free,FreeL] <;> assumption)|(refine WkV.free (fun _ _=>FreeL_nth ?_ _);simp [Free,FreeL];done)|refine WkV.agg ?_|refine WkV.tup ?_|refine WkV.fn ?_ ?_|exact WkO.dead|exact WkO.raw|refine WkO.ghost ?_|exact WkO.mpE rfl trivial|refine WkO.box ?_ rfl|refine WkO.arr ?_|refine And.intro ?_ (And.intro (by first|exact fun h=>h|exact fun _=>rfl|exact nofun) ?_)|exact trivial|(intro i j hi hj)))
  rintro m st ⟨i, h0, h1, h2, rfl⟩
  (simp only [go_sem,↓reduceIte,Nat.reduceAdd,Nat.reduceSub,Nat.reduceMul,Nat.reduceLT,Nat.reduceLeDiff,Nat.reduceEqDiff,Nat.reduceGT,Int.reduceToNat,Int.reduceBEq,Int.reduceBNe];try simp (disch := omega) only [wrapI,wrapU,half_sum,toNat_sub1,toNat_add1,Int.toNat_natCast])
  (have cl1 := bad_tc n (gj l i) (h.2 i);((refine goR0 _ _ _ _ _ _ _ _ ?_ ?_ ?_ ?_ ?_ ?_ ?_ ?_) <;> (repeat intro hb) <;> first | exact True.intro | refine Lf.mk ?_))
  · refine ⟨i, rfl, ⟨fun _ => allJ_not (l := l) (i := i) (by omega) (by simpa using hb), fun _ => by omega⟩⟩
  · refine ⟨l.length - (i + 1), by omega, _, ?_, i + 1, by omega, by omega, fun j hj => ?_, rfl⟩
    · ((try simp only [List.length_append,List.length_cons,List.length_nil,Nat.zero_add]);refine Wk.intro [] (by decide) (by decide) (by intro o ho;simp at ho ⊢ <;> omega) ?_ ?_ <;> repeat' (first|(refine WkV.imm ?_;congr 1;omega)|exact WkVL.nil|refine WkVL.cons ?_ ?_|exact WkV.top|exact WkV.imm rfl|exact WkV.imm (by simp)|exact WkV.optr rfl|exact WkV.own rfl (by simp)|exact WkV.nil_own (.inl rfl)|exact WkV.map rfl|(refine WkV.free ?_;simp [Free,FreeL] <;> assumption)|(refine WkV.free (fun _ _=>FreeL_nth ?_ _);simp [Free,FreeL];done)|refine WkV.agg ?_|refine WkV.tup ?_|refine WkV.fn ?_ ?_|exact WkO.dead|exact WkO.raw|refine WkO.ghost ?_|exact WkO.mpE rfl trivial|refine WkO.box ?_ rfl|refine WkO.arr ?_|refine And.intro ?_ (And.intro (by first|exact fun h=>h|exact fun _=>rfl|exact nofun) ?_)|exact trivial|(intro i j hi hj)))
    · by_cases e : j = i
      · subst e; simpa using hb
      · exact h2 j (by omega)
  · refine ⟨-1, rfl, ⟨fun h => by omega, fun h => ?_⟩⟩
    rw [show allJ n l = true from allJ_of fun j hj => h2 j (by omega)] at h
    cases h
set_option maxRecDepth 100000 in
set_option maxHeartbeats 4000000 in
theorem containsJ_tc (n : Int) (l : List Jn) (h : JsOk l) : Look Try.prog 50 [jns l,badF n] (.imm (.bool (!allJ n l))) := by
  refine Look.mk trivial ?_
  (refine TC_of_T Γ_ok Try.func50 rfl (by kernel_rfl) ?_;simp only [Try.ntmps50,Try.results50,List.length_cons,List.length_nil,Nat.reduceSub,Nat.reduceAdd,List.replicate,List.cons_append,List.nil_append])
  repeat' (first
    | (with_reducible refine hK _ ?_; clear hK K)
    | (refine callGoal_mk trivial (ixj_tc n l h) ?_;rintro v σ' ⟨k,rfl,rfl,hx⟩;try (simp only [go_sem,↓reduceIte,Nat.reduceAdd,Nat.reduceSub,Nat.reduceMul,Nat.reduceLT,Nat.reduceLeDiff,Nat.reduceEqDiff,Nat.reduceGT,Int.reduceToNat,Int.reduceBEq,Int.reduceBNe];try simp (disch := omega) only [wrapI,wrapU,half_sum,toNat_sub1,toNat_add1,Int.toNat_natCast]))
    | ((with_reducible apply DC_call);(focus exact rfl);(focus exact rfl);(focus exact rfl);intro N hN;(simp only [go_sem,↓reduceIte,Nat.reduceAdd,Nat.reduceSub,Nat.reduceMul,Nat.reduceLT,Nat.reduceLeDiff,Nat.reduceEqDiff,Nat.reduceGT,Int.reduceToNat,Int.reduceBEq,Int.reduceBNe];try simp (disch := omega) only [wrapI,wrapU,half_sum,toNat_sub1,toNat_add1,Int.toNat_natCast]))
    | ((with_reducible first|refine T_seq_region Γ_ok (fun K hK=>?_)|refine T_last_region Γ_ok (fun K hK=>?_)|refine TO_callN rfl (fun N hN=>?_)|refine DCT_fork Γ_ok (fun K2 hK2=>?_)|refine DCT_last Γ_ok ?_|refine DC_ev Γ_ok ?_|refine TO_ev Γ_ok ?_|refine retQ_r ?_|refine retQ_n ?_);(simp only [go_sem,↓reduceIte,Nat.reduceAdd,Nat.reduceSub,Nat.reduceMul,Nat.reduceLT,Nat.reduceLeDiff,Nat.reduceEqDiff,Nat.reduceGT,Int.reduceToNat,Int.reduceBEq,Int.reduceBNe];try simp (disch := omega) only [wrapI,wrapU,half_sum,toNat_sub1,toNat_add1,Int.toNat_natCast]))
    | (with_reducible refine hK2 _ ?_ ?_ <;> clear hK2 K2)
    | with_reducible refine gC_false ?_ | with_reducible refine gC_true ?_ | with_reducible refine dCall_true ?_
    | (with_reducible refine hN _ _ ?_; clear hN N)
    | (with_reducible refine hN _ _ (dInl rfl) ?_; clear hN N)
    | ((with_reducible refine hN _ _ (.inr ?_) ?_);(focus (simp only [go_sem,↓reduceIte,Nat.reduceAdd,Nat.reduceSub,Nat.reduceMul,Nat.reduceLT,Nat.reduceLeDiff,Nat.reduceEqDiff,Nat.reduceGT,Int.reduceToNat,Int.reduceBEq,Int.reduceBNe];try simp (disch := omega) only [wrapI,wrapU,half_sum,toNat_sub1,toNat_add1,Int.toNat_natCast]));all_goals (try clear hN N))
    | with_reducible refine T_seq ?_|with_reducible refine T_block ?_|with_reducible refine T_ret ?_|with_reducible refine T_exit ?_|with_reducible refine T_skip ?_|with_reducible refine T_label ?_
    | with_reducible refine thenQ_n ?_|with_reducible refine thenQ_e ?_|with_reducible refine thenQ_r ?_|with_reducible refine blockQ_n ?_|with_reducible refine blockQ_e ?_|with_reducible refine blockQ_r ?_
    | with_reducible refine blockQ_o (by decide) ?_
    | ((with_reducible refine T_cond _ rfl (fun hb=>?_) (fun hb=>?_)) <;> first|(cases hb;done)|(simp only [decide_eq_true_eq,decide_eq_false_iff_not,Bool.and_eq_true,Bool.or_eq_true,Bool.and_eq_false_imp,Bool.or_eq_false_iff,Bool.not_eq_true',Bool.not_eq_false',beq_iff_eq,bne_iff_ne,ne_eq,beq_eq_false_iff_ne,bne_eq_false_iff_eq,Int.not_lt,Int.not_le,ge_iff_le,gt_iff_lt] at hb)|skip)
    | (with_reducible refine And.intro (by first | exact trivial | omega | (intro hg;simp at hg ⊢ <;> omega) | (simp <;> omega)) ?_)
    | assumption | omega)
  congr 2
  cases hq : allJ n l with
  | false => rw [hq] at hx; simp at hx ⊢; omega
  | true => rw [hq] at hx; simp at hx ⊢; omega
set_option maxRecDepth 100000 in
set_option maxHeartbeats 4000000 in
theorem validJ_tc (n : Int) (l : List Jn) (h : JsOk l) : Look Try.prog 34 [.imm (.int .i64 n),jns l] (.imm (.bool (jsB n l))) := by
  refine Look.mk trivial ?_
  (refine TC_of_T Γ_ok Try.func34 rfl (by kernel_rfl) ?_;simp only [Try.ntmps34,Try.results34,List.length_cons,List.length_nil,Nat.reduceSub,Nat.reduceAdd,List.replicate,List.cons_append,List.nil_append])
  (have cl1 := isCount_tc n;have cl2 := containsJ_tc n l h;((refine goR0 _ _ _ _ _ _ _ _ ?_ ?_ ?_ ?_ ?_ ?_ ?_ ?_) <;> (repeat intro hb) <;> first | exact True.intro | refine Lf.mk ?_))
  refine congrArg (fun b => AV.imm (.bool b)) ?_
  unfold jsB cntB
  rw [show decide ((l.length : Int) ≤ 8) = decide (l.length ≤ 8) from decide_eq_decide.2 (by omega)]
end Go.Proofs.Ytgljhmnmmaclaaa
