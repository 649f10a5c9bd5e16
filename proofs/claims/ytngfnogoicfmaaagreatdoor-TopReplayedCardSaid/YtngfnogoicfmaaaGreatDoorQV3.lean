/-
  Parts joined: T8 T9a T9.
-/
import Derived.Test.YtngfnogoicfmaaaGreatDoorQGo
import Derived.Test.YtngfnogoicfmaaaGreatDoorQV1
import Derived.Test.YtngfnogoicfmaaaGreatDoorQV2
import Derived.Test.YtngfnogoicfmaaaGreatDoorQU1
set_option linter.unusedSimpArgs false
set_option linter.unusedVariables false
namespace Go.Proofs.YtngfnogoicfmaaaGreatDoor
open Go.Ab
def vsN (l : List Nm) : List P6 := l.map (·.v)
theorem vsN_len (l : List Nm) : (vsN l).length = l.length := by simp [vsN]
def oneB (n : Nm) : Bool := nmB n.s && decide (Bd6 48 n.v)
def cvB (l : List Nm) : Bool := decide (1 ≤ l.length ∧ l.length ≤ 6) && (decide (l.length ≤ (nmK l l.length).length) && (l.all oneB && rkB (vsN l)))
structure CvOk (l : List Nm) : Prop where
  l1 : 1 ≤ l.length
  l6 : l.length ≤ 6
  bd : ∀ n ∈ l, Bd6 48 n.v
  rk : (frmP (rowsR (vsN l))).1.length = l.length
theorem cvB_ok {l : List Nm} (h : cvB l = true) : CvOk l := by
  unfold cvB rkB at h
  simp only [Bool.and_eq_true, decide_eq_true_eq, vsN_len] at h
  obtain ⟨⟨h1, h2⟩, h3, h4, h5, h6⟩ := h
  exact ⟨h1, h2, fun n hn => by
    have := List.all_eq_true.1 h4 n hn
    unfold oneB at this
    simp only [Bool.and_eq_true, decide_eq_true_eq] at this
    exact this.2, h6⟩
theorem take_gN {l : List Nm} {i : Nat} (h : i < l.length) : l.take (i + 1) = l.take i ++ [gN l i] := by
  rw [List.take_add_one, List.getElem?_eq_getElem h]; simp [gN, h]
theorem gN_mem {l : List Nm} {i : Nat} (h : i < l.length) : gN l i ∈ l := by simp [gN, h]
theorem p6_snoc (l : List P6) (x : P6) {i j : Nat} (h : i < l.length + 1) (hj : j < 6) : catE l.length (p6E l) (fun i j => nth (p6L x) (i * 6 + j)) i j = p6E (l ++ [x]) i j := by
  unfold catE p6E gP
  split
  · rename_i h1; simp [List.getElem?_append_left h1]
  · rename_i h1
    have e : i = l.length := by omega
    subst e
    simp
@[go_sem, reducible] def rowsO (l : List P6) : AObj := .arr 37 6 l.length (p6E l)
set_option maxRecDepth 100000 in
set_option maxHeartbeats 4000000 in
theorem cvalid_tc (l : List Nm) : Look Tryz.prog 16 [nmV l] (.imm (.bool (cvB l))) := by
  refine Look.mk trivial ?_
  unfold cvB
  by_cases h : 1 ≤ l.length ∧ l.length ≤ 6
  · rw [decide_eq_true h, Bool.true_and]
    have e1 : decide ((l.length : Int) < 1) = false := decide_eq_false (by omega)
    have e2 : decide ((l.length : Int) > 6) = false := decide_eq_false (by omega)
    have hn := names_tc l (by omega)
    (refine TC_of_T Γ_ok Tryz.func16 rfl (by kernel_rfl) ?_;simp only [Tryz.ntmps16,Tryz.results16,List.length_cons,List.length_nil,Nat.reduceSub,Nat.reduceAdd,List.replicate,List.cons_append,List.nil_append])
    (have cm1 := hn;have sx1 := e1;have sx2 := e2;((have sx3 : (0 : Nat) + 0 = 0 := rfl;have sx4 : (0 : Nat) + 0 = 0 := rfl;have sx5 : (0 : Nat) + 0 = 0 := rfl;have sx6 : (0 : Nat) + 0 = 0 := rfl;have sx7 : (0 : Nat) + 0 = 0 := rfl;have sx8 : (0 : Nat) + 0 = 0 := rfl;have sx9 : (0 : Nat) + 0 = 0 := rfl;refine goR9 _ _ _ _ _ _ _ _ ?_ ?_ ?_ ?_ ?_ ?_ ?_ ?_) <;> (repeat intro hb) <;> first|exact True.intro|refine Lf.mk ?_))
    · congr 2
      rw [decide_eq_false (by omega), Bool.false_and]
    have hle : l.length ≤ (nmK l l.length).length := by omega
    rw [decide_eq_true hle, Bool.true_and]
    refine T_loopW (fun m st=>∃ i : Nat,i ≤ l.length ∧ m + i = l.length ∧ (∀ j,j < i → oneB (gN l j) = true) ∧ st = ⟨[nmV l,.top,.imm (.bool false),.own 0 0 i none] ++ List.replicate 20 .top ++ [nmV l,.imm (.int .i64 l.length),.imm (.int .i64 i)] ++ List.replicate 32 .top,[.arr 37 6 i (p6E (vsN (l.take i)))]⟩)
      l.length ⟨_, Wk.trans (Wk.push 37 6 (p6E [])) ?_, 0, by omega, rfl, fun j hj => by omega, rfl⟩ ?_
    · ((try simp only [List.length_append,List.length_cons,List.length_nil,Nat.zero_add]);refine Wk.intro [1] (by decide) (by decide) (by intro o ho;simp at ho ⊢ <;> omega) ?_ ?_ <;> repeat' (first|exact WkVL.nil|refine WkVL.cons ?_ ?_|exact WkV.top|exact WkV.imm rfl|exact WkV.imm (by simp)|exact WkV.optr rfl|exact WkV.own rfl (by simp)|exact WkV.nil_own (.inl rfl)|exact WkV.map rfl|(refine WkV.free ?_;simp [Free,FreeL] <;> assumption)|(refine WkV.free (fun _ _=>FreeL_nth ?_ _);simp [Free,FreeL];done)|refine WkV.agg ?_|refine WkV.tup ?_|refine WkV.fn ?_ ?_|exact WkO.dead|exact WkO.raw|refine WkO.ghost ?_|exact WkO.mpE rfl trivial|refine WkO.box ?_ rfl|refine WkO.arr ?_|refine And.intro ?_ (And.intro (by first|exact fun h=>h|exact fun _=>rfl|exact nofun) ?_)|exact trivial|(intro i j hi hj)))
    rintro m st ⟨i, h0, h1, h2, rfl⟩
    (simp only [go_sem,↓reduceIte,Nat.reduceAdd,Nat.reduceSub,Nat.reduceMul,Nat.reduceLT,Nat.reduceLeDiff,Nat.reduceEqDiff,Nat.reduceGT,Int.reduceToNat,Int.reduceBEq,Int.reduceBNe];try simp (disch := omega) only [wrapI,wrapU,half_sum,toNat_sub1,toNat_add1,Int.toNat_natCast])
    by_cases hi : i < l.length
    · have hnm := named_tc (gN l i).s
      have hiv := interval_tc (gN l i).v
      have hb1 : oneB (gN l i) = (nmB (gN l i).s && decide (Bd6 48 (gN l i).v)) := rfl
      have hvl : (vsN (l.take i)).length = i := by rw [vsN_len]; simp; omega
      have hsn := fun p q => p6_snoc (vsN (l.take i)) (gN l i).v (i := p) (j := q)
      have htk : vsN (l.take i) ++ [(gN l i).v] = vsN (l.take (i + 1)) := by unfold vsN; rw [take_gN hi]; simp
      rw [htk, hvl] at hsn
      cases ho : oneB (gN l i) with
      | true =>
        rw [hb1, Bool.and_eq_true] at ho
        rw [ho.1] at hnm
        rw [ho.2] at hiv
        (have cl1 := hnm;have cl2 := hiv;((refine goR0 _ _ _ _ _ _ _ _ ?_ ?_ ?_ ?_ ?_ ?_ ?_ ?_) <;> (repeat intro hb) <;> first | exact True.intro | refine Lf.mk ?_))
        refine ⟨l.length - (i + 1), by omega, _, ?_, i + 1, by omega, by omega, fun j hj => ?_, rfl⟩
        · ((try simp only [List.length_append,List.length_cons,List.length_nil,Nat.zero_add]);refine Wk.intro [3] (by decide) (by decide) (by intro o ho;simp at ho ⊢ <;> omega) ?_ ?_ <;> repeat' (first|(exact WkV.eqF (hsn _ _ hi hj) (by simp))|exact WkVL.nil|refine WkVL.cons ?_ ?_|exact WkV.top|exact WkV.imm rfl|exact WkV.imm (by simp)|exact WkV.optr rfl|exact WkV.own rfl (by simp)|exact WkV.nil_own (.inl rfl)|exact WkV.map rfl|(refine WkV.free ?_;simp [Free,FreeL] <;> assumption)|(refine WkV.free (fun _ _=>FreeL_nth ?_ _);simp [Free,FreeL];done)|refine WkV.agg ?_|refine WkV.tup ?_|refine WkV.fn ?_ ?_|exact WkO.dead|exact WkO.raw|refine WkO.ghost ?_|exact WkO.mpE rfl trivial|refine WkO.box ?_ rfl|refine WkO.arr ?_|refine And.intro ?_ (And.intro (by first|exact fun h=>h|exact fun _=>rfl|exact nofun) ?_)|exact trivial|(intro i j hi hj)))
        · by_cases e : j = i
          · subst e; rw [hb1, ho.1, ho.2]; rfl
          · exact h2 j (by omega)
      | false =>
        have hal : l.all oneB = false := by
          rw [Bool.eq_false_iff]
          intro ha
          have := List.all_eq_true.1 ha _ (gN_mem hi)
          rw [ho] at this; cases this
        rw [hal, Bool.false_and]
        rw [hb1] at ho
        (have cl1 := hnm;have cl2 := hiv;((refine goR0 _ _ _ _ _ _ _ _ ?_ ?_ ?_ ?_ ?_ ?_ ?_ ?_) <;> (repeat intro hb) <;> first | exact True.intro | refine Lf.mk ?_))
        exfalso
        simp_all
    · have hie : i = l.length := by omega
      subst hie
      have hal : l.all oneB = true := List.all_eq_true.2 fun n hn => by
        obtain ⟨j, hj, rfl⟩ := List.getElem_of_mem hn
        have := h2 j hj
        simpa [gN, hj] using this
      rw [hal, Bool.true_and]
      have hrk := rank_tc (vsN l) (fun p hp => by
        obtain ⟨n, hn, rfl⟩ := List.mem_map.1 hp
        have := List.all_eq_true.1 hal n hn
        unfold oneB at this
        simp only [Bool.and_eq_true, decide_eq_true_eq] at this
        exact this.2) (by rw [vsN_len]; omega)
      rw [List.take_length]
      unfold rowsV at hrk
      rw [vsN_len] at hrk
      unfold rkB
      cases hm : matB (vsN l) with
      | true =>
        rw [hm] at hrk
        rw [if_pos rfl, if_pos rfl] at hrk
        (have cl1 := hrk;((refine goR0 _ _ _ _ _ _ _ _ ?_ ?_ ?_ ?_ ?_ ?_ ?_ ?_) <;> (repeat intro hb) <;> first | exact True.intro | refine Lf.mk ?_))
        congr 2
        rw [Bool.eq_iff_iff, vsN_len]
        simp
        omega
      | false =>
        rw [hm] at hrk
        rw [if_neg (by simp), if_neg (by simp)] at hrk
        (have cl1 := hrk;((refine goR0 _ _ _ _ _ _ _ _ ?_ ?_ ?_ ?_ ?_ ?_ ?_ ?_) <;> (repeat intro hb) <;> first | exact True.intro | refine Lf.mk ?_))
  · rw [decide_eq_false h, Bool.false_and]
    have hgf : (!(decide ((l.length : Int) < 1) || decide ((l.length : Int) > 6))) = false := by
      by_cases h1 : l.length < 1
      · rw [decide_eq_true (by omega)]; rfl
      · rw [decide_eq_true (p := (l.length : Int) > 6) (by omega), Bool.or_true]; rfl
    (refine TC_of_T Γ_ok Tryz.func16 rfl (by kernel_rfl) ?_;simp only [Tryz.ntmps16,Tryz.results16,List.length_cons,List.length_nil,Nat.reduceSub,Nat.reduceAdd,List.replicate,List.cons_append,List.nil_append])
    (((refine goR0 _ _ _ _ _ _ _ _ ?_ ?_ ?_ ?_ ?_ ?_ ?_ ?_) <;> (repeat intro hb) <;> first | exact True.intro | refine Lf.mk ?_))
    rw [hgf]
    refine gC_falseV (.vmap .str [] []) ?_
    refine hb _ _ ?_
    clear hb
    refine TO_ev Γ_ok ?_
    (simp only [go_sem,↓reduceIte,Nat.reduceAdd,Nat.reduceSub,Nat.reduceMul,Nat.reduceLT,Nat.reduceLeDiff,Nat.reduceEqDiff,Nat.reduceGT,Int.reduceToNat,Int.reduceBEq,Int.reduceBNe];try simp (disch := omega) only [wrapI,wrapU,half_sum,toNat_sub1,toNat_add1,Int.toNat_natCast])
    refine And.intro (fun hg _ => absurd (hgf.symm.trans hg) (by decide)) ?_
    rename_i K0 hK0
    refine hK0 _ ?_
    clear hK0 K0
    (((refine goR0 _ _ _ _ _ _ _ _ ?_ ?_ ?_ ?_ ?_ ?_ ?_ ?_) <;> (repeat intro hb) <;> first | exact True.intro | refine Lf.mk ?_))
    trace_state
    done
end Go.Proofs.YtngfnogoicfmaaaGreatDoor
namespace Go.Proofs.YtngfnogoicfmaaaGreatDoor
open Go.Ab
def wrB (n : Nat) (k : Int) (t : Tk) : Bool := if t.s ≠ k + 1 ∨ t.c < 0 ∨ t.c ≥ n ∨ t.d < 0 ∨ t.d ≥ 8 then true else if t.n = 0 then decide (t.c ≠ 0) else decide (t.n ≠ 1 ∧ t.n ≠ -1)
set_option maxRecDepth 100000 in
set_option maxHeartbeats 4000000 in
theorem wrong_tc (l : List Nm) (k : Int) (h0 : 0 ≤ k ∧ k ≤ 1000) (s c n d : Int) : Look Tryz.prog 17 [.imm (.int .i64 k),.agg [.imm (.int .i64 s),.imm (.int .i64 c),.imm (.int .i64 n),.imm (.int .i64 d)],.rptr 1 (nth [nmV l])] (.imm (.bool (wrB l.length k ⟨s,c,n,d⟩))) := by
  refine Look.mk trivial ?_
  (refine TC_of_T Γ_ok Tryz.func17 rfl (by kernel_rfl) ?_;simp only [Tryz.ntmps17,Tryz.results17,List.length_cons,List.length_nil,Nat.reduceSub,Nat.reduceAdd,List.replicate,List.cons_append,List.nil_append])
  repeat' (first
    | (with_reducible refine hK _ ?_; clear hK K)
    | ((with_reducible apply DC_call);(focus exact rfl);(focus exact rfl);(focus exact rfl);intro N hN;(simp only [go_sem,↓reduceIte,Nat.reduceAdd,Nat.reduceSub,Nat.reduceMul,Nat.reduceLT,Nat.reduceLeDiff,Nat.reduceEqDiff,Nat.reduceGT,Int.reduceToNat,Int.reduceBEq,Int.reduceBNe];try simp (disch := omega) only [wrapI,wrapU,half_sum,toNat_sub1,toNat_add1,Int.toNat_natCast]))
    | ((with_reducible first|refine T_seq_region Γ_ok (fun K hK=>?_)|refine T_last_region Γ_ok (fun K hK=>?_)|refine TO_callN rfl (fun N hN=>?_)|refine DCT_fork Γ_ok (fun K2 hK2=>?_)|refine DCT_last Γ_ok ?_|refine DC_ev Γ_ok ?_|refine TO_ev Γ_ok ?_|refine retQ_r ?_|refine retQ_n ?_);(simp only [go_sem,↓reduceIte,Nat.reduceAdd,Nat.reduceSub,Nat.reduceMul,Nat.reduceLT,Nat.reduceLeDiff,Nat.reduceEqDiff,Nat.reduceGT,Int.reduceToNat,Int.reduceBEq,Int.reduceBNe];try simp (disch := omega) only [wrapI,wrapU,half_sum,toNat_sub1,toNat_add1,Int.toNat_natCast]))
    | (with_reducible refine hK2 _ ?_ ?_ <;> clear hK2 K2)
    | with_reducible refine gC_false ?_ | with_reducible refine gC_true ?_ | with_reducible refine dCall_true ?_
    | (with_reducible refine hN _ _ ?_; clear hN N)
    | (with_reducible refine hN _ _ (dInl rfl) ?_; clear hN N)
    | ((with_reducible refine hN _ _ (.inr ?_) ?_);(focus (simp only [go_sem,↓reduceIte,Nat.reduceAdd,Nat.reduceSub,Nat.reduceMul,Nat.reduceLT,Nat.reduceLeDiff,Nat.reduceEqDiff,Nat.reduceGT,Int.reduceToNat,Int.reduceBEq,Int.reduceBNe];try simp (disch := omega) only [wrapI,wrapU,half_sum,toNat_sub1,toNat_add1,Int.toNat_natCast]));all_goals (try clear hN N))
    | with_reducible refine T_seq ?_|with_reducible refine T_block ?_|with_reducible refine T_ret ?_|with_reducible refine T_exit ?_|with_reducible refine T_skip ?_|with_reducible refine T_label ?_
    | with_reducible refine thenQ_n ?_|with_reducible refine thenQ_e ?_|with_reducible refine thenQ_r ?_|with_reducible refine blockQ_n ?_|with_reducible refine blockQ_e ?_|with_reducible refine blockQ_r ?_
    | with_reducible refine blockQ_o (by decide) ?_
    | ((with_reducible refine T_cond _ rfl (fun hb=>?_) (fun hb=>?_)) <;> first|(cases hb;done)|(simp only [decide_eq_true_eq,decide_eq_false_iff_not,Bool.and_eq_true,Bool.or_eq_true,Bool.and_eq_false_imp,Bool.or_eq_false_iff,Bool.not_eq_true',Bool.not_eq_false',beq_iff_eq,bne_iff_ne,ne_eq,beq_eq_false_iff_ne,bne_eq_false_iff_eq,Int.not_lt,Int.not_le,ge_iff_le,gt_iff_lt] at hb)|skip)
    | (with_reducible refine And.intro (by first | exact trivial | omega | (intro hg;simp at hg ⊢ <;> omega) | (simp <;> omega)) ?_)
    | assumption | omega)
  all_goals (first | grind [wrB] | (congr 2;unfold wrB;rw [if_neg (by simp only [];omega),if_neg (by assumption),Bool.eq_iff_iff];simp))
end Go.Proofs.YtngfnogoicfmaaaGreatDoor
namespace Go.Proofs.YtngfnogoicfmaaaGreatDoor
open Go.Ab
def wrA (n : Nat) (ts : List Tk) : Bool := (List.range ts.length).all fun (k : Nat) => !wrB n k (gt ts k)
def shfK (l : List Nm) (ts : List Tk) : Nat → P6
  | 0 => z6
  | k + 1 => (shfK l ts k).addN (gN l (gt ts k).c.toNat).v (gt ts k).n
def shfs (l : List Nm) (ts : List Tk) (k : Nat) : List P6 := (List.range (k + 1)).map (shfK l ts)
def inA (l : List Nm) (ts : List Tk) : Bool := (List.range ts.length).all fun k => decide (Bd6 48 (shfK l ts (k + 1)))
theorem wr_ok {n : Nat} {k : Int} {t : Tk} (h : wrB n k t = false) : t.s = k + 1 ∧ (0 ≤ t.c ∧ t.c < n) ∧ (0 ≤ t.d ∧ t.d < 8) ∧ (-1 ≤ t.n ∧ t.n ≤ 1) := by
  unfold wrB at h
  split at h
  · cases h
  · rename_i h1
    refine ⟨by omega, by omega, by omega, ?_⟩
    split at h
    · omega
    · have := of_decide_eq_false h
      omega
theorem z6_bd {n : Int} (h : 0 ≤ n) : Bd6 n z6 := by unfold Bd6 z6; simp only []; omega
theorem Bd6.le {n m : Int} {p : P6} (h : Bd6 n p) (hle : n ≤ m) : Bd6 m p := by unfold Bd6 at *; omega
def wkR (l : List Nm) (ts : List Tk) : List P6 × Int :=
  if cvB l = true ∧ ts.length < 16 ∧ wrA l.length ts = true then (if inA l ts = true then (shfs l ts ts.length,0) else ([],3)) else ([],1)
theorem shfs_len (l : List Nm) (ts : List Tk) (k : Nat) : (shfs l ts k).length = k + 1 := by simp [shfs]
theorem shfs_s (l : List Nm) (ts : List Tk) (k : Nat) : shfs l ts (k + 1) = shfs l ts k ++ [shfK l ts (k + 1)] := by unfold shfs;rw [List.range_succ,List.map_append];rfl
set_option maxRecDepth 100000 in
set_option maxHeartbeats 8000000 in
theorem walk_raw (l : List Nm) (ts : List Tk) : TC Tryz.prog 5 [nmV l, tks ts] [] (fun v σ' =>
    (v = .tup [.imm (.slice none 0 0), .imm (.int .i64 (wkR l ts).2)] ∧ (wkR l ts).1.length = 0) ∨
    ∃ k E',v = .tup [.own k 0 (wkR l ts).1.length none,.imm (.int .i64 (wkR l ts).2)] ∧ nthO σ' k = .arr 37 6 (wkR l ts).1.length E' ∧ ∀ i j,i < (wkR l ts).1.length → j < 6 → E' i j = p6E (wkR l ts).1 i j) := by
  have hv := cvalid_tc l
  by_cases h1 : cvB l = true ∧ ts.length < 16
  · have hcv := cvB_ok h1.1
    rw [h1.1] at hv
    have e1 : decide ((ts.length : Int) ≥ 16) = false := decide_eq_false (by omega)
    (refine TC_of_T Γ_ok Tryz.func5 rfl (by kernel_rfl) ?_;simp only [Tryz.ntmps5,Tryz.results5,List.length_cons,List.length_nil,Nat.reduceSub,Nat.reduceAdd,List.replicate,List.cons_append,List.nil_append])
    (have cl1 := hv;have sx1 := e1;have sx2 : (0 : Nat) + 0 = 0 := rfl;((have sx3 : (0 : Nat) + 0 = 0 := rfl;have sx4 : (0 : Nat) + 0 = 0 := rfl;have sx5 : (0 : Nat) + 0 = 0 := rfl;have sx6 : (0 : Nat) + 0 = 0 := rfl;have sx7 : (0 : Nat) + 0 = 0 := rfl;have sx8 : (0 : Nat) + 0 = 0 := rfl;have sx9 : (0 : Nat) + 0 = 0 := rfl;refine goR9 _ _ _ _ _ _ _ _ ?_ ?_ ?_ ?_ ?_ ?_ ?_ ?_) <;> (repeat intro hb) <;> first|exact True.intro|refine Lf.mk ?_))
    have hT1 : ∀ (i : Nat),i < ts.length → Look Tryz.prog 17 [.imm (.int .i64 (i : Int)),.agg [.imm (.int .i64 (gt ts i).s),.imm (.int .i64 (gt ts i).c),.imm (.int .i64 (gt ts i).n),.imm (.int .i64 (gt ts i).d)],.rptr 1 (nth [nmV l])] (.imm (.bool (wrB l.length i (gt ts i)))) := fun i hi=>wrong_tc l i (by omega) _ _ _ _
    refine T_loopW (fun m st=>∃ i : Nat,i ≤ ts.length ∧ m + i = ts.length ∧ (∀ j,j < i → wrB l.length (j : Int) (gt ts j) = false) ∧ st = ⟨[nmV l,tks ts,.optr 0 0 0,.top,.imm (.slice none 0 0),.imm (.int .i64 0),.fn (.func 17) [] [.optr 0 0 0]] ++ List.replicate 15 .top ++ [tks ts,.imm (.int .i64 ts.length),.imm (.int .i64 i)] ++ List.replicate 35 .top,[.box 22 [nmV l]]⟩)
      ts.length ⟨_, ?_, 0, by omega, rfl, fun j hj => by omega, rfl⟩ ?_
    · ((try simp only [List.length_append,List.length_cons,List.length_nil,Nat.zero_add]);refine Wk.intro [0] (by decide) (by decide) (by intro o ho;simp at ho ⊢ <;> omega) ?_ ?_ <;> repeat' (first|exact WkVL.nil|refine WkVL.cons ?_ ?_|exact WkV.top|exact WkV.imm rfl|exact WkV.imm (by simp)|exact WkV.optr rfl|exact WkV.own rfl (by simp)|exact WkV.nil_own (.inl rfl)|exact WkV.map rfl|(refine WkV.free ?_;simp [Free,FreeL] <;> assumption)|(refine WkV.free (fun _ _=>FreeL_nth ?_ _);simp [Free,FreeL];done)|refine WkV.agg ?_|refine WkV.tup ?_|refine WkV.fn ?_ ?_|exact WkO.dead|exact WkO.raw|refine WkO.ghost ?_|exact WkO.mpE rfl trivial|refine WkO.box ?_ rfl|refine WkO.arr ?_|refine And.intro ?_ (And.intro (by first|exact fun h=>h|exact fun _=>rfl|exact nofun) ?_)|exact trivial|(intro i j hi hj)))
    rintro m st ⟨i, g0, g1, g2, rfl⟩
    (simp only [go_sem,↓reduceIte,Nat.reduceAdd,Nat.reduceSub,Nat.reduceMul,Nat.reduceLT,Nat.reduceLeDiff,Nat.reduceEqDiff,Nat.reduceGT,Int.reduceToNat,Int.reduceBEq,Int.reduceBNe];try simp (disch := omega) only [wrapI,wrapU,half_sum,toNat_sub1,toNat_add1,Int.toNat_natCast])
    by_cases hi : i < ts.length
    · have hw := hT1 i hi
      cases hwr : wrB l.length (i : Int) (gt ts i) with
      | true =>
        rw [hwr] at hw
        have e : wkR l ts = ([], 1) := by
          unfold wkR
          rw [if_neg]
          rintro ⟨_, _, ha⟩
          have := List.all_eq_true.1 ha i (List.mem_range.2 hi)
          rw [hwr] at this; cases this
        rw [e]
        (have cl1 := hw;((refine goR0 _ _ _ _ _ _ _ _ ?_ ?_ ?_ ?_ ?_ ?_ ?_ ?_) <;> (repeat intro hb) <;> first | exact True.intro | refine Lf.mk ?_))
        exact .inl trivial
      | false =>
        rw [hwr] at hw
        (have cl1 := hw;((refine goR0 _ _ _ _ _ _ _ _ ?_ ?_ ?_ ?_ ?_ ?_ ?_ ?_) <;> (repeat intro hb) <;> first | exact True.intro | refine Lf.mk ?_))
        refine ⟨ts.length - (i + 1), by omega, _, ?_, i + 1, by omega, by omega, fun j hj => ?_, rfl⟩
        · ((try simp only [List.length_append,List.length_cons,List.length_nil,Nat.zero_add]);refine Wk.intro [0] (by decide) (by decide) (by intro o ho;simp at ho ⊢ <;> omega) ?_ ?_ <;> repeat' (first|exact WkVL.nil|refine WkVL.cons ?_ ?_|exact WkV.top|exact WkV.imm rfl|exact WkV.imm (by simp)|exact WkV.optr rfl|exact WkV.own rfl (by simp)|exact WkV.nil_own (.inl rfl)|exact WkV.map rfl|(refine WkV.free ?_;simp [Free,FreeL] <;> assumption)|(refine WkV.free (fun _ _=>FreeL_nth ?_ _);simp [Free,FreeL];done)|refine WkV.agg ?_|refine WkV.tup ?_|refine WkV.fn ?_ ?_|exact WkO.dead|exact WkO.raw|refine WkO.ghost ?_|exact WkO.mpE rfl trivial|refine WkO.box ?_ rfl|refine WkO.arr ?_|refine And.intro ?_ (And.intro (by first|exact fun h=>h|exact fun _=>rfl|exact nofun) ?_)|exact trivial|(intro i j hi hj)))
        · by_cases e : j = i
          · rw [e]; exact hwr
          · exact g2 j (by omega)
    · have hie : i = ts.length := by omega
      subst hie
      have hwA : wrA l.length ts = true := List.all_eq_true.2 fun k hk => by rw [g2 k (List.mem_range.1 hk)]; rfl
      clear hT1 hv
      (((refine goR0 _ _ _ _ _ _ _ _ ?_ ?_ ?_ ?_ ?_ ?_ ?_ ?_) <;> (repeat intro hb) <;> first | exact True.intro | refine Lf.mk ?_))
      refine T_loopW (fun m st => ∃ k : Nat,k ≤ ts.length ∧ m + k = ts.length ∧ (∀ j,j < k → Bd6 48 (shfK l ts (j + 1))) ∧
          st = ⟨[nmV l,tks ts,.optr 0 0 0,.top,.imm (.slice none 0 0),.imm (.int .i64 0),.top,.top,.top,.optr 1 0 0,.own 2 0 (k + 1) none] ++ List.replicate 25 .top ++ [tks ts,.imm (.int .i64 ts.length),.imm (.int .i64 k)] ++ List.replicate 21 .top,
          [.box 22 [nmV l], .box 37 (p6L (shfK l ts k)), .arr 37 6 (k + 1) (p6E (shfs l ts k))]⟩)
        ts.length ⟨_, ?_, 0, by omega, rfl, fun j hj => by omega, rfl⟩ ?_
      · have e0 : ∀ i j,i < 1 → j < 6 → nth [AV.imm (.int .i64 0),.imm (.int .i64 0),.imm (.int .i64 0),.imm (.int .i64 0),.imm (.int .i64 0),.imm (.int .i64 0)] (i * 6 + j) = p6E (shfs l ts 0) i j := fun i j hi hj=>by
          obtain rfl : i = 0 := by omega
          rcases j with _ | _ | _ | _ | _ | _ | j <;> first | rfl | omega
        ((try simp only [List.length_append,List.length_cons,List.length_nil,Nat.zero_add]);refine Wk.intro [0,1,2] (by decide) (by decide) (by intro o ho;simp at ho ⊢ <;> omega) ?_ ?_ <;> repeat' (first|(exact WkV.eqF (e0 _ _ hi hj) (by simp))|exact WkVL.nil|refine WkVL.cons ?_ ?_|exact WkV.top|exact WkV.imm rfl|exact WkV.imm (by simp)|exact WkV.optr rfl|exact WkV.own rfl (by simp)|exact WkV.nil_own (.inl rfl)|exact WkV.map rfl|(refine WkV.free ?_;simp [Free,FreeL] <;> assumption)|(refine WkV.free (fun _ _=>FreeL_nth ?_ _);simp [Free,FreeL];done)|refine WkV.agg ?_|refine WkV.tup ?_|refine WkV.fn ?_ ?_|exact WkO.dead|exact WkO.raw|refine WkO.ghost ?_|exact WkO.mpE rfl trivial|refine WkO.box ?_ rfl|refine WkO.arr ?_|refine And.intro ?_ (And.intro (by first|exact fun h=>h|exact fun _=>rfl|exact nofun) ?_)|exact trivial|(intro i j hi hj)))
      rintro m st ⟨k, g0, g1, g3, rfl⟩
      (simp only [go_sem,↓reduceIte,Nat.reduceAdd,Nat.reduceSub,Nat.reduceMul,Nat.reduceLT,Nat.reduceLeDiff,Nat.reduceEqDiff,Nat.reduceGT,Int.reduceToNat,Int.reduceBEq,Int.reduceBNe];try simp (disch := omega) only [wrapI,wrapU,half_sum,toNat_sub1,toNat_add1,Int.toNat_natCast])
      by_cases hk : k < ts.length
      · obtain ⟨w1, w2, w3, w4⟩ := wr_ok (g2 k hk)
        have hbk : Bd6 48 (shfK l ts k) := by
          cases k with
          | zero => exact z6_bd (by omega)
          | succ k => exact g3 k (by omega)
        have hcm : (gt ts k).c.toNat < l.length := by omega
        have hgb := hcv.bd _ (gN_mem hcm)
        have had := add_tu (shfK l ts k) (gN l (gt ts k).c.toNat).v (gt ts k).n (hbk.le (by omega)) hgb (by omega)
        have hes : (shfK l ts k).addN (gN l (gt ts k).c.toNat).v (gt ts k).n = shfK l ts (k + 1) := rfl
        rw [hes] at had
        have hiv := interval_tc (shfK l ts (k + 1))
        have hv5 := fun p q => p6_snoc (shfs l ts k) (shfK l ts (k + 1)) (i := p) (j := q)
        rw [← shfs_s, shfs_len] at hv5
        by_cases hin : Bd6 48 (shfK l ts (k + 1))
        · rw [decide_eq_true hin] at hiv
          generalize hwg : shfK l ts (k + 1) = w at had hiv hv5
          (have ct1 := TurnsAt.mk [1] (had);have cl1 := hiv;repeat' (first|with_reducible refine T_seq_drawT (id := 15) Γ_ok drawsAny pl5_15 (by kernel_rfl) (fun K hK=>?_)|with_reducible refine T_last_drawT (id := 15) Γ_ok drawsAny pl5_15 (by kernel_rfl) (fun K hK=>?_)|((refine goR0 _ _ _ _ _ _ _ _ ?_ ?_ ?_ ?_ ?_ ?_ ?_ ?_) <;> (repeat intro hb) <;> first|exact True.intro|refine Lf.mk ?_)))
          refine ⟨ts.length - (k + 1), by omega, _, ?_, k + 1, by omega, by omega, fun j hj => ?_, rfl⟩
          · rw [hwg]
            ((try simp only [List.length_append,List.length_cons,List.length_nil,Nat.zero_add]);refine Wk.intro [0,1,5] (by decide) (by decide) (by intro o ho;simp at ho ⊢ <;> omega) ?_ ?_ <;> repeat' (first|(exact WkV.eqF (hv5 _ _ hi hj) (by simp))|exact WkVL.nil|refine WkVL.cons ?_ ?_|exact WkV.top|exact WkV.imm rfl|exact WkV.imm (by simp)|exact WkV.optr rfl|exact WkV.own rfl (by simp)|exact WkV.nil_own (.inl rfl)|exact WkV.map rfl|(refine WkV.free ?_;simp [Free,FreeL] <;> assumption)|(refine WkV.free (fun _ _=>FreeL_nth ?_ _);simp [Free,FreeL];done)|refine WkV.agg ?_|refine WkV.tup ?_|refine WkV.fn ?_ ?_|exact WkO.dead|exact WkO.raw|refine WkO.ghost ?_|exact WkO.mpE rfl trivial|refine WkO.box ?_ rfl|refine WkO.arr ?_|refine And.intro ?_ (And.intro (by first|exact fun h=>h|exact fun _=>rfl|exact nofun) ?_)|exact trivial|(intro i j hi hj)))
          · by_cases e : j = k
            · rw [e]; exact hin
            · exact g3 j (by omega)
        · rw [decide_eq_false hin] at hiv
          have e : wkR l ts = ([], 3) := by
            unfold wkR
            rw [if_pos ⟨h1.1, h1.2, hwA⟩, if_neg]
            intro ha
            exact hin (of_decide_eq_true (List.all_eq_true.1 ha k (List.mem_range.2 hk)))
          rw [e]
          (have ct1 := TurnsAt.mk [1] (had);have cl1 := hiv;repeat' (first|with_reducible refine T_seq_drawT (id := 15) Γ_ok drawsAny pl5_15 (by kernel_rfl) (fun K hK=>?_)|with_reducible refine T_last_drawT (id := 15) Γ_ok drawsAny pl5_15 (by kernel_rfl) (fun K hK=>?_)|((refine goR0 _ _ _ _ _ _ _ _ ?_ ?_ ?_ ?_ ?_ ?_ ?_ ?_) <;> (repeat intro hb) <;> first|exact True.intro|refine Lf.mk ?_)))
          exact .inl trivial
      · have hke : k = ts.length := by omega
        subst hke
        have e : wkR l ts = (shfs l ts ts.length, 0) := by
          unfold wkR
          rw [if_pos ⟨h1.1, h1.2, hwA⟩, if_pos]
          exact List.all_eq_true.2 fun k hk => decide_eq_true (g3 k (List.mem_range.1 hk))
        rw [e]
        (((refine goR0 _ _ _ _ _ _ _ _ ?_ ?_ ?_ ?_ ?_ ?_ ?_ ?_) <;> (repeat intro hb) <;> first | exact True.intro | refine Lf.mk ?_))
        refine .inr ⟨2, _, ?_, ?_, fun i j _ _ => rfl⟩
        all_goals simp [shfs_len, nthO]
  · have e : wkR l ts = ([], 1) := by unfold wkR; rw [if_neg (fun h => h1 ⟨h.1, h.2.1⟩)]
    rw [e]
    (refine TC_of_T Γ_ok Tryz.func5 rfl (by kernel_rfl) ?_;simp only [Tryz.ntmps5,Tryz.results5,List.length_cons,List.length_nil,Nat.reduceSub,Nat.reduceAdd,List.replicate,List.cons_append,List.nil_append])
    (have cl1 := hv;((refine goR0 _ _ _ _ _ _ _ _ ?_ ?_ ?_ ?_ ?_ ?_ ?_ ?_) <;> (repeat intro hb) <;> first | exact True.intro | refine Lf.mk ?_))
    · exact .inl trivial
    · exfalso
      simp_all
      omega
theorem walk_tc (l : List Nm) (ts : List Tk) : Makes Tryz.prog 5 [nmV l,tks ts] (.tup [.own 0 0 (wkR l ts).1.length none,.imm (.int .i64 (wkR l ts).2)]) [rowsO (wkR l ts).1] :=
  Makes.lstJ (fun i j => p6E_pl _ i j) trivial (walk_raw l ts)
end Go.Proofs.YtngfnogoicfmaaaGreatDoor
