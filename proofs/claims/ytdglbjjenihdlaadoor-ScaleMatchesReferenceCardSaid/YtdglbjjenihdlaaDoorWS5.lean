/-
  Parts joined: Q4 Q5.
-/
import Derived.Test.YtdglbjjenihdlaaDoorWGo
import Derived.Test.YtdglbjjenihdlaaDoorWQ3
import Derived.Test.YtdglbjjenihdlaaDoorWGo3
import Derived.Test.YtdglbjjenihdlaaDoorWS3
set_option linter.unusedSimpArgs false
set_option linter.unusedVariables false
namespace Go.Proofs.YtdglbjjenihdlaaDoor
open Go.Ab
@[go_sem,reducible] def enZ (sg : Int) (V i : Nat) : List AV := [.top,.imm (.int .i64 sg),.optr 0 0 0,.top,.imm (.slice none 0 0),.own 1 0 (lmN V) none,.imm (.int .i64 i)] ++ List.replicate 33 .top
set_option maxRecDepth 100000 in
set_option maxHeartbeats 4000000 in
theorem rprod_mk (p q : P6) (sg : Int) (hsg : (sg = 1 ∧ q = p) ∨ (sg = -1 ∧ q = p.neg)) (h : Bd6 1152 p) : Makes Tryd.prog 69 [p6A p,.imm (.int .i64 sg)] (.own 0 0 (lmN (num q)) none) [natO (lmN (num q)) (num q)] := by
  refine natMk ?_
  generalize hQ : (fun (v : AV) (σ' : List AObj) => ∃ k L c E',v = .own k 0 (lmN (num q)) c ∧ nthO σ' k = .arr 92 1 L E' ∧ lmN (num q) ≤ L ∧ ∀ i,i < lmN (num q) → E' i 0 = lmE (num q) i 0) = Q
  have hq : Bd6 1152 q := by rcases hsg with ⟨_, rfl⟩ | ⟨_, rfl⟩; exact h; exact h.neg
  have hat : ∀ i, p.at i * sg = q.at i := fun i => by
    rcases hsg with ⟨rfl, rfl⟩ | ⟨rfl, rfl⟩
    · exact Int.mul_one _
    · rw [at_neg]; omega
  have c1 := rmake_mk 1 (by omega)
  rw [Int.natCast_one] at c1
  (refine TC_of_T Γ_ok Tryd.func69 rfl (by kernel_rfl) ?_;simp only [Tryd.ntmps69,Tryd.results69,List.length_cons,List.length_nil,Nat.reduceSub,Nat.reduceAdd,List.replicate,List.cons_append,List.nil_append])
  (have cm1 := c1;repeat' (first|with_reducible refine T_seq_drawT (id := 6) Γ_ok drawsAny pl69_6 (by kernel_rfl) (fun K hK=>?_)|with_reducible refine T_last_drawT (id := 6) Γ_ok drawsAny pl69_6 (by kernel_rfl) (fun K hK=>?_)|((refine goR0 _ _ _ _ _ _ _ _ ?_ ?_ ?_ ?_ ?_ ?_ ?_ ?_) <;> (repeat intro hb) <;> first|exact True.intro|refine Lf.mk ?_)))
  refine T_loopW (fun m st => ∃ i : Nat,i ≤ 6 ∧ m + i = 6 ∧ st = ⟨enZ sg (numK q i) i,[.box 23 (p6L p),natO (lmN (numK q i)) (numK q i)]⟩)
    6 ⟨_, ?_, 0, by omega, rfl, rfl⟩ ?_
  · rw [show numK q 0 = 1 from rfl]
    ((try simp only [List.length_append,List.length_cons,List.length_nil,Nat.zero_add]);refine Wk.intro [0,1] (by decide) (by decide) (by intro o ho;simp at ho ⊢ <;> omega) ?_ ?_ <;> repeat' (first|exact WkVL.nil|refine WkVL.cons ?_ ?_|exact WkV.top|exact WkV.imm rfl|exact WkV.imm (by simp)|exact WkV.optr rfl|exact WkV.own rfl (by simp)|exact WkV.nil_own (.inl rfl)|exact WkV.map rfl|(refine WkV.free ?_;simp [Free,FreeL] <;> assumption)|(refine WkV.free (fun _ _=>FreeL_nth ?_ _);simp [Free,FreeL];done)|refine WkV.agg ?_|refine WkV.tup ?_|refine WkV.fn ?_ ?_|exact WkO.dead|exact WkO.raw|refine WkO.ghost ?_|exact WkO.mpE rfl trivial|refine WkO.box ?_ rfl|refine WkO.arr ?_|refine And.intro ?_ (And.intro (by first|exact fun h=>h|exact fun _=>rfl|exact nofun) ?_)|exact trivial|(intro i j hi hj)))
  rintro m st ⟨i, h0, h1, rfl⟩
  by_cases hi : i < 6
  · have hab := at_bd h (by omega) i
    have hqb := at_bd hq (by omega) i
    have hp2 := prm_2 hi
    have hp4 := prm_le i
    have hpi : lmN (prm i) ≤ 640 := Nat.le_trans (lt_pow.1 (show prm i < Bs ^ 1 by rw [Nat.pow_one];unfold Bs;omega)) (by omega)
    have hn : nth [AV.imm (.int .i64 p.a),.imm (.int .i64 p.b),.imm (.int .i64 p.c),.imm (.int .i64 p.d),.imm (.int .i64 p.e),.imm (.int .i64 p.f)] (i * 1) = .imm (.int .i64 (p.at i)) := by
      rw [Nat.mul_one]
      rcases i with _ | _ | _ | _ | _ | _ | i <;> first | rfl | omega
    have hw : IntKind.u64.wrap (prm i : Int) = (prm i : Int) := wrapU (by omega) (by omega)
    have he := hat i
    have c2 := prime_tc i hi
    have c3 := rmake_mk (prm i) (by omega)
    have l0 := numK_lim hq (i := i) (by omega)
    have l1 := numK_lim hq (i := i + 1) (by omega)
    have hs : numK q (i + 1) = numK q i * prm i ^ (q.at i).toNat := rfl
    obtain ⟨V, hV⟩ : ∃ V, V = numK q i := ⟨_, rfl⟩
    rw [← hV] at hs l0 ⊢
    by_cases hpos : 0 < q.at i
    · obtain ⟨e, hee⟩ : ∃ e : Nat, q.at i = e := ⟨(q.at i).toNat, by omega⟩
      rw [hee] at he hs
      rw [Int.toNat_natCast] at hs
      have e3 : decide ((e : Int) > 0) = true := decide_eq_true (by omega)
      have c4 := rpow_mk (prm i) e hp2 (by omega) (by omega) hpi (pow_lim i (by omega))
      have c5 := rmul_mk V (prm i ^ e) l0 (pow_lim i (by omega)) (by rw [← hs]; exact l1)
      rw [← hs] at c5
      (simp only [go_sem,↓reduceIte,Nat.reduceAdd,Nat.reduceSub,Nat.reduceMul,Nat.reduceLT,Nat.reduceLeDiff,Nat.reduceEqDiff,Nat.reduceGT,Int.reduceToNat,Int.reduceBEq,Int.reduceBNe];try simp (disch := omega) only [wrapI,wrapU,half_sum,toNat_sub1,toNat_add1,Int.toNat_natCast])
      (have cl1 := c2;have dm1 := c3;have dm2 := c4;have dm3 := c5;have sx1 := hn;have sx2 := he;have sx3 := hw;have sx4 := e3;repeat' (first|with_reducible refine T_seq_drawT (id := 6) Γ_ok drawsAny pl69_6 (by kernel_rfl) (fun K hK=>?_)|with_reducible refine T_last_drawT (id := 6) Γ_ok drawsAny pl69_6 (by kernel_rfl) (fun K hK=>?_)|((have sx5 : (0 : Nat) + 0 = 0 := rfl;have sx6 : (0 : Nat) + 0 = 0 := rfl;have sx7 : (0 : Nat) + 0 = 0 := rfl;have sx8 : (0 : Nat) + 0 = 0 := rfl;have sx9 : (0 : Nat) + 0 = 0 := rfl;refine goR9 _ _ _ _ _ _ _ _ ?_ ?_ ?_ ?_ ?_ ?_ ?_ ?_) <;> (repeat intro hb) <;> first|exact True.intro|refine Lf.mk ?_)))
      · trivial
      · refine ⟨6 - (i + 1),by omega,⟨enZ sg (numK q (i + 1)) (i + 1),[.box 23 (p6L p),natO (lmN (numK q (i + 1))) (numK q (i + 1))]⟩,?_,i + 1,by omega,by omega,rfl⟩
        ((try simp only [List.length_append,List.length_cons,List.length_nil,Nat.zero_add]);refine Wk.intro [0,4] (by decide) (by decide) (by intro o ho;simp at ho ⊢ <;> omega) ?_ ?_ <;> repeat' (first|(refine WkV.imm ?_;congr 1;omega)|exact WkVL.nil|refine WkVL.cons ?_ ?_|exact WkV.top|exact WkV.imm rfl|exact WkV.imm (by simp)|exact WkV.optr rfl|exact WkV.own rfl (by simp)|exact WkV.nil_own (.inl rfl)|exact WkV.map rfl|(refine WkV.free ?_;simp [Free,FreeL] <;> assumption)|(refine WkV.free (fun _ _=>FreeL_nth ?_ _);simp [Free,FreeL];done)|refine WkV.agg ?_|refine WkV.tup ?_|refine WkV.fn ?_ ?_|exact WkO.dead|exact WkO.raw|refine WkO.ghost ?_|exact WkO.mpE rfl trivial|refine WkO.box ?_ rfl|refine WkO.arr ?_|refine And.intro ?_ (And.intro (by first|exact fun h=>h|exact fun _=>rfl|exact nofun) ?_)|exact trivial|(intro i j hi hj)))
    · have e3 : decide (q.at i > 0) = false := decide_eq_false (by omega)
      have hs2 : numK q (i + 1) = V := by rw [hs, show (q.at i).toNat = 0 by omega, Nat.pow_zero, Nat.mul_one]
      (simp only [go_sem,↓reduceIte,Nat.reduceAdd,Nat.reduceSub,Nat.reduceMul,Nat.reduceLT,Nat.reduceLeDiff,Nat.reduceEqDiff,Nat.reduceGT,Int.reduceToNat,Int.reduceBEq,Int.reduceBNe];try simp (disch := omega) only [wrapI,wrapU,half_sum,toNat_sub1,toNat_add1,Int.toNat_natCast])
      (have sx1 := hn;have sx2 := he;have sx3 := e3;have sx4 : (0 : Nat) + 0 = 0 := rfl;repeat' (first|with_reducible refine T_seq_drawT (id := 6) Γ_ok drawsAny pl69_6 (by kernel_rfl) (fun K hK=>?_)|with_reducible refine T_last_drawT (id := 6) Γ_ok drawsAny pl69_6 (by kernel_rfl) (fun K hK=>?_)|((have sx5 : (0 : Nat) + 0 = 0 := rfl;have sx6 : (0 : Nat) + 0 = 0 := rfl;have sx7 : (0 : Nat) + 0 = 0 := rfl;have sx8 : (0 : Nat) + 0 = 0 := rfl;have sx9 : (0 : Nat) + 0 = 0 := rfl;refine goR9 _ _ _ _ _ _ _ _ ?_ ?_ ?_ ?_ ?_ ?_ ?_ ?_) <;> (repeat intro hb) <;> first|exact True.intro|refine Lf.mk ?_)))
      refine ⟨6 - (i + 1),by omega,⟨enZ sg (numK q (i + 1)) (i + 1),[.box 23 (p6L p),natO (lmN (numK q (i + 1))) (numK q (i + 1))]⟩,?_,i + 1,by omega,by omega,rfl⟩
      rw [hs2]
      ((try simp only [List.length_append,List.length_cons,List.length_nil,Nat.zero_add]);refine Wk.intro [0,1] (by decide) (by decide) (by intro o ho;simp at ho ⊢ <;> omega) ?_ ?_ <;> repeat' (first|(refine WkV.imm ?_;congr 1;omega)|exact WkVL.nil|refine WkVL.cons ?_ ?_|exact WkV.top|exact WkV.imm rfl|exact WkV.imm (by simp)|exact WkV.optr rfl|exact WkV.own rfl (by simp)|exact WkV.nil_own (.inl rfl)|exact WkV.map rfl|(refine WkV.free ?_;simp [Free,FreeL] <;> assumption)|(refine WkV.free (fun _ _=>FreeL_nth ?_ _);simp [Free,FreeL];done)|refine WkV.agg ?_|refine WkV.tup ?_|refine WkV.fn ?_ ?_|exact WkO.dead|exact WkO.raw|refine WkO.ghost ?_|exact WkO.mpE rfl trivial|refine WkO.box ?_ rfl|refine WkO.arr ?_|refine And.intro ?_ (And.intro (by first|exact fun h=>h|exact fun _=>rfl|exact nofun) ?_)|exact trivial|(intro i j hi hj)))
  · obtain rfl : i = 6 := by omega
    (simp only [go_sem,↓reduceIte,Nat.reduceAdd,Nat.reduceSub,Nat.reduceMul,Nat.reduceLT,Nat.reduceLeDiff,Nat.reduceEqDiff,Nat.reduceGT,Int.reduceToNat,Int.reduceBEq,Int.reduceBNe];try simp (disch := omega) only [wrapI,wrapU,half_sum,toNat_sub1,toNat_add1,Int.toNat_natCast])
    (repeat' (first|with_reducible refine T_seq_drawT (id := 6) Γ_ok drawsAny pl69_6 (by kernel_rfl) (fun K hK=>?_)|with_reducible refine T_last_drawT (id := 6) Γ_ok drawsAny pl69_6 (by kernel_rfl) (fun K hK=>?_)|((refine goR0 _ _ _ _ _ _ _ _ ?_ ?_ ?_ ?_ ?_ ?_ ?_ ?_) <;> (repeat intro hb) <;> first|exact True.intro|refine Lf.mk ?_)))
    rw [← hQ, ← numK_6 q]
    exact ⟨_, _, _, _, rfl, rfl, Nat.le_refl _, fun _ _ => rfl⟩
end Go.Proofs.YtdglbjjenihdlaaDoor
namespace Go.Proofs.YtdglbjjenihdlaaDoor
open Go.Ab
set_option maxRecDepth 100000 in
set_option maxHeartbeats 4000000 in
theorem rpcmp_tc (p q : P6) : Look Tryd.prog 58 [p6A p,p6A q] (.tup [.imm (.int .i64 (cmpR p q).1),.imm (.int .i64 (cmpR p q).2)]) := by
  have c1 := rvalid_p p
  have c2 := rvalid_p q
  refine Look.mk (by simp [Pl, PlL]) ?_
  by_cases hpq : Bd6 576 p ∧ Bd6 576 q
  · have hp := hpq.1
    have hq := hpq.2
    rw [decide_eq_true hp] at c1
    rw [decide_eq_true hq] at c2
    have hb := hp.sub hq
    have c3 := rprod_mk (p.sub q) (p.sub q) 1 (.inl ⟨rfl, rfl⟩) (hb.mono (by omega))
    have c5 := rprod_mk (p.sub q) (p.sub q).neg (-1) (.inr ⟨rfl, rfl⟩) (hb.mono (by omega))
    have c4 := rncmp_tc (num (p.sub q)) (den (p.sub q)) (num_lim (hb.mono (by omega))) (num_lim (hb.neg.mono (by omega)))
    rw [cmpN_num] at c4
    have hr : cmpR p q = (cmpP p q, 0) := if_pos hpq
    rw [hr]
    unfold Bd6 at hp hq
    clear hb
    (refine TC_of_T Γ_ok Tryd.func58 rfl (by kernel_rfl) ?_;simp only [Tryd.ntmps58,Tryd.results58,List.length_cons,List.length_nil,Nat.reduceSub,Nat.reduceAdd,List.replicate,List.cons_append,List.nil_append])
    (have dl1 := c1;have dl2 := c2;have sx1 : (0 : Nat) + 0 = 0 := rfl;repeat' (first|with_reducible refine T_seq_drawT (id := 9) Γ_ok drawsAny pl58_9 (by kernel_rfl) (fun K hK=>?_)|with_reducible refine T_last_drawT (id := 9) Γ_ok drawsAny pl58_9 (by kernel_rfl) (fun K hK=>?_)|with_reducible refine T_seq_drawT (id := 10) Γ_ok drawsAny pl58_10 (by kernel_rfl) (fun K hK=>?_)|with_reducible refine T_last_drawT (id := 10) Γ_ok drawsAny pl58_10 (by kernel_rfl) (fun K hK=>?_)|((refine goU1 _ _ _ _ _ _ _ _ _ _ _ _ ?_ ?_ ?_ ?_ ?_ ?_ ?_ ?_ ?_ ?_ ?_ ?_) <;> (repeat intro hb) <;> first|exact True.intro|refine Lf.mk ?_)))
    refine T_rounds 7 ?_
    (have dm1 := c3;have dm2 := c5;have cl1 := c4;have sx1 : (0 : Nat) + 0 = 0 := rfl;repeat' (first|with_reducible refine T_seq_drawT (id := 9) Γ_ok drawsAny pl58_9 (by kernel_rfl) (fun K hK=>?_)|with_reducible refine T_last_drawT (id := 9) Γ_ok drawsAny pl58_9 (by kernel_rfl) (fun K hK=>?_)|with_reducible refine T_seq_drawT (id := 10) Γ_ok drawsAny pl58_10 (by kernel_rfl) (fun K hK=>?_)|with_reducible refine T_last_drawT (id := 10) Γ_ok drawsAny pl58_10 (by kernel_rfl) (fun K hK=>?_)|((refine goU1 _ _ _ _ _ _ _ _ _ _ _ _ ?_ ?_ ?_ ?_ ?_ ?_ ?_ ?_ ?_ ?_ ?_ ?_) <;> (repeat intro hb) <;> first|exact True.intro|refine Lf.mk ?_)))
  · have hr : cmpR p q = (0, 1) := if_neg hpq
    rw [hr]
    (refine TC_of_T Γ_ok Tryd.func58 rfl (by kernel_rfl) ?_;simp only [Tryd.ntmps58,Tryd.results58,List.length_cons,List.length_nil,Nat.reduceSub,Nat.reduceAdd,List.replicate,List.cons_append,List.nil_append])
    (have dl1 := c1;have dl2 := c2;have sx1 : (0 : Nat) + 0 = 0 := rfl;repeat' (first|with_reducible refine T_seq_drawT (id := 9) Γ_ok drawsAny pl58_9 (by kernel_rfl) (fun K hK=>?_)|with_reducible refine T_last_drawT (id := 9) Γ_ok drawsAny pl58_9 (by kernel_rfl) (fun K hK=>?_)|with_reducible refine T_seq_drawT (id := 10) Γ_ok drawsAny pl58_10 (by kernel_rfl) (fun K hK=>?_)|with_reducible refine T_last_drawT (id := 10) Γ_ok drawsAny pl58_10 (by kernel_rfl) (fun K hK=>?_)|((refine goU1 _ _ _ _ _ _ _ _ _ _ _ _ ?_ ?_ ?_ ?_ ?_ ?_ ?_ ?_ ?_ ?_ ?_ ?_) <;> (repeat intro hb) <;> first|exact True.intro|refine Lf.mk ?_)))
    exact absurd hb hpq
set_option maxRecDepth 100000 in
set_option maxHeartbeats 4000000 in
theorem rcmp9_tc (p q : P6) : Look Tryd.prog 37 [p6A p, p6A q] (.imm (.int .i64 (cmT p q))) := by
  refine Look.mk trivial ?_
  have c1 := rpcmp_tc p q
  (refine TC_of_T Γ_ok Tryd.func37 rfl (by kernel_rfl) ?_;simp only [Tryd.ntmps37,Tryd.results37,List.length_cons,List.length_nil,Nat.reduceSub,Nat.reduceAdd,List.replicate,List.cons_append,List.nil_append])
  (have cl1 := c1;have sx1 : (0 : Nat) + 0 = 0 := rfl;((refine goU1 _ _ _ _ _ _ _ _ _ _ _ _ ?_ ?_ ?_ ?_ ?_ ?_ ?_ ?_ ?_ ?_ ?_ ?_) <;> (repeat intro hb) <;> first|exact True.intro|refine Lf.mk ?_))
  rfl
set_option maxRecDepth 100000 in
set_option maxHeartbeats 4000000 in
theorem rup_tc (p : P6) (o : Int) (h1 : -1000000 ≤ p.a ∧ p.a ≤ 1000000) (h2 : -1000000 ≤ o ∧ o ≤ 1000000) : Look Tryd.prog 38 [p6A p,.imm (.int .i64 o)] (p6A (up12 p o)) := by
  refine Look.mk (by simp [Pl, PlL]) ?_
  (refine TC_of_T Γ_ok Tryd.func38 rfl (by kernel_rfl) ?_;simp only [Tryd.ntmps38,Tryd.results38,List.length_cons,List.length_nil,Nat.reduceSub,Nat.reduceAdd,List.replicate,List.cons_append,List.nil_append])
  (have sx1 : (0 : Nat) + 0 = 0 := rfl;((refine goU1 _ _ _ _ _ _ _ _ _ _ _ _ ?_ ?_ ?_ ?_ ?_ ?_ ?_ ?_ ?_ ?_ ?_ ?_) <;> (repeat intro hb) <;> first | exact True.intro | refine Lf.mk ?_))
  rfl
set_option maxRecDepth 100000 in
set_option maxHeartbeats 4000000 in
theorem rinside_tc (p : P6) : Look Tryd.prog 39 [p6A p] (.imm (.bool (inB p))) := by
  refine Look.mk trivial ?_
  have c1 := rcmp9_tc p z6
  have c2 := rcmp9_tc p oct
  simp only [z6] at c1
  simp only [oct] at c2
  (refine TC_of_T Γ_ok Tryd.func39 rfl (by kernel_rfl) ?_;simp only [Tryd.ntmps39,Tryd.results39,List.length_cons,List.length_nil,Nat.reduceSub,Nat.reduceAdd,List.replicate,List.cons_append,List.nil_append])
  (have dl1 := c1;have dl2 := c2;have sx1 : (0 : Nat) + 0 = 0 := rfl;((refine goU1 _ _ _ _ _ _ _ _ _ _ _ _ ?_ ?_ ?_ ?_ ?_ ?_ ?_ ?_ ?_ ?_ ?_ ?_) <;> (repeat intro hb) <;> first|exact True.intro|refine Lf.mk ?_))
  rfl
end Go.Proofs.YtdglbjjenihdlaaDoor
