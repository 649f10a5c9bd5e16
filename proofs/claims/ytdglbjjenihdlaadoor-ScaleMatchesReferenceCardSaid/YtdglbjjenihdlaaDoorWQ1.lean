/-
  The reference's natural numbers: Trim, Valid, Both, Make, Order, Cmp.
-/
import Derived.Test.YtdglbjjenihdlaaDoorWGo
import Derived.Test.YtdglbjjenihdlaaDoorWS9
set_option linter.unusedSimpArgs false
set_option linter.unusedVariables false
namespace Go.Proofs.YtdglbjjenihdlaaDoor
open Go.Ab
@[go_sem,reducible] def enT1 (L : Nat) (c : Option Nat) (n : Nat) : List AV := [.own 0 0 L c,.top,.imm (.slice none 0 0),.imm (.int .i64 n)] ++ List.replicate 17 .top
set_option maxRecDepth 100000 in
set_option maxHeartbeats 4000000 in
theorem trim_tc (V L : Nat) (c : Option Nat) (hc : c = none ∨ c = some L) (hV : lmN V ≤ L) (hL : L ≤ 1000000) : TC Tryd.prog 105 [.own 0 0 L c] [natO L V] (fun v σ'=>v = .own 0 0 (lmN V) c ∧ σ' = [natO L V]) := by
  generalize hQ : (fun (v : AV) (σ' : List AObj) => v = .own 0 0 (lmN V) c ∧ σ' = [natO L V]) = Q
  rcases hc with rfl | rfl
  · (refine TC_of_T Γ_ok Tryd.func105 rfl (by kernel_rfl) ?_;simp only [Tryd.ntmps105,Tryd.results105,List.length_cons,List.length_nil,Nat.reduceSub,Nat.reduceAdd,List.replicate,List.cons_append,List.nil_append])
    (((refine goR0 _ _ _ _ _ _ _ _ ?_ ?_ ?_ ?_ ?_ ?_ ?_ ?_) <;> (repeat intro hb) <;> first | exact True.intro | refine Lf.mk ?_))
    refine T_loopW (fun m st => ∃ n : Nat, lmN V ≤ n ∧ n ≤ L ∧ m = n ∧ st = ⟨enT1 L none n, [natO L V]⟩)
      L ⟨_, ?_, L, hV, by omega, rfl, rfl⟩ ?_
    · ((try simp only [List.length_append,List.length_cons,List.length_nil,Nat.zero_add]);refine Wk.intro [0] (by decide) (by decide) (by intro o ho;simp at ho ⊢ <;> omega) ?_ ?_ <;> repeat' (first|exact WkVL.nil|refine WkVL.cons ?_ ?_|exact WkV.top|exact WkV.imm rfl|exact WkV.imm (by simp)|exact WkV.optr rfl|exact WkV.own rfl (by simp)|exact WkV.nil_own (.inl rfl)|exact WkV.map rfl|(refine WkV.free ?_;simp [Free,FreeL] <;> assumption)|(refine WkV.free (fun _ _=>FreeL_nth ?_ _);simp [Free,FreeL];done)|refine WkV.agg ?_|refine WkV.tup ?_|refine WkV.fn ?_ ?_|exact WkO.dead|exact WkO.raw|refine WkO.ghost ?_|exact WkO.mpE rfl trivial|refine WkO.box ?_ rfl|refine WkO.arr ?_|refine And.intro ?_ (And.intro (by first|exact fun h=>h|exact fun _=>rfl|exact nofun) ?_)|exact trivial|(intro i j hi hj)))
    rintro m st ⟨n, h0, h1, rfl, rfl⟩
    (simp only [go_sem,↓reduceIte,Nat.reduceAdd,Nat.reduceSub,Nat.reduceMul,Nat.reduceLT,Nat.reduceLeDiff,Nat.reduceEqDiff,Nat.reduceGT,Int.reduceToNat,Int.reduceBEq,Int.reduceBNe];try simp (disch := omega) only [wrapI,wrapU,half_sum,toNat_sub1,toNat_add1,Int.toNat_natCast])
    (((refine goR0 _ _ _ _ _ _ _ _ ?_ ?_ ?_ ?_ ?_ ?_ ?_ ?_) <;> (repeat intro hb) <;> first | exact True.intro | refine Lf.mk ?_))
    · refine ⟨m - 1, by omega, _, ?_, m - 1, ?_, by omega, rfl, rfl⟩
      · ((try simp only [List.length_append,List.length_cons,List.length_nil,Nat.zero_add]);refine Wk.intro [0] (by decide) (by decide) (by intro o ho;simp at ho ⊢ <;> omega) ?_ ?_ <;> repeat' (first|(refine WkV.imm ?_;congr 1;omega)|exact WkVL.nil|refine WkVL.cons ?_ ?_|exact WkV.top|exact WkV.imm rfl|exact WkV.imm (by simp)|exact WkV.optr rfl|exact WkV.own rfl (by simp)|exact WkV.nil_own (.inl rfl)|exact WkV.map rfl|(refine WkV.free ?_;simp [Free,FreeL] <;> assumption)|(refine WkV.free (fun _ _=>FreeL_nth ?_ _);simp [Free,FreeL];done)|refine WkV.agg ?_|refine WkV.tup ?_|refine WkV.fn ?_ ?_|exact WkO.dead|exact WkO.raw|refine WkO.ghost ?_|exact WkO.mpE rfl trivial|refine WkO.box ?_ rfl|refine WkO.arr ?_|refine And.intro ?_ (And.intro (by first|exact fun h=>h|exact fun _=>rfl|exact nofun) ?_)|exact trivial|(intro i j hi hj)))
      · rcases Nat.lt_or_ge (m - 1) (lmN V) with h2 | h2
        · exfalso
          have h3 : m = lmN V := by omega
          have h4 := hb.2
          subst h3
          by_cases hz : V = 0
          · subst hz; rw [lmN_0] at hb; omega
          · have := lm_top hz; omega
        · exact h2
    · obtain rfl := form_end h0 hb
      rw [← hQ]
      exact ⟨rfl, rfl⟩
  · (refine TC_of_T Γ_ok Tryd.func105 rfl (by kernel_rfl) ?_;simp only [Tryd.ntmps105,Tryd.results105,List.length_cons,List.length_nil,Nat.reduceSub,Nat.reduceAdd,List.replicate,List.cons_append,List.nil_append])
    (((refine goR0 _ _ _ _ _ _ _ _ ?_ ?_ ?_ ?_ ?_ ?_ ?_ ?_) <;> (repeat intro hb) <;> first | exact True.intro | refine Lf.mk ?_))
    refine T_loopW (fun m st => ∃ n : Nat, lmN V ≤ n ∧ n ≤ L ∧ m = n ∧ st = ⟨enT1 L (some L) n, [natO L V]⟩)
      L ⟨_, ?_, L, hV, by omega, rfl, rfl⟩ ?_
    · ((try simp only [List.length_append,List.length_cons,List.length_nil,Nat.zero_add]);refine Wk.intro [0] (by decide) (by decide) (by intro o ho;simp at ho ⊢ <;> omega) ?_ ?_ <;> repeat' (first|exact WkVL.nil|refine WkVL.cons ?_ ?_|exact WkV.top|exact WkV.imm rfl|exact WkV.imm (by simp)|exact WkV.optr rfl|exact WkV.own rfl (by simp)|exact WkV.nil_own (.inl rfl)|exact WkV.map rfl|(refine WkV.free ?_;simp [Free,FreeL] <;> assumption)|(refine WkV.free (fun _ _=>FreeL_nth ?_ _);simp [Free,FreeL];done)|refine WkV.agg ?_|refine WkV.tup ?_|refine WkV.fn ?_ ?_|exact WkO.dead|exact WkO.raw|refine WkO.ghost ?_|exact WkO.mpE rfl trivial|refine WkO.box ?_ rfl|refine WkO.arr ?_|refine And.intro ?_ (And.intro (by first|exact fun h=>h|exact fun _=>rfl|exact nofun) ?_)|exact trivial|(intro i j hi hj)))
    rintro m st ⟨n, h0, h1, rfl, rfl⟩
    (simp only [go_sem,↓reduceIte,Nat.reduceAdd,Nat.reduceSub,Nat.reduceMul,Nat.reduceLT,Nat.reduceLeDiff,Nat.reduceEqDiff,Nat.reduceGT,Int.reduceToNat,Int.reduceBEq,Int.reduceBNe];try simp (disch := omega) only [wrapI,wrapU,half_sum,toNat_sub1,toNat_add1,Int.toNat_natCast])
    (((refine goR0 _ _ _ _ _ _ _ _ ?_ ?_ ?_ ?_ ?_ ?_ ?_ ?_) <;> (repeat intro hb) <;> first | exact True.intro | refine Lf.mk ?_))
    · refine ⟨m - 1, by omega, _, ?_, m - 1, ?_, by omega, rfl, rfl⟩
      · ((try simp only [List.length_append,List.length_cons,List.length_nil,Nat.zero_add]);refine Wk.intro [0] (by decide) (by decide) (by intro o ho;simp at ho ⊢ <;> omega) ?_ ?_ <;> repeat' (first|(refine WkV.imm ?_;congr 1;omega)|exact WkVL.nil|refine WkVL.cons ?_ ?_|exact WkV.top|exact WkV.imm rfl|exact WkV.imm (by simp)|exact WkV.optr rfl|exact WkV.own rfl (by simp)|exact WkV.nil_own (.inl rfl)|exact WkV.map rfl|(refine WkV.free ?_;simp [Free,FreeL] <;> assumption)|(refine WkV.free (fun _ _=>FreeL_nth ?_ _);simp [Free,FreeL];done)|refine WkV.agg ?_|refine WkV.tup ?_|refine WkV.fn ?_ ?_|exact WkO.dead|exact WkO.raw|refine WkO.ghost ?_|exact WkO.mpE rfl trivial|refine WkO.box ?_ rfl|refine WkO.arr ?_|refine And.intro ?_ (And.intro (by first|exact fun h=>h|exact fun _=>rfl|exact nofun) ?_)|exact trivial|(intro i j hi hj)))
      · rcases Nat.lt_or_ge (m - 1) (lmN V) with h2 | h2
        · exfalso
          have h3 : m = lmN V := by omega
          have h4 := hb.2
          subst h3
          by_cases hz : V = 0
          · subst hz; rw [lmN_0] at hb; omega
          · have := lm_top hz; omega
        · exact h2
    · obtain rfl := form_end h0 hb
      rw [← hQ]
      exact ⟨rfl, rfl⟩
theorem trim_tu (V L : Nat) (c : Option Nat) (hc : c = none ∨ c = some L) (hV : lmN V ≤ L) (hL : L ≤ 1000000) : Turns Tryd.prog 105 [.own 0 0 L c] [natO L V] (.own 0 0 (lmN V) c) [natO L V] :=
  ⟨trim_tc V L c hc hV hL,by simp [VF,VFL],fun a ha => by simp only [List.mem_singleton] at ha;subst ha;exact fun p q => lmE_pl V p q⟩
set_option maxRecDepth 100000 in
set_option maxHeartbeats 4000000 in
theorem rvalidN_tc (n : Nat) (h : lmN n ≤ 640) : Look Tryd.prog 104 [natV n] (.imm (.bool true)) := by
  refine Look.mk trivial ?_
  have h1 : ∀ k, lmN n = k + 1 → lm n k ≠ 0 := fun k hk => by
    have := lm_top (n := n) (fun e => by subst e; rw [lmN_0] at hk; omega)
    rwa [hk] at this
  (refine TC_of_T Γ_ok Tryd.func104 rfl (by kernel_rfl) ?_;simp only [Tryd.ntmps104,Tryd.results104,List.length_cons,List.length_nil,Nat.reduceSub,Nat.reduceAdd,List.replicate,List.cons_append,List.nil_append])
  (((refine goR0 _ _ _ _ _ _ _ _ ?_ ?_ ?_ ?_ ?_ ?_ ?_ ?_) <;> (repeat intro hb) <;> first | exact True.intro | refine Lf.mk ?_))
  generalize hN : lmN n = N at h h1
  cases N with
  | zero => rfl
  | succ k =>
    have h2 := h1 k rfl
    rw [Nat.add_sub_cancel]
    have e1 : (((k + 1 : Nat) : Int) == 0) = false := by rw [beq_eq_false_iff_ne]; omega
    have e2 : (((lm n k : Nat) : Int) != 0) = true := by rw [bne_iff_ne]; omega
    rw [decide_eq_true (by omega), e1, e2]; rfl
set_option maxRecDepth 100000 in
set_option maxHeartbeats 4000000 in
theorem both_tc (a b : Nat) (ha : lmN a ≤ 640) (hb' : lmN b ≤ 640) : Look Tryd.prog 88 [natV a,natV b] (.imm (.bool true)) := by
  refine Look.mk trivial ?_
  have c1 := rvalidN_tc a ha
  have c2 := rvalidN_tc b hb'
  (refine TC_of_T Γ_ok Tryd.func88 rfl (by kernel_rfl) ?_;simp only [Tryd.ntmps88,Tryd.results88,List.length_cons,List.length_nil,Nat.reduceSub,Nat.reduceAdd,List.replicate,List.cons_append,List.nil_append])
  (have dl1 := c1;have dl2 := c2;((refine goR0 _ _ _ _ _ _ _ _ ?_ ?_ ?_ ?_ ?_ ?_ ?_ ?_) <;> (repeat intro hb) <;> first | exact True.intro | refine Lf.mk ?_))
theorem band32 {a : Nat} (ha : a < 18446744073709551616) : bits .and .u64 (a : Int) 4294967295 = ((a % 4294967296 : Nat) : Int) := by
  have hx : a &&& 4294967295 ≤ a := Nat.and_le_left
  show IntKind.u64.wrap (((BitVec.ofInt 64 (a : Int) &&& BitVec.ofInt 64 ((4294967295 : Nat) : Int)).toNat : Nat) : Int) = _
  rw [BitVec.toNat_and, ofInt64 ha, ofInt64 (by omega), wrap64N, Nat.mod_eq_of_lt (by omega)]
  congr 1
  exact Nat.and_two_pow_sub_one_eq_mod a 32
set_option maxRecDepth 100000 in
set_option maxHeartbeats 4000000 in
theorem rmake_mk (n : Nat) (hn : n < 18446744073709551616) : Makes Tryd.prog 90 [.imm (.int .u64 (n : Int))] (.own 0 0 (lmN n) none) [natO (lmN n) n] := by
  refine natMk ?_
  have hl : lmN n ≤ 2 := lt_pow.1 (by rw [Bs_2]; exact hn)
  generalize hQ : (fun (v : AV) (σ' : List AObj) => ∃ k L c E',v = .own k 0 (lmN n) c ∧ nthO σ' k = .arr 92 1 L E' ∧ lmN n ≤ L ∧ ∀ i,i < lmN n → E' i 0 = lmE n i 0) = Q
  have w0 := band32 hn
  have w1 : IntKind.u32.wrap ((n % 4294967296 : Nat) : Int) = ((n % 4294967296 : Nat) : Int) := by rw [wr32,Nat.mod_mod]
  have w2 := wr32 (n / 4294967296)
  have w3 : (n : Int).fdiv 4294967296 = ((n / 4294967296 : Nat) : Int) := by rw [Int.fdiv_eq_ediv_of_nonneg _ (by omega)];omega
  have c1 := trim_tu n 2 (some 2) (.inr rfl) hl (by omega)
  have ew1 : ∀ i j,i < 2 → j < 1 → nth [AV.imm (.int .u32 ((n % 4294967296 : Nat) : Int)),AV.imm (.int .u32 ((n / 4294967296 % 4294967296 : Nat) : Int))] (i * 1 + j) = lmE n i j := fun i j hi hj=>by
    obtain rfl : j = 0 := by omega
    rcases i with _ | _ | i
    · simp [nth, lmE, lm, Bs]
    · simp [nth, lmE, lm, Bs]
    · omega
  (refine TC_of_T Γ_ok Tryd.func90 rfl (by kernel_rfl) ?_;simp only [Tryd.ntmps90,Tryd.results90,List.length_cons,List.length_nil,Nat.reduceSub,Nat.reduceAdd,List.replicate,List.cons_append,List.nil_append])
  repeat' (first
    | (with_reducible refine hK _ ?_; clear hK K)
    | ((refine callGoal_turns [0] trivial c1 (by decide) ?_ ?_ ⟨WkO.arr fun i j hi hj=>WkV.eqF (ew1 i j hi hj) (lmE_free _ _ _),fun _=>rfl,trivial⟩ ?_);(focus (simp [nthO,AObj.alive]));(focus (repeat' (first|exact WkVL.nil|refine WkVL.cons ?_ ?_|exact WkV.top|exact WkV.imm rfl|exact WkV.imm (by simp)|exact WkV.optr rfl|exact WkV.own rfl (by simp)|exact WkV.map rfl|(refine WkV.free ?_;simp [Free,FreeL] <;> assumption)|(refine WkV.free (fun _ _=>FreeL_nth ?_ _);simp [Free,FreeL];done)|refine WkV.agg ?_|refine WkV.tup ?_|refine WkV.fn ?_ ?_|exact WkO.dead|exact WkO.raw|refine WkO.ghost ?_|exact WkO.mpE rfl trivial|refine WkO.box ?_ rfl|refine WkO.arr ?_|refine And.intro ?_ (And.intro (by first|exact fun h=>h|exact fun _=>rfl|exact nofun) ?_)|exact trivial|(intro _ _ _ _))));try (simp only [go_sem,↓reduceIte,Nat.reduceAdd,Nat.reduceSub,Nat.reduceMul,Nat.reduceLT,Nat.reduceLeDiff,Nat.reduceEqDiff,Nat.reduceGT,Int.reduceToNat,Int.reduceBEq,Int.reduceBNe];try simp (disch := omega) only [wrapI,wrapU,half_sum,toNat_sub1,toNat_add1,Int.toNat_natCast]))
    | ((with_reducible apply DC_call);(focus exact rfl);(focus exact rfl);(focus exact rfl);intro N hN;(simp only [go_sem,w0,w1,w2,w3,↓reduceIte,Nat.reduceAdd,Nat.reduceSub,Nat.reduceMul,Nat.reduceLT,Nat.reduceLeDiff,Nat.reduceEqDiff,Nat.reduceGT,Int.reduceToNat,Int.reduceBEq,Int.reduceBNe];try simp (disch := omega) only [wrapI,wrapU,half_sum,toNat_sub1,toNat_add1,Int.toNat_natCast]))
    | ((with_reducible first|refine T_seq_region Γ_ok (fun K hK=>?_)|refine T_last_region Γ_ok (fun K hK=>?_)|refine TO_callN rfl (fun N hN=>?_)|refine DCT_fork Γ_ok (fun K2 hK2=>?_)|refine DCT_last Γ_ok ?_|refine DC_ev Γ_ok ?_|refine TO_ev Γ_ok ?_|refine retQ_r ?_|refine retQ_n ?_);(simp only [go_sem,w0,w1,w2,w3,↓reduceIte,Nat.reduceAdd,Nat.reduceSub,Nat.reduceMul,Nat.reduceLT,Nat.reduceLeDiff,Nat.reduceEqDiff,Nat.reduceGT,Int.reduceToNat,Int.reduceBEq,Int.reduceBNe];try simp (disch := omega) only [wrapI,wrapU,half_sum,toNat_sub1,toNat_add1,Int.toNat_natCast]))
    | (with_reducible refine hK2 _ ?_ ?_ <;> clear hK2 K2)
    | with_reducible refine gC_false ?_ | with_reducible refine gC_true ?_ | with_reducible refine dCall_true ?_
    | (with_reducible refine hN _ _ ?_; clear hN N)
    | (with_reducible refine hN _ _ (dInl rfl) ?_; clear hN N)
    | ((with_reducible refine hN _ _ (.inr ?_) ?_);(focus (simp only [go_sem,w0,w1,w2,w3,↓reduceIte,Nat.reduceAdd,Nat.reduceSub,Nat.reduceMul,Nat.reduceLT,Nat.reduceLeDiff,Nat.reduceEqDiff,Nat.reduceGT,Int.reduceToNat,Int.reduceBEq,Int.reduceBNe];try simp (disch := omega) only [wrapI,wrapU,half_sum,toNat_sub1,toNat_add1,Int.toNat_natCast]));all_goals (try clear hN N))
    | with_reducible refine T_seq ?_|with_reducible refine T_block ?_|with_reducible refine T_ret ?_|with_reducible refine T_exit ?_|with_reducible refine T_skip ?_|with_reducible refine T_label ?_
    | with_reducible refine thenQ_n ?_|with_reducible refine thenQ_e ?_|with_reducible refine thenQ_r ?_|with_reducible refine blockQ_n ?_|with_reducible refine blockQ_e ?_|with_reducible refine blockQ_r ?_
    | with_reducible refine blockQ_o (by decide) ?_
    | ((with_reducible refine T_cond _ rfl (fun hb=>?_) (fun hb=>?_)) <;> first|(cases hb;done)|(simp only [decide_eq_true_eq,decide_eq_false_iff_not,Bool.and_eq_true,Bool.or_eq_true,Bool.and_eq_false_imp,Bool.or_eq_false_iff,Bool.not_eq_true',Bool.not_eq_false',beq_iff_eq,bne_iff_ne,ne_eq,beq_eq_false_iff_ne,bne_eq_false_iff_eq,Int.not_lt,Int.not_le,ge_iff_le,gt_iff_lt] at hb)|skip)
    | (with_reducible refine And.intro (by first | exact trivial | omega | (intro hg;simp at hg ⊢ <;> omega) | (simp <;> omega)) ?_)
    | assumption | omega)
  rw [← hQ]
  exact ⟨_, 2, _, _, rfl, rfl, hl, fun _ _ => rfl⟩
set_option maxRecDepth 100000 in
set_option maxHeartbeats 4000000 in
theorem order_tc (a b : Nat) (ha : lmN a ≤ 640) (hb' : lmN b ≤ 640) : Look Tryd.prog 89 [natV a,natV b] (.imm (.int .i64 (cmpN a b))) := by
  refine Look.mk trivial ?_
  generalize hQ : cmpN a b = Q
  rcases Nat.lt_trichotomy (lmN a) (lmN b) with hl | hl | hl
  · have e1 : decide ((lmN a : Int) < (lmN b : Int)) = true := decide_eq_true (by omega)
    (refine TC_of_T Γ_ok Tryd.func89 rfl (by kernel_rfl) ?_;simp only [Tryd.ntmps89,Tryd.results89,List.length_cons,List.length_nil,Nat.reduceSub,Nat.reduceAdd,List.replicate,List.cons_append,List.nil_append])
    (have sx1 := e1;have sx2 : (0 : Nat) + 0 = 0 := rfl;repeat' (first|with_reducible refine T_seq_drawT (id := 8) Γ_ok drawsAny pl89_8 (by kernel_rfl) (fun K hK=>?_)|with_reducible refine T_last_drawT (id := 8) Γ_ok drawsAny pl89_8 (by kernel_rfl) (fun K hK=>?_)|with_reducible refine T_seq_drawT (id := 10) Γ_ok drawsAny pl89_10 (by kernel_rfl) (fun K hK=>?_)|with_reducible refine T_last_drawT (id := 10) Γ_ok drawsAny pl89_10 (by kernel_rfl) (fun K hK=>?_)|((have sx3 : (0 : Nat) + 0 = 0 := rfl;have sx4 : (0 : Nat) + 0 = 0 := rfl;have sx5 : (0 : Nat) + 0 = 0 := rfl;have sx6 : (0 : Nat) + 0 = 0 := rfl;have sx7 : (0 : Nat) + 0 = 0 := rfl;have sx8 : (0 : Nat) + 0 = 0 := rfl;have sx9 : (0 : Nat) + 0 = 0 := rfl;refine goR9 _ _ _ _ _ _ _ _ ?_ ?_ ?_ ?_ ?_ ?_ ?_ ?_) <;> (repeat intro hb) <;> first|exact True.intro|refine Lf.mk ?_)))
    rw [← hQ, cmpN_lt (lmN_lt hl)]
  · (refine TC_of_T Γ_ok Tryd.func89 rfl (by kernel_rfl) ?_;simp only [Tryd.ntmps89,Tryd.results89,List.length_cons,List.length_nil,Nat.reduceSub,Nat.reduceAdd,List.replicate,List.cons_append,List.nil_append])
    (repeat' (first|with_reducible refine T_seq_drawT (id := 8) Γ_ok drawsAny pl89_8 (by kernel_rfl) (fun K hK=>?_)|with_reducible refine T_last_drawT (id := 8) Γ_ok drawsAny pl89_8 (by kernel_rfl) (fun K hK=>?_)|with_reducible refine T_seq_drawT (id := 10) Γ_ok drawsAny pl89_10 (by kernel_rfl) (fun K hK=>?_)|with_reducible refine T_last_drawT (id := 10) Γ_ok drawsAny pl89_10 (by kernel_rfl) (fun K hK=>?_)|((refine goR0 _ _ _ _ _ _ _ _ ?_ ?_ ?_ ?_ ?_ ?_ ?_ ?_) <;> (repeat intro hb) <;> first|exact True.intro|refine Lf.mk ?_)))
    refine T_loopW (fun m st=>∃ n : Nat,n ≤ lmN a ∧ m = n ∧ (∀ j,n ≤ j → j < lmN a → lm a j = lm b j) ∧ st = ⟨[natV a,natV b,.top,.top,.imm (.int .i64 0),.imm (.int .i64 ((n : Int) - 1))] ++ List.replicate 35 .top,[]⟩)
      (lmN a) ⟨_, ?_, lmN a, by omega, rfl, fun j h1 h2 => by omega, rfl⟩ ?_
    · ((try simp only [List.length_append,List.length_cons,List.length_nil,Nat.zero_add]);refine Wk.intro [] (by decide) (by decide) (by intro o ho;simp at ho ⊢ <;> omega) ?_ ?_ <;> repeat' (first|exact WkVL.nil|refine WkVL.cons ?_ ?_|exact WkV.top|exact WkV.imm rfl|exact WkV.imm (by simp)|exact WkV.optr rfl|exact WkV.own rfl (by simp)|exact WkV.nil_own (.inl rfl)|exact WkV.map rfl|(refine WkV.free ?_;simp [Free,FreeL] <;> assumption)|(refine WkV.free (fun _ _=>FreeL_nth ?_ _);simp [Free,FreeL];done)|refine WkV.agg ?_|refine WkV.tup ?_|refine WkV.fn ?_ ?_|exact WkO.dead|exact WkO.raw|refine WkO.ghost ?_|exact WkO.mpE rfl trivial|refine WkO.box ?_ rfl|refine WkO.arr ?_|refine And.intro ?_ (And.intro (by first|exact fun h=>h|exact fun _=>rfl|exact nofun) ?_)|exact trivial|(intro i j hi hj)))
    rintro m st ⟨n, h0, rfl, h1, rfl⟩
    have hA : a < Bs ^ lmN a := lt_pow.2 (Nat.le_refl _)
    have hB : b < Bs ^ lmN a := lt_pow.2 (by omega)
    match m, h0, h1 with
    | 0, h0, h1 =>
      have hq : Q = 0 := by
        rw [← hQ, lm_ext hA hB fun i hi => h1 i (by omega) hi]; exact cmpN_eq b
      subst hq
      (simp only [go_sem,↓reduceIte,Nat.reduceAdd,Nat.reduceSub,Nat.reduceMul,Nat.reduceLT,Nat.reduceLeDiff,Nat.reduceEqDiff,Nat.reduceGT,Int.reduceToNat,Int.reduceBEq,Int.reduceBNe];try simp (disch := omega) only [wrapI,wrapU,half_sum,toNat_sub1,toNat_add1,Int.toNat_natCast])
      (repeat' (first|with_reducible refine T_seq_drawT (id := 8) Γ_ok drawsAny pl89_8 (by kernel_rfl) (fun K hK=>?_)|with_reducible refine T_last_drawT (id := 8) Γ_ok drawsAny pl89_8 (by kernel_rfl) (fun K hK=>?_)|with_reducible refine T_seq_drawT (id := 10) Γ_ok drawsAny pl89_10 (by kernel_rfl) (fun K hK=>?_)|with_reducible refine T_last_drawT (id := 10) Γ_ok drawsAny pl89_10 (by kernel_rfl) (fun K hK=>?_)|((refine goR0 _ _ _ _ _ _ _ _ ?_ ?_ ?_ ?_ ?_ ?_ ?_ ?_) <;> (repeat intro hb) <;> first|exact True.intro|refine Lf.mk ?_)))
    | k + 1, h0, h1 =>
      have e1 : (((k + 1 : Nat) : Int) - 1) = (k : Int) := by omega
      rw [e1]
      (simp only [go_sem,↓reduceIte,Nat.reduceAdd,Nat.reduceSub,Nat.reduceMul,Nat.reduceLT,Nat.reduceLeDiff,Nat.reduceEqDiff,Nat.reduceGT,Int.reduceToNat,Int.reduceBEq,Int.reduceBNe];try simp (disch := omega) only [wrapI,wrapU,half_sum,toNat_sub1,toNat_add1,Int.toNat_natCast])
      (repeat' (first|with_reducible refine T_seq_drawT (id := 8) Γ_ok drawsAny pl89_8 (by kernel_rfl) (fun K hK=>?_)|with_reducible refine T_last_drawT (id := 8) Γ_ok drawsAny pl89_8 (by kernel_rfl) (fun K hK=>?_)|with_reducible refine T_seq_drawT (id := 10) Γ_ok drawsAny pl89_10 (by kernel_rfl) (fun K hK=>?_)|with_reducible refine T_last_drawT (id := 10) Γ_ok drawsAny pl89_10 (by kernel_rfl) (fun K hK=>?_)|((refine goR0 _ _ _ _ _ _ _ _ ?_ ?_ ?_ ?_ ?_ ?_ ?_ ?_) <;> (repeat intro hb) <;> first|exact True.intro|refine Lf.mk ?_)))
      · rw [← hQ, cmpN_lt (lm_cmp hA hB h0 (fun j q1 q2 => h1 j (by omega) q2) (by omega))]
      · rw [← hQ, cmpN_gt (lm_cmp hB hA h0 (fun j q1 q2 => (h1 j (by omega) q2).symm) (by omega))]
      · refine ⟨k, by omega, _, ?_, k, by omega, rfl, fun j q1 q2 => ?_, rfl⟩
        · ((try simp only [List.length_append,List.length_cons,List.length_nil,Nat.zero_add]);refine Wk.intro [] (by decide) (by decide) (by intro o ho;simp at ho ⊢ <;> omega) ?_ ?_ <;> repeat' (first|(refine WkV.imm ?_;congr 1;omega)|exact WkVL.nil|refine WkVL.cons ?_ ?_|exact WkV.top|exact WkV.imm rfl|exact WkV.imm (by simp)|exact WkV.optr rfl|exact WkV.own rfl (by simp)|exact WkV.nil_own (.inl rfl)|exact WkV.map rfl|(refine WkV.free ?_;simp [Free,FreeL] <;> assumption)|(refine WkV.free (fun _ _=>FreeL_nth ?_ _);simp [Free,FreeL];done)|refine WkV.agg ?_|refine WkV.tup ?_|refine WkV.fn ?_ ?_|exact WkO.dead|exact WkO.raw|refine WkO.ghost ?_|exact WkO.mpE rfl trivial|refine WkO.box ?_ rfl|refine WkO.arr ?_|refine And.intro ?_ (And.intro (by first|exact fun h=>h|exact fun _=>rfl|exact nofun) ?_)|exact trivial|(intro i j hi hj)))
        · by_cases e : j = k
          · subst e; omega
          · exact h1 j (by omega) q2
  · have e1 : decide ((lmN a : Int) < (lmN b : Int)) = false := decide_eq_false (by omega)
    have e2 : decide ((lmN a : Int) > (lmN b : Int)) = true := decide_eq_true (by omega)
    (refine TC_of_T Γ_ok Tryd.func89 rfl (by kernel_rfl) ?_;simp only [Tryd.ntmps89,Tryd.results89,List.length_cons,List.length_nil,Nat.reduceSub,Nat.reduceAdd,List.replicate,List.cons_append,List.nil_append])
    (have sx1 := e1;have sx2 := e2;repeat' (first|with_reducible refine T_seq_drawT (id := 8) Γ_ok drawsAny pl89_8 (by kernel_rfl) (fun K hK=>?_)|with_reducible refine T_last_drawT (id := 8) Γ_ok drawsAny pl89_8 (by kernel_rfl) (fun K hK=>?_)|with_reducible refine T_seq_drawT (id := 10) Γ_ok drawsAny pl89_10 (by kernel_rfl) (fun K hK=>?_)|with_reducible refine T_last_drawT (id := 10) Γ_ok drawsAny pl89_10 (by kernel_rfl) (fun K hK=>?_)|((have sx3 : (0 : Nat) + 0 = 0 := rfl;have sx4 : (0 : Nat) + 0 = 0 := rfl;have sx5 : (0 : Nat) + 0 = 0 := rfl;have sx6 : (0 : Nat) + 0 = 0 := rfl;have sx7 : (0 : Nat) + 0 = 0 := rfl;have sx8 : (0 : Nat) + 0 = 0 := rfl;have sx9 : (0 : Nat) + 0 = 0 := rfl;refine goR9 _ _ _ _ _ _ _ _ ?_ ?_ ?_ ?_ ?_ ?_ ?_ ?_) <;> (repeat intro hb) <;> first|exact True.intro|refine Lf.mk ?_)))
    rw [← hQ, cmpN_gt (lmN_lt hl)]
set_option maxRecDepth 100000 in
set_option maxHeartbeats 4000000 in
theorem rncmp_tc (a b : Nat) (ha : lmN a ≤ 640) (hb' : lmN b ≤ 640) : Look Tryd.prog 68 [natV a,natV b] (.tup [.imm (.int .i64 (cmpN a b)),.imm (.int .i64 0)]) := by
  refine Look.mk (by simp [Pl, PlL]) ?_
  have c1 := both_tc a b ha hb'
  have c3 := order_tc a b ha hb'
  (refine TC_of_T Γ_ok Tryd.func68 rfl (by kernel_rfl) ?_;simp only [Tryd.ntmps68,Tryd.results68,List.length_cons,List.length_nil,Nat.reduceSub,Nat.reduceAdd,List.replicate,List.cons_append,List.nil_append])
  (have dl1 := c1;have cl1 := c3;((refine goR0 _ _ _ _ _ _ _ _ ?_ ?_ ?_ ?_ ?_ ?_ ?_ ?_) <;> (repeat intro hb) <;> first | exact True.intro | refine Lf.mk ?_))
end Go.Proofs.YtdglbjjenihdlaaDoor
