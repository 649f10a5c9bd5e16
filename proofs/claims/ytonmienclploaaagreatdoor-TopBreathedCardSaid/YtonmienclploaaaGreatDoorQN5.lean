/-
  natural: form, Valid, Make.
-/
import Derived.Test.YtonmienclploaaaGreatDoorQGo
import Derived.Test.YtonmienclploaaaGreatDoorQU1
import Derived.Test.YtonmienclploaaaGreatDoorQA6
import Derived.Test.YtonmienclploaaaGreatDoorQA5
set_option linter.unusedSimpArgs false
set_option linter.unusedVariables false
namespace Go.Proofs.YtonmienclploaaaGreatDoor.Q
open Go.Ab
def lmE (n i _j : Nat) : AV := .imm (.int .u32 ((lm n i : Nat) : Int))
@[go_sem] theorem lmE_us (n i j : Nat) : lmE n i j = .imm (.int .u32 ((lm n i : Nat) : Int)) := rfl
theorem lmE_pl (n i j : Nat) : Pl (lmE n i j) := trivial
@[simp] theorem lmE_free (n i j : Nat) : Free (lmE n i j) := trivial
@[go_sem, reducible] def natV (n : Nat) : AV := .view (lmN n) 1 (lmE n)
@[go_sem, reducible] def natO (L n : Nat) : AObj := .arr 179 1 L (lmE n)
@[go_sem] theorem two32 : (2 : Int) ^ (min 32 64) = 4294967296 := by decide
theorem wr32 (a : Nat) : IntKind.u32.wrap (a : Int) = ((a % 4294967296 : Nat) : Int) := by rw [IntKind.wrap_u32']; omega
@[go_sem,reducible] def enF (L n : Nat) : List AV := [.own 0 0 L (some L),.top,.imm (.slice none 0 0),.imm (.int .i64 n)] ++ List.replicate 22 .top
theorem form_end {V m : Nat} (h0 : lmN V ≤ m) (hb : 0 < (m : Int) → ¬ ((lm V (m - 1) : Nat) : Int) = 0) : m = lmN V := by
  rcases Nat.lt_or_ge (lmN V) m with h2 | h2
  · have := lm_hi (n := V) (i := m - 1) (by omega)
    omega
  · omega
set_option maxRecDepth 100000 in
set_option maxHeartbeats 4000000 in
theorem form_tc (V L : Nat) (hV : lmN V ≤ L) (hV2 : lmN V ≤ 640) (hL : L ≤ 1000000) : TC Tryz.prog 126 [.own 0 0 L (some L)] [natO L V] (fun v σ'=>v = .own 0 0 (lmN V) (some (lmN V)) ∧ σ' = [natO L V]) := by
  generalize hQ : (fun (v : AV) (σ' : List AObj) => v = .own 0 0 (lmN V) (some (lmN V)) ∧ σ' = [natO L V]) = Q
  (refine TC_of_T Γ_ok Tryz.func126 rfl (by kernel_rfl) ?_;simp only [Tryz.ntmps126,Tryz.results126,List.length_cons,List.length_nil,Nat.reduceSub,Nat.reduceAdd,List.replicate,List.cons_append,List.nil_append])
  (((refine goR0 _ _ _ _ _ _ _ _ ?_ ?_ ?_ ?_ ?_ ?_ ?_ ?_) <;> (repeat intro hb) <;> first | exact True.intro | refine Lf.mk ?_))
  refine T_loopW (fun m st => ∃ n : Nat, lmN V ≤ n ∧ n ≤ L ∧ m = n ∧ st = ⟨enF L n, [natO L V]⟩)
    L ⟨_, ?_, L, hV, by omega, rfl, rfl⟩ ?_
  · ((try simp only [List.length_append,List.length_cons,List.length_nil,Nat.zero_add]);refine Wk.intro [0] (by decide) (by decide) (by intro o ho;simp at ho ⊢ <;> omega) ?_ ?_ <;> repeat' (first|exact WkVL.nil|refine WkVL.cons ?_ ?_|exact WkV.top|exact WkV.imm rfl|exact WkV.imm (by simp)|exact WkV.optr rfl|exact WkV.own rfl (by simp)|exact WkV.nil_own (.inl rfl)|exact WkV.map rfl|(refine WkV.free ?_;simp [Free,FreeL] <;> assumption)|(refine WkV.free (fun _ _=>FreeL_nth ?_ _);simp [Free,FreeL];done)|refine WkV.agg ?_|refine WkV.tup ?_|refine WkV.fn ?_ ?_|exact WkO.dead|exact WkO.raw|refine WkO.ghost ?_|exact WkO.mpE rfl trivial|refine WkO.box ?_ rfl|refine WkO.arr ?_|refine And.intro ?_ (And.intro (by first|exact fun h=>h|exact fun _=>rfl|exact nofun) ?_)|exact trivial|(intro i j hi hj)))
  rintro m st ⟨n, h0, h1, rfl, rfl⟩
  (simp only [go_sem,↓reduceIte,Nat.reduceAdd,Nat.reduceSub,Nat.reduceMul,Nat.reduceLT,Nat.reduceLeDiff,Nat.reduceEqDiff,Nat.reduceGT,Int.reduceToNat,Int.reduceBEq,Int.reduceBNe];try simp (disch := omega) only [wrapI,wrapU,half_sum,toNat_sub1,toNat_add1,Int.toNat_natCast])
  (((refine goR0 _ _ _ _ _ _ _ _ ?_ ?_ ?_ ?_ ?_ ?_ ?_ ?_) <;> (repeat intro hb) <;> first | exact True.intro | refine Lf.mk ?_))
  · refine ⟨m - 1, by omega, _, ?_, m - 1, ?_, by omega, rfl, rfl⟩
    · ((try simp only [List.length_append,List.length_cons,List.length_nil,Nat.zero_add]);refine Wk.intro [0] (by decide) (by decide) (by intro o ho;simp at ho ⊢ <;> omega) ?_ ?_ <;> repeat' (first|(refine WkV.imm ?_;congr 1;omega)|exact WkVL.nil|refine WkVL.cons ?_ ?_|exact WkV.top|exact WkV.imm rfl|exact WkV.imm (by simp)|exact WkV.optr rfl|exact WkV.own rfl (by simp)|exact WkV.nil_own (.inl rfl)|exact WkV.map rfl|(refine WkV.free ?_;simp [Free,FreeL] <;> assumption)|(refine WkV.free (fun _ _=>FreeL_nth ?_ _);simp [Free,FreeL];done)|refine WkV.agg ?_|refine WkV.tup ?_|refine WkV.fn ?_ ?_|exact WkO.dead|exact WkO.raw|refine WkO.ghost ?_|exact WkO.mpE rfl trivial|refine WkO.box ?_ rfl|refine WkO.arr ?_|refine And.intro ?_ (And.intro (by first|exact fun h=>h|exact fun _=>rfl|exact nofun) ?_)|exact trivial|(intro i j hi hj)))
    · rcases Nat.lt_or_ge (m - 1) (lmN V) with h2 | h2
      · exfalso
        have h3 : m = lmN V := by omega
        have h4 := hb.2
        subst h3
        by_cases hz : V = 0
        · subst hz; rw [lmN_0] at hb; omega
        · have := lm_top hz; omega
      · exact h2
  · rename_i hc
    have := form_end h0 hc
    omega
  · rename_i hc
    obtain rfl := form_end h0 hc
    rw [← hQ]
    exact ⟨rfl, rfl⟩
theorem form_tu (V L : Nat) (hV : lmN V ≤ L) (hV2 : lmN V ≤ 640) (hL : L ≤ 1000000) : Turns Tryz.prog 126 [.own 0 0 L (some L)] [natO L V] (.own 0 0 (lmN V) (some (lmN V))) [natO L V] :=
  ⟨form_tc V L hV hV2 hL,by simp [VF,VFL],fun a ha => by simp only [List.mem_singleton] at ha;subst ha;exact fun p q => lmE_pl V p q⟩
set_option maxRecDepth 100000 in
set_option maxHeartbeats 4000000 in
theorem valid_tc (n : Nat) (h : lmN n ≤ 640) : Look Tryz.prog 109 [natV n] (.imm (.bool true)) := by
  refine Look.mk trivial ?_
  have h1 : ∀ k, lmN n = k + 1 → lm n k ≠ 0 := fun k hk => by
    have := lm_top (n := n) (fun e => by subst e; rw [lmN_0] at hk; omega)
    rwa [hk] at this
  generalize hN : lmN n = N at h h1
  cases N with
  | zero =>
    (refine TC_of_T Γ_ok Tryz.func109 rfl (by kernel_rfl) ?_;simp only [Tryz.ntmps109,Tryz.results109,List.length_cons,List.length_nil,Nat.reduceSub,Nat.reduceAdd,List.replicate,List.cons_append,List.nil_append])
    (((refine goR0 _ _ _ _ _ _ _ _ ?_ ?_ ?_ ?_ ?_ ?_ ?_ ?_) <;> (repeat intro hb) <;> first | exact True.intro | refine Lf.mk ?_))
    rw [hN]; rfl
  | succ k =>
    have h2 := h1 k rfl
    (refine TC_of_T Γ_ok Tryz.func109 rfl (by kernel_rfl) ?_;simp only [Tryz.ntmps109,Tryz.results109,List.length_cons,List.length_nil,Nat.reduceSub,Nat.reduceAdd,List.replicate,List.cons_append,List.nil_append])
    (((refine goR0 _ _ _ _ _ _ _ _ ?_ ?_ ?_ ?_ ?_ ?_ ?_ ?_) <;> (repeat intro hb) <;> first | exact True.intro | refine Lf.mk ?_))
    rw [hN, Nat.add_sub_cancel]
    have e1 : (((k + 1 : Nat) : Int) == 0) = false := by rw [beq_eq_false_iff_ne]; omega
    have e2 : (((lm n k : Nat) : Int) != 0) = true := by rw [bne_iff_ne]; omega
    rw [decide_eq_true (by omega), e1, e2]; rfl
theorem natMk {f : FuncId} {args : List AV} {n : Nat} (h : TC Tryz.prog f args [] (fun v σ'=>∃ k L c E',v = .own k 0 (lmN n) c ∧ nthO σ' k = .arr 179 1 L E' ∧ lmN n ≤ L ∧ ∀ i,i < lmN n → E' i 0 = lmE n i 0)) :
    Makes Tryz.prog f args (.own 0 0 (lmN n) none) [natO (lmN n) n] := by
  refine Makes.gen [] trivial (fun a ha => by simp only [List.mem_singleton] at ha;subst ha;exact fun p q => lmE_pl n p q) (h.mono fun v σ' ⟨k,L,c,E',h1,h2,h3,h4⟩ => ?_)
  have hlt : k < σ'.length := (List.getElem?_eq_some_iff.1 (nthO_eq h2 rfl)).1
  refine ⟨[k], by simp, by simp [hlt], ?_, ?_⟩
  · rw [h1]; exact WkV.own rfl (by simp)
  · rw [List.map_nil, List.append_nil]
    refine ⟨?_, fun _ => by rw [h2]; rfl, trivial⟩
    rw [h2]
    refine WkO.arrLe h3 fun i j hi hj => ?_
    obtain rfl : j = 0 := by omega
    rw [h4 i hi]; exact WkV.free (lmE_free n i 0)
theorem natMkE {f : FuncId} {args : List AV} {n : Nat} (h : TC Tryz.prog f args [] (fun v σ'=>∃ k L c E',v = .tup [.own k 0 (lmN n) c,.imm (.int .i64 0)] ∧ nthO σ' k = .arr 179 1 L E' ∧ lmN n ≤ L ∧ ∀ i,i < lmN n → E' i 0 = lmE n i 0)) :
    Makes Tryz.prog f args (.tup [.own 0 0 (lmN n) none, .imm (.int .i64 0)]) [natO (lmN n) n] := by
  refine Makes.gen [] (by simp [VF,VFL]) (fun a ha => by simp only [List.mem_singleton] at ha;subst ha;exact fun p q => lmE_pl n p q) (h.mono fun v σ' ⟨k,L,c,E',h1,h2,h3,h4⟩ => ?_)
  have hlt : k < σ'.length := (List.getElem?_eq_some_iff.1 (nthO_eq h2 rfl)).1
  refine ⟨[k], by simp, by simp [hlt], ?_, ?_⟩
  · rw [h1]; exact WkV.tup (WkVL.cons (WkV.own rfl (by simp)) (WkVL.cons (WkV.imm rfl) WkVL.nil))
  · rw [List.map_nil, List.append_nil]
    refine ⟨?_, fun _ => by rw [h2]; rfl, trivial⟩
    rw [h2]
    refine WkO.arrLe h3 fun i j hi hj => ?_
    obtain rfl : j = 0 := by omega
    rw [h4 i hi]; exact WkV.free (lmE_free n i 0)
set_option maxRecDepth 100000 in
set_option maxHeartbeats 4000000 in
theorem make_mk (n : Nat) (hn : n < 18446744073709551616) : Makes Tryz.prog 107 [.imm (.int .u64 (n : Int))] (.own 0 0 (lmN n) none) [natO (lmN n) n] := by
  refine natMk ?_
  have hl : lmN n ≤ 2 := lt_pow.1 (by rw [Bs_2]; exact hn)
  generalize hQ : (fun (v : AV) (σ' : List AObj) => ∃ k L c E',v = .own k 0 (lmN n) c ∧ nthO σ' k = .arr 179 1 L E' ∧ lmN n ≤ L ∧ ∀ i,i < lmN n → E' i 0 = lmE n i 0) = Q
  have w1 := wr32 n
  have w2 := wr32 (n / 4294967296)
  have w3 : (n : Int).fdiv 4294967296 = ((n / 4294967296 : Nat) : Int) := by rw [Int.fdiv_eq_ediv_of_nonneg _ (by omega)];omega
  have c1 := form_tu n 2 hl (by omega) (by omega)
  have ew1 : ∀ i j,i < 2 → j < 1 → nth [AV.imm (.int .u32 ((n % 4294967296 : Nat) : Int)),AV.imm (.int .u32 ((n / 4294967296 % 4294967296 : Nat) : Int))] (i * 1 + j) = lmE n i j := fun i j hi hj=>by
    obtain rfl : j = 0 := by omega
    rcases i with _ | _ | i
    · simp [nth, lmE, lm, Bs]
    · simp [nth, lmE, lm, Bs]
    · omega
  (refine TC_of_T Γ_ok Tryz.func107 rfl (by kernel_rfl) ?_;simp only [Tryz.ntmps107,Tryz.results107,List.length_cons,List.length_nil,Nat.reduceSub,Nat.reduceAdd,List.replicate,List.cons_append,List.nil_append])
  repeat' (first
    | (with_reducible refine hK _ ?_; clear hK K)
    | ((refine callGoal_turns [0] trivial c1 (by decide) ?_ ?_ ⟨WkO.arr fun i j hi hj=>WkV.eqF (ew1 i j hi hj) (lmE_free _ _ _),fun _=>rfl,trivial⟩ ?_);(focus (simp [nthO,AObj.alive]));(focus (repeat' (first|exact WkVL.nil|refine WkVL.cons ?_ ?_|exact WkV.top|exact WkV.imm rfl|exact WkV.imm (by simp)|exact WkV.optr rfl|exact WkV.own rfl (by simp)|exact WkV.map rfl|(refine WkV.free ?_;simp [Free,FreeL] <;> assumption)|(refine WkV.free (fun _ _=>FreeL_nth ?_ _);simp [Free,FreeL];done)|refine WkV.agg ?_|refine WkV.tup ?_|refine WkV.fn ?_ ?_|exact WkO.dead|exact WkO.raw|refine WkO.ghost ?_|exact WkO.mpE rfl trivial|refine WkO.box ?_ rfl|refine WkO.arr ?_|refine And.intro ?_ (And.intro (by first|exact fun h=>h|exact fun _=>rfl|exact nofun) ?_)|exact trivial|(intro _ _ _ _))));try (simp only [go_sem,↓reduceIte,Nat.reduceAdd,Nat.reduceSub,Nat.reduceMul,Nat.reduceLT,Nat.reduceLeDiff,Nat.reduceEqDiff,Nat.reduceGT,Int.reduceToNat,Int.reduceBEq,Int.reduceBNe];try simp (disch := omega) only [wrapI,wrapU,half_sum,toNat_sub1,toNat_add1,Int.toNat_natCast]))
    | ((with_reducible apply DC_call);(focus exact rfl);(focus exact rfl);(focus exact rfl);intro N hN;(simp only [go_sem,w1,w2,w3,↓reduceIte,Nat.reduceAdd,Nat.reduceSub,Nat.reduceMul,Nat.reduceLT,Nat.reduceLeDiff,Nat.reduceEqDiff,Nat.reduceGT,Int.reduceToNat,Int.reduceBEq,Int.reduceBNe];try simp (disch := omega) only [wrapI,wrapU,half_sum,toNat_sub1,toNat_add1,Int.toNat_natCast]))
    | ((with_reducible first|refine T_seq_region Γ_ok (fun K hK=>?_)|refine T_last_region Γ_ok (fun K hK=>?_)|refine TO_callN rfl (fun N hN=>?_)|refine DCT_fork Γ_ok (fun K2 hK2=>?_)|refine DCT_last Γ_ok ?_|refine DC_ev Γ_ok ?_|refine TO_ev Γ_ok ?_|refine retQ_r ?_|refine retQ_n ?_);(simp only [go_sem,w1,w2,w3,↓reduceIte,Nat.reduceAdd,Nat.reduceSub,Nat.reduceMul,Nat.reduceLT,Nat.reduceLeDiff,Nat.reduceEqDiff,Nat.reduceGT,Int.reduceToNat,Int.reduceBEq,Int.reduceBNe];try simp (disch := omega) only [wrapI,wrapU,half_sum,toNat_sub1,toNat_add1,Int.toNat_natCast]))
    | (with_reducible refine hK2 _ ?_ ?_ <;> clear hK2 K2)
    | with_reducible refine gC_false ?_ | with_reducible refine gC_true ?_ | with_reducible refine dCall_true ?_
    | (with_reducible refine hN _ _ ?_; clear hN N)
    | (with_reducible refine hN _ _ (dInl rfl) ?_; clear hN N)
    | ((with_reducible refine hN _ _ (.inr ?_) ?_);(focus (simp only [go_sem,w1,w2,w3,↓reduceIte,Nat.reduceAdd,Nat.reduceSub,Nat.reduceMul,Nat.reduceLT,Nat.reduceLeDiff,Nat.reduceEqDiff,Nat.reduceGT,Int.reduceToNat,Int.reduceBEq,Int.reduceBNe];try simp (disch := omega) only [wrapI,wrapU,half_sum,toNat_sub1,toNat_add1,Int.toNat_natCast]));all_goals (try clear hN N))
    | with_reducible refine T_seq ?_|with_reducible refine T_block ?_|with_reducible refine T_ret ?_|with_reducible refine T_exit ?_|with_reducible refine T_skip ?_|with_reducible refine T_label ?_
    | with_reducible refine thenQ_n ?_|with_reducible refine thenQ_e ?_|with_reducible refine thenQ_r ?_|with_reducible refine blockQ_n ?_|with_reducible refine blockQ_e ?_|with_reducible refine blockQ_r ?_
    | with_reducible refine blockQ_o (by decide) ?_
    | ((with_reducible refine T_cond _ rfl (fun hb=>?_) (fun hb=>?_)) <;> first|(cases hb;done)|(simp only [decide_eq_true_eq,decide_eq_false_iff_not,Bool.and_eq_true,Bool.or_eq_true,Bool.and_eq_false_imp,Bool.or_eq_false_iff,Bool.not_eq_true',Bool.not_eq_false',beq_iff_eq,bne_iff_ne,ne_eq,beq_eq_false_iff_ne,bne_eq_false_iff_eq,Int.not_lt,Int.not_le,ge_iff_le,gt_iff_lt] at hb)|skip)
    | (with_reducible refine And.intro (by first | exact trivial | omega | (intro hg;simp at hg ⊢ <;> omega) | (simp <;> omega)) ?_)
    | assumption | omega)
  rw [← hQ]
  exact ⟨_, 2, _, _, rfl, rfl, hl, fun _ _ => rfl⟩
end Go.Proofs.YtonmienclploaaaGreatDoor.Q
