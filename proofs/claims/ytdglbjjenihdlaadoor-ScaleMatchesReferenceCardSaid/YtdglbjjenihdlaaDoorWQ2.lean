/-
  The reference's natural numbers: Product, Bounded, Mul, Pow.
-/
import Derived.Test.YtdglbjjenihdlaaDoorWGo
import Derived.Test.YtdglbjjenihdlaaDoorWQ1
set_option linter.unusedSimpArgs false
set_option linter.unusedVariables false
namespace Go.Proofs.YtdglbjjenihdlaaDoor
open Go.Ab
@[go_sem,reducible] def enP1 (a b L i : Nat) : List AV := [natV a,natV b,.top,.top,.imm (.slice none 0 0),.own 0 0 L (some L),.imm (.int .i64 i)] ++ List.replicate 62 .top
@[go_sem,reducible] def enP2 (a b L i c j : Nat) : List AV := [natV a,natV b,.top,.top,.imm (.slice none 0 0),.own 0 0 L (some L),.imm (.int .i64 i),.imm (.int .u64 c),.imm (.int .i64 j)] ++ List.replicate 60 .top
set_option maxRecDepth 100000 in
set_option maxHeartbeats 4000000 in
theorem rproduct_mk (a b : Nat) (ha : lmN a ≤ 640) (hb' : lmN b ≤ 640) : Makes Tryd.prog 106 [natV a,natV b] (.own 0 0 (lmN (a * b)) none) [natO (lmN (a * b)) (a * b)] := by
  refine natMk ?_
  generalize hQ : (fun (v : AV) (σ' : List AObj) => ∃ k L c E',v = .own k 0 (lmN (a * b)) c ∧ nthO σ' k = .arr 92 1 L E' ∧ lmN (a * b) ≤ L ∧ ∀ i,i < lmN (a * b) → E' i 0 = lmE (a * b) i 0) = Q
  obtain ⟨L, hL⟩ : ∃ L, L = lmN a + lmN b := ⟨_, rfl⟩
  have eL : (lmN a : Int) + (lmN b : Int) = (L : Int) := by omega
  have hml := mul_lmN a b
  (refine TC_of_T Γ_ok Tryd.func106 rfl (by kernel_rfl) ?_;simp only [Tryd.ntmps106,Tryd.results106,List.length_cons,List.length_nil,Nat.reduceSub,Nat.reduceAdd,List.replicate,List.cons_append,List.nil_append])
  (have sx1 := eL;have sx2 : (0 : Nat) + 0 = 0 := rfl;repeat' (first|with_reducible refine T_seq_drawT (id := 9) Γ_ok drawsAny pl106_9 (by kernel_rfl) (fun K hK=>?_)|with_reducible refine T_last_drawT (id := 9) Γ_ok drawsAny pl106_9 (by kernel_rfl) (fun K hK=>?_)|((have sx3 : (0 : Nat) + 0 = 0 := rfl;have sx4 : (0 : Nat) + 0 = 0 := rfl;have sx5 : (0 : Nat) + 0 = 0 := rfl;have sx6 : (0 : Nat) + 0 = 0 := rfl;have sx7 : (0 : Nat) + 0 = 0 := rfl;have sx8 : (0 : Nat) + 0 = 0 := rfl;have sx9 : (0 : Nat) + 0 = 0 := rfl;refine goR9 _ _ _ _ _ _ _ _ ?_ ?_ ?_ ?_ ?_ ?_ ?_ ?_) <;> (repeat intro hb) <;> first|exact True.intro|refine Lf.mk ?_)))
  refine T_loopW (fun m st => ∃ i : Nat, i ≤ lmN a ∧ m + i = lmN a ∧ st = ⟨enP1 a b L i, [natO L (a % Bs ^ i * b)]⟩)
    (lmN a) ⟨_, ?_, 0, by omega, rfl, rfl⟩ ?_
  · ((try simp only [List.length_append,List.length_cons,List.length_nil,Nat.zero_add]);refine Wk.intro [0] (by decide) (by decide) (by intro o ho;simp at ho ⊢ <;> omega) ?_ ?_ <;> repeat' (first|(exact WkV.eqF (by obtain rfl : j = 0 := (by omega);rw [Nat.pow_zero,Nat.mod_one,Nat.zero_mul];simp [nth,lmE,lm]) (lmE_free _ _ _))|exact WkVL.nil|refine WkVL.cons ?_ ?_|exact WkV.top|exact WkV.imm rfl|exact WkV.imm (by simp)|exact WkV.optr rfl|exact WkV.own rfl (by simp)|exact WkV.nil_own (.inl rfl)|exact WkV.map rfl|(refine WkV.free ?_;simp [Free,FreeL] <;> assumption)|(refine WkV.free (fun _ _=>FreeL_nth ?_ _);simp [Free,FreeL];done)|refine WkV.agg ?_|refine WkV.tup ?_|refine WkV.fn ?_ ?_|exact WkO.dead|exact WkO.raw|refine WkO.ghost ?_|exact WkO.mpE rfl trivial|refine WkO.box ?_ rfl|refine WkO.arr ?_|refine And.intro ?_ (And.intro (by first|exact fun h=>h|exact fun _=>rfl|exact nofun) ?_)|exact trivial|(intro i j hi hj)))
  rintro m st ⟨i, h0, h1, rfl⟩
  by_cases hi : i < lmN a
  · obtain ⟨x, hx⟩ : ∃ x, x = lm a i := ⟨_, rfl⟩
    have hx2 : x < 4294967296 := by rw [hx]; exact lm_lt a i
    (simp only [go_sem,↓reduceIte,Nat.reduceAdd,Nat.reduceSub,Nat.reduceMul,Nat.reduceLT,Nat.reduceLeDiff,Nat.reduceEqDiff,Nat.reduceGT,Int.reduceToNat,Int.reduceBEq,Int.reduceBNe];try simp (disch := omega) only [wrapI,wrapU,half_sum,toNat_sub1,toNat_add1,Int.toNat_natCast])
    (repeat' (first|with_reducible refine T_seq_drawT (id := 9) Γ_ok drawsAny pl106_9 (by kernel_rfl) (fun K hK=>?_)|with_reducible refine T_last_drawT (id := 9) Γ_ok drawsAny pl106_9 (by kernel_rfl) (fun K hK=>?_)|((refine goR0 _ _ _ _ _ _ _ _ ?_ ?_ ?_ ?_ ?_ ?_ ?_ ?_) <;> (repeat intro hb) <;> first|exact True.intro|refine Lf.mk ?_)))
    refine T_loopW (fun m st => ∃ j : Nat,j ≤ lmN b ∧ m + j = lmN b ∧ st = ⟨enP2 a b L i (mC (a % Bs ^ i * b) x b i j) j,[.arr 92 1 L (peE a b i j)]⟩)
      (lmN b) ⟨_, ?_, 0, by omega, rfl, rfl⟩ ?_
    · rw [pC_0]
      ((try simp only [List.length_append,List.length_cons,List.length_nil,Nat.zero_add]);refine Wk.intro [0] (by decide) (by decide) (by intro o ho;simp at ho ⊢ <;> omega) ?_ ?_ <;> repeat' (first|(exact WkV.eqF (by unfold peE;rw [pE_0];rfl) (peE_free _ _ _ _ _ _))|exact WkVL.nil|refine WkVL.cons ?_ ?_|exact WkV.top|exact WkV.imm rfl|exact WkV.imm (by simp)|exact WkV.optr rfl|exact WkV.own rfl (by simp)|exact WkV.nil_own (.inl rfl)|exact WkV.map rfl|(refine WkV.free ?_;simp [Free,FreeL] <;> assumption)|(refine WkV.free (fun _ _=>FreeL_nth ?_ _);simp [Free,FreeL];done)|refine WkV.agg ?_|refine WkV.tup ?_|refine WkV.fn ?_ ?_|exact WkO.dead|exact WkO.raw|refine WkO.ghost ?_|exact WkO.mpE rfl trivial|refine WkO.box ?_ rfl|refine WkO.arr ?_|refine And.intro ?_ (And.intro (by first|exact fun h=>h|exact fun _=>rfl|exact nofun) ?_)|exact trivial|(intro i j hi hj)))
    rintro m2 st ⟨j, k0, k1, rfl⟩
    obtain ⟨c, hc⟩ : ∃ c, c = mC (a % Bs ^ i * b) x b i j := ⟨_, rfl⟩
    have hcx : c ≤ x := by rw [hc]; exact pC_le _ _ _ _ _
    rw [← hc]
    by_cases hj : j < lmN b
    · obtain ⟨y, hy⟩ : ∃ y, y = lm b j := ⟨_, rfl⟩
      have hy2 : y < 4294967296 := by rw [hy]; exact lm_lt b j
      obtain ⟨s, hs⟩ : ∃ s, s = lm (a % Bs ^ i * b) (i + j) := ⟨_, rfl⟩
      have hs2 : s < 4294967296 := by rw [hs]; exact lm_lt _ _
      have hsm := mul_small (x := x) (y := y) (s := s) (c := c) hx2 hy2 hs2 hcx
      obtain ⟨M, hM⟩ : ∃ M, M = x * y := ⟨_, rfl⟩
      rw [← hM] at hsm
      have e0 : lm a i = x := hx.symm
      have e1 : (x : Int) * (y : Int) = (M : Int) := by rw [hM]; exact (Int.natCast_mul x y).symm
      have e2 : ((i : Int) + (j : Int)).toNat = i + j := by omega
      have e3 : lm b j = y := hy.symm
      have e4 : pE a b i j (i + j) = s := by rw [pE_at, hs]
      have e5 : bits .and .u64 ((M : Int) + (s : Int) + (c : Int)) 4294967295 = (((M + s + c) % 4294967296 : Nat) : Int) := band32 hsm
      have e6 : ((M : Int) + (s : Int) + (c : Int)).fdiv 4294967296 = (((M + s + c) / 4294967296 : Nat) : Int) := by rw [Int.fdiv_eq_ediv_of_nonneg _ (by omega)];omega
      have e7 : IntKind.u32.wrap (((M + s + c) % 4294967296 : Nat) : Int) = (((M + s + c) % 4294967296 : Nat) : Int) := by rw [wr32,Nat.mod_mod]
      (simp only [go_sem,↓reduceIte,Nat.reduceAdd,Nat.reduceSub,Nat.reduceMul,Nat.reduceLT,Nat.reduceLeDiff,Nat.reduceEqDiff,Nat.reduceGT,Int.reduceToNat,Int.reduceBEq,Int.reduceBNe];try simp (disch := omega) only [wrapI,wrapU,half_sum,toNat_sub1,toNat_add1,Int.toNat_natCast])
      (have sx1 := e0;have sx2 := e1;have sx3 := e2;have sx4 := e3;have sx5 := e4;have sx6 := e5;have sx7 := e6;have sx8 := e7;have sx9 : (0 : Nat) + 0 = 0 := rfl;repeat' (first|with_reducible refine T_seq_drawT (id := 9) Γ_ok drawsAny pl106_9 (by kernel_rfl) (fun K hK=>?_)|with_reducible refine T_last_drawT (id := 9) Γ_ok drawsAny pl106_9 (by kernel_rfl) (fun K hK=>?_)|((refine goR9 _ _ _ _ _ _ _ _ ?_ ?_ ?_ ?_ ?_ ?_ ?_ ?_) <;> (repeat intro hb) <;> first|exact True.intro|refine Lf.mk ?_)))
      have hM' : M = lm a i * lm b j := by rw [hM, hx, hy]
      have hc' : c = mC (a % Bs ^ i * b) (lm a i) b i j := by rw [hc, hx]
      have hcs : mC (a % Bs ^ i * b) x b i (j + 1) = (M + s + c) / 4294967296 := by rw [pC_s,← hs,← hc,← hy,← hM];rfl
      refine ⟨lmN b - (j + 1),by omega,⟨enP2 a b L i (mC (a % Bs ^ i * b) x b i (j + 1)) (j + 1),[.arr 92 1 L (peE a b i (j + 1))]⟩,?_,j + 1,by omega,by omega,rfl⟩
      rw [hcs]
      ((try simp only [List.length_append,List.length_cons,List.length_nil,Nat.zero_add]);refine Wk.intro [0] (by decide) (by decide) (by intro o ho;simp at ho ⊢ <;> omega) ?_ ?_ <;> repeat' (first|(exact WkV.eqF (pe_step hM' hs hc' hj) (peE_free _ _ _ _ _ _))|(refine WkV.imm ?_;congr 1;omega)|exact WkVL.nil|refine WkVL.cons ?_ ?_|exact WkV.top|exact WkV.imm rfl|exact WkV.imm (by simp)|exact WkV.optr rfl|exact WkV.own rfl (by simp)|exact WkV.nil_own (.inl rfl)|exact WkV.map rfl|(refine WkV.free ?_;simp [Free,FreeL] <;> assumption)|(refine WkV.free (fun _ _=>FreeL_nth ?_ _);simp [Free,FreeL];done)|refine WkV.agg ?_|refine WkV.tup ?_|refine WkV.fn ?_ ?_|exact WkO.dead|exact WkO.raw|refine WkO.ghost ?_|exact WkO.mpE rfl trivial|refine WkO.box ?_ rfl|refine WkO.arr ?_|refine And.intro ?_ (And.intro (by first|exact fun h=>h|exact fun _=>rfl|exact nofun) ?_)|exact trivial|(intro i j hi hj)))
    · obtain rfl : j = lmN b := by omega
      have e2 : ((i : Int) + (lmN b : Int)).toNat = i + lmN b := by omega
      have e5 : IntKind.u32.wrap (c : Int) = (c : Int) := by rw [wr32]; congr 1; exact Nat.mod_eq_of_lt (by omega)
      have hc' : c = mC (a % Bs ^ i * b) (lm a i) b i (lmN b) := by rw [hc, hx]
      (simp only [go_sem,↓reduceIte,Nat.reduceAdd,Nat.reduceSub,Nat.reduceMul,Nat.reduceLT,Nat.reduceLeDiff,Nat.reduceEqDiff,Nat.reduceGT,Int.reduceToNat,Int.reduceBEq,Int.reduceBNe];try simp (disch := omega) only [wrapI,wrapU,half_sum,toNat_sub1,toNat_add1,Int.toNat_natCast])
      (have sx1 := e2;have sx2 := e5;repeat' (first|with_reducible refine T_seq_drawT (id := 9) Γ_ok drawsAny pl106_9 (by kernel_rfl) (fun K hK=>?_)|with_reducible refine T_last_drawT (id := 9) Γ_ok drawsAny pl106_9 (by kernel_rfl) (fun K hK=>?_)|((have sx3 : (0 : Nat) + 0 = 0 := rfl;have sx4 : (0 : Nat) + 0 = 0 := rfl;have sx5 : (0 : Nat) + 0 = 0 := rfl;have sx6 : (0 : Nat) + 0 = 0 := rfl;have sx7 : (0 : Nat) + 0 = 0 := rfl;have sx8 : (0 : Nat) + 0 = 0 := rfl;have sx9 : (0 : Nat) + 0 = 0 := rfl;refine goR9 _ _ _ _ _ _ _ _ ?_ ?_ ?_ ?_ ?_ ?_ ?_ ?_) <;> (repeat intro hb) <;> first|exact True.intro|refine Lf.mk ?_)))
      refine ⟨lmN a - (i + 1), by omega, _, ?_, i + 1, by omega, by omega, rfl⟩
      ((try simp only [List.length_append,List.length_cons,List.length_nil,Nat.zero_add]);refine Wk.intro [0] (by decide) (by decide) (by intro o ho;simp at ho ⊢ <;> omega) ?_ ?_ <;> repeat' (first|(exact WkV.eqF (pe_end hc' hj) (lmE_free _ _ _))|(refine WkV.imm ?_;congr 1;omega)|exact WkVL.nil|refine WkVL.cons ?_ ?_|exact WkV.top|exact WkV.imm rfl|exact WkV.imm (by simp)|exact WkV.optr rfl|exact WkV.own rfl (by simp)|exact WkV.nil_own (.inl rfl)|exact WkV.map rfl|(refine WkV.free ?_;simp [Free,FreeL] <;> assumption)|(refine WkV.free (fun _ _=>FreeL_nth ?_ _);simp [Free,FreeL];done)|refine WkV.agg ?_|refine WkV.tup ?_|refine WkV.fn ?_ ?_|exact WkO.dead|exact WkO.raw|refine WkO.ghost ?_|exact WkO.mpE rfl trivial|refine WkO.box ?_ rfl|refine WkO.arr ?_|refine And.intro ?_ (And.intro (by first|exact fun h=>h|exact fun _=>rfl|exact nofun) ?_)|exact trivial|(intro i j hi hj)))
  · obtain rfl : i = lmN a := by omega
    have c1 := trim_tu (a * b) L (some L) (.inr rfl) (by omega) (by omega)
    rw [Nat.mod_eq_of_lt (lt_pow.2 (Nat.le_refl (lmN a)))]
    (simp only [go_sem,↓reduceIte,Nat.reduceAdd,Nat.reduceSub,Nat.reduceMul,Nat.reduceLT,Nat.reduceLeDiff,Nat.reduceEqDiff,Nat.reduceGT,Int.reduceToNat,Int.reduceBEq,Int.reduceBNe];try simp (disch := omega) only [wrapI,wrapU,half_sum,toNat_sub1,toNat_add1,Int.toNat_natCast])
    (have ct1 := TurnsAt.mk [0] (c1);repeat' (first|with_reducible refine T_seq_drawT (id := 9) Γ_ok drawsAny pl106_9 (by kernel_rfl) (fun K hK=>?_)|with_reducible refine T_last_drawT (id := 9) Γ_ok drawsAny pl106_9 (by kernel_rfl) (fun K hK=>?_)|((refine goR0 _ _ _ _ _ _ _ _ ?_ ?_ ?_ ?_ ?_ ?_ ?_ ?_) <;> (repeat intro hb) <;> first|exact True.intro|refine Lf.mk ?_)))
    rw [← hQ]
    exact ⟨_, L, _, _, rfl, rfl, by omega, fun _ _ => rfl⟩
set_option maxRecDepth 100000 in
set_option maxHeartbeats 4000000 in
theorem bounded_tu (V : Nat) (hV : lmN V ≤ 640) : Turns Tryd.prog 107 [.own 0 0 (lmN V) none] [natO (lmN V) V] (.tup [.own 0 0 (lmN V) none,.imm (.int .i64 0)]) [natO (lmN V) V] := by
  refine ⟨?_,by simp [VF,VFL],fun a ha => by simp only [List.mem_singleton] at ha;subst ha;exact fun p q => lmE_pl V p q⟩
  have c1 := trim_tu V (lmN V) none (.inl rfl) (Nat.le_refl _) (by omega)
  have e1 : decide ((lmN V : Int) > 640) = false := decide_eq_false (by omega)
  (refine TC_of_T Γ_ok Tryd.func107 rfl (by kernel_rfl) ?_;simp only [Tryd.ntmps107,Tryd.results107,List.length_cons,List.length_nil,Nat.reduceSub,Nat.reduceAdd,List.replicate,List.cons_append,List.nil_append])
  (have ct1 := TurnsAt.mk [0] (c1);have sx1 := e1;have sx2 : (0 : Nat) + 0 = 0 := rfl;((have sx3 : (0 : Nat) + 0 = 0 := rfl;have sx4 : (0 : Nat) + 0 = 0 := rfl;have sx5 : (0 : Nat) + 0 = 0 := rfl;have sx6 : (0 : Nat) + 0 = 0 := rfl;have sx7 : (0 : Nat) + 0 = 0 := rfl;have sx8 : (0 : Nat) + 0 = 0 := rfl;have sx9 : (0 : Nat) + 0 = 0 := rfl;refine goR9 _ _ _ _ _ _ _ _ ?_ ?_ ?_ ?_ ?_ ?_ ?_ ?_) <;> (repeat intro hb) <;> first|exact True.intro|refine Lf.mk ?_))
set_option maxRecDepth 100000 in
set_option maxHeartbeats 4000000 in
theorem rmul_mk (a b : Nat) (ha : lmN a ≤ 640) (hb' : lmN b ≤ 640) (hab : lmN (a * b) ≤ 640) : Makes Tryd.prog 93 [natV a,natV b] (.tup [.own 0 0 (lmN (a * b)) none,.imm (.int .i64 0)]) [natO (lmN (a * b)) (a * b)] := by
  refine natMkE ?_
  have c1 := both_tc a b ha hb'
  have c2 := rproduct_mk a b ha hb'
  have c3 := bounded_tu (a * b) hab
  (refine TC_of_T Γ_ok Tryd.func93 rfl (by kernel_rfl) ?_;simp only [Tryd.ntmps93,Tryd.results93,List.length_cons,List.length_nil,Nat.reduceSub,Nat.reduceAdd,List.replicate,List.cons_append,List.nil_append])
  (have cl1 := c1;have cm1 := c2;have ct1 := TurnsAt.mk [0] (c3);((refine goR0 _ _ _ _ _ _ _ _ ?_ ?_ ?_ ?_ ?_ ?_ ?_ ?_) <;> (repeat intro hb) <;> first | exact True.intro | refine Lf.mk ?_))
  exact ⟨_, _, _, _, rfl, rfl, Nat.le_refl _, fun _ _ => rfl⟩
@[go_sem,reducible] def enW1 (a n V i : Nat) : List AV := [natV a,.imm (.int .i64 n),.top,.top,.imm (.slice none 0 0),.imm (.int .i64 0),.own 0 0 (lmN V) none,.imm (.int .i64 i)] ++ List.replicate 28 .top
set_option maxRecDepth 100000 in
set_option maxHeartbeats 4000000 in
theorem rpow_mk (a n : Nat) (h2 : 2 ≤ a) (h1 : 1 ≤ n) (hn : n ≤ 1152) (ha : lmN a ≤ 640) (hr : lmN (a ^ n) ≤ 640) : Makes Tryd.prog 91 [natV a,.imm (.int .i64 n)] (.tup [.own 0 0 (lmN (a ^ n)) none,.imm (.int .i64 0)]) [natO (lmN (a ^ n)) (a ^ n)] := by
  refine natMkE ?_
  generalize hQ : (fun (v : AV) (σ' : List AObj)=>∃ k L c E',v = .tup [.own k 0 (lmN (a ^ n)) c,.imm (.int .i64 0)] ∧ nthO σ' k = .arr 92 1 L E' ∧ lmN (a ^ n) ≤ L ∧ ∀ i,i < lmN (a ^ n) → E' i 0 = lmE (a ^ n) i 0) = Q
  have hle : ∀ e,e ≤ n → lmN (a ^ e) ≤ 640 := fun e he => Nat.le_trans (lmN_mono (Nat.pow_le_pow_right (by omega) he)) hr
  have c0 := rvalidN_tc a ha
  have c1 := order_tc a 1 ha (by rw [lmN_1]; omega)
  rw [cmpN_gt (by omega)] at c1
  simp only [natV, lmN_1] at c1
  have ew1 : ∀ i j, i < 1 → j < 1 → nth [AV.imm (.int .u32 1)] (i * 1 + j) = lmE 1 i j := fun i j hi hj => by
    obtain rfl : j = 0 := by omega
    obtain rfl : i = 0 := by omega
    simp [nth, lmE, lm, Bs]
  have e1 : ((n : Int) == 0) = false := by rw [beq_eq_false_iff_ne]; omega
  (refine TC_of_T Γ_ok Tryd.func91 rfl (by kernel_rfl) ?_;simp only [Tryd.ntmps91,Tryd.results91,List.length_cons,List.length_nil,Nat.reduceSub,Nat.reduceAdd,List.replicate,List.cons_append,List.nil_append])
  (have cl1 := c0;have cl2 := c1;have sx1 := e1;have sx2 : (0 : Nat) + 0 = 0 := rfl;((have sx3 : (0 : Nat) + 0 = 0 := rfl;have sx4 : (0 : Nat) + 0 = 0 := rfl;have sx5 : (0 : Nat) + 0 = 0 := rfl;have sx6 : (0 : Nat) + 0 = 0 := rfl;have sx7 : (0 : Nat) + 0 = 0 := rfl;have sx8 : (0 : Nat) + 0 = 0 := rfl;have sx9 : (0 : Nat) + 0 = 0 := rfl;refine goR9 _ _ _ _ _ _ _ _ ?_ ?_ ?_ ?_ ?_ ?_ ?_ ?_) <;> (repeat intro hb) <;> first|exact True.intro|refine Lf.mk ?_))
  refine T_loopW (fun m st => ∃ i : Nat, i ≤ n ∧ m + i = n ∧ st = ⟨enW1 a n (a ^ i) i, [natO (lmN (a ^ i)) (a ^ i)]⟩)
    n ⟨_, ?_, 0, by omega, rfl, rfl⟩ ?_
  · rw [Nat.pow_zero]
    simp only [enW1, natO, lmN_1]
    ((try simp only [List.length_append,List.length_cons,List.length_nil,Nat.zero_add]);refine Wk.intro [1] (by decide) (by decide) (by intro o ho;simp at ho ⊢ <;> omega) ?_ ?_ <;> repeat' (first|(exact WkV.eqF (ew1 _ _ hi hj) (lmE_free _ _ _))|exact WkVL.nil|refine WkVL.cons ?_ ?_|exact WkV.top|exact WkV.imm rfl|exact WkV.imm (by simp)|exact WkV.optr rfl|exact WkV.own rfl (by simp)|exact WkV.nil_own (.inl rfl)|exact WkV.map rfl|(refine WkV.free ?_;simp [Free,FreeL] <;> assumption)|(refine WkV.free (fun _ _=>FreeL_nth ?_ _);simp [Free,FreeL];done)|refine WkV.agg ?_|refine WkV.tup ?_|refine WkV.fn ?_ ?_|exact WkO.dead|exact WkO.raw|refine WkO.ghost ?_|exact WkO.mpE rfl trivial|refine WkO.box ?_ rfl|refine WkO.arr ?_|refine And.intro ?_ (And.intro (by first|exact fun h=>h|exact fun _=>rfl|exact nofun) ?_)|exact trivial|(intro i j hi hj)))
  rintro m st ⟨i, k0, k1, rfl⟩
  by_cases hi : i < n
  · have c2 := rproduct_mk (a ^ i) a (hle i k0) ha
    rw [← Nat.pow_succ] at c2
    have hl := hle (i + 1) hi
    have e2 : decide ((lmN (a ^ (i + 1)) : Int) > 640) = false := decide_eq_false (by omega)
    (simp only [go_sem,↓reduceIte,Nat.reduceAdd,Nat.reduceSub,Nat.reduceMul,Nat.reduceLT,Nat.reduceLeDiff,Nat.reduceEqDiff,Nat.reduceGT,Int.reduceToNat,Int.reduceBEq,Int.reduceBNe];try simp (disch := omega) only [wrapI,wrapU,half_sum,toNat_sub1,toNat_add1,Int.toNat_natCast])
    (have cm1 := c2;have sx1 := e2;have sx2 : (0 : Nat) + 0 = 0 := rfl;((have sx3 : (0 : Nat) + 0 = 0 := rfl;have sx4 : (0 : Nat) + 0 = 0 := rfl;have sx5 : (0 : Nat) + 0 = 0 := rfl;have sx6 : (0 : Nat) + 0 = 0 := rfl;have sx7 : (0 : Nat) + 0 = 0 := rfl;have sx8 : (0 : Nat) + 0 = 0 := rfl;have sx9 : (0 : Nat) + 0 = 0 := rfl;refine goR9 _ _ _ _ _ _ _ _ ?_ ?_ ?_ ?_ ?_ ?_ ?_ ?_) <;> (repeat intro hb) <;> first|exact True.intro|refine Lf.mk ?_))
    refine ⟨n - (i + 1), by omega, _, ?_, i + 1, by omega, by omega, rfl⟩
    ((try simp only [List.length_append,List.length_cons,List.length_nil,Nat.zero_add]);refine Wk.intro [1] (by decide) (by decide) (by intro o ho;simp at ho ⊢ <;> omega) ?_ ?_ <;> repeat' (first|(refine WkV.imm ?_;congr 1;omega)|exact WkVL.nil|refine WkVL.cons ?_ ?_|exact WkV.top|exact WkV.imm rfl|exact WkV.imm (by simp)|exact WkV.optr rfl|exact WkV.own rfl (by simp)|exact WkV.nil_own (.inl rfl)|exact WkV.map rfl|(refine WkV.free ?_;simp [Free,FreeL] <;> assumption)|(refine WkV.free (fun _ _=>FreeL_nth ?_ _);simp [Free,FreeL];done)|refine WkV.agg ?_|refine WkV.tup ?_|refine WkV.fn ?_ ?_|exact WkO.dead|exact WkO.raw|refine WkO.ghost ?_|exact WkO.mpE rfl trivial|refine WkO.box ?_ rfl|refine WkO.arr ?_|refine And.intro ?_ (And.intro (by first|exact fun h=>h|exact fun _=>rfl|exact nofun) ?_)|exact trivial|(intro i j hi hj)))
  · obtain rfl : i = n := by omega
    (simp only [go_sem,↓reduceIte,Nat.reduceAdd,Nat.reduceSub,Nat.reduceMul,Nat.reduceLT,Nat.reduceLeDiff,Nat.reduceEqDiff,Nat.reduceGT,Int.reduceToNat,Int.reduceBEq,Int.reduceBNe];try simp (disch := omega) only [wrapI,wrapU,half_sum,toNat_sub1,toNat_add1,Int.toNat_natCast])
    (((refine goR0 _ _ _ _ _ _ _ _ ?_ ?_ ?_ ?_ ?_ ?_ ?_ ?_) <;> (repeat intro hb) <;> first | exact True.intro | refine Lf.mk ?_))
    rw [← hQ]
    exact ⟨_, _, _, _, rfl, rfl, Nat.le_refl _, fun _ _ => rfl⟩
end Go.Proofs.YtdglbjjenihdlaaDoor
