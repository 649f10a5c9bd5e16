/-
  natural: product.
-/
import Derived.Test.YtonmienclploaaaGreatDoorQGo
import Derived.Test.YtonmienclploaaaGreatDoorQN5
set_option linter.unusedSimpArgs false
set_option linter.unusedVariables false
namespace Go.Proofs.YtonmienclploaaaGreatDoor.Q
open Go.Ab
def peE (a b i j k _q : Nat) : AV := .imm (.int .u32 ((pE a b i j k : Nat) : Int))
@[go_sem] theorem peE_us (a b i j k q : Nat) : peE a b i j k q = .imm (.int .u32 ((pE a b i j k : Nat) : Int)) := rfl
@[simp] theorem peE_free (a b i j k q : Nat) : Free (peE a b i j k q) := trivial
@[go_sem,reducible] def enP (a b L i : Nat) : List AV := [natV a,natV b,.top,.top,.imm (.slice none 0 0),.own 0 0 L (some L)] ++ List.replicate 12 .top ++ [natV a,.imm (.int .i64 (lmN a)),.imm (.int .i64 i)] ++ List.replicate 47 .top
@[go_sem,reducible] def enQ (a b L i x c j : Nat) : List AV := [natV a,natV b,.top,.top,.imm (.slice none 0 0),.own 0 0 L (some L),.imm (.int .i64 i),.imm (.int .u32 x),.imm (.int .u64 c)] ++ List.replicate 9 .top ++ [natV a,.imm (.int .i64 (lmN a)),.imm (.int .i64 i)] ++ List.replicate 4 .top ++
  [natV b, .imm (.int .i64 (lmN b)), .imm (.int .i64 j)] ++ List.replicate 40 .top
theorem pe_step {a b i j M s c : Nat} (hM : M = lm a i * lm b j) (hs : s = lm (a % Bs ^ i * b) (i + j)) (hc : c = mC (a % Bs ^ i * b) (lm a i) b i j) {k q : Nat} (hq : q < 1) :
    updE (peE a b i j) (i + j) 0 [.imm (.int .u32 (((M + s + c) % 4294967296 : Nat) : Int))] k q = peE a b i (j + 1) k q := by
  obtain rfl : q = 0 := by omega
  unfold updE peE
  rw [pE_s, ← hM, ← hs, ← hc]
  by_cases h : k = i + j
  · subst h
    rw [if_pos ⟨rfl, by omega, by simp⟩, if_pos rfl]
    rfl
  · rw [if_neg (by omega), if_neg h]
theorem pe_end {a b i c : Nat} (hc : c = mC (a % Bs ^ i * b) (lm a i) b i (lmN b)) {k q : Nat} (hq : q < 1) :
    updE (peE a b i (lmN b)) (i + lmN b) 0 [.imm (.int .u32 (c : Int))] k q = lmE (a % Bs ^ (i + 1) * b) k q := by
  obtain rfl : q = 0 := by omega
  unfold updE peE lmE
  rw [← pE_end, ← hc]
  by_cases h : k = i + lmN b
  · subst h
    rw [if_pos ⟨rfl, by omega, by simp⟩, if_pos rfl]
    rfl
  · rw [if_neg (by omega), if_neg h]
set_option maxRecDepth 100000 in
set_option maxHeartbeats 4000000 in
theorem product_mk (a b : Nat) (ha : lmN a ≤ 640) (hb' : lmN b ≤ 640) (hab : lmN (a * b) ≤ 640) : Makes Tryz.prog 133 [natV a,natV b] (.own 0 0 (lmN (a * b)) none) [natO (lmN (a * b)) (a * b)] := by
  refine natMk ?_
  generalize hQ : (fun (v : AV) (σ' : List AObj) => ∃ k L c E',v = .own k 0 (lmN (a * b)) c ∧ nthO σ' k = .arr 179 1 L E' ∧ lmN (a * b) ≤ L ∧ ∀ i,i < lmN (a * b) → E' i 0 = lmE (a * b) i 0) = Q
  obtain ⟨L, hL⟩ : ∃ L, L = lmN a + lmN b := ⟨_, rfl⟩
  have eL : (lmN a : Int) + (lmN b : Int) = (L : Int) := by omega
  have hml := mul_lmN a b
  (refine TC_of_T Γ_ok Tryz.func133 rfl (by kernel_rfl) ?_;simp only [Tryz.ntmps133,Tryz.results133,List.length_cons,List.length_nil,Nat.reduceSub,Nat.reduceAdd,List.replicate,List.cons_append,List.nil_append])
  (have sx1 := eL;have sx2 : (0 : Nat) + 0 = 0 := rfl;((have sx3 : (0 : Nat) + 0 = 0 := rfl;have sx4 : (0 : Nat) + 0 = 0 := rfl;have sx5 : (0 : Nat) + 0 = 0 := rfl;have sx6 : (0 : Nat) + 0 = 0 := rfl;refine goR6 _ _ _ _ _ _ _ _ ?_ ?_ ?_ ?_ ?_ ?_ ?_ ?_) <;> (repeat intro hb) <;> first|exact True.intro|refine Lf.mk ?_))
  refine T_loopW (fun m st => ∃ i : Nat, i ≤ lmN a ∧ m + i = lmN a ∧ st = ⟨enP a b L i, [natO L (a % Bs ^ i * b)]⟩)
    (lmN a) ⟨_, ?_, 0, by omega, rfl, rfl⟩ ?_
  · ((try simp only [List.length_append,List.length_cons,List.length_nil,Nat.zero_add]);refine Wk.intro [0] (by decide) (by decide) (by intro o ho;simp at ho ⊢ <;> omega) ?_ ?_ <;> repeat' (first|(exact WkV.eqF (by obtain rfl : j = 0 := (by omega);rw [Nat.pow_zero,Nat.mod_one,Nat.zero_mul];simp [nth,lmE,lm]) (lmE_free _ _ _))|exact WkVL.nil|refine WkVL.cons ?_ ?_|exact WkV.top|exact WkV.imm rfl|exact WkV.imm (by simp)|exact WkV.optr rfl|exact WkV.own rfl (by simp)|exact WkV.nil_own (.inl rfl)|exact WkV.map rfl|(refine WkV.free ?_;simp [Free,FreeL] <;> assumption)|(refine WkV.free (fun _ _=>FreeL_nth ?_ _);simp [Free,FreeL];done)|refine WkV.agg ?_|refine WkV.tup ?_|refine WkV.fn ?_ ?_|exact WkO.dead|exact WkO.raw|refine WkO.ghost ?_|exact WkO.mpE rfl trivial|refine WkO.box ?_ rfl|refine WkO.arr ?_|refine And.intro ?_ (And.intro (by first|exact fun h=>h|exact fun _=>rfl|exact nofun) ?_)|exact trivial|(intro i j hi hj)))
  rintro m st ⟨i, h0, h1, rfl⟩
  by_cases hi : i < lmN a
  · obtain ⟨x, hx⟩ : ∃ x, x = lm a i := ⟨_, rfl⟩
    have hx2 : x < 4294967296 := by rw [hx]; exact lm_lt a i
    (simp only [go_sem,↓reduceIte,Nat.reduceAdd,Nat.reduceSub,Nat.reduceMul,Nat.reduceLT,Nat.reduceLeDiff,Nat.reduceEqDiff,Nat.reduceGT,Int.reduceToNat,Int.reduceBEq,Int.reduceBNe];try simp (disch := omega) only [wrapI,wrapU,half_sum,toNat_sub1,toNat_add1,Int.toNat_natCast])
    (((refine goR0 _ _ _ _ _ _ _ _ ?_ ?_ ?_ ?_ ?_ ?_ ?_ ?_) <;> (repeat intro hb) <;> first | exact True.intro | refine Lf.mk ?_))
    refine T_loopW (fun m st => ∃ j : Nat,j ≤ lmN b ∧ m + j = lmN b ∧ st = ⟨enQ a b L i x (mC (a % Bs ^ i * b) x b i j) j,[.arr 179 1 L (peE a b i j)]⟩)
      (lmN b) ⟨_, ?_, 0, by omega, rfl, rfl⟩ ?_
    · rw [pC_0]
      ((try simp only [List.length_append,List.length_cons,List.length_nil,Nat.zero_add]);refine Wk.intro [0] (by decide) (by decide) (by intro o ho;simp at ho ⊢ <;> omega) ?_ ?_ <;> repeat' (first|(exact WkV.eqF (by unfold peE;rw [pE_0];rfl) (peE_free _ _ _ _ _ _))|(refine WkV.imm ?_;rw [hx])|exact WkVL.nil|refine WkVL.cons ?_ ?_|exact WkV.top|exact WkV.imm rfl|exact WkV.imm (by simp)|exact WkV.optr rfl|exact WkV.own rfl (by simp)|exact WkV.nil_own (.inl rfl)|exact WkV.map rfl|(refine WkV.free ?_;simp [Free,FreeL] <;> assumption)|(refine WkV.free (fun _ _=>FreeL_nth ?_ _);simp [Free,FreeL];done)|refine WkV.agg ?_|refine WkV.tup ?_|refine WkV.fn ?_ ?_|exact WkO.dead|exact WkO.raw|refine WkO.ghost ?_|exact WkO.mpE rfl trivial|refine WkO.box ?_ rfl|refine WkO.arr ?_|refine And.intro ?_ (And.intro (by first|exact fun h=>h|exact fun _=>rfl|exact nofun) ?_)|exact trivial|(intro i j hi hj)))
    rintro m2 st ⟨j, k0, k1, rfl⟩
    obtain ⟨c, hc⟩ : ∃ c, c = mC (a % Bs ^ i * b) x b i j := ⟨_, rfl⟩
    have hcx : c ≤ x := by rw [hc]; exact pC_le _ _ _ _ _
    rw [← hc]
    by_cases hj : j < lmN b
    · obtain ⟨y, hy⟩ : ∃ y, y = lm b j := ⟨_, rfl⟩
      have hy2 : y < 4294967296 := by rw [hy]; exact lm_lt b j
      obtain ⟨s, hs⟩ : ∃ s, s = lm (a % Bs ^ i * b) (i + j) := ⟨_, rfl⟩
      have hs2 : s < 4294967296 := by rw [hs]; exact lm_lt _ _
      have hsm := mul_small (x := x) (y := y) (s := s) (c := c) hx2 hy2 hs2 hcx
      obtain ⟨M, hM⟩ : ∃ M, M = x * y := ⟨_, rfl⟩
      rw [← hM] at hsm
      have e1 : (x : Int) * (y : Int) = (M : Int) := by rw [hM]; exact (Int.natCast_mul x y).symm
      have e2 : ((i : Int) + (j : Int)).toNat = i + j := by omega
      have e3 : lm b j = y := hy.symm
      have e4 : pE a b i j (i + j) = s := by rw [pE_at, hs]
      have e5 : IntKind.u32.wrap ((M : Int) + (s : Int) + (c : Int)) = (((M + s + c) % 4294967296 : Nat) : Int) := wr32 (M + s + c)
      have e6 : ((M : Int) + (s : Int) + (c : Int)).fdiv 4294967296 = (((M + s + c) / 4294967296 : Nat) : Int) := by rw [Int.fdiv_eq_ediv_of_nonneg _ (by omega)];omega
      (simp only [go_sem,↓reduceIte,Nat.reduceAdd,Nat.reduceSub,Nat.reduceMul,Nat.reduceLT,Nat.reduceLeDiff,Nat.reduceEqDiff,Nat.reduceGT,Int.reduceToNat,Int.reduceBEq,Int.reduceBNe];try simp (disch := omega) only [wrapI,wrapU,half_sum,toNat_sub1,toNat_add1,Int.toNat_natCast])
      (have sx1 := e1;have sx2 := e2;have sx3 := e3;have sx4 := e4;have sx5 := e5;have sx6 := e6;((refine goR6 _ _ _ _ _ _ _ _ ?_ ?_ ?_ ?_ ?_ ?_ ?_ ?_) <;> (repeat intro hb) <;> first|exact True.intro|refine Lf.mk ?_))
      have hM' : M = lm a i * lm b j := by rw [hM, hx, hy]
      have hc' : c = mC (a % Bs ^ i * b) (lm a i) b i j := by rw [hc, hx]
      have hcs : mC (a % Bs ^ i * b) x b i (j + 1) = (M + s + c) / 4294967296 := by rw [pC_s,← hs,← hc,← hy,← hM];rfl
      refine ⟨lmN b - (j + 1),by omega,⟨enQ a b L i x (mC (a % Bs ^ i * b) x b i (j + 1)) (j + 1),[.arr 179 1 L (peE a b i (j + 1))]⟩,?_,j + 1,by omega,by omega,rfl⟩
      rw [hcs]
      ((try simp only [List.length_append,List.length_cons,List.length_nil,Nat.zero_add]);refine Wk.intro [0] (by decide) (by decide) (by intro o ho;simp at ho ⊢ <;> omega) ?_ ?_ <;> repeat' (first|(exact WkV.eqF (pe_step hM' hs hc' hj) (peE_free _ _ _ _ _ _))|(refine WkV.imm ?_;congr 1;omega)|exact WkVL.nil|refine WkVL.cons ?_ ?_|exact WkV.top|exact WkV.imm rfl|exact WkV.imm (by simp)|exact WkV.optr rfl|exact WkV.own rfl (by simp)|exact WkV.nil_own (.inl rfl)|exact WkV.map rfl|(refine WkV.free ?_;simp [Free,FreeL] <;> assumption)|(refine WkV.free (fun _ _=>FreeL_nth ?_ _);simp [Free,FreeL];done)|refine WkV.agg ?_|refine WkV.tup ?_|refine WkV.fn ?_ ?_|exact WkO.dead|exact WkO.raw|refine WkO.ghost ?_|exact WkO.mpE rfl trivial|refine WkO.box ?_ rfl|refine WkO.arr ?_|refine And.intro ?_ (And.intro (by first|exact fun h=>h|exact fun _=>rfl|exact nofun) ?_)|exact trivial|(intro i j hi hj)))
    · obtain rfl : j = lmN b := by omega
      have e2 : ((i : Int) + (lmN b : Int)).toNat = i + lmN b := by omega
      have e5 : IntKind.u32.wrap (c : Int) = (c : Int) := by rw [wr32]; congr 1; exact Nat.mod_eq_of_lt (by omega)
      have hc' : c = mC (a % Bs ^ i * b) (lm a i) b i (lmN b) := by rw [hc, hx]
      (simp only [go_sem,↓reduceIte,Nat.reduceAdd,Nat.reduceSub,Nat.reduceMul,Nat.reduceLT,Nat.reduceLeDiff,Nat.reduceEqDiff,Nat.reduceGT,Int.reduceToNat,Int.reduceBEq,Int.reduceBNe];try simp (disch := omega) only [wrapI,wrapU,half_sum,toNat_sub1,toNat_add1,Int.toNat_natCast])
      (have sx1 := e2;have sx2 := e5;((have sx3 : (0 : Nat) + 0 = 0 := rfl;have sx4 : (0 : Nat) + 0 = 0 := rfl;have sx5 : (0 : Nat) + 0 = 0 := rfl;have sx6 : (0 : Nat) + 0 = 0 := rfl;refine goR6 _ _ _ _ _ _ _ _ ?_ ?_ ?_ ?_ ?_ ?_ ?_ ?_) <;> (repeat intro hb) <;> first|exact True.intro|refine Lf.mk ?_))
      refine ⟨lmN a - (i + 1), by omega, _, ?_, i + 1, by omega, by omega, rfl⟩
      ((try simp only [List.length_append,List.length_cons,List.length_nil,Nat.zero_add]);refine Wk.intro [0] (by decide) (by decide) (by intro o ho;simp at ho ⊢ <;> omega) ?_ ?_ <;> repeat' (first|(exact WkV.eqF (pe_end hc' hj) (lmE_free _ _ _))|(refine WkV.imm ?_;congr 1;omega)|exact WkVL.nil|refine WkVL.cons ?_ ?_|exact WkV.top|exact WkV.imm rfl|exact WkV.imm (by simp)|exact WkV.optr rfl|exact WkV.own rfl (by simp)|exact WkV.nil_own (.inl rfl)|exact WkV.map rfl|(refine WkV.free ?_;simp [Free,FreeL] <;> assumption)|(refine WkV.free (fun _ _=>FreeL_nth ?_ _);simp [Free,FreeL];done)|refine WkV.agg ?_|refine WkV.tup ?_|refine WkV.fn ?_ ?_|exact WkO.dead|exact WkO.raw|refine WkO.ghost ?_|exact WkO.mpE rfl trivial|refine WkO.box ?_ rfl|refine WkO.arr ?_|refine And.intro ?_ (And.intro (by first|exact fun h=>h|exact fun _=>rfl|exact nofun) ?_)|exact trivial|(intro i j hi hj)))
  · obtain rfl : i = lmN a := by omega
    have c1 := form_tu (a * b) L (by omega) hab (by omega)
    rw [Nat.mod_eq_of_lt (lt_pow.2 (Nat.le_refl (lmN a)))]
    (simp only [go_sem,↓reduceIte,Nat.reduceAdd,Nat.reduceSub,Nat.reduceMul,Nat.reduceLT,Nat.reduceLeDiff,Nat.reduceEqDiff,Nat.reduceGT,Int.reduceToNat,Int.reduceBEq,Int.reduceBNe];try simp (disch := omega) only [wrapI,wrapU,half_sum,toNat_sub1,toNat_add1,Int.toNat_natCast])
    (have ct1 := TurnsAt.mk [0] (c1);((refine goR0 _ _ _ _ _ _ _ _ ?_ ?_ ?_ ?_ ?_ ?_ ?_ ?_) <;> (repeat intro hb) <;> first | exact True.intro | refine Lf.mk ?_))
    rw [← hQ]
    exact ⟨_, L, _, _, rfl, rfl, by omega, fun _ _ => rfl⟩
end Go.Proofs.YtonmienclploaaaGreatDoor.Q
