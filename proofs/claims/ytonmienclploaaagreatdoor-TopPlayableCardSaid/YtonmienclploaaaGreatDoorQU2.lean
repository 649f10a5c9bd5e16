/-
 Parts joined: N5 N6 N7.
-/
import Derived.Test.YtonmienclploaaaGreatDoorQGo
import Derived.Test.YtonmienclploaaaGreatDoorQU1
import Derived.Test.YtonmienclploaaaGreatDoorQA6
import Derived.Test.YtonmienclploaaaGreatDoorQA5
set_option linter.unusedSimpArgs false
set_option linter.unusedVariables false
namespace Go.Proofs.YtonmienclploaaaGreatDoor.Q
open Go.Ab
def lmE (n i _j : Nat) : AV := .imm (.int .u32 ((lm n i : Nat) : Int))
@[go_sem] theorem lmE_us (n i j : Nat) : lmE n i j = .imm (.int .u32 ((lm n i : Nat) : Int)) := rfl
theorem lmE_pl (n i j : Nat) : Pl (lmE n i j) := trivial
@[simp] theorem lmE_free (n i j : Nat) : Free (lmE n i j) := trivial
@[go_sem, reducible] def natV (n : Nat) : AV := .view (lmN n) 1 (lmE n)
@[go_sem, reducible] def natO (L n : Nat) : AObj := .arr 179 1 L (lmE n)
@[go_sem] theorem two32 : (2 : Int) ^ (min 32 64) = 4294967296 := by decide
theorem wr32 (a : Nat) : IntKind.u32.wrap (a : Int) = ((a % 4294967296 : Nat) : Int) := by rw [IntKind.wrap_u32']; omega
@[go_sem,reducible] def enF (L n : Nat) : List AV := [.own 0 0 L (some L),.top,.imm (.slice none 0 0),.imm (.int .i64 n)] ++ List.replicate 22 .top
theorem form_end {V m : Nat} (h0 : lmN V ≤ m) (hb : 0 < (m : Int) → ¬ ((lm V (m - 1) : Nat) : Int) = 0) : m = lmN V := by
 rcases Nat.lt_or_ge (lmN V) m with h2 | h2
 ·have := lm_hi (n := V) (i := m - 1) (by omega)
  omega
 ·omega
set_option maxRecDepth 100000 in
set_option maxHeartbeats 4000000 in
theorem form_tc (V L : Nat) (hV : lmN V ≤ L) (hV2 : lmN V ≤ 640) (hL : L ≤ 1000000) : TC Tryz.prog 126 [.own 0 0 L (some L)] [natO L V] (fun v σ'=>v = .own 0 0 (lmN V) (some (lmN V)) ∧ σ' = [natO L V]) := by
 generalize hQ : (fun (v : AV) (σ' : List AObj) => v = .own 0 0 (lmN V) (some (lmN V)) ∧ σ' = [natO L V]) = Q
 (refine TC_of_T Γ_ok Tryz.func126 rfl (by kernel_rfl) ?_;simp only [Tryz.ntmps126,Tryz.results126,List.length_cons,List.length_nil,Nat.reduceSub,Nat.reduceAdd,List.replicate,List.cons_append,List.nil_append])
 (((refine goR0 _ _ _ _ _ _ _ _ ?_ ?_ ?_ ?_ ?_ ?_ ?_ ?_)<;>(repeat intro hb)<;>first|exact True.intro|refine Lf.mk ?_))
 refine T_loopW (fun m st => ∃ n : Nat, lmN V ≤ n ∧ n ≤ L ∧ m = n ∧ st = ⟨enF L n, [natO L V]⟩)
  L ⟨_, ?_, L, hV, by omega, rfl, rfl⟩ ?_
 ·((try refine sgl ?_);exact wkI [0])
 rintro m st ⟨n, h0, h1, rfl, rfl⟩
 refine sgo ?_
 (((refine goR0 _ _ _ _ _ _ _ _ ?_ ?_ ?_ ?_ ?_ ?_ ?_ ?_)<;>(repeat intro hb)<;>first|exact True.intro|refine Lf.mk ?_))
 ·refine ⟨m - 1, by omega, _, ?_, m - 1, ?_, by omega, rfl, rfl⟩
  ·((try refine sgl ?_);refine Wk.intro [0] (by decide) (by decide) wkH ?_ ?_ <;> repeat' (first|(refine WkV.imm ?_;congr 1;omega)|refine WkVL.cons ?_ ?_|exact wkT|refine WkV.agg ?_|refine WkV.tup ?_|refine WkV.fn ?_ ?_|exact WkO.dead|exact WkO.raw|refine WkO.ghost ?_|exact WkO.mpE rfl trivial|refine WkO.box ?_ rfl|refine WkO.arr ?_|refine And.intro ?_ (And.intro aF ?_)|exact trivial|(intro i j hi hj)))
  ·rcases Nat.lt_or_ge (m - 1) (lmN V) with h2 | h2
   ·exfalso
    have h3 : m = lmN V := by omega
    have h4 := hb.2
    subst h3
    by_cases hz : V = 0
    ·subst hz; rw [lmN_0] at hb; omega
    ·have := lm_top hz; omega
   ·exact h2
 ·rename_i hc
  have := form_end h0 hc
  omega
 ·rename_i hc
  obtain rfl := form_end h0 hc
  rw [← hQ]
  exact ⟨rfl, rfl⟩
theorem form_tu (V L : Nat) (hV : lmN V ≤ L) (hV2 : lmN V ≤ 640) (hL : L ≤ 1000000) : Turns Tryz.prog 126 [.own 0 0 L (some L)] [natO L V] (.own 0 0 (lmN V) (some (lmN V))) [natO L V] :=
 ⟨form_tc V L hV hV2 hL,by simp [VF,VFL],fun a ha => by simp only [List.mem_singleton] at ha;subst ha;exact fun p q => lmE_pl V p q⟩
set_option maxRecDepth 100000 in
set_option maxHeartbeats 4000000 in
theorem valid_tc (n : Nat) (h : lmN n ≤ 640) : Look Tryz.prog 109 [natV n] (.imm (.bool true)) := by
 refine Look.mk trivial ?_
 have h1 : ∀ k, lmN n = k + 1 → lm n k ≠ 0 := fun k hk => by
  have := lm_top (n := n) (fun e => by subst e; rw [lmN_0] at hk; omega)
  rwa [hk] at this
 generalize hN : lmN n = N at h h1
 cases N with
 | zero =>
  (refine TC_of_T Γ_ok Tryz.func109 rfl (by kernel_rfl) ?_;simp only [Tryz.ntmps109,Tryz.results109,List.length_cons,List.length_nil,Nat.reduceSub,Nat.reduceAdd,List.replicate,List.cons_append,List.nil_append])
  (((refine goR0 _ _ _ _ _ _ _ _ ?_ ?_ ?_ ?_ ?_ ?_ ?_ ?_)<;>(repeat intro hb)<;>first|exact True.intro|refine Lf.mk ?_))
  rw [hN]; rfl
 | succ k =>
  have h2 := h1 k rfl
  (refine TC_of_T Γ_ok Tryz.func109 rfl (by kernel_rfl) ?_;simp only [Tryz.ntmps109,Tryz.results109,List.length_cons,List.length_nil,Nat.reduceSub,Nat.reduceAdd,List.replicate,List.cons_append,List.nil_append])
  (((refine goR0 _ _ _ _ _ _ _ _ ?_ ?_ ?_ ?_ ?_ ?_ ?_ ?_)<;>(repeat intro hb)<;>first|exact True.intro|refine Lf.mk ?_))
  rw [hN, Nat.add_sub_cancel]
  have e1 : (((k + 1 : Nat) : Int) == 0) = false := by rw [beq_eq_false_iff_ne]; omega
  have e2 : (((lm n k : Nat) : Int) != 0) = true := by rw [bne_iff_ne]; omega
  rw [decide_eq_true (by omega), e1, e2]; rfl
theorem natMk {f : FuncId} {args : List AV} {n : Nat} (h : TC Tryz.prog f args [] (fun v σ'=>∃ k L c E',v = .own k 0 (lmN n) c ∧ nthO σ' k = .arr 179 1 L E' ∧ lmN n ≤ L ∧ ∀ i,i < lmN n → E' i 0 = lmE n i 0)) :
  Makes Tryz.prog f args (.own 0 0 (lmN n) none) [natO (lmN n) n] := by
 refine Makes.gen [] trivial (fun a ha => by simp only [List.mem_singleton] at ha;subst ha;exact fun p q => lmE_pl n p q) (h.mono fun v σ' ⟨k,L,c,E',h1,h2,h3,h4⟩ => ?_)
 have hlt : k < σ'.length := (List.getElem?_eq_some_iff.1 (nthO_eq h2 rfl)).1
 refine ⟨[k], by simp, by simp [hlt], ?_, ?_⟩
 ·rw [h1]; exact WkV.own rfl (by simp)
 ·rw [List.map_nil, List.append_nil]
  refine ⟨?_, fun _ => by rw [h2]; rfl, trivial⟩
  rw [h2]
  refine WkO.arrLe h3 fun i j hi hj => ?_
  obtain rfl : j = 0 := by omega
  rw [h4 i hi]; exact WkV.free (lmE_free n i 0)
theorem natMkE {f : FuncId} {args : List AV} {n : Nat} (h : TC Tryz.prog f args [] (fun v σ'=>∃ k L c E',v = .tup [.own k 0 (lmN n) c,.imm (.int .i64 0)] ∧ nthO σ' k = .arr 179 1 L E' ∧ lmN n ≤ L ∧ ∀ i,i < lmN n → E' i 0 = lmE n i 0)) :
  Makes Tryz.prog f args (.tup [.own 0 0 (lmN n) none, .imm (.int .i64 0)]) [natO (lmN n) n] := by
 refine Makes.gen [] (by simp [VF,VFL]) (fun a ha => by simp only [List.mem_singleton] at ha;subst ha;exact fun p q => lmE_pl n p q) (h.mono fun v σ' ⟨k,L,c,E',h1,h2,h3,h4⟩ => ?_)
 have hlt : k < σ'.length := (List.getElem?_eq_some_iff.1 (nthO_eq h2 rfl)).1
 refine ⟨[k], by simp, by simp [hlt], ?_, ?_⟩
 ·rw [h1]; exact WkV.tup (WkVL.cons (WkV.own rfl (by simp)) (WkVL.cons (WkV.imm rfl) WkVL.nil))
 ·rw [List.map_nil, List.append_nil]
  refine ⟨?_, fun _ => by rw [h2]; rfl, trivial⟩
  rw [h2]
  refine WkO.arrLe h3 fun i j hi hj => ?_
  obtain rfl : j = 0 := by omega
  rw [h4 i hi]; exact WkV.free (lmE_free n i 0)
set_option maxRecDepth 100000 in
set_option maxHeartbeats 4000000 in
theorem make_mk (n : Nat) (hn : n < 18446744073709551616) : Makes Tryz.prog 107 [.imm (.int .u64 (n : Int))] (.own 0 0 (lmN n) none) [natO (lmN n) n] := by
 refine natMk ?_
 have hl : lmN n ≤ 2 := lt_pow.1 (by rw [Bs_2]; exact hn)
 generalize hQ : (fun (v : AV) (σ' : List AObj) => ∃ k L c E',v = .own k 0 (lmN n) c ∧ nthO σ' k = .arr 179 1 L E' ∧ lmN n ≤ L ∧ ∀ i,i < lmN n → E' i 0 = lmE n i 0) = Q
 have w1 := wr32 n
 have w2 := wr32 (n / 4294967296)
 have w3 : (n : Int).fdiv 4294967296 = ((n / 4294967296 : Nat) : Int) := by rw [Int.fdiv_eq_ediv_of_nonneg _ (by omega)];omega
 have c1 := form_tu n 2 hl (by omega) (by omega)
 have ew1 : ∀ i j,i < 2 → j < 1 → nth [AV.imm (.int .u32 ((n % 4294967296 : Nat) : Int)),AV.imm (.int .u32 ((n / 4294967296 % 4294967296 : Nat) : Int))] (i * 1 + j) = lmE n i j := fun i j hi hj=>by
  obtain rfl : j = 0 := by omega
  rcases i with _ | _ | i
  ·simp [nth, lmE, lm, Bs]
  ·simp [nth, lmE, lm, Bs]
  ·omega
 (refine TC_of_T Γ_ok Tryz.func107 rfl (by kernel_rfl) ?_;simp only [Tryz.ntmps107,Tryz.results107,List.length_cons,List.length_nil,Nat.reduceSub,Nat.reduceAdd,List.replicate,List.cons_append,List.nil_append])
 repeat' (first
  | (with_reducible refine hK _ ?_; clear hK K)
  | ((refine callGoal_turns [0] trivial c1 (by decide) ?_ ?_ ⟨WkO.arr fun i j hi hj=>WkV.eqF (ew1 i j hi hj) (lmE_free _ _ _),fun _=>rfl,trivial⟩ ?_);(focus (simp [nthO,AObj.alive]));(focus (repeat' (first|exact WkVL.nil|refine WkVL.cons ?_ ?_|exact WkV.top|exact WkV.imm rfl|exact WkV.imm (by simp)|exact WkV.optr rfl|exact WkV.own rfl (by simp)|exact WkV.map rfl|(refine WkV.free ?_;simp [Free,FreeL] <;> assumption)|(refine WkV.free (fun _ _=>FreeL_nth ?_ _);simp [Free,FreeL];done)|refine WkV.agg ?_|refine WkV.tup ?_|refine WkV.fn ?_ ?_|exact WkO.dead|exact WkO.raw|refine WkO.ghost ?_|exact WkO.mpE rfl trivial|refine WkO.box ?_ rfl|refine WkO.arr ?_|refine And.intro ?_ (And.intro aF ?_)|exact trivial|(intro _ _ _ _))));try refine sgo ?_)
  | ((with_reducible apply DC_call);(focus exact rfl);(focus exact rfl);(focus exact rfl);intro N hN;refine sgo4 ?_)
  | ((with_reducible first|refine T_seq_region Γ_ok (fun K hK=>?_)|refine T_last_region Γ_ok (fun K hK=>?_)|refine TO_callN rfl (fun N hN=>?_)|refine DCT_fork Γ_ok (fun K2 hK2=>?_)|refine DCT_last Γ_ok ?_|refine DC_ev Γ_ok ?_|refine TO_ev Γ_ok ?_|refine retQ_r ?_|refine retQ_n ?_);refine sgo4 ?_)
  | (with_reducible refine hK2 _ ?_ ?_ <;> clear hK2 K2)
  | with_reducible first|refine gC_false ?_|refine gC_true ?_|refine dCall_true ?_
  | (with_reducible refine hN _ _ ?_; clear hN N)
  | (with_reducible refine hN _ _ (dInl rfl) ?_; clear hN N)
  | ((with_reducible refine hN _ _ (.inr ?_) ?_);(focus (refine sgo4 ?_;try exact True.intro));all_goals (try clear hN N))
  | with_reducible first|refine T_seq ?_|refine T_block ?_|refine T_ret ?_|refine T_exit ?_|refine T_skip ?_|refine T_label ?_
  | with_reducible first|refine thenQ_n ?_|refine thenQ_e ?_|refine thenQ_r ?_|refine blockQ_n ?_|refine blockQ_e ?_|refine blockQ_r ?_
  | with_reducible refine blockQ_o (by decide) ?_
  | ((with_reducible refine T_cond _ rfl (fun hb=>?_) (fun hb=>?_)) <;> first|(cases hb;done)|replace hb:=sgh hb|skip)
  | (with_reducible refine And.intro aG ?_)
  | assumption | omega | exact True.intro)
 rw [← hQ]
 exact ⟨_, 2, _, _, rfl, rfl, hl, fun _ _ => rfl⟩
end Go.Proofs.YtonmienclploaaaGreatDoor.Q
namespace Go.Proofs.YtonmienclploaaaGreatDoor.Q
open Go.Ab
def peE (a b i j k _q : Nat) : AV := .imm (.int .u32 ((pE a b i j k : Nat) : Int))
@[go_sem] theorem peE_us (a b i j k q : Nat) : peE a b i j k q = .imm (.int .u32 ((pE a b i j k : Nat) : Int)) := rfl
@[simp] theorem peE_free (a b i j k q : Nat) : Free (peE a b i j k q) := trivial
@[go_sem,reducible] def enP (a b L i : Nat) : List AV := [natV a,natV b,.top,.top,.imm (.slice none 0 0),.own 0 0 L (some L)] ++ List.replicate 12 .top ++ [natV a,.imm (.int .i64 (lmN a)),.imm (.int .i64 i)] ++ List.replicate 47 .top
@[go_sem,reducible] def enQ (a b L i x c j : Nat) : List AV := [natV a,natV b,.top,.top,.imm (.slice none 0 0),.own 0 0 L (some L),.imm (.int .i64 i),.imm (.int .u32 x),.imm (.int .u64 c)] ++ List.replicate 9 .top ++ [natV a,.imm (.int .i64 (lmN a)),.imm (.int .i64 i)] ++ List.replicate 4 .top ++
 [natV b, .imm (.int .i64 (lmN b)), .imm (.int .i64 j)] ++ List.replicate 40 .top
theorem pe_step {a b i j M s c : Nat} (hM : M = lm a i * lm b j) (hs : s = lm (a % Bs ^ i * b) (i + j)) (hc : c = mC (a % Bs ^ i * b) (lm a i) b i j) {k q : Nat} (hq : q < 1) :
  updE (peE a b i j) (i + j) 0 [.imm (.int .u32 (((M + s + c) % 4294967296 : Nat) : Int))] k q = peE a b i (j + 1) k q := by
 obtain rfl : q = 0 := by omega
 unfold updE peE
 rw [pE_s, ← hM, ← hs, ← hc]
 by_cases h : k = i + j
 ·subst h
  rw [if_pos ⟨rfl, by omega, by simp⟩, if_pos rfl]
  rfl
 ·rw [if_neg (by omega), if_neg h]
theorem pe_end {a b i c : Nat} (hc : c = mC (a % Bs ^ i * b) (lm a i) b i (lmN b)) {k q : Nat} (hq : q < 1) :
  updE (peE a b i (lmN b)) (i + lmN b) 0 [.imm (.int .u32 (c : Int))] k q = lmE (a % Bs ^ (i + 1) * b) k q := by
 obtain rfl : q = 0 := by omega
 unfold updE peE lmE
 rw [← pE_end, ← hc]
 by_cases h : k = i + lmN b
 ·subst h
  rw [if_pos ⟨rfl, by omega, by simp⟩, if_pos rfl]
  rfl
 ·rw [if_neg (by omega), if_neg h]
set_option maxRecDepth 100000 in
set_option maxHeartbeats 4000000 in
theorem product_mk (a b : Nat) (ha : lmN a ≤ 640) (hb' : lmN b ≤ 640) (hab : lmN (a * b) ≤ 640) : Makes Tryz.prog 133 [natV a,natV b] (.own 0 0 (lmN (a * b)) none) [natO (lmN (a * b)) (a * b)] := by
 refine natMk ?_
 generalize hQ : (fun (v : AV) (σ' : List AObj) => ∃ k L c E',v = .own k 0 (lmN (a * b)) c ∧ nthO σ' k = .arr 179 1 L E' ∧ lmN (a * b) ≤ L ∧ ∀ i,i < lmN (a * b) → E' i 0 = lmE (a * b) i 0) = Q
 obtain ⟨L, hL⟩ : ∃ L, L = lmN a + lmN b := ⟨_, rfl⟩
 have eL : (lmN a : Int) + (lmN b : Int) = (L : Int) := by omega
 have hml := mul_lmN a b
 (refine TC_of_T Γ_ok Tryz.func133 rfl (by kernel_rfl) ?_;simp only [Tryz.ntmps133,Tryz.results133,List.length_cons,List.length_nil,Nat.reduceSub,Nat.reduceAdd,List.replicate,List.cons_append,List.nil_append])
 (have sx1 := eL;have sx2:=sx0;((obtain ⟨sx3,sx4,sx5,sx6,sx7,sx8,sx9⟩:=sx0_7;refine goR9 _ _ _ _ _ _ _ _ ?_ ?_ ?_ ?_ ?_ ?_ ?_ ?_)<;>(repeat intro hb)<;>first|exact True.intro|refine Lf.mk ?_))
 refine T_loopW (fun m st => ∃ i : Nat, i ≤ lmN a ∧ m + i = lmN a ∧ st = ⟨enP a b L i, [natO L (a % Bs ^ i * b)]⟩)
  (lmN a) ⟨_, ?_, 0, by omega, rfl, rfl⟩ ?_
 ·((try refine sgl ?_);refine Wk.intro [0] (by decide) (by decide) wkH ?_ ?_ <;> repeat' (first|(exact WkV.eqF (by obtain rfl : j = 0 := (by omega);rw [Nat.pow_zero,Nat.mod_one,Nat.zero_mul];simp [nth,lmE,lm]) (lmE_free _ _ _))|refine WkVL.cons ?_ ?_|exact wkT|refine WkV.agg ?_|refine WkV.tup ?_|refine WkV.fn ?_ ?_|exact WkO.dead|exact WkO.raw|refine WkO.ghost ?_|exact WkO.mpE rfl trivial|refine WkO.box ?_ rfl|refine WkO.arr ?_|refine And.intro ?_ (And.intro aF ?_)|exact trivial|(intro i j hi hj)))
 rintro m st ⟨i, h0, h1, rfl⟩
 by_cases hi : i < lmN a
 ·obtain ⟨x, hx⟩ : ∃ x, x = lm a i := ⟨_, rfl⟩
  have hx2 : x < 4294967296 := by rw [hx]; exact lm_lt a i
  refine sgo ?_
  (((refine goR0 _ _ _ _ _ _ _ _ ?_ ?_ ?_ ?_ ?_ ?_ ?_ ?_)<;>(repeat intro hb)<;>first|exact True.intro|refine Lf.mk ?_))
  refine T_loopW (fun m st => ∃ j : Nat,j ≤ lmN b ∧ m + j = lmN b ∧ st = ⟨enQ a b L i x (mC (a % Bs ^ i * b) x b i j) j,[.arr 179 1 L (peE a b i j)]⟩)
   (lmN b) ⟨_, ?_, 0, by omega, rfl, rfl⟩ ?_
  ·rw [pC_0]
   ((try refine sgl ?_);refine Wk.intro [0] (by decide) (by decide) wkH ?_ ?_ <;> repeat' (first|(exact WkV.eqF (by unfold peE;rw [pE_0];rfl) (peE_free _ _ _ _ _ _))|(refine WkV.imm ?_;rw [hx])|refine WkVL.cons ?_ ?_|exact wkT|refine WkV.agg ?_|refine WkV.tup ?_|refine WkV.fn ?_ ?_|exact WkO.dead|exact WkO.raw|refine WkO.ghost ?_|exact WkO.mpE rfl trivial|refine WkO.box ?_ rfl|refine WkO.arr ?_|refine And.intro ?_ (And.intro aF ?_)|exact trivial|(intro i j hi hj)))
  rintro m2 st ⟨j, k0, k1, rfl⟩
  obtain ⟨c, hc⟩ : ∃ c, c = mC (a % Bs ^ i * b) x b i j := ⟨_, rfl⟩
  have hcx : c ≤ x := by rw [hc]; exact pC_le _ _ _ _ _
  rw [← hc]
  by_cases hj : j < lmN b
  ·obtain ⟨y, hy⟩ : ∃ y, y = lm b j := ⟨_, rfl⟩
   have hy2 : y < 4294967296 := by rw [hy]; exact lm_lt b j
   obtain ⟨s, hs⟩ : ∃ s, s = lm (a % Bs ^ i * b) (i + j) := ⟨_, rfl⟩
   have hs2 : s < 4294967296 := by rw [hs]; exact lm_lt _ _
   have hsm := mul_small (x := x) (y := y) (s := s) (c := c) hx2 hy2 hs2 hcx
   obtain ⟨M, hM⟩ : ∃ M, M = x * y := ⟨_, rfl⟩
   rw [← hM] at hsm
   have e1 : (x : Int) * (y : Int) = (M : Int) := by rw [hM]; exact (Int.natCast_mul x y).symm
   have e2 : ((i : Int) + (j : Int)).toNat = i + j := by omega
   have e3 : lm b j = y := hy.symm
   have e4 : pE a b i j (i + j) = s := by rw [pE_at, hs]
   have e5 : IntKind.u32.wrap ((M : Int) + (s : Int) + (c : Int)) = (((M + s + c) % 4294967296 : Nat) : Int) := wr32 (M + s + c)
   have e6 : ((M : Int) + (s : Int) + (c : Int)).fdiv 4294967296 = (((M + s + c) / 4294967296 : Nat) : Int) := by rw [Int.fdiv_eq_ediv_of_nonneg _ (by omega)];omega
   refine sgo ?_
   (have sx1 := e1;have sx2 := e2;have sx3 := e3;have sx4 := e4;have sx5 := e5;have sx6 := e6;((obtain ⟨sx7,sx8,sx9⟩:=sx0_3;refine goR9 _ _ _ _ _ _ _ _ ?_ ?_ ?_ ?_ ?_ ?_ ?_ ?_)<;>(repeat intro hb)<;>first|exact True.intro|refine Lf.mk ?_))
   have hM' : M = lm a i * lm b j := by rw [hM, hx, hy]
   have hc' : c = mC (a % Bs ^ i * b) (lm a i) b i j := by rw [hc, hx]
   have hcs : mC (a % Bs ^ i * b) x b i (j + 1) = (M + s + c) / 4294967296 := by rw [pC_s,← hs,← hc,← hy,← hM];rfl
   refine ⟨lmN b - (j + 1),by omega,⟨enQ a b L i x (mC (a % Bs ^ i * b) x b i (j + 1)) (j + 1),[.arr 179 1 L (peE a b i (j + 1))]⟩,?_,j + 1,by omega,by omega,rfl⟩
   rw [hcs]
   ((try refine sgl ?_);refine Wk.intro [0] (by decide) (by decide) wkH ?_ ?_ <;> repeat' (first|(exact WkV.eqF (pe_step hM' hs hc' hj) (peE_free _ _ _ _ _ _))|(refine WkV.imm ?_;congr 1;omega)|refine WkVL.cons ?_ ?_|exact wkT|refine WkV.agg ?_|refine WkV.tup ?_|refine WkV.fn ?_ ?_|exact WkO.dead|exact WkO.raw|refine WkO.ghost ?_|exact WkO.mpE rfl trivial|refine WkO.box ?_ rfl|refine WkO.arr ?_|refine And.intro ?_ (And.intro aF ?_)|exact trivial|(intro i j hi hj)))
  ·obtain rfl : j = lmN b := by omega
   have e2 : ((i : Int) + (lmN b : Int)).toNat = i + lmN b := by omega
   have e5 : IntKind.u32.wrap (c : Int) = (c : Int) := by rw [wr32]; congr 1; exact Nat.mod_eq_of_lt (by omega)
   have hc' : c = mC (a % Bs ^ i * b) (lm a i) b i (lmN b) := by rw [hc, hx]
   refine sgo ?_
   (have sx1 := e2;have sx2 := e5;((obtain ⟨sx3,sx4,sx5,sx6,sx7,sx8,sx9⟩:=sx0_7;refine goR9 _ _ _ _ _ _ _ _ ?_ ?_ ?_ ?_ ?_ ?_ ?_ ?_)<;>(repeat intro hb)<;>first|exact True.intro|refine Lf.mk ?_))
   refine ⟨lmN a - (i + 1), by omega, _, ?_, i + 1, by omega, by omega, rfl⟩
   ((try refine sgl ?_);refine Wk.intro [0] (by decide) (by decide) wkH ?_ ?_ <;> repeat' (first|(exact WkV.eqF (pe_end hc' hj) (lmE_free _ _ _))|(refine WkV.imm ?_;congr 1;omega)|refine WkVL.cons ?_ ?_|exact wkT|refine WkV.agg ?_|refine WkV.tup ?_|refine WkV.fn ?_ ?_|exact WkO.dead|exact WkO.raw|refine WkO.ghost ?_|exact WkO.mpE rfl trivial|refine WkO.box ?_ rfl|refine WkO.arr ?_|refine And.intro ?_ (And.intro aF ?_)|exact trivial|(intro i j hi hj)))
 ·obtain rfl : i = lmN a := by omega
  have c1 := form_tu (a * b) L (by omega) hab (by omega)
  rw [Nat.mod_eq_of_lt (lt_pow.2 (Nat.le_refl (lmN a)))]
  refine sgo ?_
  (have ct1 := TurnsAt.mk [0] (c1);((refine goR0 _ _ _ _ _ _ _ _ ?_ ?_ ?_ ?_ ?_ ?_ ?_ ?_)<;>(repeat intro hb)<;>first|exact True.intro|refine Lf.mk ?_))
  rw [← hQ]
  exact ⟨_, L, _, _, rfl, rfl, by omega, fun _ _ => rfl⟩
end Go.Proofs.YtonmienclploaaaGreatDoor.Q
namespace Go.Proofs.YtonmienclploaaaGreatDoor.Q
open Go.Ab
def cmpI (x y : Int) : Int := if x < y then -1 else if x > y then 1 else 0
set_option maxRecDepth 100000 in
set_option maxHeartbeats 4000000 in
theorem isNaN_tc (x : Int) : Look Tryz.prog 86 [.imm (.int .i64 x)] (.imm (.bool false)) := by
 refine Look.mk trivial ?_
 (refine TC_of_T Γ_ok Tryz.func86 rfl (by kernel_rfl) ?_;simp only [Tryz.ntmps86,Tryz.results86,List.length_cons,List.length_nil,Nat.reduceSub,Nat.reduceAdd,List.replicate,List.cons_append,List.nil_append])
 (((refine goR0 _ _ _ _ _ _ _ _ ?_ ?_ ?_ ?_ ?_ ?_ ?_ ?_)<;>(repeat intro hb)<;>first|exact True.intro|refine Lf.mk ?_))
 all_goals simp
set_option maxRecDepth 100000 in
set_option maxHeartbeats 4000000 in
theorem isNaNU_tc (x : Int) : Look Tryz.prog 135 [.imm (.int .u32 x)] (.imm (.bool false)) := by
 refine Look.mk trivial ?_
 (refine TC_of_T Γ_ok Tryz.func135 rfl (by kernel_rfl) ?_;simp only [Tryz.ntmps135,Tryz.results135,List.length_cons,List.length_nil,Nat.reduceSub,Nat.reduceAdd,List.replicate,List.cons_append,List.nil_append])
 (((refine goR0 _ _ _ _ _ _ _ _ ?_ ?_ ?_ ?_ ?_ ?_ ?_ ?_)<;>(repeat intro hb)<;>first|exact True.intro|refine Lf.mk ?_))
 all_goals simp
set_option maxRecDepth 100000 in
set_option maxHeartbeats 4000000 in
theorem cmp_tc (x y : Int) : Look Tryz.prog 59 [.imm (.int .i64 x),.imm (.int .i64 y)] (.imm (.int .i64 (cmpI x y))) := by
 refine Look.mk trivial ?_
 (refine TC_of_T Γ_ok Tryz.func59 rfl (by kernel_rfl) ?_;simp only [Tryz.ntmps59,Tryz.results59,List.length_cons,List.length_nil,Nat.reduceSub,Nat.reduceAdd,List.replicate,List.cons_append,List.nil_append])
 (have cl1 := fun u1 => isNaN_tc u1;((refine goR0 _ _ _ _ _ _ _ _ ?_ ?_ ?_ ?_ ?_ ?_ ?_ ?_)<;>(repeat intro hb)<;>first|exact True.intro|refine Lf.mk ?_))
 all_goals (congr 2; unfold cmpI)
 ·rw [if_pos hb]
 ·rename_i h; rw [if_neg (by omega), if_pos hb]
 ·rw [if_neg (by omega), if_neg (by omega)]
set_option maxRecDepth 100000 in
set_option maxHeartbeats 4000000 in
theorem cmpU_tc (x y : Int) : Look Tryz.prog 128 [.imm (.int .u32 x),.imm (.int .u32 y)] (.imm (.int .i64 (cmpI x y))) := by
 refine Look.mk trivial ?_
 (refine TC_of_T Γ_ok Tryz.func128 rfl (by kernel_rfl) ?_;simp only [Tryz.ntmps128,Tryz.results128,List.length_cons,List.length_nil,Nat.reduceSub,Nat.reduceAdd,List.replicate,List.cons_append,List.nil_append])
 (have cl1 := fun u1 => isNaNU_tc u1;((refine goR0 _ _ _ _ _ _ _ _ ?_ ?_ ?_ ?_ ?_ ?_ ?_ ?_)<;>(repeat intro hb)<;>first|exact True.intro|refine Lf.mk ?_))
 all_goals (congr 2; unfold cmpI)
 ·rw [if_pos hb]
 ·rename_i h; rw [if_neg (by omega), if_pos hb]
 ·rw [if_neg (by omega), if_neg (by omega)]
def cmpN (a b : Nat) : Int := if a < b then -1 else if a = b then 0 else 1
theorem cmpN_lt {a b : Nat} (h : a < b) : cmpN a b = -1 := if_pos h
theorem cmpN_gt {a b : Nat} (h : b < a) : cmpN a b = 1 := by unfold cmpN; rw [if_neg (by omega), if_neg (by omega)]
theorem cmpN_eq (a : Nat) : cmpN a a = 0 := by unfold cmpN; rw [if_neg (by omega), if_pos rfl]
theorem lmN_lt {a b : Nat} (h : lmN a < lmN b) : a < b := by
 rcases Nat.lt_or_ge a b with h2 | h2
 ·exact h2
 ·have := lmN_mono h2; omega
set_option maxRecDepth 100000 in
set_option maxHeartbeats 4000000 in
theorem compare_tc (a b : Nat) (ha : lmN a ≤ 640) (hb' : lmN b ≤ 640) : Look Tryz.prog 110 [natV a,natV b] (.imm (.int .i64 (cmpN a b))) := by
 refine Look.mk trivial ?_
 generalize hQ : cmpN a b = Q
 by_cases hl : lmN a = lmN b
 ·(refine TC_of_T Γ_ok Tryz.func110 rfl (by kernel_rfl) ?_;simp only [Tryz.ntmps110,Tryz.results110,List.length_cons,List.length_nil,Nat.reduceSub,Nat.reduceAdd,List.replicate,List.cons_append,List.nil_append])
  (repeat' (first|with_reducible refine T_seq_drawT (id := 6) Γ_ok drawsAny pl110_6 (by kernel_rfl) (fun K hK=>?_)|with_reducible refine T_last_drawT (id := 6) Γ_ok drawsAny pl110_6 (by kernel_rfl) (fun K hK=>?_)|with_reducible refine T_seq_drawT (id := 7) Γ_ok drawsAny pl110_7 (by kernel_rfl) (fun K hK=>?_)|with_reducible refine T_last_drawT (id := 7) Γ_ok drawsAny pl110_7 (by kernel_rfl) (fun K hK=>?_)|((refine goR0 _ _ _ _ _ _ _ _ ?_ ?_ ?_ ?_ ?_ ?_ ?_ ?_)<;>(repeat intro hb)<;>first|exact True.intro|refine Lf.mk ?_)))
  refine T_loopW (fun m st=>∃ n : Nat,n ≤ lmN a ∧ m = n ∧ (∀ j,n ≤ j → j < lmN a → lm a j = lm b j) ∧ st = ⟨[natV a,natV b,.top,.top,.imm (.int .i64 0),.imm (.int .i64 ((n : Int) - 1))] ++ List.replicate 35 .top,[]⟩)
   (lmN a) ⟨_, ?_, lmN a, by omega, rfl, fun j h1 h2 => by omega, rfl⟩ ?_
  ·((try refine sgl ?_);exact wkI [])
  rintro m st ⟨n, h0, rfl, h1, rfl⟩
  have hA : a < Bs ^ lmN a := lt_pow.2 (Nat.le_refl _)
  have hB : b < Bs ^ lmN a := lt_pow.2 (by omega)
  match m, h0, h1 with
  | 0, h0, h1 =>
   have hq : Q = 0 := by
    rw [← hQ, lm_ext hA hB fun i hi => h1 i (by omega) hi]; exact cmpN_eq b
   subst hq
   refine sgo ?_
   (repeat' (first|with_reducible refine T_seq_drawT (id := 6) Γ_ok drawsAny pl110_6 (by kernel_rfl) (fun K hK=>?_)|with_reducible refine T_last_drawT (id := 6) Γ_ok drawsAny pl110_6 (by kernel_rfl) (fun K hK=>?_)|with_reducible refine T_seq_drawT (id := 7) Γ_ok drawsAny pl110_7 (by kernel_rfl) (fun K hK=>?_)|with_reducible refine T_last_drawT (id := 7) Γ_ok drawsAny pl110_7 (by kernel_rfl) (fun K hK=>?_)|((refine goR0 _ _ _ _ _ _ _ _ ?_ ?_ ?_ ?_ ?_ ?_ ?_ ?_)<;>(repeat intro hb)<;>first|exact True.intro|refine Lf.mk ?_)))
  | k + 1, h0, h1 =>
   have e1 : (((k + 1 : Nat) : Int) - 1) = (k : Int) := by omega
   rw [e1]
   have c1 := cmpU_tc (lm a k : Int) (lm b k : Int)
   refine sgo ?_
   (have cl1 := c1;repeat' (first|with_reducible refine T_seq_drawT (id := 6) Γ_ok drawsAny pl110_6 (by kernel_rfl) (fun K hK=>?_)|with_reducible refine T_last_drawT (id := 6) Γ_ok drawsAny pl110_6 (by kernel_rfl) (fun K hK=>?_)|with_reducible refine T_seq_drawT (id := 7) Γ_ok drawsAny pl110_7 (by kernel_rfl) (fun K hK=>?_)|with_reducible refine T_last_drawT (id := 7) Γ_ok drawsAny pl110_7 (by kernel_rfl) (fun K hK=>?_)|((refine goR0 _ _ _ _ _ _ _ _ ?_ ?_ ?_ ?_ ?_ ?_ ?_ ?_)<;>(repeat intro hb)<;>first|exact True.intro|refine Lf.mk ?_)))
   ·rw [← hQ]
    unfold cmpI
    rcases Nat.lt_trichotomy (lm a k) (lm b k) with h2 | h2 | h2
    ·rw [if_pos (by omega), cmpN_lt (lm_cmp hA hB h0 (fun j q1 q2 => h1 j (by omega) q2) h2)]
    ·omega
    ·rw [if_neg (by omega),if_pos (by omega),cmpN_gt (lm_cmp hB hA h0 (fun j q1 q2 => (h1 j (by omega) q2).symm) h2)]
   ·refine ⟨k, by omega, _, ?_, k, by omega, rfl, fun j q1 q2 => ?_, rfl⟩
    ·((try refine sgl ?_);refine Wk.intro [] (by decide) (by decide) wkH ?_ ?_ <;> repeat' (first|(refine WkV.imm ?_;congr 1;omega)|refine WkVL.cons ?_ ?_|exact wkT|refine WkV.agg ?_|refine WkV.tup ?_|refine WkV.fn ?_ ?_|exact WkO.dead|exact WkO.raw|refine WkO.ghost ?_|exact WkO.mpE rfl trivial|refine WkO.box ?_ rfl|refine WkO.arr ?_|refine And.intro ?_ (And.intro aF ?_)|exact trivial|(intro i j hi hj)))
    ·by_cases e : j = k
     ·subst e; omega
     ·exact h1 j (by omega) q2
 ·have c1 := cmp_tc (lmN a : Int) (lmN b : Int)
  (refine TC_of_T Γ_ok Tryz.func110 rfl (by kernel_rfl) ?_;simp only [Tryz.ntmps110,Tryz.results110,List.length_cons,List.length_nil,Nat.reduceSub,Nat.reduceAdd,List.replicate,List.cons_append,List.nil_append])
  (have cl1 := c1;repeat' (first|with_reducible refine T_seq_drawT (id := 6) Γ_ok drawsAny pl110_6 (by kernel_rfl) (fun K hK=>?_)|with_reducible refine T_last_drawT (id := 6) Γ_ok drawsAny pl110_6 (by kernel_rfl) (fun K hK=>?_)|with_reducible refine T_seq_drawT (id := 7) Γ_ok drawsAny pl110_7 (by kernel_rfl) (fun K hK=>?_)|with_reducible refine T_last_drawT (id := 7) Γ_ok drawsAny pl110_7 (by kernel_rfl) (fun K hK=>?_)|((refine goR0 _ _ _ _ _ _ _ _ ?_ ?_ ?_ ?_ ?_ ?_ ?_ ?_)<;>(repeat intro hb)<;>first|exact True.intro|refine Lf.mk ?_)))
  rw [← hQ]
  refine congrArg (fun x => AV.imm (.int .i64 x)) ?_
  unfold cmpI
  rcases Nat.lt_or_ge (lmN a) (lmN b) with h | h
  ·rw [if_pos (by omega), cmpN_lt (lmN_lt h)]
  ·rw [if_neg (by omega), if_pos (by omega), cmpN_gt (lmN_lt (by omega))]
set_option maxRecDepth 100000 in
set_option maxHeartbeats 4000000 in
theorem ncmp_tc (a b : Nat) (ha : lmN a ≤ 640) (hb' : lmN b ≤ 640) : Look Tryz.prog 75 [natV a,natV b] (.tup [.imm (.int .i64 (cmpN a b)),.imm (.int .i64 0)]) := by
 refine Look.mk (by simp [Pl, PlL]) ?_
 have c1 := valid_tc a ha
 have c2 := valid_tc b hb'
 have c3 := compare_tc a b ha hb'
 (refine TC_of_T Γ_ok Tryz.func75 rfl (by kernel_rfl) ?_;simp only [Tryz.ntmps75,Tryz.results75,List.length_cons,List.length_nil,Nat.reduceSub,Nat.reduceAdd,List.replicate,List.cons_append,List.nil_append])
 (have dl1 := c1;have dl2 := c2;have cl1 := c3;((refine goR0 _ _ _ _ _ _ _ _ ?_ ?_ ?_ ?_ ?_ ?_ ?_ ?_)<;>(repeat intro hb)<;>first|exact True.intro|refine Lf.mk ?_))
end Go.Proofs.YtonmienclploaaaGreatDoor.Q
