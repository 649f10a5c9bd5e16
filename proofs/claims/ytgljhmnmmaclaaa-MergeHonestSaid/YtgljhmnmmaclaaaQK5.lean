/-
  math/bits.Len, nextPowerOfTwo, xorshift.Next, breakPatternsCmpFunc.
-/
import Derived.Test.YtgljhmnmmaclaaaQGo
import Derived.Test.YtgljhmnmmaclaaaQK4
import Derived.Sort.LotD5
set_option linter.unusedSimpArgs false
set_option linter.unusedVariables false
namespace Go.Proofs.Ytgljhmnmmaclaaa
open Go.Ab Go.Sort
theorem wrapU8 {x : Int} (h1 : 0 ≤ x) (h2 : x < 256) : IntKind.u8.wrap x = x := by
  unfold IntKind.wrap
  simp only [IntKind.bits, IntKind.signed]
  simp
  omega
theorem wrap64N (x : Nat) : IntKind.u64.wrap (x : Int) = ((x % 18446744073709551616 : Nat) : Int) := by
  unfold IntKind.wrap
  simp only [IntKind.bits, IntKind.signed]
  simp
theorem ofInt64 {a : Nat} (h : a < 18446744073709551616) : (BitVec.ofInt 64 (a : Int)).toNat = a := by simp [BitVec.toNat_ofInt];omega
theorem bxor64 {a b : Nat} (ha : a < 18446744073709551616) (hb : b < 18446744073709551616) : bits .xor .u64 (a : Int) (b : Int) = ((a ^^^ b : Nat) : Int) := by
  have hx : a ^^^ b < 2 ^ 64 := Nat.xor_lt_two_pow (by omega) (by omega)
  show IntKind.u64.wrap (((BitVec.ofInt 64 (a : Int) ^^^ BitVec.ofInt 64 (b : Int)).toNat : Nat) : Int) = _
  rw [BitVec.toNat_xor, ofInt64 ha, ofInt64 hb, wrap64N, Nat.mod_eq_of_lt (by omega)]
theorem band64 {a b : Nat} (ha : a < 18446744073709551616) (hb : b < 18446744073709551616) : bits .and .u64 (a : Int) (b : Int) = ((a &&& b : Nat) : Int) := by
  have hx : a &&& b ≤ a := Nat.and_le_left
  show IntKind.u64.wrap (((BitVec.ofInt 64 (a : Int) &&& BitVec.ofInt 64 (b : Int)).toNat : Nat) : Int) = _
  rw [BitVec.toNat_and, ofInt64 ha, ofInt64 hb, wrap64N, Nat.mod_eq_of_lt (by omega)]
@[go_sem, reducible] def xsB (r : Nat) : AObj := .box 147 [.imm (.int .u64 r)]
set_option maxRecDepth 100000 in
set_option maxHeartbeats 4000000 in
theorem next_tc (X : Nat) (hX : X < 18446744073709551616) : TC Try.prog 76 [.optr 0 0 0] [xsB X] (fun v σ' => v = .imm (.int .u64 (xorNextN X : Nat)) ∧ σ' = [xsB (xorNextN X)]) := by
  obtain ⟨A, hA⟩ : ∃ A : Nat, A = X ^^^ (X * 8192 % 18446744073709551616) := ⟨_, rfl⟩
  obtain ⟨B, hB⟩ : ∃ B : Nat, B = A ^^^ (A / 128) := ⟨_, rfl⟩
  obtain ⟨C, hC⟩ : ∃ C : Nat, C = B ^^^ (B * 131072 % 18446744073709551616) := ⟨_, rfl⟩
  have lA : A < 18446744073709551616 := by rw [hA]; exact Nat.xor_lt_two_pow (n := 64) (by omega) (by omega)
  have lB : B < 18446744073709551616 := by rw [hB]; exact Nat.xor_lt_two_pow (n := 64) (by omega) (by omega)
  have e1 : bits .xor .u64 (X : Int) (IntKind.u64.wrap ((X : Int) * 2 ^ min 13 64)) = (A : Int) := by
    rw [show ((X : Int) * 2 ^ min 13 64) = ((X * 8192 : Nat) : Int) by simp, wrap64N, bxor64 hX (by omega), hA]
  have e2 : bits .xor .u64 (A : Int) ((A : Int).fdiv (2 ^ min 7 64)) = (B : Int) := by
    rw [show ((A : Int).fdiv (2 ^ min 7 64)) = ((A / 128 : Nat) : Int) by rw [show min 7 64 = 7 by decide,Int.fdiv_eq_ediv_of_nonneg _ (by omega)];omega,bxor64 lA (by omega),hB]
  have e3 : bits .xor .u64 (B : Int) (IntKind.u64.wrap ((B : Int) * 2 ^ min 17 64)) = (C : Int) := by
    rw [show ((B : Int) * 2 ^ min 17 64) = ((B * 131072 : Nat) : Int) by simp, wrap64N, bxor64 lB (by omega), hC]
  have hv : xorNextN X = C := by unfold xorNextN; simp only []; rw [← hA, ← hB, ← hC]
  rw [hv]
  clear hA hB hC hv
  (refine TC_of_T Γ_ok Try.func76 rfl (by kernel_rfl) ?_;simp only [Try.ntmps76,Try.results76,List.length_cons,List.length_nil,Nat.reduceSub,Nat.reduceAdd,List.replicate,List.cons_append,List.nil_append])
  (have sx1 := e1;have sx2 := e2;have sx3 := e3;have sx4 : (0 : Nat) + 0 = 0 := rfl;repeat' (first|with_reducible refine T_seq_drawT (id := 1) Γ_ok drawsAny pl76_1 (by kernel_rfl) (fun K hK=>?_)|with_reducible refine T_last_drawT (id := 1) Γ_ok drawsAny pl76_1 (by kernel_rfl) (fun K hK=>?_)|with_reducible refine T_seq_drawT (id := 2) Γ_ok drawsAny pl76_2 (by kernel_rfl) (fun K hK=>?_)|with_reducible refine T_last_drawT (id := 2) Γ_ok drawsAny pl76_2 (by kernel_rfl) (fun K hK=>?_)|with_reducible refine T_seq_drawT (id := 3) Γ_ok drawsAny pl76_3 (by kernel_rfl) (fun K hK=>?_)|with_reducible refine T_last_drawT (id := 3) Γ_ok drawsAny pl76_3 (by kernel_rfl) (fun K hK=>?_)|((have sx5 : (0 : Nat) + 0 = 0 := rfl;have sx6 : (0 : Nat) + 0 = 0 := rfl;have sx7 : (0 : Nat) + 0 = 0 := rfl;have sx8 : (0 : Nat) + 0 = 0 := rfl;have sx9 : (0 : Nat) + 0 = 0 := rfl;refine goR9 _ _ _ _ _ _ _ _ ?_ ?_ ?_ ?_ ?_ ?_ ?_ ?_) <;> (repeat intro hb) <;> first|exact True.intro|refine Lf.mk ?_)))
theorem next_tu (X : Nat) (hX : X < 18446744073709551616) : Turns Try.prog 76 [.optr 0 0 0] [xsB X] (.imm (.int .u64 (xorNextN X : Nat))) [xsB (xorNextN X)] :=
  ⟨next_tc X hX, by simp [VF], fun a ha => by simp only [List.mem_singleton] at ha; subst ha; simp [VFO, VFL, VF]⟩
theorem tab_len {s : ByteArray} (hs : ∀ i : Fin 256,strAt s (i.val : Int) = (bitsLen i.val : Int)) {x : Nat} (h : x < 256) : strAt s (x : Int) = (bitsLen x : Int) := hs ⟨x,h⟩
theorem bitsLen_256 {x : Nat} (h : 256 ≤ x) : bitsLen x = 8 + bitsLen (x / 256) := by
  unfold bitsLen
  rw [if_neg (by omega), if_neg (by omega)]
  rw [Nat.log2_def x,if_pos (by omega),Nat.log2_def (x / 2),if_pos (by omega),Nat.log2_def (x / 2 / 2),if_pos (by omega),Nat.log2_def (x / 2 / 2 / 2),if_pos (by omega),Nat.log2_def (x / 2 / 2 / 2 / 2),if_pos (by omega),
    Nat.log2_def (x / 2 / 2 / 2 / 2 / 2),if_pos (by omega),Nat.log2_def (x / 2 / 2 / 2 / 2 / 2 / 2),if_pos (by omega),Nat.log2_def (x / 2 / 2 / 2 / 2 / 2 / 2 / 2),if_pos (by omega)]
  simp only [Nat.div_div_eq_div_mul, Nat.reduceMul]
  omega
theorem bitsLen_small {x : Nat} (h : x < 65536) : bitsLen x ≤ 16 := (bitsLen_le_iff x 16).2 (by omega)
theorem u8_range (x : Int) : 0 ≤ IntKind.u8.wrap x ∧ IntKind.u8.wrap x < 256 := by
  unfold IntKind.wrap
  simp only [IntKind.bits, IntKind.signed]
  simp
  omega
theorem tab_hi {s : ByteArray} (hs : ∀ i : Fin 256,strAt s (i.val : Int) = (bitsLen i.val : Int)) {x : Nat} (h : x < 65536) (h2 : 256 ≤ x) : IntKind.i64.wrap (0 + 8 + IntKind.i64.wrap (strAt s (IntKind.u8.wrap ((x : Int).fdiv (2 ^ min 8 64))))) = (bitsLen x : Int) := by
  have e : IntKind.u8.wrap ((x : Int).fdiv (2 ^ min 8 64)) = ((x / 256 : Nat) : Int) := by
    rw [show min 8 64 = 8 by decide, Int.fdiv_eq_ediv_of_nonneg _ (by omega), wrapU8 (by omega) (by omega)]; omega
  have hq := bitsLen_small (x := x / 256) (by omega)
  rw [e,tab_len hs (by omega),bitsLen_256 h2,wrapI (x := (bitsLen (x / 256) : Int)) (by omega) (by omega),wrapI (by omega) (by omega)]
  omega
theorem tab_lo {s : ByteArray} (hs : ∀ i : Fin 256,strAt s (i.val : Int) = (bitsLen i.val : Int)) {x : Nat} (h2 : x < 256) : IntKind.i64.wrap (0 + IntKind.i64.wrap (strAt s (IntKind.u8.wrap (x : Int)))) = (bitsLen x : Int) := by
  have hq := bitsLen_small (x := x) (by omega)
  rw [wrapU8 (by omega) (by omega),tab_len hs (by omega),wrapI (x := (bitsLen x : Int)) (by omega) (by omega),wrapI (by omega) (by omega)]
  omega
set_option maxRecDepth 100000 in
set_option maxHeartbeats 4000000 in
theorem len64_tc (x : Nat) (hx : x < 65536) : Look Try.prog 69 [.imm (.int .u64 x)] (.imm (.int .i64 (bitsLen x : Nat))) := by
  have w1 := u8_range (x : Int)
  have w2 := u8_range ((x : Int).fdiv 256)
  refine Look.mk trivial ?_
  (refine TC_of_T Γ_ok Try.func69 rfl (by kernel_rfl) ?_;simp only [Try.ntmps69,Try.results69,List.length_cons,List.length_nil,Nat.reduceSub,Nat.reduceAdd,List.replicate,List.cons_append,List.nil_append])
  (((refine goR0 _ _ _ _ _ _ _ _ ?_ ?_ ?_ ?_ ?_ ?_ ?_ ?_) <;> (repeat intro hb) <;> first | exact True.intro | refine Lf.mk ?_))
  · exact congrArg (fun z : Int => AV.imm (.int .i64 z)) (tab_hi (by decide +kernel) hx (by omega))
  · exact congrArg (fun z : Int => AV.imm (.int .i64 z)) (tab_lo (by decide +kernel) (by omega))
set_option maxRecDepth 100000 in
set_option maxHeartbeats 4000000 in
theorem len_tc (x : Nat) (hx : x < 65536) : Look Try.prog 52 [.imm (.int .u64 x)] (.imm (.int .i64 (bitsLen x : Nat))) := by
  refine Look.mk trivial ?_
  (refine TC_of_T Γ_ok Try.func52 rfl (by kernel_rfl) ?_;simp only [Try.ntmps52,Try.results52,List.length_cons,List.length_nil,Nat.reduceSub,Nat.reduceAdd,List.replicate,List.cons_append,List.nil_append])
  (have cl1 := len64_tc x hx;((refine goR0 _ _ _ _ _ _ _ _ ?_ ?_ ?_ ?_ ?_ ?_ ?_ ?_) <;> (repeat intro hb) <;> first | exact True.intro | refine Lf.mk ?_))
set_option maxRecDepth 100000 in
set_option maxHeartbeats 4000000 in
theorem pow2_tc (x : Nat) (hx : x < 65536) : Look Try.prog 75 [.imm (.int .i64 x)] (.imm (.int .u64 (2 ^ bitsLen x : Nat))) := by
  have hq := bitsLen_small hx
  have e1 : min (bitsLen x) 64 = bitsLen x := by omega
  have hp : 2 ^ bitsLen x ≤ 2 ^ 16 := Nat.pow_le_pow_right (by omega) hq
  have e2 : IntKind.u64.wrap ((2 : Int) ^ bitsLen x) = ((2 ^ bitsLen x : Nat) : Int) := by
    rw [show ((2 : Int) ^ bitsLen x) = ((2 ^ bitsLen x : Nat) : Int) by push_cast;rfl,wrap64N,Nat.mod_eq_of_lt (by omega)]
  refine Look.mk trivial ?_
  (refine TC_of_T Γ_ok Try.func75 rfl (by kernel_rfl) ?_;simp only [Try.ntmps75,Try.results75,List.length_cons,List.length_nil,Nat.reduceSub,Nat.reduceAdd,List.replicate,List.cons_append,List.nil_append])
  (have cl1 := len_tc x hx;((refine goR0 _ _ _ _ _ _ _ _ ?_ ?_ ?_ ?_ ?_ ?_ ?_ ?_) <;> (repeat intro hb) <;> first | exact True.intro | refine Lf.mk ?_))
  rw [e1, Int.one_mul, e2]
def bsR (d : Array El) (a L s : Nat) : Nat → UInt64 × Array El
  | 0 => (UInt64.ofNat L, d)
  | k + 1 => breakStep a L (1 <<< bitsLen L) (bsR d a L s k) (s + k)
theorem break_bsR (d : Array El) (a b : Nat) (h : b - a ≥ 8) : breakPatterns d a b = (bsR d a (b - a) (a + (b - a) / 4 * 2 - 1) 3).2 := by
  unfold breakPatterns
  simp only []
  rw [if_pos h]
  rfl
theorem bsR_size (d : Array El) (a L s : Nat) (k : Nat) : (bsR d a L s k).2.size = d.size := by
  induction k with
  | zero => rfl
  | succ k ih => exact (size_swp _ _ _).trans ih
def othN (R L : Nat) : Nat := if (xorNextN R &&& (2 ^ bitsLen L - 1)) ≥ L then (xorNextN R &&& (2 ^ bitsLen L - 1)) - L else (xorNextN R &&& (2 ^ bitsLen L - 1))
theorem breakStep_eq (a L idx : Nat) (st : UInt64 × Array El) : breakStep a L (1 <<< bitsLen L) st idx = (xorNext st.1,swp st.2 idx (a + othN st.1.toNat L)) := by
  unfold breakStep othN
  simp only [xorNext_toNat, Nat.one_shiftLeft]
set_option maxRecDepth 100000 in
set_option maxHeartbeats 4000000 in
theorem break_raw (n : Nat) (d : Array El) (hd : d.size = n) (hn : n ≤ 60000) (a b : Nat) (hab : 12 < b - a) (hbn : b ≤ n) : TC Try.prog 62 [elV n,.imm (.int .i64 a),.imm (.int .i64 b),cmpF] [elO n d]
    (fun v σ' => ∃ x, v = .tup [] ∧ σ' = [elO n (breakPatterns d a b), x]) := by
  have e0 : ((b : Int) - (a : Int)) = ((b - a : Nat) : Int) := by omega
  rw [break_bsR d a b (by omega)]
  obtain ⟨L, hL⟩ : ∃ L, L = b - a := ⟨_, rfl⟩
  rw [← hL] at e0 ⊢
  have e1 : ((L : Int)).tdiv 4 = ((L / 4 : Nat) : Int) := by rw [Int.tdiv_eq_ediv_of_nonneg (by omega)]; omega
  obtain ⟨s, hs⟩ : ∃ s, s = a + L / 4 * 2 - 1 := ⟨_, rfl⟩
  rw [← hs]
  have hq := bitsLen_small (x := L) (by omega)
  have hM : 2 ^ bitsLen L ≤ 2 * L := two_pow_bitsLen_le (by omega)
  have hM1 : L < 2 ^ bitsLen L := lt_two_pow_bitsLen L
  have e2 : IntKind.u64.wrap (L : Int) = (L : Int) := wrapU (by omega) (by omega)
  (refine TC_of_T Γ_ok Try.func62 rfl (by kernel_rfl) ?_;simp only [Try.ntmps62,Try.results62,List.length_cons,List.length_nil,Nat.reduceSub,Nat.reduceAdd,List.replicate,List.cons_append,List.nil_append])
  (have cl1 := pow2_tc L (by omega);have sx1 := e0;have sx2 := e1;have sx3 := e2;have sx4 : (0 : Nat) + 0 = 0 := rfl;repeat' (first|with_reducible refine T_seq_drawT (id := 10) Γ_ok drawsAny pl62_10 (by kernel_rfl) (fun K hK=>?_)|with_reducible refine T_last_drawT (id := 10) Γ_ok drawsAny pl62_10 (by kernel_rfl) (fun K hK=>?_)|((have sx5 : (0 : Nat) + 0 = 0 := rfl;have sx6 : (0 : Nat) + 0 = 0 := rfl;have sx7 : (0 : Nat) + 0 = 0 := rfl;have sx8 : (0 : Nat) + 0 = 0 := rfl;have sx9 : (0 : Nat) + 0 = 0 := rfl;refine goR9 _ _ _ _ _ _ _ _ ?_ ?_ ?_ ?_ ?_ ?_ ?_ ?_) <;> (repeat intro hb) <;> first|exact True.intro|refine Lf.mk ?_)))
  refine T_loopW (fun m st=>∃ (k : Nat),k ≤ 3 ∧ m = 3 - k ∧ st = ⟨[elV n,.imm (.int .i64 a),.imm (.int .i64 b),cmpF,.top,.top,.top,.top,.imm (.int .i64 L),.optr 1 0 0,.imm (.int .u64 (2 ^ bitsLen L : Nat)),.imm (.int .i64 (s + k : Nat))] ++ List.replicate 55 .top,[elO n (bsR d a L s k).2,xsB (bsR d a L s k).1.toNat]⟩) 3 ⟨_,?_,0,by omega,rfl,rfl⟩ ?_
  · rw [show (bsR d a L s 0).1.toNat = L by simp [bsR]; omega]
    ((try simp only [List.length_append,List.length_cons,List.length_nil,Nat.zero_add]);refine Wk.intro [0,1] (by decide) (by decide) (by intro o ho;simp at ho ⊢ <;> omega) ?_ ?_ <;> repeat' (first|(refine WkV.imm ?_;congr 1;omega)|exact WkVL.nil|refine WkVL.cons ?_ ?_|exact WkV.top|exact WkV.imm rfl|exact WkV.imm (by simp)|exact WkV.optr rfl|exact WkV.own rfl (by simp)|exact WkV.nil_own (.inl rfl)|exact WkV.map rfl|(refine WkV.free ?_;simp [Free,FreeL] <;> assumption)|(refine WkV.free (fun _ _=>FreeL_nth ?_ _);simp [Free,FreeL];done)|refine WkV.agg ?_|refine WkV.tup ?_|refine WkV.fn ?_ ?_|exact WkO.dead|exact WkO.raw|refine WkO.ghost ?_|exact WkO.mpE rfl trivial|refine WkO.box ?_ rfl|refine WkO.arr ?_|refine And.intro ?_ (And.intro (by first|exact fun h=>h|exact fun _=>rfl|exact nofun) ?_)|exact trivial|(intro i j hi hj)))
  rintro m st ⟨k, h1, h2, rfl⟩
  have hsz : (bsR d a L s k).2.size = n := (bsR_size _ _ _ _ _).trans hd
  have hst := breakStep_eq a L (s + k) (bsR d a L s k)
  have hR : (bsR d a L s k).1.toNat < 18446744073709551616 := UInt64.toNat_lt _
  have hnx := xorNext_toNat (bsR d a L s k).1
  generalize hE : (bsR d a L s k).2 = e at *
  generalize hRR : (bsR d a L s k).1.toNat = R at *
  have f1 : IntKind.u64.wrap (((2 ^ bitsLen L : Nat) : Int) - 1) = ((2 ^ bitsLen L - 1 : Nat) : Int) := by
    rw [show (((2 ^ bitsLen L : Nat) : Int) - 1) = ((2 ^ bitsLen L - 1 : Nat) : Int) by omega,wrapU (by omega) (by omega)]
  have f2 := band64 (xorNextN_lt R hR) (b := 2 ^ bitsLen L - 1) (by omega)
  have hO : xorNextN R &&& (2 ^ bitsLen L - 1) ≤ 2 ^ bitsLen L - 1 := Nat.and_le_right
  unfold othN at hst
  generalize hOO : xorNextN R &&& (2 ^ bitsLen L - 1) = O at *
  by_cases hc : O ≥ L
  · rw [if_pos hc] at hst
    have f3 : ((a : Int) + ((O : Int) - (L : Int))).toNat = a + (O - L) := by omega
    have f4 : ((s : Int) + (k : Int)).toNat = s + k := by omega
    (simp only [go_sem,↓reduceIte,Nat.reduceAdd,Nat.reduceSub,Nat.reduceMul,Nat.reduceLT,Nat.reduceLeDiff,Nat.reduceEqDiff,Nat.reduceGT,Int.reduceToNat,Int.reduceBEq,Int.reduceBNe];try simp (disch := omega) only [wrapI,wrapU,half_sum,toNat_sub1,toNat_add1,Int.toNat_natCast])
    (have ct1 := TurnsAt.mk [1] (next_tu R hR);have sx1 := e0;have sx2 := e1;have sx3 := f1;have sx4 := f2;have sx5 := f3;have sx6 := f4;repeat' (first|with_reducible refine T_seq_drawT (id := 10) Γ_ok drawsAny pl62_10 (by kernel_rfl) (fun K hK=>?_)|with_reducible refine T_last_drawT (id := 10) Γ_ok drawsAny pl62_10 (by kernel_rfl) (fun K hK=>?_)|((have sx7 : (0 : Nat) + 0 = 0 := rfl;have sx8 : (0 : Nat) + 0 = 0 := rfl;have sx9 : (0 : Nat) + 0 = 0 := rfl;refine goR9 _ _ _ _ _ _ _ _ ?_ ?_ ?_ ?_ ?_ ?_ ?_ ?_) <;> (repeat intro hb) <;> first|exact True.intro|refine Lf.mk ?_)))
    · refine ⟨3 - (k + 1), by omega, _, ?_, k + 1, by omega, rfl, rfl⟩
      rw [show bsR d a L s (k + 1) = _ from hst]
      simp only [hnx]
      ((try simp only [List.length_append,List.length_cons,List.length_nil,Nat.zero_add]);refine Wk.intro [0,1] (by decide) (by decide) (by intro o ho;simp at ho ⊢ <;> omega) ?_ ?_ <;> repeat' (first|(refine WkV.imm ?_;congr 1;omega)|(exact WkV.eqF (swp_elE (by omega) (by omega) _ _) (by simp))|exact WkVL.nil|refine WkVL.cons ?_ ?_|exact WkV.top|exact WkV.imm rfl|exact WkV.imm (by simp)|exact WkV.optr rfl|exact WkV.own rfl (by simp)|exact WkV.nil_own (.inl rfl)|exact WkV.map rfl|(refine WkV.free ?_;simp [Free,FreeL] <;> assumption)|(refine WkV.free (fun _ _=>FreeL_nth ?_ _);simp [Free,FreeL];done)|refine WkV.agg ?_|refine WkV.tup ?_|refine WkV.fn ?_ ?_|exact WkO.dead|exact WkO.raw|refine WkO.ghost ?_|exact WkO.mpE rfl trivial|refine WkO.box ?_ rfl|refine WkO.arr ?_|refine And.intro ?_ (And.intro (by first|exact fun h=>h|exact fun _=>rfl|exact nofun) ?_)|exact trivial|(intro i j hi hj)))
    · obtain rfl : k = 3 := by omega
      rw [hE]
      exact ⟨_, rfl⟩
  · rw [if_neg hc] at hst
    have f3 : ((a : Int) + (O : Int)).toNat = a + O := by omega
    have f4 : ((s : Int) + (k : Int)).toNat = s + k := by omega
    (simp only [go_sem,↓reduceIte,Nat.reduceAdd,Nat.reduceSub,Nat.reduceMul,Nat.reduceLT,Nat.reduceLeDiff,Nat.reduceEqDiff,Nat.reduceGT,Int.reduceToNat,Int.reduceBEq,Int.reduceBNe];try simp (disch := omega) only [wrapI,wrapU,half_sum,toNat_sub1,toNat_add1,Int.toNat_natCast])
    (have ct1 := TurnsAt.mk [1] (next_tu R hR);have sx1 := e0;have sx2 := e1;have sx3 := f1;have sx4 := f2;have sx5 := f3;have sx6 := f4;repeat' (first|with_reducible refine T_seq_drawT (id := 10) Γ_ok drawsAny pl62_10 (by kernel_rfl) (fun K hK=>?_)|with_reducible refine T_last_drawT (id := 10) Γ_ok drawsAny pl62_10 (by kernel_rfl) (fun K hK=>?_)|((have sx7 : (0 : Nat) + 0 = 0 := rfl;have sx8 : (0 : Nat) + 0 = 0 := rfl;have sx9 : (0 : Nat) + 0 = 0 := rfl;refine goR9 _ _ _ _ _ _ _ _ ?_ ?_ ?_ ?_ ?_ ?_ ?_ ?_) <;> (repeat intro hb) <;> first|exact True.intro|refine Lf.mk ?_)))
    · refine ⟨3 - (k + 1), by omega, _, ?_, k + 1, by omega, rfl, rfl⟩
      rw [show bsR d a L s (k + 1) = _ from hst]
      simp only [hnx]
      ((try simp only [List.length_append,List.length_cons,List.length_nil,Nat.zero_add]);refine Wk.intro [0,1] (by decide) (by decide) (by intro o ho;simp at ho ⊢ <;> omega) ?_ ?_ <;> repeat' (first|(refine WkV.imm ?_;congr 1;omega)|(exact WkV.eqF (swp_elE (by omega) (by omega) _ _) (by simp))|exact WkVL.nil|refine WkVL.cons ?_ ?_|exact WkV.top|exact WkV.imm rfl|exact WkV.imm (by simp)|exact WkV.optr rfl|exact WkV.own rfl (by simp)|exact WkV.nil_own (.inl rfl)|exact WkV.map rfl|(refine WkV.free ?_;simp [Free,FreeL] <;> assumption)|(refine WkV.free (fun _ _=>FreeL_nth ?_ _);simp [Free,FreeL];done)|refine WkV.agg ?_|refine WkV.tup ?_|refine WkV.fn ?_ ?_|exact WkO.dead|exact WkO.raw|refine WkO.ghost ?_|exact WkO.mpE rfl trivial|refine WkO.box ?_ rfl|refine WkO.arr ?_|refine And.intro ?_ (And.intro (by first|exact fun h=>h|exact fun _=>rfl|exact nofun) ?_)|exact trivial|(intro i j hi hj)))
    · obtain rfl : k = 3 := by omega
      rw [hE]
      exact ⟨_, rfl⟩
theorem break_tu (n : Nat) (d : Array El) (hd : d.size = n) (hn : n ≤ 60000) (a b : Nat) (hab : 12 < b - a) (hbn : b ≤ n) : Turns Try.prog 62 [elV n,.imm (.int .i64 a),.imm (.int .i64 b),cmpF] [elO n d] (.tup []) [elO n (breakPatterns d a b),.dead] := by
  refine ⟨?_,by simp [VF,VFL],fun a ha => by simp only [List.mem_cons,List.not_mem_nil,or_false] at ha;rcases ha with rfl | rfl;exact fun i j => elE_pl _ i j;exact trivial⟩
  refine (break_raw n d hd hn a b hab hbn).weak fun v σ' ⟨x,hv,hs⟩ => ⟨[0,1],_,_,by simp [List.range_succ],by simp,by simp [hs],?_,?_,rfl,rfl⟩
  · rw [hv]; exact WkV.tup WkVL.nil
  · rw [hs]
    exact ⟨WkO.arr (fun i j _ _ => WkV.free (elE_free _ i j)), fun h => h, WkO.dead, fun h => (nomatch h), trivial⟩
end Go.Proofs.Ytgljhmnmmaclaaa
