/-
  math/bits.Len; natural: power.
-/
import Derived.Test.YtonmienclploaaaGreatDoorQGo
import Derived.Test.YtonmienclploaaaGreatDoorQN6
import Derived.Test.YtonmienclploaaaGreatDoorQN7
import Derived.Sort.LotD5
set_option linter.unusedSimpArgs false
set_option linter.unusedVariables false
namespace Go.Proofs.YtonmienclploaaaGreatDoor.Q
open Go.Ab Go.Sort
theorem wrapU8 {x : Int} (h1 : 0 ≤ x) (h2 : x < 256) : IntKind.u8.wrap x = x := by
  unfold IntKind.wrap
  simp only [IntKind.bits, IntKind.signed]
  simp
  omega
theorem ofInt64 {a : Nat} (h : a < 18446744073709551616) : (BitVec.ofInt 64 (a : Int)).toNat = a := by simp [BitVec.toNat_ofInt];omega
theorem tab_len {s : ByteArray} (hs : ∀ i : Fin 256,strAt s (i.val : Int) = (bitsLen i.val : Int)) {x : Nat} (h : x < 256) : strAt s (x : Int) = (bitsLen x : Int) := hs ⟨x,h⟩
theorem bitsLen_256 {x : Nat} (h : 256 ≤ x) : bitsLen x = 8 + bitsLen (x / 256) := by
  unfold bitsLen
  rw [if_neg (by omega), if_neg (by omega)]
  rw [Nat.log2_def x,if_pos (by omega),Nat.log2_def (x / 2),if_pos (by omega),Nat.log2_def (x / 2 / 2),if_pos (by omega),Nat.log2_def (x / 2 / 2 / 2),if_pos (by omega),Nat.log2_def (x / 2 / 2 / 2 / 2),if_pos (by omega),
    Nat.log2_def (x / 2 / 2 / 2 / 2 / 2),if_pos (by omega),Nat.log2_def (x / 2 / 2 / 2 / 2 / 2 / 2),if_pos (by omega),Nat.log2_def (x / 2 / 2 / 2 / 2 / 2 / 2 / 2),if_pos (by omega)]
  simp only [Nat.div_div_eq_div_mul, Nat.reduceMul]
  omega
theorem bitsLen_small {x : Nat} (h : x < 65536) : bitsLen x ≤ 16 := (bitsLen_le_iff x 16).2 (by omega)
theorem u8_range (x : Int) : 0 ≤ IntKind.u8.wrap x ∧ IntKind.u8.wrap x < 256 := by
  unfold IntKind.wrap
  simp only [IntKind.bits, IntKind.signed]
  simp
  omega
theorem tab_hi {s : ByteArray} (hs : ∀ i : Fin 256,strAt s (i.val : Int) = (bitsLen i.val : Int)) {x : Nat} (h : x < 65536) (h2 : 256 ≤ x) : IntKind.i64.wrap (0 + 8 + IntKind.i64.wrap (strAt s (IntKind.u8.wrap ((x : Int).fdiv (2 ^ min 8 64))))) = (bitsLen x : Int) := by
  have e : IntKind.u8.wrap ((x : Int).fdiv (2 ^ min 8 64)) = ((x / 256 : Nat) : Int) := by
    rw [show min 8 64 = 8 by decide, Int.fdiv_eq_ediv_of_nonneg _ (by omega), wrapU8 (by omega) (by omega)]; omega
  have hq := bitsLen_small (x := x / 256) (by omega)
  rw [e,tab_len hs (by omega),bitsLen_256 h2,wrapI (x := (bitsLen (x / 256) : Int)) (by omega) (by omega),wrapI (by omega) (by omega)]
  omega
theorem tab_lo {s : ByteArray} (hs : ∀ i : Fin 256,strAt s (i.val : Int) = (bitsLen i.val : Int)) {x : Nat} (h2 : x < 256) : IntKind.i64.wrap (0 + IntKind.i64.wrap (strAt s (IntKind.u8.wrap (x : Int)))) = (bitsLen x : Int) := by
  have hq := bitsLen_small (x := x) (by omega)
  rw [wrapU8 (by omega) (by omega),tab_len hs (by omega),wrapI (x := (bitsLen x : Int)) (by omega) (by omega),wrapI (by omega) (by omega)]
  omega
set_option maxRecDepth 100000 in
set_option maxHeartbeats 4000000 in
theorem len64_tc (x : Nat) (hx : x < 65536) : Look Tryz.prog 85 [.imm (.int .u64 x)] (.imm (.int .i64 (bitsLen x : Nat))) := by
  have w1 := u8_range (x : Int)
  have w2 := u8_range ((x : Int).fdiv 256)
  refine Look.mk trivial ?_
  (refine TC_of_T Γ_ok Tryz.func85 rfl (by kernel_rfl) ?_;simp only [Tryz.ntmps85,Tryz.results85,List.length_cons,List.length_nil,Nat.reduceSub,Nat.reduceAdd,List.replicate,List.cons_append,List.nil_append])
  (((refine goR0 _ _ _ _ _ _ _ _ ?_ ?_ ?_ ?_ ?_ ?_ ?_ ?_) <;> (repeat intro hb) <;> first | exact True.intro | refine Lf.mk ?_))
  · exact congrArg (fun z : Int => AV.imm (.int .i64 z)) (tab_hi (by decide +kernel) hx (by omega))
  · exact congrArg (fun z : Int => AV.imm (.int .i64 z)) (tab_lo (by decide +kernel) (by omega))
set_option maxRecDepth 100000 in
set_option maxHeartbeats 4000000 in
theorem len_tc (x : Nat) (hx : x < 65536) : Look Tryz.prog 57 [.imm (.int .u64 x)] (.imm (.int .i64 (bitsLen x : Nat))) := by
  refine Look.mk trivial ?_
  (refine TC_of_T Γ_ok Tryz.func57 rfl (by kernel_rfl) ?_;simp only [Tryz.ntmps57,Tryz.results57,List.length_cons,List.length_nil,Nat.reduceSub,Nat.reduceAdd,List.replicate,List.cons_append,List.nil_append])
  (have cl1 := len64_tc x hx;((refine goR0 _ _ _ _ _ _ _ _ ?_ ?_ ?_ ?_ ?_ ?_ ?_ ?_) <;> (repeat intro hb) <;> first | exact True.intro | refine Lf.mk ?_))
theorem band1 {a : Nat} (ha : a < 9223372036854775808) : bits .and .i64 (a : Int) 1 = ((a % 2 : Nat) : Int) := by
  show IntKind.i64.wrap (((BitVec.ofInt 64 (a : Int) &&& BitVec.ofInt 64 ((1 : Nat) : Int)).toNat : Nat) : Int) = _
  rw [BitVec.toNat_and, ofInt64 (by omega), ofInt64 (by omega), Nat.and_one_is_mod, wrapI (by omega) (by omega)]
@[go_sem,reducible] def enW (a n V : Nat) (k : Nat) : List AV := [natV a,.imm (.int .i64 n),.top,.top,.imm (.slice none 0 0),.own 0 0 (lmN V) none,.imm (.int .i64 ((k : Int) - 1))] ++ List.replicate 35 .top
theorem lmN_1 : lmN 1 = 1 := by rw [lmN_s (by omega), show 1 / Bs = 0 by decide, lmN_0]
theorem pow_half (a n k : Nat) : a ^ (n / 2 ^ k) = a ^ (n / 2 ^ (k + 1)) * a ^ (n / 2 ^ (k + 1)) * (if n / 2 ^ k % 2 = 1 then a else 1) := by
  rw [Nat.pow_succ, ← Nat.div_div_eq_div_mul]
  generalize n / 2 ^ k = q
  rw [← Nat.pow_add]
  split
  · rw [← Nat.pow_succ]; congr 1; omega
  · rw [Nat.mul_one]; congr 1; omega
set_option maxRecDepth 100000 in
set_option maxHeartbeats 4000000 in
theorem power_mk (a n : Nat) (h2 : 2 ≤ a) (hn : n ≤ 1152) (ha : lmN a ≤ 640) (hr : lmN (a ^ n) ≤ 640) : Makes Tryz.prog 125 [natV a,.imm (.int .i64 n)] (.own 0 0 (lmN (a ^ n)) none) [natO (lmN (a ^ n)) (a ^ n)] := by
  refine natMk ?_
  generalize hQ : (fun (v : AV) (σ' : List AObj) => ∃ k L c E',v = .own k 0 (lmN (a ^ n)) c ∧ nthO σ' k = .arr 179 1 L E' ∧ lmN (a ^ n) ≤ L ∧ ∀ i,i < lmN (a ^ n) → E' i 0 = lmE (a ^ n) i 0) = Q
  have hle : ∀ e,e ≤ n → lmN (a ^ e) ≤ 640 := fun e he => Nat.le_trans (lmN_mono (Nat.pow_le_pow_right (by omega) he)) hr
  have c1 := compare_tc a 1 ha (by rw [lmN_1]; omega)
  rw [cmpN_gt (by omega)] at c1
  simp only [natV, lmN_1] at c1
  have c2 := len_tc n (by omega)
  have hbl : bitsLen n ≤ 16 := bitsLen_small (by omega)
  have ew1 : ∀ i j, i < 1 → j < 1 → nth [AV.imm (.int .u32 1)] (i * 1 + j) = lmE 1 i j := fun i j hi hj => by
    obtain rfl : j = 0 := by omega
    obtain rfl : i = 0 := by omega
    simp [nth, lmE, lm, Bs]
  (refine TC_of_T Γ_ok Tryz.func125 rfl (by kernel_rfl) ?_;simp only [Tryz.ntmps125,Tryz.results125,List.length_cons,List.length_nil,Nat.reduceSub,Nat.reduceAdd,List.replicate,List.cons_append,List.nil_append])
  (have cl1 := c1;have cl2 := c2;((refine goR0 _ _ _ _ _ _ _ _ ?_ ?_ ?_ ?_ ?_ ?_ ?_ ?_) <;> (repeat intro hb) <;> first | exact True.intro | refine Lf.mk ?_))
  refine T_loopW (fun m st => ∃ k : Nat,k ≤ bitsLen n ∧ m = k ∧ st = ⟨enW a n (a ^ (n / 2 ^ k)) k,[natO (lmN (a ^ (n / 2 ^ k))) (a ^ (n / 2 ^ k))]⟩)
    (bitsLen n) ⟨_, ?_, bitsLen n, by omega, rfl, rfl⟩ ?_
  · rw [show a ^ (n / 2 ^ bitsLen n) = 1 by rw [Nat.div_eq_of_lt ((bitsLen_le_iff n (bitsLen n)).1 (Nat.le_refl _)),Nat.pow_zero]]
    simp only [enW, natO, lmN_1]
    ((try simp only [List.length_append,List.length_cons,List.length_nil,Nat.zero_add]);refine Wk.intro [0] (by decide) (by decide) (by intro o ho;simp at ho ⊢ <;> omega) ?_ ?_ <;> repeat' (first|(exact WkV.eqF (ew1 _ _ hi hj) (lmE_free _ _ _))|exact WkVL.nil|refine WkVL.cons ?_ ?_|exact WkV.top|exact WkV.imm rfl|exact WkV.imm (by simp)|exact WkV.optr rfl|exact WkV.own rfl (by simp)|exact WkV.nil_own (.inl rfl)|exact WkV.map rfl|(refine WkV.free ?_;simp [Free,FreeL] <;> assumption)|(refine WkV.free (fun _ _=>FreeL_nth ?_ _);simp [Free,FreeL];done)|refine WkV.agg ?_|refine WkV.tup ?_|refine WkV.fn ?_ ?_|exact WkO.dead|exact WkO.raw|refine WkO.ghost ?_|exact WkO.mpE rfl trivial|refine WkO.box ?_ rfl|refine WkO.arr ?_|refine And.intro ?_ (And.intro (by first|exact fun h=>h|exact fun _=>rfl|exact nofun) ?_)|exact trivial|(intro i j hi hj)))
  rintro m st ⟨k, h0, rfl, rfl⟩
  match m, h0 with
  | 0, _ =>
    have e1 : (((0 : Nat) : Int) - 1) = -1 := rfl
    rw [enW, e1]
    (simp only [go_sem,↓reduceIte,Nat.reduceAdd,Nat.reduceSub,Nat.reduceMul,Nat.reduceLT,Nat.reduceLeDiff,Nat.reduceEqDiff,Nat.reduceGT,Int.reduceToNat,Int.reduceBEq,Int.reduceBNe];try simp (disch := omega) only [wrapI,wrapU,half_sum,toNat_sub1,toNat_add1,Int.toNat_natCast])
    (((refine goR0 _ _ _ _ _ _ _ _ ?_ ?_ ?_ ?_ ?_ ?_ ?_ ?_) <;> (repeat intro hb) <;> first | exact True.intro | refine Lf.mk ?_))
    rw [← hQ, show n / 2 ^ 0 = n by rw [Nat.pow_zero, Nat.div_one]]
    exact ⟨_, _, _, _, rfl, rfl, Nat.le_refl _, fun _ _ => rfl⟩
  | k + 1, h0 =>
    have e1 : (((k + 1 : Nat) : Int) - 1) = (k : Int) := by omega
    obtain ⟨V, hV⟩ : ∃ V, V = a ^ (n / 2 ^ (k + 1)) := ⟨_, rfl⟩
    have hp := pow_half a n k
    rw [← hV] at hp ⊢
    have l0 : lmN V ≤ 640 := by rw [hV]; exact hle _ (Nat.div_le_self _ _)
    have l2 := hle (n / 2 ^ k) (Nat.div_le_self _ _)
    have hq : n / 2 ^ k ≤ 1152 := Nat.le_trans (Nat.div_le_self _ _) hn
    have e2 : (n : Int).fdiv (2 ^ min k 64) = ((n / 2 ^ k : Nat) : Int) := by
      rw [Nat.min_eq_left (by omega), Int.fdiv_eq_ediv_of_nonneg _ (Int.le_of_lt (Int.pow_pos (by omega)))]
      rw [Int.natCast_ediv]
      congr 1
    generalize hqe : n / 2 ^ k = q at *
    have e3 : bits .and .i64 (q : Int) 1 = ((q % 2 : Nat) : Int) := band1 (by omega)
    rw [enW, e1]
    by_cases ho : q % 2 = 1
    · rw [if_pos ho] at hp
      have l1 : lmN (V * V) ≤ 640 := Nat.le_trans (lmN_mono (by rw [hp]; exact Nat.le_mul_of_pos_right _ (by omega))) l2
      have p1 := product_mk V V l0 l0 l1
      have p2 := product_mk (V * V) a l1 ha (by rw [← hp]; exact l2)
      rw [← hp] at p2
      have e4 : (((q % 2 : Nat) : Int) == 1) = true := by rw [ho]; rfl
      (simp only [go_sem,↓reduceIte,Nat.reduceAdd,Nat.reduceSub,Nat.reduceMul,Nat.reduceLT,Nat.reduceLeDiff,Nat.reduceEqDiff,Nat.reduceGT,Int.reduceToNat,Int.reduceBEq,Int.reduceBNe];try simp (disch := omega) only [wrapI,wrapU,half_sum,toNat_sub1,toNat_add1,Int.toNat_natCast])
      (have dm1 := p1;have dm2 := p2;have sx1 := e2;have sx2 := e3;have sx3 := e4;have sx4 : (0 : Nat) + 0 = 0 := rfl;((have sx5 : (0 : Nat) + 0 = 0 := rfl;have sx6 : (0 : Nat) + 0 = 0 := rfl;refine goR6 _ _ _ _ _ _ _ _ ?_ ?_ ?_ ?_ ?_ ?_ ?_ ?_) <;> (repeat intro hb) <;> first|exact True.intro|refine Lf.mk ?_))
      refine ⟨k, by omega, ⟨enW a n (a ^ q) k, [natO (lmN (a ^ q)) (a ^ q)]⟩, ?_, k, by omega, rfl, by rw [hqe] <;> rfl⟩
      ((try simp only [List.length_append,List.length_cons,List.length_nil,Nat.zero_add]);refine Wk.intro [2] (by decide) (by decide) (by intro o ho;simp at ho ⊢ <;> omega) ?_ ?_ <;> repeat' (first|(refine WkV.imm ?_;congr 1;omega)|exact WkVL.nil|refine WkVL.cons ?_ ?_|exact WkV.top|exact WkV.imm rfl|exact WkV.imm (by simp)|exact WkV.optr rfl|exact WkV.own rfl (by simp)|exact WkV.nil_own (.inl rfl)|exact WkV.map rfl|(refine WkV.free ?_;simp [Free,FreeL] <;> assumption)|(refine WkV.free (fun _ _=>FreeL_nth ?_ _);simp [Free,FreeL];done)|refine WkV.agg ?_|refine WkV.tup ?_|refine WkV.fn ?_ ?_|exact WkO.dead|exact WkO.raw|refine WkO.ghost ?_|exact WkO.mpE rfl trivial|refine WkO.box ?_ rfl|refine WkO.arr ?_|refine And.intro ?_ (And.intro (by first|exact fun h=>h|exact fun _=>rfl|exact nofun) ?_)|exact trivial|(intro i j hi hj)))
    · rw [if_neg ho, Nat.mul_one] at hp
      have p1 := product_mk V V l0 l0 (by rw [← hp]; exact l2)
      rw [← hp] at p1
      have e4 : (((q % 2 : Nat) : Int) == 1) = false := by rw [beq_eq_false_iff_ne]; omega
      (simp only [go_sem,↓reduceIte,Nat.reduceAdd,Nat.reduceSub,Nat.reduceMul,Nat.reduceLT,Nat.reduceLeDiff,Nat.reduceEqDiff,Nat.reduceGT,Int.reduceToNat,Int.reduceBEq,Int.reduceBNe];try simp (disch := omega) only [wrapI,wrapU,half_sum,toNat_sub1,toNat_add1,Int.toNat_natCast])
      (have cm1 := p1;have sx1 := e2;have sx2 := e3;have sx3 := e4;have sx4 : (0 : Nat) + 0 = 0 := rfl;((have sx5 : (0 : Nat) + 0 = 0 := rfl;have sx6 : (0 : Nat) + 0 = 0 := rfl;refine goR6 _ _ _ _ _ _ _ _ ?_ ?_ ?_ ?_ ?_ ?_ ?_ ?_) <;> (repeat intro hb) <;> first|exact True.intro|refine Lf.mk ?_))
      refine ⟨k, by omega, ⟨enW a n (a ^ q) k, [natO (lmN (a ^ q)) (a ^ q)]⟩, ?_, k, by omega, rfl, by rw [hqe] <;> rfl⟩
      ((try simp only [List.length_append,List.length_cons,List.length_nil,Nat.zero_add]);refine Wk.intro [1] (by decide) (by decide) (by intro o ho;simp at ho ⊢ <;> omega) ?_ ?_ <;> repeat' (first|(refine WkV.imm ?_;congr 1;omega)|exact WkVL.nil|refine WkVL.cons ?_ ?_|exact WkV.top|exact WkV.imm rfl|exact WkV.imm (by simp)|exact WkV.optr rfl|exact WkV.own rfl (by simp)|exact WkV.nil_own (.inl rfl)|exact WkV.map rfl|(refine WkV.free ?_;simp [Free,FreeL] <;> assumption)|(refine WkV.free (fun _ _=>FreeL_nth ?_ _);simp [Free,FreeL];done)|refine WkV.agg ?_|refine WkV.tup ?_|refine WkV.fn ?_ ?_|exact WkO.dead|exact WkO.raw|refine WkO.ghost ?_|exact WkO.mpE rfl trivial|refine WkO.box ?_ rfl|refine WkO.arr ?_|refine And.intro ?_ (And.intro (by first|exact fun h=>h|exact fun _=>rfl|exact nofun) ?_)|exact trivial|(intro i j hi hj)))
end Go.Proofs.YtonmienclploaaaGreatDoor.Q
