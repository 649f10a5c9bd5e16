/-
  The reference's checksum by single bits is the same; equality of bytes.
-/
import Derived.Test.YtnomenmakhielaaDoorQGo
import Derived.Test.YtnomenmakhielaaDoorQS1
set_option linter.unusedSimpArgs false
set_option linter.unusedVariables false
namespace Go.Proofs.YtnomenmakhielaaDoor
open Go.Ab

/-- One bit of the checksum. -/
def bit1 (c : Nat) : Nat := if c % 2 = 1 then c / 2 ^^^ 3988292384 else c / 2
def bitN : Nat → Nat → Nat
  | 0, c => c
  | k + 1, c => bit1 (bitN k c)
theorem bit1_lt {c : Nat} (h : c < 4294967296) : bit1 c < 4294967296 := by
  unfold bit1
  split
  · exact xor_lt32 (by omega) (by decide)
  · omega
theorem bitN_lt {c : Nat} (h : c < 4294967296) : ∀ k, bitN k c < 4294967296
  | 0 => h
  | k + 1 => bit1_lt (bitN_lt h k)
theorem bit1_xor (a b : Nat) : bit1 (a ^^^ b) = bit1 a ^^^ bit1 b := by
  have h2 : (a ^^^ b) / 2 = a / 2 ^^^ b / 2 := Nat.xor_div_two
  have h1 : (a ^^^ b) % 2 = (a % 2 + b % 2) % 2 := by
    have h := @Nat.xor_mod_two_eq_one a b
    rcases Nat.mod_two_eq_zero_or_one (a ^^^ b) with hx | hx <;> rcases Nat.mod_two_eq_zero_or_one a with ha | ha <;> rcases Nat.mod_two_eq_zero_or_one b with hb | hb <;> rw [hx, ha, hb] at h <;> rw [hx, ha, hb] <;> simp at h ⊢
  unfold bit1
  rw [h2, h1]
  generalize a / 2 = p
  generalize b / 2 = q
  rcases Nat.mod_two_eq_zero_or_one a with ha | ha <;> rcases Nat.mod_two_eq_zero_or_one b with hb | hb <;> rw [ha, hb]
  · simp
  · simp [Nat.xor_assoc]
  · simp only [Nat.reduceAdd, Nat.reduceMod, if_true]
    rw [if_neg (by decide), Nat.xor_assoc, Nat.xor_assoc, Nat.xor_comm q]
  · simp only [Nat.reduceAdd, Nat.reduceMod, if_true]
    rw [if_neg (by decide), Nat.xor_assoc, ← Nat.xor_assoc 3988292384 q, Nat.xor_comm 3988292384 q, Nat.xor_assoc q, Nat.xor_self, Nat.xor_zero]
theorem bitN_xor (a b : Nat) : ∀ k, bitN k (a ^^^ b) = bitN k a ^^^ bitN k b
  | 0 => rfl
  | k + 1 => by rw [bitN, bitN_xor a b k, bit1_xor]; rfl
theorem bit1_even (q : Nat) : bit1 (2 * q) = q := by unfold bit1; rw [if_neg (by omega)]; omega
theorem split16 (c : Nat) : c = c / 16 * 16 ^^^ c % 16 := by
  have h : c / 16 * 16 ^^^ c % 16 = c / 16 * 16 + c % 16 := by
    have := Nat.two_pow_add_eq_or_of_lt (i := 4) (b := c % 16) (Nat.mod_lt _ (by decide)) (c / 16)
    have h2 : c / 16 * 16 ^^^ c % 16 = c / 16 * 16 ||| c % 16 := by
      apply Nat.eq_of_testBit_eq
      intro i
      rw [Nat.testBit_xor, Nat.testBit_or]
      by_cases hi : i < 4
      · have : (c / 16 * 16).testBit i = false := by
          rw [Nat.mul_comm, show (16 : Nat) = 2 ^ 4 from rfl, Nat.testBit_two_pow_mul]
          simp; omega
        rw [this]; simp
      · have : (c % 16).testBit i = false := by
          rw [show (16 : Nat) = 2 ^ 4 from rfl, Nat.testBit_mod_two_pow]
          simp; omega
        rw [this]; simp
    rw [h2]
    rw [Nat.mul_comm]
    exact this.symm
  rw [h]; omega
theorem bit4_low : ∀ i, i < 16 → bitN 4 i = nib i := by decide
theorem bit4 (c : Nat) : bitN 4 c = half c := by
  have h : bitN 4 (c / 16 * 16) = c / 16 := by
    have e : c / 16 * 16 = 2 * (2 * (2 * (2 * (c / 16)))) := by omega
    simp only [bitN]
    rw [e, bit1_even, bit1_even, bit1_even, bit1_even]
  conv => lhs; rw [split16 c]
  rw [bitN_xor, h, bit4_low _ (Nat.mod_lt _ (by decide))]
  rfl
theorem bitN_add (a : Nat) : ∀ b c, bitN (b + a) c = bitN b (bitN a c)
  | 0, c => by simp [bitN]
  | b + 1, c => by rw [Nat.succ_add, bitN, bitN_add a b c]; rfl
theorem bit8 (c x : Nat) : bitN 8 (c ^^^ x) = crcB c x := by
  rw [show (8 : Nat) = 4 + 4 from rfl, bitN_add, bit4, bit4]; rfl

set_option maxRecDepth 100000 in
set_option maxHeartbeats 400000 in
theorem rsum_tc (l : List Nat) (hb : ByOk l) (hl : l.length ≤ 9223372036854775807) : Look Tryd.prog 65 [bys l] (.imm (.int .u32 ((sumN l : Nat) : Int))) := by
  refine Look.mk trivial ?_
  (refine TC_of_T Γ_ok Tryd.func65 rfl (by kernel_rfl) ?_; simp only [Tryd.ntmps65, Tryd.results65, List.length_cons, List.length_nil, Nat.reduceSub, Nat.reduceAdd, List.replicate, List.cons_append, List.nil_append])
  (((refine goR0 _ _ _ _ _ _ _ _ ?_ ?_ ?_ ?_ ?_ ?_ ?_ ?_) <;> (repeat intro hb) <;> first | exact True.intro | refine Lf.mk ?_))
  refine T_loopW (fun m st => ∃ i : Nat, m + i = l.length ∧ st = ⟨[bys l, .top, .imm (.int .u32 0), .imm (.int .u32 ((crc (l.take i) 4294967295 : Nat) : Int)), .imm (.int .i64 i)] ++ List.replicate 28 .top, []⟩)
    l.length ⟨_, ?_, 0, rfl, rfl⟩ ?_
  · ((try simp only [List.length_append, List.length_cons, List.length_nil, Nat.zero_add]); refine Wk.intro [] (by decide) (by decide) (by intro o ho; simp at ho ⊢ <;> omega) ?_ ?_ <;> repeat' (first | exact WkVL.nil | refine WkVL.cons ?_ ?_ | exact WkV.top | exact WkV.imm rfl | exact WkV.imm (by simp) | exact WkV.optr rfl | exact WkV.own rfl (by simp) | exact WkV.nil_own (.inl rfl) | exact WkV.map rfl | (refine WkV.free ?_; simp [Free, FreeL] <;> assumption) | (refine WkV.free (fun _ _ => FreeL_nth ?_ _); simp [Free, FreeL]; done) | refine WkV.agg ?_ | refine WkV.tup ?_ | refine WkV.fn ?_ ?_ | exact WkO.dead | exact WkO.raw | refine WkO.ghost ?_ | exact WkO.mpE rfl trivial | refine WkO.box ?_ rfl | refine WkO.arr ?_ | refine And.intro ?_ (And.intro (by first | exact fun h => h | exact fun _ => rfl | exact nofun) ?_) | exact trivial | (intro i j hi hj)))
  rintro m st ⟨i, h1, rfl⟩
  have hc := crc_lt (hb.take i) (c := 4294967295) (by decide)
  have hx := gb8_lt hb i
  (simp only [go_sem, ↓reduceIte, Nat.reduceAdd, Nat.reduceSub, Nat.reduceMul, Nat.reduceLT, Nat.reduceLeDiff, Nat.reduceEqDiff, Nat.reduceGT, Int.reduceToNat, Int.reduceBEq, Int.reduceBNe]; try simp (disch := omega) only [wrapI, wrapU, half_sum, toNat_sub1, toNat_add1, Int.toNat_natCast])
  (((refine goR0 _ _ _ _ _ _ _ _ ?_ ?_ ?_ ?_ ?_ ?_ ?_ ?_) <;> (repeat intro hb) <;> first | exact True.intro | refine Lf.mk ?_))
  · have hcx : crc (l.take i) 4294967295 ^^^ gb8 l i < 4294967296 := xor_lt32 hc (by omega)
    refine T_loopW (fun m st => ∃ k : Nat, k ≤ 8 ∧ m + k = 8 ∧ st = ⟨[bys l, .top, .imm (.int .u32 0), .imm (.int .u32 ((bitN k (crc (l.take i) 4294967295 ^^^ gb8 l i) : Nat) : Int)), .imm (.int .i64 i), .imm (.int .i64 k)] ++ List.replicate 27 .top, []⟩)
      8 ⟨_, ?_, 0, by omega, rfl, rfl⟩ ?_
    · ((try simp only [List.length_append, List.length_cons, List.length_nil, Nat.zero_add]); refine Wk.intro [] (by decide) (by decide) (by intro o ho; simp at ho ⊢ <;> omega) ?_ ?_ <;> repeat' (first | (refine WkV.imm ?_; congr 2; rw [Nat.mod_eq_of_lt hc, Nat.mod_eq_of_lt (by omega), Nat.mod_eq_of_lt (by omega)]; rfl) | exact WkVL.nil | refine WkVL.cons ?_ ?_ | exact WkV.top | exact WkV.imm rfl | exact WkV.imm (by simp) | exact WkV.optr rfl | exact WkV.own rfl (by simp) | exact WkV.nil_own (.inl rfl) | exact WkV.map rfl | (refine WkV.free ?_; simp [Free, FreeL] <;> assumption) | (refine WkV.free (fun _ _ => FreeL_nth ?_ _); simp [Free, FreeL]; done) | refine WkV.agg ?_ | refine WkV.tup ?_ | refine WkV.fn ?_ ?_ | exact WkO.dead | exact WkO.raw | refine WkO.ghost ?_ | exact WkO.mpE rfl trivial | refine WkO.box ?_ rfl | refine WkO.arr ?_ | refine And.intro ?_ (And.intro (by first | exact fun h => h | exact fun _ => rfl | exact nofun) ?_) | exact trivial | (intro i j hi hj)))
    rintro m' st ⟨k, hk8, h2, rfl⟩
    have hlt := bitN_lt hcx k
    (simp only [go_sem, ↓reduceIte, Nat.reduceAdd, Nat.reduceSub, Nat.reduceMul, Nat.reduceLT, Nat.reduceLeDiff, Nat.reduceEqDiff, Nat.reduceGT, Int.reduceToNat, Int.reduceBEq, Int.reduceBNe]; try simp (disch := omega) only [wrapI, wrapU, half_sum, toNat_sub1, toNat_add1, Int.toNat_natCast])
    (((refine goR0 _ _ _ _ _ _ _ _ ?_ ?_ ?_ ?_ ?_ ?_ ?_ ?_) <;> (repeat intro hb) <;> first | exact True.intro | refine Lf.mk ?_))
    · refine ⟨8 - (k + 1), by omega, _, ?_, k + 1, by omega, by omega, rfl⟩
      have e : bitN (k + 1) (crc (l.take i) 4294967295 ^^^ gb8 l i) = bitN k (crc (l.take i) 4294967295 ^^^ gb8 l i) / 2 % 4294967296 % 4294967296 ^^^ 3988292384 := by
        rw [bitN, bit1, if_pos (by omega), Nat.mod_eq_of_lt (by omega), Nat.mod_eq_of_lt (by omega)]
      ((try simp only [List.length_append, List.length_cons, List.length_nil, Nat.zero_add]); refine Wk.intro [] (by decide) (by decide) (by intro o ho; simp at ho ⊢ <;> omega) ?_ ?_ <;> repeat' (first | (refine WkV.imm ?_; rw [e]) | (refine WkV.imm ?_; congr 1; omega) | exact WkVL.nil | refine WkVL.cons ?_ ?_ | exact WkV.top | exact WkV.imm rfl | exact WkV.imm (by simp) | exact WkV.optr rfl | exact WkV.own rfl (by simp) | exact WkV.nil_own (.inl rfl) | exact WkV.map rfl | (refine WkV.free ?_; simp [Free, FreeL] <;> assumption) | (refine WkV.free (fun _ _ => FreeL_nth ?_ _); simp [Free, FreeL]; done) | refine WkV.agg ?_ | refine WkV.tup ?_ | refine WkV.fn ?_ ?_ | exact WkO.dead | exact WkO.raw | refine WkO.ghost ?_ | exact WkO.mpE rfl trivial | refine WkO.box ?_ rfl | refine WkO.arr ?_ | refine And.intro ?_ (And.intro (by first | exact fun h => h | exact fun _ => rfl | exact nofun) ?_) | exact trivial | (intro i j hi hj)))
    · refine ⟨8 - (k + 1), by omega, _, ?_, k + 1, by omega, by omega, rfl⟩
      have e : bitN (k + 1) (crc (l.take i) 4294967295 ^^^ gb8 l i) = bitN k (crc (l.take i) 4294967295 ^^^ gb8 l i) / 2 % 4294967296 := by
        rw [bitN, bit1, if_neg (by omega), Nat.mod_eq_of_lt (by omega)]
      ((try simp only [List.length_append, List.length_cons, List.length_nil, Nat.zero_add]); refine Wk.intro [] (by decide) (by decide) (by intro o ho; simp at ho ⊢ <;> omega) ?_ ?_ <;> repeat' (first | (refine WkV.imm ?_; rw [e]) | (refine WkV.imm ?_; congr 1; omega) | exact WkVL.nil | refine WkVL.cons ?_ ?_ | exact WkV.top | exact WkV.imm rfl | exact WkV.imm (by simp) | exact WkV.optr rfl | exact WkV.own rfl (by simp) | exact WkV.nil_own (.inl rfl) | exact WkV.map rfl | (refine WkV.free ?_; simp [Free, FreeL] <;> assumption) | (refine WkV.free (fun _ _ => FreeL_nth ?_ _); simp [Free, FreeL]; done) | refine WkV.agg ?_ | refine WkV.tup ?_ | refine WkV.fn ?_ ?_ | exact WkO.dead | exact WkO.raw | refine WkO.ghost ?_ | exact WkO.mpE rfl trivial | refine WkO.box ?_ rfl | refine WkO.arr ?_ | refine And.intro ?_ (And.intro (by first | exact fun h => h | exact fun _ => rfl | exact nofun) ?_) | exact trivial | (intro i j hi hj)))
    · refine ⟨l.length - (i + 1), by omega, _, ?_, i + 1, by omega, rfl⟩
      have e8 : k = 8 := by omega
      subst e8
      ((try simp only [List.length_append, List.length_cons, List.length_nil, Nat.zero_add]); refine Wk.intro [] (by decide) (by decide) (by intro o ho; simp at ho ⊢ <;> omega) ?_ ?_ <;> repeat' (first | (refine WkV.imm ?_; rw [crc_succ (by omega), ← bit8]; done) | (refine WkV.imm ?_; congr 1; omega) | exact WkVL.nil | refine WkVL.cons ?_ ?_ | exact WkV.top | exact WkV.imm rfl | exact WkV.imm (by simp) | exact WkV.optr rfl | exact WkV.own rfl (by simp) | exact WkV.nil_own (.inl rfl) | exact WkV.map rfl | (refine WkV.free ?_; simp [Free, FreeL] <;> assumption) | (refine WkV.free (fun _ _ => FreeL_nth ?_ _); simp [Free, FreeL]; done) | refine WkV.agg ?_ | refine WkV.tup ?_ | refine WkV.fn ?_ ?_ | exact WkO.dead | exact WkO.raw | refine WkO.ghost ?_ | exact WkO.mpE rfl trivial | refine WkO.box ?_ rfl | refine WkO.arr ?_ | refine And.intro ?_ (And.intro (by first | exact fun h => h | exact fun _ => rfl | exact nofun) ?_) | exact trivial | (intro i j hi hj)))
  · have e : l.take i = l := List.take_of_length_le (by omega)
    rw [e] at hc ⊢
    rw [Nat.mod_eq_of_lt hc, Nat.xor_comm]
    rfl

theorem gb8_ext {a b : List Nat} (h : a.length = b.length) (he : ∀ i, i < a.length → gb8 a i = gb8 b i) : a = b := by
  refine List.ext_getElem h fun i h1 h2 => ?_
  have := he i h1
  simpa [gb8, h1, h2] using this

/-- Equality of bytes, as three functions tell it. -/
theorem bytesEq {a b : List Nat} {k : Nat} (h : a.length = b.length) (hk : k = a.length) (h2 : ∀ j, j < k → gb8 a j = gb8 b j) : decide (a = b) = true := decide_eq_true (gb8_ext h fun i hi => h2 i (by omega))
theorem bytesNe {a b : List Nat} {i : Nat} (h : gb8 a i ≠ gb8 b i) : decide (a = b) = false := decide_eq_false fun e => h (by rw [e])
theorem bytesLen {a b : List Nat} (h : ¬ (a.length : Int) = b.length) : decide (a = b) = false := decide_eq_false fun e => h (by rw [e])

set_option maxRecDepth 100000 in
set_option maxHeartbeats 400000 in
theorem rbytes_tc (a b : List Nat) (ha : a.length ≤ 9223372036854775807) (hbl : b.length ≤ 9223372036854775807) : Look Tryd.prog 21 [bys a, bys b] (.imm (.bool (decide (a = b)))) := by
  refine Look.mk trivial ?_
  (refine TC_of_T Γ_ok Tryd.func21 rfl (by kernel_rfl) ?_; simp only [Tryd.ntmps21, Tryd.results21, List.length_cons, List.length_nil, Nat.reduceSub, Nat.reduceAdd, List.replicate, List.cons_append, List.nil_append])
  (((refine goR0 _ _ _ _ _ _ _ _ ?_ ?_ ?_ ?_ ?_ ?_ ?_ ?_) <;> (repeat intro hb) <;> first | exact True.intro | refine Lf.mk ?_))
  · rw [bytesLen (by assumption)]
  have hlen' : a.length = b.length := by omega
  refine T_loopW (fun m st => ∃ i : Nat, i ≤ a.length ∧ m + i = a.length ∧ (∀ j, j < i → gb8 a j = gb8 b j) ∧ st = ⟨[bys a, bys b, .top, .top, .imm (.bool false), .imm (.int .i64 i)] ++ List.replicate 20 .top, []⟩)
    a.length ⟨_, ?_, 0, by omega, rfl, by omega, rfl⟩ ?_
  · ((try simp only [List.length_append, List.length_cons, List.length_nil, Nat.zero_add]); refine Wk.intro [] (by decide) (by decide) (by intro o ho; simp at ho ⊢ <;> omega) ?_ ?_ <;> repeat' (first | exact WkVL.nil | refine WkVL.cons ?_ ?_ | exact WkV.top | exact WkV.imm rfl | exact WkV.imm (by simp) | exact WkV.optr rfl | exact WkV.own rfl (by simp) | exact WkV.nil_own (.inl rfl) | exact WkV.map rfl | (refine WkV.free ?_; simp [Free, FreeL] <;> assumption) | (refine WkV.free (fun _ _ => FreeL_nth ?_ _); simp [Free, FreeL]; done) | refine WkV.agg ?_ | refine WkV.tup ?_ | refine WkV.fn ?_ ?_ | exact WkO.dead | exact WkO.raw | refine WkO.ghost ?_ | exact WkO.mpE rfl trivial | refine WkO.box ?_ rfl | refine WkO.arr ?_ | refine And.intro ?_ (And.intro (by first | exact fun h => h | exact fun _ => rfl | exact nofun) ?_) | exact trivial | (intro i j hi hj)))
  rintro m st ⟨i, h0, h1, h2, rfl⟩
  (simp only [go_sem, ↓reduceIte, Nat.reduceAdd, Nat.reduceSub, Nat.reduceMul, Nat.reduceLT, Nat.reduceLeDiff, Nat.reduceEqDiff, Nat.reduceGT, Int.reduceToNat, Int.reduceBEq, Int.reduceBNe]; try simp (disch := omega) only [wrapI, wrapU, half_sum, toNat_sub1, toNat_add1, Int.toNat_natCast])
  (repeat' (first | with_reducible refine T_seq_drawT (id := 6) Γ_ok drawsAny pl21_6 (by kernel_rfl) (fun K hK => ?_) | with_reducible refine T_last_drawT (id := 6) Γ_ok drawsAny pl21_6 (by kernel_rfl) (fun K hK => ?_) | ((refine goR0 _ _ _ _ _ _ _ _ ?_ ?_ ?_ ?_ ?_ ?_ ?_ ?_) <;> (repeat intro hb) <;> first | exact True.intro | refine Lf.mk ?_)))
  · rw [bytesNe (i := i) (by omega)]
  · refine ⟨a.length - (i + 1), by omega, _, ?_, i + 1, by omega, by omega, fun j hj => ?_, rfl⟩
    · ((try simp only [List.length_append, List.length_cons, List.length_nil, Nat.zero_add]); refine Wk.intro [] (by decide) (by decide) (by intro o ho; simp at ho ⊢ <;> omega) ?_ ?_ <;> repeat' (first | (refine WkV.imm ?_; congr 1; omega) | exact WkVL.nil | refine WkVL.cons ?_ ?_ | exact WkV.top | exact WkV.imm rfl | exact WkV.imm (by simp) | exact WkV.optr rfl | exact WkV.own rfl (by simp) | exact WkV.nil_own (.inl rfl) | exact WkV.map rfl | (refine WkV.free ?_; simp [Free, FreeL] <;> assumption) | (refine WkV.free (fun _ _ => FreeL_nth ?_ _); simp [Free, FreeL]; done) | refine WkV.agg ?_ | refine WkV.tup ?_ | refine WkV.fn ?_ ?_ | exact WkO.dead | exact WkO.raw | refine WkO.ghost ?_ | exact WkO.mpE rfl trivial | refine WkO.box ?_ rfl | refine WkO.arr ?_ | refine And.intro ?_ (And.intro (by first | exact fun h => h | exact fun _ => rfl | exact nofun) ?_) | exact trivial | (intro i j hi hj)))
    · by_cases e : j = i
      · subst e; omega
      · exact h2 j (by omega)
  · rw [bytesEq hlen' (k := i) (by omega) h2]

set_option maxRecDepth 100000 in
set_option maxHeartbeats 400000 in
theorem equal_tc (a b : List Nat) (ha : a.length ≤ 9223372036854775807) (hbl : b.length ≤ 9223372036854775807) : Look Tryd.prog 77 [bys a, bys b] (.imm (.bool (decide (a = b)))) := by
  refine Look.mk trivial ?_
  (refine TC_of_T Γ_ok Tryd.func77 rfl (by kernel_rfl) ?_; simp only [Tryd.ntmps77, Tryd.results77, List.length_cons, List.length_nil, Nat.reduceSub, Nat.reduceAdd, List.replicate, List.cons_append, List.nil_append])
  (((refine goR0 _ _ _ _ _ _ _ _ ?_ ?_ ?_ ?_ ?_ ?_ ?_ ?_) <;> (repeat intro hb) <;> first | exact True.intro | refine Lf.mk ?_))
  · rw [bytesLen (by assumption)]
  have hlen' : a.length = b.length := by omega
  refine T_loopW (fun m st => ∃ i : Nat, i ≤ a.length ∧ m + i = a.length ∧ (∀ j, j < i → gb8 a j = gb8 b j) ∧ st = ⟨[bys a, bys b, .top, .top, .imm (.bool false), .top, .top, .top, .top, .top, .top, .top, .imm (.int .i64 a.length), .imm (.int .i64 i)] ++ List.replicate 12 .top, []⟩)
    a.length ⟨_, ?_, 0, by omega, rfl, by omega, rfl⟩ ?_
  · ((try simp only [List.length_append, List.length_cons, List.length_nil, Nat.zero_add]); refine Wk.intro [] (by decide) (by decide) (by intro o ho; simp at ho ⊢ <;> omega) ?_ ?_ <;> repeat' (first | exact WkVL.nil | refine WkVL.cons ?_ ?_ | exact WkV.top | exact WkV.imm rfl | exact WkV.imm (by simp) | exact WkV.optr rfl | exact WkV.own rfl (by simp) | exact WkV.nil_own (.inl rfl) | exact WkV.map rfl | (refine WkV.free ?_; simp [Free, FreeL] <;> assumption) | (refine WkV.free (fun _ _ => FreeL_nth ?_ _); simp [Free, FreeL]; done) | refine WkV.agg ?_ | refine WkV.tup ?_ | refine WkV.fn ?_ ?_ | exact WkO.dead | exact WkO.raw | refine WkO.ghost ?_ | exact WkO.mpE rfl trivial | refine WkO.box ?_ rfl | refine WkO.arr ?_ | refine And.intro ?_ (And.intro (by first | exact fun h => h | exact fun _ => rfl | exact nofun) ?_) | exact trivial | (intro i j hi hj)))
  rintro m st ⟨i, h0, h1, h2, rfl⟩
  (simp only [go_sem, ↓reduceIte, Nat.reduceAdd, Nat.reduceSub, Nat.reduceMul, Nat.reduceLT, Nat.reduceLeDiff, Nat.reduceEqDiff, Nat.reduceGT, Int.reduceToNat, Int.reduceBEq, Int.reduceBNe]; try simp (disch := omega) only [wrapI, wrapU, half_sum, toNat_sub1, toNat_add1, Int.toNat_natCast])
  (repeat' (first | with_reducible refine T_seq_drawT (id := 6) Γ_ok drawsAny pl77_6 (by kernel_rfl) (fun K hK => ?_) | with_reducible refine T_last_drawT (id := 6) Γ_ok drawsAny pl77_6 (by kernel_rfl) (fun K hK => ?_) | ((refine goR0 _ _ _ _ _ _ _ _ ?_ ?_ ?_ ?_ ?_ ?_ ?_ ?_) <;> (repeat intro hb) <;> first | exact True.intro | refine Lf.mk ?_)))
  · rw [bytesNe (i := i) (by omega)]
  · refine ⟨a.length - (i + 1), by omega, _, ?_, i + 1, by omega, by omega, fun j hj => ?_, rfl⟩
    · ((try simp only [List.length_append, List.length_cons, List.length_nil, Nat.zero_add]); refine Wk.intro [] (by decide) (by decide) (by intro o ho; simp at ho ⊢ <;> omega) ?_ ?_ <;> repeat' (first | (refine WkV.imm ?_; congr 1; omega) | exact WkVL.nil | refine WkVL.cons ?_ ?_ | exact WkV.top | exact WkV.imm rfl | exact WkV.imm (by simp) | exact WkV.optr rfl | exact WkV.own rfl (by simp) | exact WkV.nil_own (.inl rfl) | exact WkV.map rfl | (refine WkV.free ?_; simp [Free, FreeL] <;> assumption) | (refine WkV.free (fun _ _ => FreeL_nth ?_ _); simp [Free, FreeL]; done) | refine WkV.agg ?_ | refine WkV.tup ?_ | refine WkV.fn ?_ ?_ | exact WkO.dead | exact WkO.raw | refine WkO.ghost ?_ | exact WkO.mpE rfl trivial | refine WkO.box ?_ rfl | refine WkO.arr ?_ | refine And.intro ?_ (And.intro (by first | exact fun h => h | exact fun _ => rfl | exact nofun) ?_) | exact trivial | (intro i j hi hj)))
    · by_cases e : j = i
      · subst e; omega
      · exact h2 j (by omega)
  · rw [bytesEq hlen' (k := i) (by omega) h2]
end Go.Proofs.YtnomenmakhielaaDoor
