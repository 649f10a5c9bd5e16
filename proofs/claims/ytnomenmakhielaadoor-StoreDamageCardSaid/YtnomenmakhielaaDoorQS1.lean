/-
  Bytes and the checksum: what wire.Sum and the reference's Sum answer.
-/
import Derived.Test.YtnomenmakhielaaDoorQGo
import Derived.Test.YtnomenmakhielaaDoorQW16
import Derived.Test.YtnomenmakhielaaDoorQL5
import Derived.Laws.BitsAllLaws
set_option linter.unusedSimpArgs false
set_option linter.unusedVariables false
namespace Go.Proofs.YtnomenmakhielaaDoor
open Go.Ab

@[go_sem] theorem gA_0 : gA 0 = .rptr 16 (gcell .u32 nibL) := rfl
/-- A byte of a list. -/
def gb8 (l : List Nat) (i : Nat) : Nat := l.getD i 0
def byE (l : List Nat) (i _j : Nat) : AV := .imm (.int .u8 ((gb8 l i : Nat) : Int))
@[go_sem] theorem byE_eq (l : List Nat) (i j : Nat) : byE l i j = .imm (.int .u8 ((gb8 l i : Nat) : Int)) := rfl
@[go_sem, reducible] def bys (l : List Nat) : AV := .view l.length 1 (byE l)
@[go_sem, reducible] def byO (l : List Nat) : AObj := .arr 5 1 l.length (byE l)
@[go_sem, reducible] def ownB (l : List Nat) : AV := .own 0 0 l.length none
@[simp] theorem byE_free (l : List Nat) (i j : Nat) : Free (byE l i j) := trivial
@[simp] theorem byE_pl (l : List Nat) (i j : Nat) : Pl (byE l i j) := trivial
def ByOk (l : List Nat) : Prop := ∀ x ∈ l, x < 256
theorem gb8_lt {l : List Nat} (h : ByOk l) (i : Nat) : gb8 l i < 256 := by
  unfold gb8
  rw [List.getD_eq_getElem?_getD]
  by_cases hi : i < l.length
  · rw [List.getElem?_eq_getElem hi]; exact h _ (List.getElem_mem hi)
  · rw [List.getElem?_eq_none (by omega)]; decide

/-- The table's row of four bits. -/
def nib (i : Nat) : Nat := (nibL.getD i 0).toNat
theorem nib_lt (i : Nat) : nib i < 4294967296 := by
  by_cases h : i < 16
  · revert h; revert i; decide
  · unfold nib
    rw [List.getD_eq_getElem?_getD, List.getElem?_eq_none (by simp [nibL]; omega)]
    decide
@[go_sem] theorem gcell_nib (i : Nat) : gcell .u32 nibL i = .imm (.int .u32 ((nib i : Nat) : Int)) := by
  unfold gcell nib
  congr 2
  by_cases h : i < 16
  · revert h; revert i; decide
  · rw [List.getD_eq_getElem?_getD, List.getElem?_eq_none (by simp [nibL]; omega)]
    rfl
@[go_sem] theorem bxor32 (a b : Nat) : bits .xor .u32 (a : Int) (b : Int) = ((a % 4294967296 ^^^ b % 4294967296 : Nat) : Int) := by
  have h1 : ∀ a : Nat, (BitVec.ofInt 32 (a : Int)) = BitVec.ofInt 32 ((a % 4294967296 : Nat) : Int) := fun a => by
    apply BitVec.eq_of_toNat_eq
    simp [BitVec.toNat_ofInt]
    omega
  have h2 : bits .xor .u32 (a : Int) (b : Int) = bits .xor .u32 ((a % 4294967296 : Nat) : Int) ((b % 4294967296 : Nat) : Int) := by
    simp only [bits, IntKind.bits]
    rw [h1 a, h1 b]
  rw [h2]
  exact u32_xor_nat _ _ (Nat.mod_lt _ (by decide)) (Nat.mod_lt _ (by decide))
@[go_sem] theorem bxorF (b : Nat) : bits .xor .u32 4294967295 (b : Int) = ((4294967295 ^^^ b % 4294967296 : Nat) : Int) := bxor32 4294967295 b
@[go_sem] theorem bxorF2 (b : Nat) : bits .xor .u32 (b : Int) 4294967295 = ((b % 4294967296 ^^^ 4294967295 : Nat) : Int) := bxor32 b 4294967295
@[go_sem] theorem unx32 (b : Nat) : bits .xor .u32 (if IntKind.u32.signed = true then -1 else IntKind.u32.max) (b : Int) = ((4294967295 ^^^ b % 4294967296 : Nat) : Int) := bxor32 4294967295 b
@[go_sem] theorem bxorP (b : Nat) : bits .xor .u32 (b : Int) 3988292384 = ((b % 4294967296 ^^^ 3988292384 : Nat) : Int) := bxor32 b 3988292384
@[go_sem] theorem band15 (a : Nat) : bits .and .u32 (a : Int) 15 = ((a % 16 : Nat) : Int) := by
  have h1 : (BitVec.ofInt 32 (a : Int)) = BitVec.ofInt 32 ((a % 4294967296 : Nat) : Int) := by
    apply BitVec.eq_of_toNat_eq
    simp [BitVec.toNat_ofInt]
    omega
  have h2 : bits .and .u32 (a : Int) 15 = bits .and .u32 ((a % 4294967296 : Nat) : Int) ((15 : Nat) : Int) := by
    simp only [bits, IntKind.bits]
    rw [h1]
    rfl
  rw [h2, u32_and_nat _ _ (Nat.mod_lt _ (by decide)) (by decide), nat_mask4]
  congr 1
  omega
@[go_sem] theorem wr32 (a : Nat) : IntKind.u32.wrap (a : Int) = ((a % 4294967296 : Nat) : Int) := by rw [IntKind.wrap_u32']; omega
@[go_sem] theorem wr8 (a : Nat) : IntKind.u8.wrap (a : Int) = ((a % 256 : Nat) : Int) := by rw [IntKind.wrap_u8']; omega
@[go_sem] theorem fd4 (a : Nat) : Int.fdiv (a : Int) (2 ^ min 4 32) = ((a / 16 : Nat) : Int) := by
  rw [Int.fdiv_eq_ediv_of_nonneg _ (by decide)]
  simp
@[go_sem] theorem tdv2 (a : Nat) : Int.tdiv (a : Int) 2 = ((a / 2 : Nat) : Int) := rfl
@[go_sem] theorem tmd2 (a : Nat) : Int.tmod (a : Int) 2 = ((a % 2 : Nat) : Int) := rfl

/-- Four bits of the checksum. -/
def half (c : Nat) : Nat := c / 16 ^^^ nib (c % 16)
def crcB (c x : Nat) : Nat := half (half (c ^^^ x))
def crc (l : List Nat) (c : Nat) : Nat := l.foldl crcB c
def sumN (l : List Nat) : Nat := 4294967295 ^^^ crc l 4294967295
theorem xor_lt32 {a b : Nat} (ha : a < 4294967296) (hb : b < 4294967296) : a ^^^ b < 4294967296 := Nat.xor_lt_two_pow (n := 32) ha hb
theorem half_lt {c : Nat} (h : c < 4294967296) : half c < 4294967296 := xor_lt32 (by omega) (nib_lt _)
theorem crcB_lt {c x : Nat} (h : c < 4294967296) (hx : x < 4294967296) : crcB c x < 4294967296 := half_lt (half_lt (xor_lt32 h hx))
theorem crc_lt : ∀ {l : List Nat} {c : Nat}, ByOk l → c < 4294967296 → crc l c < 4294967296
  | [], c, _, h => h
  | x :: l, c, hl, h => crc_lt (l := l) (fun y hy => hl y (by simp [hy])) (crcB_lt h (by have := hl x (by simp); omega))
theorem sumN_lt {l : List Nat} (h : ByOk l) : sumN l < 4294967296 := xor_lt32 (by decide) (crc_lt h (by decide))
theorem take_snocB {l : List Nat} {i : Nat} (h : i < l.length) : l.take (i + 1) = l.take i ++ [gb8 l i] := by
  rw [List.take_add_one, List.getElem?_eq_getElem h]
  simp [gb8, h]
theorem crc_succ {l : List Nat} {i : Nat} (h : i < l.length) (c : Nat) : crc (l.take (i + 1)) c = crcB (crc (l.take i) c) (gb8 l i) := by
  rw [take_snocB h]; simp [crc]
theorem ByOk.take {l : List Nat} (h : ByOk l) (n : Nat) : ByOk (l.take n) := fun x hx => h x (List.mem_of_mem_take hx)
theorem ByOk.drop {l : List Nat} (h : ByOk l) (n : Nat) : ByOk (l.drop n) := fun x hx => h x (List.mem_of_mem_drop hx)

theorem half_mod {c : Nat} (h : c < 4294967296) : c / 16 % 4294967296 ^^^ nib (c % 16 * 1) % 4294967296 = half c := by
  have := nib_lt (c % 16)
  rw [Nat.mul_one, Nat.mod_eq_of_lt (by omega), Nat.mod_eq_of_lt this]
  rfl
theorem crc_step {c x : Nat} (hc : c < 4294967296) (hx : x < 256) : (((c % 4294967296 ^^^ x % 4294967296 % 4294967296) / 16 % 4294967296 ^^^ nib ((c % 4294967296 ^^^ x % 4294967296 % 4294967296) % 16 * 1) % 4294967296) / 16 % 4294967296 ^^^
    nib (((c % 4294967296 ^^^ x % 4294967296 % 4294967296) / 16 % 4294967296 ^^^ nib ((c % 4294967296 ^^^ x % 4294967296 % 4294967296) % 16 * 1) % 4294967296) % 16 * 1) % 4294967296) = crcB c x := by
  have e1 : x % 4294967296 = x := Nat.mod_eq_of_lt (by omega)
  have e2 : c % 4294967296 = c := Nat.mod_eq_of_lt hc
  have h3 : c ^^^ x < 4294967296 := xor_lt32 hc (by omega)
  rw [e1, e1, e2, half_mod h3, half_mod (half_lt h3)]
  rfl

set_option maxRecDepth 100000 in
set_option maxHeartbeats 400000 in
theorem sum_tc (l : List Nat) (hb : ByOk l) (hl : l.length ≤ 9223372036854775807) : Look Tryd.prog 75 [bys l] (.imm (.int .u32 ((sumN l : Nat) : Int))) := by
  refine Look.mk trivial ?_
  (refine TC_of_T Γ_ok Tryd.func75 rfl (by kernel_rfl) ?_; simp only [Tryd.ntmps75, Tryd.results75, List.length_cons, List.length_nil, Nat.reduceSub, Nat.reduceAdd, List.replicate, List.cons_append, List.nil_append])
  (((refine goR0 _ _ _ _ _ _ _ _ ?_ ?_ ?_ ?_ ?_ ?_ ?_ ?_) <;> (repeat intro hb) <;> first | exact True.intro | refine Lf.mk ?_))
  refine T_loopW (fun m st => ∃ i : Nat, m + i = l.length ∧ st = ⟨[bys l, .top, .imm (.int .u32 0), .imm (.int .u32 ((crc (l.take i) 4294967295 : Nat) : Int)), .top, .top, bys l, .imm (.int .i64 l.length), .imm (.int .i64 i)] ++ List.replicate 24 .top, []⟩)
    l.length ⟨_, ?_, 0, rfl, rfl⟩ ?_
  · ((try simp only [List.length_append, List.length_cons, List.length_nil, Nat.zero_add]); refine Wk.intro [] (by decide) (by decide) (by intro o ho; simp at ho ⊢ <;> omega) ?_ ?_ <;> repeat' (first | exact WkVL.nil | refine WkVL.cons ?_ ?_ | exact WkV.top | exact WkV.imm rfl | exact WkV.imm (by simp) | exact WkV.optr rfl | exact WkV.own rfl (by simp) | exact WkV.nil_own (.inl rfl) | exact WkV.map rfl | (refine WkV.free ?_; simp [Free, FreeL] <;> assumption) | (refine WkV.free (fun _ _ => FreeL_nth ?_ _); simp [Free, FreeL]; done) | refine WkV.agg ?_ | refine WkV.tup ?_ | refine WkV.fn ?_ ?_ | exact WkO.dead | exact WkO.raw | refine WkO.ghost ?_ | exact WkO.mpE rfl trivial | refine WkO.box ?_ rfl | refine WkO.arr ?_ | refine And.intro ?_ (And.intro (by first | exact fun h => h | exact fun _ => rfl | exact nofun) ?_) | exact trivial | (intro i j hi hj)))
  rintro m st ⟨i, h1, rfl⟩
  have hc := crc_lt (hb.take i) (c := 4294967295) (by decide)
  have hx := gb8_lt hb i
  (simp only [go_sem, ↓reduceIte, Nat.reduceAdd, Nat.reduceSub, Nat.reduceMul, Nat.reduceLT, Nat.reduceLeDiff, Nat.reduceEqDiff, Nat.reduceGT, Int.reduceToNat, Int.reduceBEq, Int.reduceBNe]; try simp (disch := omega) only [wrapI, wrapU, half_sum, toNat_sub1, toNat_add1, Int.toNat_natCast])
  (((refine goR0 _ _ _ _ _ _ _ _ ?_ ?_ ?_ ?_ ?_ ?_ ?_ ?_) <;> (repeat intro hb) <;> first | exact True.intro | refine Lf.mk ?_))
  · refine ⟨l.length - (i + 1), by omega, _, ?_, i + 1, by omega, rfl⟩
    ((try simp only [List.length_append, List.length_cons, List.length_nil, Nat.zero_add]); refine Wk.intro [] (by decide) (by decide) (by intro o ho; simp at ho ⊢ <;> omega) ?_ ?_ <;> repeat' (first | (refine WkV.imm ?_; rw [crc_succ (by omega)]; congr 2; exact crc_step hc hx) | (refine WkV.imm ?_; congr 1; omega) | exact WkVL.nil | refine WkVL.cons ?_ ?_ | exact WkV.top | exact WkV.imm rfl | exact WkV.imm (by simp) | exact WkV.optr rfl | exact WkV.own rfl (by simp) | exact WkV.nil_own (.inl rfl) | exact WkV.map rfl | (refine WkV.free ?_; simp [Free, FreeL] <;> assumption) | (refine WkV.free (fun _ _ => FreeL_nth ?_ _); simp [Free, FreeL]; done) | refine WkV.agg ?_ | refine WkV.tup ?_ | refine WkV.fn ?_ ?_ | exact WkO.dead | exact WkO.raw | refine WkO.ghost ?_ | exact WkO.mpE rfl trivial | refine WkO.box ?_ rfl | refine WkO.arr ?_ | refine And.intro ?_ (And.intro (by first | exact fun h => h | exact fun _ => rfl | exact nofun) ?_) | exact trivial | (intro i j hi hj)))
  · have e : l.take i = l := List.take_of_length_le (by omega)
    rw [e] at hc ⊢
    rw [Nat.mod_eq_of_lt hc]
    rfl
end Go.Proofs.YtnomenmakhielaaDoor
