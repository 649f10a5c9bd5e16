/-
  Parts joined: S1 S2 S3.
-/
import Derived.Test.YtngfnogoicfmaaaGreatDoorQGo
import Derived.Test.YtngfnogoicfmaaaGreatDoorQU2
import Derived.Test.YtngfnogoicfmaaaGreatDoorQA5
import Derived.Laws.BitsAllLaws
set_option linter.unusedSimpArgs false
set_option linter.unusedVariables false
namespace Go.Proofs.YtngfnogoicfmaaaGreatDoor
open Go.Ab
@[go_sem] theorem gA_0 : gA 0 = .rptr 16 (gcell .u32 nibL) := rfl
def gb8 (l : List Nat) (i : Nat) : Nat := l.getD i 0
def byE (l : List Nat) (i _j : Nat) : AV := .imm (.int .u8 ((gb8 l i : Nat) : Int))
@[go_sem] theorem byE_eq (l : List Nat) (i j : Nat) : byE l i j = .imm (.int .u8 ((gb8 l i : Nat) : Int)) := rfl
@[go_sem, reducible] def bys (l : List Nat) : AV := .view l.length 1 (byE l)
@[go_sem, reducible] def byO (l : List Nat) : AObj := .arr 5 1 l.length (byE l)
@[go_sem, reducible] def ownB (l : List Nat) : AV := .own 0 0 l.length none
@[simp] theorem byE_free (l : List Nat) (i j : Nat) : Free (byE l i j) := trivial
@[simp] theorem byE_pl (l : List Nat) (i j : Nat) : Pl (byE l i j) := trivial
def ByOk (l : List Nat) : Prop := ∀ x ∈ l, x < 256
theorem gb8_lt {l : List Nat} (h : ByOk l) (i : Nat) : gb8 l i < 256 := by
  unfold gb8
  rw [List.getD_eq_getElem?_getD]
  by_cases hi : i < l.length
  · rw [List.getElem?_eq_getElem hi]; exact h _ (List.getElem_mem hi)
  · rw [List.getElem?_eq_none (by omega)]; decide
def nib (i : Nat) : Nat := (nibL.getD i 0).toNat
theorem nib_lt (i : Nat) : nib i < 4294967296 := by
  by_cases h : i < 16
  · revert h; revert i; decide
  · unfold nib
    rw [List.getD_eq_getElem?_getD, List.getElem?_eq_none (by simp [nibL]; omega)]
    decide
@[go_sem] theorem gcell_nib (i : Nat) : gcell .u32 nibL i = .imm (.int .u32 ((nib i : Nat) : Int)) := by
  unfold gcell nib
  congr 2
  by_cases h : i < 16
  · revert h; revert i; decide
  · rw [List.getD_eq_getElem?_getD, List.getElem?_eq_none (by simp [nibL]; omega)]
    rfl
@[go_sem] theorem bxor32 (a b : Nat) : bits .xor .u32 (a : Int) (b : Int) = ((a % 4294967296 ^^^ b % 4294967296 : Nat) : Int) := by
  have h1 : ∀ a : Nat, (BitVec.ofInt 32 (a : Int)) = BitVec.ofInt 32 ((a % 4294967296 : Nat) : Int) := fun a => by
    apply BitVec.eq_of_toNat_eq
    simp [BitVec.toNat_ofInt]
    omega
  have h2 : bits .xor .u32 (a : Int) (b : Int) = bits .xor .u32 ((a % 4294967296 : Nat) : Int) ((b % 4294967296 : Nat) : Int) := by
    simp only [bits, IntKind.bits]
    rw [h1 a, h1 b]
  rw [h2]
  exact u32_xor_nat _ _ (Nat.mod_lt _ (by decide)) (Nat.mod_lt _ (by decide))
@[go_sem] theorem bxorF (b : Nat) : bits .xor .u32 4294967295 (b : Int) = ((4294967295 ^^^ b % 4294967296 : Nat) : Int) := bxor32 4294967295 b
@[go_sem] theorem bxorF2 (b : Nat) : bits .xor .u32 (b : Int) 4294967295 = ((b % 4294967296 ^^^ 4294967295 : Nat) : Int) := bxor32 b 4294967295
@[go_sem] theorem unx32 (b : Nat) : bits .xor .u32 (if IntKind.u32.signed = true then -1 else IntKind.u32.max) (b : Int) = ((4294967295 ^^^ b % 4294967296 : Nat) : Int) := bxor32 4294967295 b
@[go_sem] theorem bxorP (b : Nat) : bits .xor .u32 (b : Int) 3988292384 = ((b % 4294967296 ^^^ 3988292384 : Nat) : Int) := bxor32 b 3988292384
@[go_sem] theorem band15 (a : Nat) : bits .and .u32 (a : Int) 15 = ((a % 16 : Nat) : Int) := by
  have h1 : (BitVec.ofInt 32 (a : Int)) = BitVec.ofInt 32 ((a % 4294967296 : Nat) : Int) := by
    apply BitVec.eq_of_toNat_eq
    simp [BitVec.toNat_ofInt]
    omega
  have h2 : bits .and .u32 (a : Int) 15 = bits .and .u32 ((a % 4294967296 : Nat) : Int) ((15 : Nat) : Int) := by
    simp only [bits, IntKind.bits]
    rw [h1]
    rfl
  rw [h2, u32_and_nat _ _ (Nat.mod_lt _ (by decide)) (by decide), nat_mask4]
  congr 1
  omega
@[go_sem] theorem wr32 (a : Nat) : IntKind.u32.wrap (a : Int) = ((a % 4294967296 : Nat) : Int) := by rw [IntKind.wrap_u32'];omega
@[go_sem] theorem wr8 (a : Nat) : IntKind.u8.wrap (a : Int) = ((a % 256 : Nat) : Int) := by rw [IntKind.wrap_u8']; omega
@[go_sem] theorem fd4 (a : Nat) : Int.fdiv (a : Int) (2 ^ min 4 32) = ((a / 16 : Nat) : Int) := by
  rw [Int.fdiv_eq_ediv_of_nonneg _ (by decide)]
  simp
@[go_sem] theorem tdv2 (a : Nat) : Int.tdiv (a : Int) 2 = ((a / 2 : Nat) : Int) := rfl
@[go_sem] theorem tmd2 (a : Nat) : Int.tmod (a : Int) 2 = ((a % 2 : Nat) : Int) := rfl
def half (c : Nat) : Nat := c / 16 ^^^ nib (c % 16)
def crcB (c x : Nat) : Nat := half (half (c ^^^ x))
def crc (l : List Nat) (c : Nat) : Nat := l.foldl crcB c
def sumN (l : List Nat) : Nat := 4294967295 ^^^ crc l 4294967295
theorem xor_lt32 {a b : Nat} (ha : a < 4294967296) (hb : b < 4294967296) : a ^^^ b < 4294967296 := Nat.xor_lt_two_pow (n := 32) ha hb
theorem half_lt {c : Nat} (h : c < 4294967296) : half c < 4294967296 := xor_lt32 (by omega) (nib_lt _)
theorem crcB_lt {c x : Nat} (h : c < 4294967296) (hx : x < 4294967296) : crcB c x < 4294967296 := half_lt (half_lt (xor_lt32 h hx))
theorem crc_lt : ∀ {l : List Nat} {c : Nat}, ByOk l → c < 4294967296 → crc l c < 4294967296
  | [], c, _, h => h
  | x :: l, c, hl, h => crc_lt (l := l) (fun y hy => hl y (by simp [hy])) (crcB_lt h (by have := hl x (by simp); omega))
theorem take_snocB {l : List Nat} {i : Nat} (h : i < l.length) : l.take (i + 1) = l.take i ++ [gb8 l i] := by
  rw [List.take_add_one, List.getElem?_eq_getElem h]
  simp [gb8, h]
theorem crc_succ {l : List Nat} {i : Nat} (h : i < l.length) (c : Nat) : crc (l.take (i + 1)) c = crcB (crc (l.take i) c) (gb8 l i) := by
  rw [take_snocB h]; simp [crc]
theorem ByOk.take {l : List Nat} (h : ByOk l) (n : Nat) : ByOk (l.take n) := fun x hx => h x (List.mem_of_mem_take hx)
theorem ByOk.drop {l : List Nat} (h : ByOk l) (n : Nat) : ByOk (l.drop n) := fun x hx => h x (List.mem_of_mem_drop hx)
theorem half_mod {c : Nat} (h : c < 4294967296) : c / 16 % 4294967296 ^^^ nib (c % 16 * 1) % 4294967296 = half c := by
  have := nib_lt (c % 16)
  rw [Nat.mul_one, Nat.mod_eq_of_lt (by omega), Nat.mod_eq_of_lt this]
  rfl
theorem crc_step {c x : Nat} (hc : c < 4294967296) (hx : x < 256) : (((c % 4294967296 ^^^ x % 4294967296 % 4294967296) / 16 % 4294967296 ^^^ nib ((c % 4294967296 ^^^ x % 4294967296 % 4294967296) % 16 * 1) % 4294967296) / 16 % 4294967296 ^^^
    nib (((c % 4294967296 ^^^ x % 4294967296 % 4294967296) / 16 % 4294967296 ^^^ nib ((c % 4294967296 ^^^ x % 4294967296 % 4294967296) % 16 * 1) % 4294967296) % 16 * 1) % 4294967296) = crcB c x := by
  have e1 : x % 4294967296 = x := Nat.mod_eq_of_lt (by omega)
  have e2 : c % 4294967296 = c := Nat.mod_eq_of_lt hc
  have h3 : c ^^^ x < 4294967296 := xor_lt32 hc (by omega)
  rw [e1, e1, e2, half_mod h3, half_mod (half_lt h3)]
  rfl
set_option maxRecDepth 100000 in
set_option maxHeartbeats 4000000 in
theorem sum_tc (l : List Nat) (hb : ByOk l) (hl : l.length ≤ 9223372036854775807) : Look Tryz.prog 88 [bys l] (.imm (.int .u32 ((sumN l : Nat) : Int))) := by
  refine Look.mk trivial ?_
  (refine TC_of_T Γ_ok Tryz.func88 rfl (by kernel_rfl) ?_;simp only [Tryz.ntmps88,Tryz.results88,List.length_cons,List.length_nil,Nat.reduceSub,Nat.reduceAdd,List.replicate,List.cons_append,List.nil_append])
  (((refine goR0 _ _ _ _ _ _ _ _ ?_ ?_ ?_ ?_ ?_ ?_ ?_ ?_) <;> (repeat intro hb) <;> first | exact True.intro | refine Lf.mk ?_))
  refine T_loopW (fun m st=>∃ i : Nat,m + i = l.length ∧ st = ⟨[bys l,.top,.imm (.int .u32 0),.imm (.int .u32 ((crc (l.take i) 4294967295 : Nat) : Int)),.top,.top,bys l,.imm (.int .i64 l.length),.imm (.int .i64 i)] ++ List.replicate 24 .top,[]⟩)
    l.length ⟨_, ?_, 0, rfl, rfl⟩ ?_
  · ((try simp only [List.length_append,List.length_cons,List.length_nil,Nat.zero_add]);refine Wk.intro [] (by decide) (by decide) (by intro o ho;simp at ho ⊢ <;> omega) ?_ ?_ <;> repeat' (first|exact WkVL.nil|refine WkVL.cons ?_ ?_|exact WkV.top|exact WkV.imm rfl|exact WkV.imm (by simp)|exact WkV.optr rfl|exact WkV.own rfl (by simp)|exact WkV.nil_own (.inl rfl)|exact WkV.map rfl|(refine WkV.free ?_;simp [Free,FreeL] <;> assumption)|(refine WkV.free (fun _ _=>FreeL_nth ?_ _);simp [Free,FreeL];done)|refine WkV.agg ?_|refine WkV.tup ?_|refine WkV.fn ?_ ?_|exact WkO.dead|exact WkO.raw|refine WkO.ghost ?_|exact WkO.mpE rfl trivial|refine WkO.box ?_ rfl|refine WkO.arr ?_|refine And.intro ?_ (And.intro (by first|exact fun h=>h|exact fun _=>rfl|exact nofun) ?_)|exact trivial|(intro i j hi hj)))
  rintro m st ⟨i, h1, rfl⟩
  have hc := crc_lt (hb.take i) (c := 4294967295) (by decide)
  have hx := gb8_lt hb i
  (simp only [go_sem,↓reduceIte,Nat.reduceAdd,Nat.reduceSub,Nat.reduceMul,Nat.reduceLT,Nat.reduceLeDiff,Nat.reduceEqDiff,Nat.reduceGT,Int.reduceToNat,Int.reduceBEq,Int.reduceBNe];try simp (disch := omega) only [wrapI,wrapU,half_sum,toNat_sub1,toNat_add1,Int.toNat_natCast])
  (((refine goR0 _ _ _ _ _ _ _ _ ?_ ?_ ?_ ?_ ?_ ?_ ?_ ?_) <;> (repeat intro hb) <;> first | exact True.intro | refine Lf.mk ?_))
  · refine ⟨l.length - (i + 1), by omega, _, ?_, i + 1, by omega, rfl⟩
    ((try simp only [List.length_append,List.length_cons,List.length_nil,Nat.zero_add]);refine Wk.intro [] (by decide) (by decide) (by intro o ho;simp at ho ⊢ <;> omega) ?_ ?_ <;> repeat' (first|(refine WkV.imm ?_;rw [crc_succ (by omega)];congr 2;exact crc_step hc hx)|(refine WkV.imm ?_;congr 1;omega)|exact WkVL.nil|refine WkVL.cons ?_ ?_|exact WkV.top|exact WkV.imm rfl|exact WkV.imm (by simp)|exact WkV.optr rfl|exact WkV.own rfl (by simp)|exact WkV.nil_own (.inl rfl)|exact WkV.map rfl|(refine WkV.free ?_;simp [Free,FreeL] <;> assumption)|(refine WkV.free (fun _ _=>FreeL_nth ?_ _);simp [Free,FreeL];done)|refine WkV.agg ?_|refine WkV.tup ?_|refine WkV.fn ?_ ?_|exact WkO.dead|exact WkO.raw|refine WkO.ghost ?_|exact WkO.mpE rfl trivial|refine WkO.box ?_ rfl|refine WkO.arr ?_|refine And.intro ?_ (And.intro (by first|exact fun h=>h|exact fun _=>rfl|exact nofun) ?_)|exact trivial|(intro i j hi hj)))
  · have e : l.take i = l := List.take_of_length_le (by omega)
    rw [e] at hc ⊢
    rw [Nat.mod_eq_of_lt hc]
    rfl
end Go.Proofs.YtngfnogoicfmaaaGreatDoor
namespace Go.Proofs.YtngfnogoicfmaaaGreatDoor
open Go.Ab
theorem gb8_ext {a b : List Nat} (h : a.length = b.length) (he : ∀ i, i < a.length → gb8 a i = gb8 b i) : a = b := by
  refine List.ext_getElem h fun i h1 h2 => ?_
  have := he i h1
  simpa [gb8, h1, h2] using this
theorem bytesEq {a b : List Nat} {k : Nat} (h : a.length = b.length) (hk : k = a.length) (h2 : ∀ j,j < k → gb8 a j = gb8 b j) : decide (a = b) = true := decide_eq_true (gb8_ext h fun i hi=>h2 i (by omega))
theorem bytesNe {a b : List Nat} {i : Nat} (h : gb8 a i ≠ gb8 b i) : decide (a = b) = false := decide_eq_false fun e => h (by rw [e])
theorem bytesLen {a b : List Nat} (h : ¬ (a.length : Int) = b.length) : decide (a = b) = false := decide_eq_false fun e => h (by rw [e])
set_option maxRecDepth 100000 in
set_option maxHeartbeats 4000000 in
theorem equal_tc (a b : List Nat) (ha : a.length ≤ 9223372036854775807) (hbl : b.length ≤ 9223372036854775807) : Look Tryz.prog 86 [bys a,bys b] (.imm (.bool (decide (a = b)))) := by
  refine Look.mk trivial ?_
  (refine TC_of_T Γ_ok Tryz.func86 rfl (by kernel_rfl) ?_;simp only [Tryz.ntmps86,Tryz.results86,List.length_cons,List.length_nil,Nat.reduceSub,Nat.reduceAdd,List.replicate,List.cons_append,List.nil_append])
  (((refine goR0 _ _ _ _ _ _ _ _ ?_ ?_ ?_ ?_ ?_ ?_ ?_ ?_) <;> (repeat intro hb) <;> first | exact True.intro | refine Lf.mk ?_))
  · rw [bytesLen (by assumption)]
  have hlen' : a.length = b.length := by omega
  refine T_loopW (fun m st=>∃ i : Nat,i ≤ a.length ∧ m + i = a.length ∧ (∀ j,j < i → gb8 a j = gb8 b j) ∧ st = ⟨[bys a,bys b,.top,.top,.imm (.bool false),.top,.top,.top,.top,.top,.top,.top,.imm (.int .i64 a.length),.imm (.int .i64 i)] ++ List.replicate 12 .top,[]⟩)
    a.length ⟨_, ?_, 0, by omega, rfl, by omega, rfl⟩ ?_
  · ((try simp only [List.length_append,List.length_cons,List.length_nil,Nat.zero_add]);refine Wk.intro [] (by decide) (by decide) (by intro o ho;simp at ho ⊢ <;> omega) ?_ ?_ <;> repeat' (first|exact WkVL.nil|refine WkVL.cons ?_ ?_|exact WkV.top|exact WkV.imm rfl|exact WkV.imm (by simp)|exact WkV.optr rfl|exact WkV.own rfl (by simp)|exact WkV.nil_own (.inl rfl)|exact WkV.map rfl|(refine WkV.free ?_;simp [Free,FreeL] <;> assumption)|(refine WkV.free (fun _ _=>FreeL_nth ?_ _);simp [Free,FreeL];done)|refine WkV.agg ?_|refine WkV.tup ?_|refine WkV.fn ?_ ?_|exact WkO.dead|exact WkO.raw|refine WkO.ghost ?_|exact WkO.mpE rfl trivial|refine WkO.box ?_ rfl|refine WkO.arr ?_|refine And.intro ?_ (And.intro (by first|exact fun h=>h|exact fun _=>rfl|exact nofun) ?_)|exact trivial|(intro i j hi hj)))
  rintro m st ⟨i, h0, h1, h2, rfl⟩
  (simp only [go_sem,↓reduceIte,Nat.reduceAdd,Nat.reduceSub,Nat.reduceMul,Nat.reduceLT,Nat.reduceLeDiff,Nat.reduceEqDiff,Nat.reduceGT,Int.reduceToNat,Int.reduceBEq,Int.reduceBNe];try simp (disch := omega) only [wrapI,wrapU,half_sum,toNat_sub1,toNat_add1,Int.toNat_natCast])
  (repeat' (first|with_reducible refine T_seq_drawT (id := 6) Γ_ok drawsAny pl86_6 (by kernel_rfl) (fun K hK=>?_)|with_reducible refine T_last_drawT (id := 6) Γ_ok drawsAny pl86_6 (by kernel_rfl) (fun K hK=>?_)|((refine goR0 _ _ _ _ _ _ _ _ ?_ ?_ ?_ ?_ ?_ ?_ ?_ ?_) <;> (repeat intro hb) <;> first|exact True.intro|refine Lf.mk ?_)))
  · rw [bytesNe (i := i) (by omega)]
  · refine ⟨a.length - (i + 1), by omega, _, ?_, i + 1, by omega, by omega, fun j hj => ?_, rfl⟩
    · ((try simp only [List.length_append,List.length_cons,List.length_nil,Nat.zero_add]);refine Wk.intro [] (by decide) (by decide) (by intro o ho;simp at ho ⊢ <;> omega) ?_ ?_ <;> repeat' (first|(refine WkV.imm ?_;congr 1;omega)|exact WkVL.nil|refine WkVL.cons ?_ ?_|exact WkV.top|exact WkV.imm rfl|exact WkV.imm (by simp)|exact WkV.optr rfl|exact WkV.own rfl (by simp)|exact WkV.nil_own (.inl rfl)|exact WkV.map rfl|(refine WkV.free ?_;simp [Free,FreeL] <;> assumption)|(refine WkV.free (fun _ _=>FreeL_nth ?_ _);simp [Free,FreeL];done)|refine WkV.agg ?_|refine WkV.tup ?_|refine WkV.fn ?_ ?_|exact WkO.dead|exact WkO.raw|refine WkO.ghost ?_|exact WkO.mpE rfl trivial|refine WkO.box ?_ rfl|refine WkO.arr ?_|refine And.intro ?_ (And.intro (by first|exact fun h=>h|exact fun _=>rfl|exact nofun) ?_)|exact trivial|(intro i j hi hj)))
    · by_cases e : j = i
      · subst e; omega
      · exact h2 j (by omega)
  · rw [bytesEq hlen' (k := i) (by omega) h2]
end Go.Proofs.YtngfnogoicfmaaaGreatDoor
namespace Go.Proofs.YtngfnogoicfmaaaGreatDoor
open Go.Ab
structure Rcd where
  k : Int
  s : Int
  b : Int
  x : Tk
@[go_sem,reducible] def rcL (r : Rcd) : List AV := [.imm (.int .i64 r.k),.imm (.int .i64 r.s),.imm (.int .i64 r.b),.imm (.int .i64 r.x.s),.imm (.int .i64 r.x.c),.imm (.int .i64 r.x.n),.imm (.int .i64 r.x.d)]
@[go_sem, reducible] def rcA (r : Rcd) : AV := .agg (rcL r)
def sealN (b : List Nat) : List Nat :=
  b.length :: b ++ [sumN (b.length :: b) / 16777216 % 256,sumN (b.length :: b) / 65536 % 256,sumN (b.length :: b) / 256 % 256,sumN (b.length :: b) % 256]
theorem sealN_length (b : List Nat) : (sealN b).length = b.length + 5 := by simp [sealN]
theorem sealN_ok {b : List Nat} (h : ByOk b) (hl : b.length < 256) : ByOk (sealN b) := by
  intro x hx
  simp only [sealN, List.cons_append, List.mem_cons, List.mem_append, List.not_mem_nil, or_false] at hx
  rcases hx with rfl | hx | rfl | rfl | rfl | rfl
  · exact hl
  · exact h x hx
  all_goals exact Nat.mod_lt _ (by decide)
@[go_sem] theorem fd24 (a : Nat) : Int.fdiv (a : Int) (2 ^ min 24 32) = ((a / 16777216 : Nat) : Int) := by rw [Int.fdiv_eq_ediv_of_nonneg _ (by decide)];simp
@[go_sem] theorem fd16 (a : Nat) : Int.fdiv (a : Int) (2 ^ min 16 32) = ((a / 65536 : Nat) : Int) := by rw [Int.fdiv_eq_ediv_of_nonneg _ (by decide)];simp
@[go_sem] theorem fd8 (a : Nat) : Int.fdiv (a : Int) (2 ^ min 8 32) = ((a / 256 : Nat) : Int) := by rw [Int.fdiv_eq_ediv_of_nonneg _ (by decide)];simp
@[go_sem] theorem gd16 (a : Nat) : Int.fdiv (a : Int) (2 ^ min 16 64) = ((a / 65536 : Nat) : Int) := by rw [Int.fdiv_eq_ediv_of_nonneg _ (by decide)];simp
@[go_sem] theorem gd8 (a : Nat) : Int.fdiv (a : Int) (2 ^ min 8 64) = ((a / 256 : Nat) : Int) := by rw [Int.fdiv_eq_ediv_of_nonneg _ (by decide)];simp
theorem byE_app {a b : List Nat} {f g : Nat → Nat → AV} (hf : ∀ i j,i < a.length → j < 1 → f i j = byE a i j) (hg : ∀ i j,i < b.length → j < 1 → g i j = byE b i j) {n : Nat} (hn : n = a.length) :
    ∀ i j, i < a.length + b.length → j < 1 → catE n f g i j = byE (a ++ b) i j := by
  subst hn
  intro i j hi hj
  unfold catE
  split
  · rename_i h
    rw [hf i j h hj]
    simp [byE, gb8, List.getElem?_append_left h]
  · rename_i h
    rw [hg (i - a.length) j (by omega) hj]
    simp [byE, gb8, List.getElem?_append_right (Nat.le_of_not_lt h)]
def lit8 (l : List Nat) : List AV := l.map fun x => .imm (.int .u8 ((x : Nat) : Int))
theorem lit8_get : ∀ (l : List Nat) (i : Nat), i < l.length → nth (lit8 l) i = .imm (.int .u8 ((gb8 l i : Nat) : Int))
  | x :: l, 0, _ => by simp [lit8, nth, gb8]
  | x :: l, i + 1, h => by
    have := lit8_get l i (by simpa using h)
    simpa [lit8, nth, gb8] using this
  | [], _, h => by simp at h
theorem lit8_E {l : List Nat} {vs : List AV} (h : vs = lit8 l) : ∀ i j,i < l.length → j < 1 → nth vs (i * 1 + j) = byE l i j := by
  subst h
  intro i j hi hj
  have : i * 1 + j = i := by omega
  rw [this, lit8_get l i hi]
  rfl
set_option maxRecDepth 100000 in
set_option maxHeartbeats 4000000 in
theorem sealed_raw (b : List Nat) (hb : ByOk b) (hl : b.length < 256) : TC Tryz.prog 68 [bys b] [] (fun v σ' => (v = .imm (.slice none 0 0) ∧ (sealN b).length = 0) ∨
    ∃ k E',v = .own k 0 (sealN b).length none ∧ nthO σ' k = .arr 5 1 (sealN b).length E' ∧ ∀ i j,i < (sealN b).length → j < 1 → E' i j = byE (sealN b) i j) := by
  have hb1 : ByOk (b.length :: b) := fun x hx => by rcases List.mem_cons.1 hx with rfl | hx; exact hl; exact hb x hx
  have hs := sum_tc (b.length :: b) hb1 (by simp; omega)
  rw [show bys (b.length :: b) = .view (1 + b.length) 1 (byE (b.length :: b)) by simp [bys, Nat.add_comm]] at hs
  have hv5 : ∀ i j,i < 1 + b.length → j < 1 → catE 1 (fun i j => nth [AV.imm (.int .u8 ((b.length % 256 : Nat) : Int))] (i * 1 + j)) (byE b) i j = byE (b.length :: b) i j := by
    have := byE_app (a := [b.length]) (b := b) (f := fun i j=>nth [AV.imm (.int .u8 ((b.length % 256 : Nat) : Int))] (i * 1 + j)) (g := byE b) (lit8_E (by rw [Nat.mod_eq_of_lt hl];rfl)) (fun _ _ _ _=>rfl) (n := 1) rfl
    simpa using this
  (refine TC_of_T Γ_ok Tryz.func68 rfl (by kernel_rfl) ?_;simp only [Tryz.ntmps68,Tryz.results68,List.length_cons,List.length_nil,Nat.reduceSub,Nat.reduceAdd,List.replicate,List.cons_append,List.nil_append])
  (have cl1 := hs;((refine goR0 _ _ _ _ _ _ _ _ ?_ ?_ ?_ ?_ ?_ ?_ ?_ ?_) <;> (repeat intro hb) <;> first | exact True.intro | refine Lf.mk ?_))
  have e : 1 + b.length + 4 = (sealN b).length := by rw [sealN_length]; omega
  refine .inr ⟨3, _, by rw [← e], by rw [← e]; rfl, ?_⟩
  have h3 := byE_app (a := b.length :: b) (b := [sumN (b.length :: b) / 16777216 % 256,sumN (b.length :: b) / 65536 % 256,sumN (b.length :: b) / 256 % 256,sumN (b.length :: b) % 256]) (n := 1 + b.length)
    (fun i j hi hj => hv5 i j (by simpa [Nat.add_comm] using hi) hj) (lit8_E rfl) (by simp [Nat.add_comm])
  intro i j hi hj
  have := h3 i j (by rw [sealN_length] at hi; simp; omega) hj
  exact this
theorem sealed_tc (b : List Nat) (hb : ByOk b) (hl : b.length < 256) : Makes Tryz.prog 68 [bys b] (ownB (sealN b)) [byO (sealN b)] := Makes.lst1J (byE_pl _) (sealed_raw b hb hl)
def bodyN (r : Rcd) : List Nat :=
  [r.k.toNat,r.s.toNat] ++ (if r.k = 3 then [] else [r.b.toNat / 65536 % 256,r.b.toNat / 256 % 256,r.b.toNat % 256]) ++ (if r.k = 1 then [] else [r.x.c.toNat,(r.x.n + 1).toNat,r.x.d.toNat])
def frameN (r : Rcd) : List Nat := sealN (bodyN r)
def Rcd.ok (r : Rcd) : Bool :=
  if r.s < 1 ∨ 16 ≤ r.s then false
  else if r.k = 1 then decide (r.b ≥ 1) && decide (r.b ≤ 1000000) && (r.x.s == 0 && (r.x.c == 0 && (r.x.n == 0 && r.x.d == 0)))
  else if r.k = 2 then decide (r.b ≥ 1) && decide (r.b ≤ 1000000) && (takeB r.x.s r.x.c r.x.n r.x.d && r.x.s == r.s)
  else if r.k = 3 then r.b == 0 && (takeB r.x.s r.x.c r.x.n r.x.d && r.x.s == r.s)
  else false
set_option maxRecDepth 100000 in
set_option maxHeartbeats 4000000 in
theorem valid1_tc (r : Rcd) : Look Tryz.prog 37 [rcA r] (.imm (.bool r.ok)) := by
  refine Look.mk trivial ?_
  obtain ⟨k, s, b, ⟨s', c, n, d⟩⟩ := r
  (refine TC_of_T Γ_ok Tryz.func37 rfl (by kernel_rfl) ?_;simp only [Tryz.ntmps37,Tryz.results37,List.length_cons,List.length_nil,Nat.reduceSub,Nat.reduceAdd,List.replicate,List.cons_append,List.nil_append])
  (have cl1 := fun u1 u2 u3 u4 => take_tc u1 u2 u3 u4;((refine goR0 _ _ _ _ _ _ _ _ ?_ ?_ ?_ ?_ ?_ ?_ ?_ ?_) <;> (repeat intro hb) <;> first | exact True.intro | refine Lf.mk ?_))
  all_goals (congr 2; unfold Rcd.ok; simp only [])
  · rw [if_pos (by omega)]
  · rw [if_neg (by omega), if_pos (by omega)]
  · rw [if_neg (by omega), if_neg (by omega), if_pos (by omega)]
  · rw [if_neg (by omega), if_neg (by omega), if_neg (by omega), if_pos (by omega)]
  · rw [if_neg (by omega), if_neg (by omega), if_neg (by omega), if_neg (by omega)]
theorem takeB_spec {s c n d : Int} (h : takeB s c n d = true) : 1 ≤ s ∧ s < 16 ∧ 0 ≤ c ∧ c < 6 ∧ 0 ≤ d ∧ d < 8 ∧ (n = 0 ∧ c = 0 ∨ n = 1 ∨ n = -1) := by
  unfold takeB at h
  split at h
  · cases h
  · split at h <;> simp at h <;> omega
theorem Rcd.ok_spec {r : Rcd} (h : r.ok = true) : (1 ≤ r.s ∧ r.s < 16) ∧ ((r.k = 1 ∧ (1 ≤ r.b ∧ r.b ≤ 1000000) ∧ r.x = ⟨0,0,0,0⟩) ∨ (r.k = 2 ∧ (1 ≤ r.b ∧ r.b ≤ 1000000) ∧ takeB r.x.s r.x.c r.x.n r.x.d = true ∧ r.x.s = r.s) ∨
    (r.k = 3 ∧ r.b = 0 ∧ takeB r.x.s r.x.c r.x.n r.x.d = true ∧ r.x.s = r.s)) := by
  obtain ⟨k, s, b, ⟨s', c, n, d⟩⟩ := r
  unfold Rcd.ok at h
  simp only [] at h ⊢
  split at h
  · cases h
  · refine ⟨by omega, ?_⟩
    split at h
    · simp at h; left; simp [*]
    · split at h
      · simp at h; right; left; simp [*]; rw [← h.2.2]; exact h.2.1
      · split at h
        · simp at h; right; right; simp [*]; rw [← h.2.2]; exact h.2.1
        · cases h
theorem bodyN_1 (s b : Nat) : bodyN ⟨1,s,b,⟨0,0,0,0⟩⟩ = [1,s,b / 65536 % 256,b / 256 % 256,b % 256] := by simp [bodyN]
theorem bodyN_2 (s b c n d : Nat) : bodyN ⟨2,s,b,⟨s,c,(n : Int) - 1,d⟩⟩ = [2,s,b / 65536 % 256,b / 256 % 256,b % 256,c,n,d] := by simp [bodyN]
theorem bodyN_3 (s c n d : Nat) : bodyN ⟨3, s, 0, ⟨s, c, (n : Int) - 1, d⟩⟩ = [3, s, c, n, d] := by simp [bodyN]
@[go_sem] theorem wr8s (m : Nat) : IntKind.u8.wrap ((m : Int) - 1 + 1) = ((m % 256 : Nat) : Int) := by rw [Int.sub_add_cancel,wr8]
@[go_sem] theorem wr8k1 : IntKind.u8.wrap 1 = 1 := rfl
@[go_sem] theorem wr8k2 : IntKind.u8.wrap 2 = 2 := rfl
@[go_sem] theorem wr8k3 : IntKind.u8.wrap 3 = 3 := rfl
theorem Rcd.ok_cases {r : Rcd} (h : r.ok = true) : (∃ s b : Nat,(1 ≤ s ∧ s < 16) ∧ (1 ≤ b ∧ b ≤ 1000000) ∧ r = ⟨1,s,b,⟨0,0,0,0⟩⟩) ∨
    (∃ s b c n d : Nat,(1 ≤ s ∧ s < 16) ∧ (1 ≤ b ∧ b ≤ 1000000) ∧ (c < 6 ∧ n < 3 ∧ d < 8 ∧ (n = 1 → c = 0)) ∧ r = ⟨2,s,b,⟨s,c,(n : Int) - 1,d⟩⟩) ∨
    (∃ s c n d : Nat,(1 ≤ s ∧ s < 16) ∧ (c < 6 ∧ n < 3 ∧ d < 8 ∧ (n = 1 → c = 0)) ∧ r = ⟨3,s,0,⟨s,c,(n : Int) - 1,d⟩⟩) := by
  obtain ⟨k, s, b, ⟨s', c, n, d⟩⟩ := r
  obtain ⟨⟨h1, h2⟩, h3⟩ := Rcd.ok_spec h
  simp only [] at h1 h2 h3
  rcases h3 with ⟨rfl, hb, hx⟩ | ⟨rfl, hb, hx, rfl⟩ | ⟨rfl, rfl, hx, rfl⟩
  · left
    cases hx
    exact ⟨s.toNat, b.toNat, by omega, by omega, by rw [Int.toNat_of_nonneg (by omega), Int.toNat_of_nonneg (by omega)]⟩
  · right; left
    obtain ⟨_, _, g1, g2, g3, g4, g5⟩ := takeB_spec hx
    exact ⟨s'.toNat, b.toNat, c.toNat, (n + 1).toNat, d.toNat, by omega, by omega, by omega, by
      rw [Int.toNat_of_nonneg (a := s') (by omega),Int.toNat_of_nonneg (a := b) (by omega),Int.toNat_of_nonneg (a := c) (by omega),Int.toNat_of_nonneg (a := n + 1) (by omega),Int.toNat_of_nonneg (a := d) (by omega),Int.add_sub_cancel]⟩
  · right; right
    obtain ⟨_, _, g1, g2, g3, g4, g5⟩ := takeB_spec hx
    exact ⟨s'.toNat, c.toNat, (n + 1).toNat, d.toNat, by omega, by omega, by
      rw [Int.toNat_of_nonneg (a := s') (by omega),Int.toNat_of_nonneg (a := c) (by omega),Int.toNat_of_nonneg (a := n + 1) (by omega),Int.toNat_of_nonneg (a := d) (by omega),Int.add_sub_cancel]⟩
theorem bodyN_ok {r : Rcd} (h : r.ok = true) : ByOk (bodyN r) ∧ (bodyN r).length ≤ 8 := by
  rcases Rcd.ok_cases h with ⟨s, b, h1, h2, rfl⟩ | ⟨s, b, c, n, d, h1, h2, h3, rfl⟩ | ⟨s, c, n, d, h1, h3, rfl⟩
  · rw [bodyN_1]; exact ⟨fun x hx => by simp at hx; omega, by simp⟩
  · rw [bodyN_2]; exact ⟨fun x hx => by simp at hx; omega, by simp⟩
  · rw [bodyN_3]; exact ⟨fun x hx => by simp at hx; omega, by simp⟩
set_option maxRecDepth 100000 in
set_option maxHeartbeats 4000000 in
theorem frame_raw (r : Rcd) (h : r.ok = true) : TC Tryz.prog 49 [rcA r] [] (fun v σ' => ∃ k,v = .own k 0 (frameN r).length none ∧ nthO σ' k = byO (frameN r)) := by
  have hbo := bodyN_ok h
  have hse := sealed_tc (bodyN r) hbo.1 (by omega)
  unfold frameN
  (refine TC_of_T Γ_ok Tryz.func49 rfl (by kernel_rfl) ?_;simp only [Tryz.ntmps49,Tryz.results49,List.length_cons,List.length_nil,Nat.reduceSub,Nat.reduceAdd,List.replicate,List.cons_append,List.nil_append])
  rcases Rcd.ok_cases h with ⟨s, b, h1, h2, rfl⟩ | ⟨s, b, c, n, d, h1, h2, h3, rfl⟩ | ⟨s, c, n, d, h1, h3, rfl⟩
  · rw [bodyN_1] at hse ⊢
    have hv5 : ∀ i j,i < 5 → j < 1 → catE 2 (fun i j=>nth [AV.imm (.int .u8 1),AV.imm (.int .u8 ((s % 256 : Nat) : Int))] (i * 1 + j)) (fun i j=>nth [AV.imm (.int .u8 ((b / 65536 % 256 : Nat) : Int)),AV.imm (.int .u8 ((b / 256 % 256 : Nat) : Int)),AV.imm (.int .u8 ((b % 256 : Nat) : Int))] (i * 1 + j)) i j = byE [1,s,b / 65536 % 256,b / 256 % 256,b % 256] i j :=
      byE_app (a := [1,s]) (b := [b / 65536 % 256,b / 256 % 256,b % 256]) (lit8_E (by rw [Nat.mod_eq_of_lt (by omega)];rfl)) (lit8_E rfl) rfl
    (have cm1 := hse;((refine goR0 _ _ _ _ _ _ _ _ ?_ ?_ ?_ ?_ ?_ ?_ ?_ ?_) <;> (repeat intro hb) <;> first | exact True.intro | refine Lf.mk ?_))
    exact ⟨_, rfl, rfl⟩
  · rw [bodyN_2] at hse ⊢
    have hv4 : ∀ i j,i < 5 → j < 1 → catE 2 (fun i j=>nth [AV.imm (.int .u8 2),AV.imm (.int .u8 ((s % 256 : Nat) : Int))] (i * 1 + j)) (fun i j=>nth [AV.imm (.int .u8 ((b / 65536 % 256 : Nat) : Int)),AV.imm (.int .u8 ((b / 256 % 256 : Nat) : Int)),AV.imm (.int .u8 ((b % 256 : Nat) : Int))] (i * 1 + j)) i j = byE [2,s,b / 65536 % 256,b / 256 % 256,b % 256] i j :=
      byE_app (a := [2,s]) (b := [b / 65536 % 256,b / 256 % 256,b % 256]) (lit8_E (by rw [Nat.mod_eq_of_lt (by omega)];rfl)) (lit8_E rfl) rfl
    have hv5 := byE_app (a := [2,s,b / 65536 % 256,b / 256 % 256,b % 256]) (b := [c,n,d]) (n := 5) hv4 (g := fun i j=>nth [AV.imm (.int .u8 ((c % 256 : Nat) : Int)),AV.imm (.int .u8 ((n % 256 : Nat) : Int)),AV.imm (.int .u8 ((d % 256 : Nat) : Int))] (i * 1 + j)) (lit8_E (by rw [Nat.mod_eq_of_lt (by omega),Nat.mod_eq_of_lt (by omega),Nat.mod_eq_of_lt (by omega)];rfl)) rfl
    clear hv4
    (have cm1 := hse;((refine goR0 _ _ _ _ _ _ _ _ ?_ ?_ ?_ ?_ ?_ ?_ ?_ ?_) <;> (repeat intro hb) <;> first | exact True.intro | refine Lf.mk ?_))
    exact ⟨_, rfl, rfl⟩
  · rw [bodyN_3] at hse ⊢
    have hv5 := byE_app (a := [3,s]) (b := [c,n,d]) (n := 2) (f := fun i j=>nth [AV.imm (.int .u8 3),AV.imm (.int .u8 ((s % 256 : Nat) : Int))] (i * 1 + j)) (g := fun i j=>nth [AV.imm (.int .u8 ((c % 256 : Nat) : Int)),AV.imm (.int .u8 ((n % 256 : Nat) : Int)),AV.imm (.int .u8 ((d % 256 : Nat) : Int))] (i * 1 + j))
      (lit8_E (by rw [Nat.mod_eq_of_lt (by omega)];rfl)) (lit8_E (by rw [Nat.mod_eq_of_lt (by omega),Nat.mod_eq_of_lt (by omega),Nat.mod_eq_of_lt (by omega)];rfl)) rfl
    (have cm1 := hse;((refine goR0 _ _ _ _ _ _ _ _ ?_ ?_ ?_ ?_ ?_ ?_ ?_ ?_) <;> (repeat intro hb) <;> first | exact True.intro | refine Lf.mk ?_))
    exact ⟨_, rfl, rfl⟩
theorem frame_tc (r : Rcd) (h : r.ok = true) : Makes Tryz.prog 49 [rcA r] (ownB (frameN r)) [byO (frameN r)] :=
  Makes.lst1J (byE_pl _) ((frame_raw r h).mono fun v σ' ⟨k, h1, h2⟩ => .inr ⟨k, _, h1, h2, fun _ _ _ _ => rfl⟩)
end Go.Proofs.YtngfnogoicfmaaaGreatDoor
