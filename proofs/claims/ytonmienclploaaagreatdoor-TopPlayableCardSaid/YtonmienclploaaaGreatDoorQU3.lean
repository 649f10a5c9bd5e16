/-
 Parts joined: N8 N9 N10 N11.
-/
import Derived.Test.YtonmienclploaaaGreatDoorQGo
import Derived.Test.YtonmienclploaaaGreatDoorQU2
import Derived.Sort.LotD5
import Derived.Test.YtonmienclploaaaGreatDoorQGo3
set_option linter.unusedSimpArgs false
set_option linter.unusedVariables false
namespace Go.Proofs.YtonmienclploaaaGreatDoor.Q
open Go.Ab Go.Sort
theorem wrapU8 {x : Int} (h1 : 0 ≤ x) (h2 : x < 256) : IntKind.u8.wrap x = x := by
 unfold IntKind.wrap
 simp only [IntKind.bits, IntKind.signed]
 simp
 omega
theorem ofInt64 {a : Nat} (h : a < 18446744073709551616) : (BitVec.ofInt 64 (a : Int)).toNat = a := by simp [BitVec.toNat_ofInt];omega
theorem tab_len {s : ByteArray} (hs : ∀ i : Fin 256,strAt s (i.val : Int) = (bitsLen i.val : Int)) {x : Nat} (h : x < 256) : strAt s (x : Int) = (bitsLen x : Int) := hs ⟨x,h⟩
theorem bitsLen_256 {x : Nat} (h : 256 ≤ x) : bitsLen x = 8 + bitsLen (x / 256) := by
 unfold bitsLen
 rw [if_neg (by omega), if_neg (by omega)]
 rw [Nat.log2_def x,if_pos (by omega),Nat.log2_def (x / 2),if_pos (by omega),Nat.log2_def (x / 2 / 2),if_pos (by omega),Nat.log2_def (x / 2 / 2 / 2),if_pos (by omega),Nat.log2_def (x / 2 / 2 / 2 / 2),if_pos (by omega),
  Nat.log2_def (x / 2 / 2 / 2 / 2 / 2),if_pos (by omega),Nat.log2_def (x / 2 / 2 / 2 / 2 / 2 / 2),if_pos (by omega),Nat.log2_def (x / 2 / 2 / 2 / 2 / 2 / 2 / 2),if_pos (by omega)]
 simp only [Nat.div_div_eq_div_mul, Nat.reduceMul]
 omega
theorem bitsLen_small {x : Nat} (h : x < 65536) : bitsLen x ≤ 16 := (bitsLen_le_iff x 16).2 (by omega)
theorem u8_range (x : Int) : 0 ≤ IntKind.u8.wrap x ∧ IntKind.u8.wrap x < 256 := by
 unfold IntKind.wrap
 simp only [IntKind.bits, IntKind.signed]
 simp
 omega
theorem tab_hi {s : ByteArray} (hs : ∀ i : Fin 256,strAt s (i.val : Int) = (bitsLen i.val : Int)) {x : Nat} (h : x < 65536) (h2 : 256 ≤ x) : IntKind.i64.wrap (0 + 8 + IntKind.i64.wrap (strAt s (IntKind.u8.wrap ((x : Int).fdiv (2 ^ min 8 64))))) = (bitsLen x : Int) := by
 have e : IntKind.u8.wrap ((x : Int).fdiv (2 ^ min 8 64)) = ((x / 256 : Nat) : Int) := by
  rw [show min 8 64 = 8 by decide, Int.fdiv_eq_ediv_of_nonneg _ (by omega), wrapU8 (by omega) (by omega)]; omega
 have hq := bitsLen_small (x := x / 256) (by omega)
 rw [e,tab_len hs (by omega),bitsLen_256 h2,wrapI (x := (bitsLen (x / 256) : Int)) (by omega) (by omega),wrapI (by omega) (by omega)]
 omega
theorem tab_lo {s : ByteArray} (hs : ∀ i : Fin 256,strAt s (i.val : Int) = (bitsLen i.val : Int)) {x : Nat} (h2 : x < 256) : IntKind.i64.wrap (0 + IntKind.i64.wrap (strAt s (IntKind.u8.wrap (x : Int)))) = (bitsLen x : Int) := by
 have hq := bitsLen_small (x := x) (by omega)
 rw [wrapU8 (by omega) (by omega),tab_len hs (by omega),wrapI (x := (bitsLen x : Int)) (by omega) (by omega),wrapI (by omega) (by omega)]
 omega
set_option maxRecDepth 100000 in
set_option maxHeartbeats 4000000 in
theorem len64_tc (x : Nat) (hx : x < 65536) : Look Tryz.prog 85 [.imm (.int .u64 x)] (.imm (.int .i64 (bitsLen x : Nat))) := by
 have w1 := u8_range (x : Int)
 have w2 := u8_range ((x : Int).fdiv 256)
 refine Look.mk trivial ?_
 (refine TC_of_T Γ_ok Tryz.func85 rfl (by kernel_rfl) ?_;simp only [Tryz.ntmps85,Tryz.results85,List.length_cons,List.length_nil,Nat.reduceSub,Nat.reduceAdd,List.replicate,List.cons_append,List.nil_append])
 (((refine goR0 _ _ _ _ _ _ _ _ ?_ ?_ ?_ ?_ ?_ ?_ ?_ ?_)<;>(repeat intro hb)<;>first|exact True.intro|refine Lf.mk ?_))
 ·exact congrArg (fun z : Int => AV.imm (.int .i64 z)) (tab_hi (by decide +kernel) hx (by omega))
 ·exact congrArg (fun z : Int => AV.imm (.int .i64 z)) (tab_lo (by decide +kernel) (by omega))
set_option maxRecDepth 100000 in
set_option maxHeartbeats 4000000 in
theorem len_tc (x : Nat) (hx : x < 65536) : Look Tryz.prog 57 [.imm (.int .u64 x)] (.imm (.int .i64 (bitsLen x : Nat))) := by
 refine Look.mk trivial ?_
 (refine TC_of_T Γ_ok Tryz.func57 rfl (by kernel_rfl) ?_;simp only [Tryz.ntmps57,Tryz.results57,List.length_cons,List.length_nil,Nat.reduceSub,Nat.reduceAdd,List.replicate,List.cons_append,List.nil_append])
 (have cl1 := len64_tc x hx;((refine goR0 _ _ _ _ _ _ _ _ ?_ ?_ ?_ ?_ ?_ ?_ ?_ ?_)<;>(repeat intro hb)<;>first|exact True.intro|refine Lf.mk ?_))
theorem band1 {a : Nat} (ha : a < 9223372036854775808) : bits .and .i64 (a : Int) 1 = ((a % 2 : Nat) : Int) := by
 show IntKind.i64.wrap (((BitVec.ofInt 64 (a : Int) &&& BitVec.ofInt 64 ((1 : Nat) : Int)).toNat : Nat) : Int) = _
 rw [BitVec.toNat_and, ofInt64 (by omega), ofInt64 (by omega), Nat.and_one_is_mod, wrapI (by omega) (by omega)]
@[go_sem,reducible] def enW (a n V : Nat) (k : Nat) : List AV := [natV a,.imm (.int .i64 n),.top,.top,.imm (.slice none 0 0),.own 0 0 (lmN V) none,.imm (.int .i64 ((k : Int) - 1))] ++ List.replicate 35 .top
theorem lmN_1 : lmN 1 = 1 := by rw [lmN_s (by omega), show 1 / Bs = 0 by decide, lmN_0]
theorem pow_half (a n k : Nat) : a ^ (n / 2 ^ k) = a ^ (n / 2 ^ (k + 1)) * a ^ (n / 2 ^ (k + 1)) * (if n / 2 ^ k % 2 = 1 then a else 1) := by
 rw [Nat.pow_succ, ← Nat.div_div_eq_div_mul]
 generalize n / 2 ^ k = q
 rw [← Nat.pow_add]
 split
 ·rw [← Nat.pow_succ]; congr 1; omega
 ·rw [Nat.mul_one]; congr 1; omega
set_option maxRecDepth 100000 in
set_option maxHeartbeats 4000000 in
theorem power_mk (a n : Nat) (h2 : 2 ≤ a) (hn : n ≤ 1152) (ha : lmN a ≤ 640) (hr : lmN (a ^ n) ≤ 640) : Makes Tryz.prog 125 [natV a,.imm (.int .i64 n)] (.own 0 0 (lmN (a ^ n)) none) [natO (lmN (a ^ n)) (a ^ n)] := by
 refine natMk ?_
 generalize hQ : (fun (v : AV) (σ' : List AObj) => ∃ k L c E',v = .own k 0 (lmN (a ^ n)) c ∧ nthO σ' k = .arr 179 1 L E' ∧ lmN (a ^ n) ≤ L ∧ ∀ i,i < lmN (a ^ n) → E' i 0 = lmE (a ^ n) i 0) = Q
 have hle : ∀ e,e ≤ n → lmN (a ^ e) ≤ 640 := fun e he => Nat.le_trans (lmN_mono (Nat.pow_le_pow_right (by omega) he)) hr
 have c1 := compare_tc a 1 ha (by rw [lmN_1]; omega)
 rw [cmpN_gt (by omega)] at c1
 simp only [natV, lmN_1] at c1
 have c2 := len_tc n (by omega)
 have hbl : bitsLen n ≤ 16 := bitsLen_small (by omega)
 have ew1 : ∀ i j, i < 1 → j < 1 → nth [AV.imm (.int .u32 1)] (i * 1 + j) = lmE 1 i j := fun i j hi hj => by
  obtain rfl : j = 0 := by omega
  obtain rfl : i = 0 := by omega
  simp [nth, lmE, lm, Bs]
 (refine TC_of_T Γ_ok Tryz.func125 rfl (by kernel_rfl) ?_;simp only [Tryz.ntmps125,Tryz.results125,List.length_cons,List.length_nil,Nat.reduceSub,Nat.reduceAdd,List.replicate,List.cons_append,List.nil_append])
 (have cl1 := c1;have cl2 := c2;((refine goR0 _ _ _ _ _ _ _ _ ?_ ?_ ?_ ?_ ?_ ?_ ?_ ?_)<;>(repeat intro hb)<;>first|exact True.intro|refine Lf.mk ?_))
 refine T_loopW (fun m st => ∃ k : Nat,k ≤ bitsLen n ∧ m = k ∧ st = ⟨enW a n (a ^ (n / 2 ^ k)) k,[natO (lmN (a ^ (n / 2 ^ k))) (a ^ (n / 2 ^ k))]⟩)
  (bitsLen n) ⟨_, ?_, bitsLen n, by omega, rfl, rfl⟩ ?_
 ·rw [show a ^ (n / 2 ^ bitsLen n) = 1 by rw [Nat.div_eq_of_lt ((bitsLen_le_iff n (bitsLen n)).1 (Nat.le_refl _)),Nat.pow_zero]]
  simp only [enW, natO, lmN_1]
  ((try refine sgl ?_);refine Wk.intro [0] (by decide) (by decide) wkH ?_ ?_ <;> repeat' (first|(exact WkV.eqF (ew1 _ _ hi hj) (lmE_free _ _ _))|refine WkVL.cons ?_ ?_|exact wkT|refine WkV.agg ?_|refine WkV.tup ?_|refine WkV.fn ?_ ?_|exact WkO.dead|exact WkO.raw|refine WkO.ghost ?_|exact WkO.mpE rfl trivial|refine WkO.box ?_ rfl|refine WkO.arr ?_|refine And.intro ?_ (And.intro aF ?_)|exact trivial|(intro i j hi hj)))
 rintro m st ⟨k, h0, rfl, rfl⟩
 match m, h0 with
 | 0, _ =>
  have e1 : (((0 : Nat) : Int) - 1) = -1 := rfl
  rw [enW, e1]
  refine sgo ?_
  (((refine goR0 _ _ _ _ _ _ _ _ ?_ ?_ ?_ ?_ ?_ ?_ ?_ ?_)<;>(repeat intro hb)<;>first|exact True.intro|refine Lf.mk ?_))
  rw [← hQ, show n / 2 ^ 0 = n by rw [Nat.pow_zero, Nat.div_one]]
  exact ⟨_, _, _, _, rfl, rfl, Nat.le_refl _, fun _ _ => rfl⟩
 | k + 1, h0 =>
  have e1 : (((k + 1 : Nat) : Int) - 1) = (k : Int) := by omega
  obtain ⟨V, hV⟩ : ∃ V, V = a ^ (n / 2 ^ (k + 1)) := ⟨_, rfl⟩
  have hp := pow_half a n k
  rw [← hV] at hp ⊢
  have l0 : lmN V ≤ 640 := by rw [hV]; exact hle _ (Nat.div_le_self _ _)
  have l2 := hle (n / 2 ^ k) (Nat.div_le_self _ _)
  have hq : n / 2 ^ k ≤ 1152 := Nat.le_trans (Nat.div_le_self _ _) hn
  have e2 : (n : Int).fdiv (2 ^ min k 64) = ((n / 2 ^ k : Nat) : Int) := by
   rw [Nat.min_eq_left (by omega), Int.fdiv_eq_ediv_of_nonneg _ (Int.le_of_lt (Int.pow_pos (by omega)))]
   rw [Int.natCast_ediv]
   congr 1
  generalize hqe : n / 2 ^ k = q at *
  have e3 : bits .and .i64 (q : Int) 1 = ((q % 2 : Nat) : Int) := band1 (by omega)
  rw [enW, e1]
  by_cases ho : q % 2 = 1
  ·rw [if_pos ho] at hp
   have l1 : lmN (V * V) ≤ 640 := Nat.le_trans (lmN_mono (by rw [hp]; exact Nat.le_mul_of_pos_right _ (by omega))) l2
   have p1 := product_mk V V l0 l0 l1
   have p2 := product_mk (V * V) a l1 ha (by rw [← hp]; exact l2)
   rw [← hp] at p2
   have e4 : (((q % 2 : Nat) : Int) == 1) = true := by rw [ho]; rfl
   refine sgo ?_
   (have dm1 := p1;have dm2 := p2;have sx1 := e2;have sx2 := e3;have sx3 := e4;have sx4:=sx0;((obtain ⟨sx5,sx6,sx7,sx8,sx9⟩:=sx0_5;refine goR9 _ _ _ _ _ _ _ _ ?_ ?_ ?_ ?_ ?_ ?_ ?_ ?_)<;>(repeat intro hb)<;>first|exact True.intro|refine Lf.mk ?_))
   refine ⟨k, by omega, ⟨enW a n (a ^ q) k, [natO (lmN (a ^ q)) (a ^ q)]⟩, ?_, k, by omega, rfl, by rw [hqe] <;> rfl⟩
   ((try refine sgl ?_);refine Wk.intro [2] (by decide) (by decide) wkH ?_ ?_ <;> repeat' (first|(refine WkV.imm ?_;congr 1;omega)|refine WkVL.cons ?_ ?_|exact wkT|refine WkV.agg ?_|refine WkV.tup ?_|refine WkV.fn ?_ ?_|exact WkO.dead|exact WkO.raw|refine WkO.ghost ?_|exact WkO.mpE rfl trivial|refine WkO.box ?_ rfl|refine WkO.arr ?_|refine And.intro ?_ (And.intro aF ?_)|exact trivial|(intro i j hi hj)))
  ·rw [if_neg ho, Nat.mul_one] at hp
   have p1 := product_mk V V l0 l0 (by rw [← hp]; exact l2)
   rw [← hp] at p1
   have e4 : (((q % 2 : Nat) : Int) == 1) = false := by rw [beq_eq_false_iff_ne]; omega
   refine sgo ?_
   (have cm1 := p1;have sx1 := e2;have sx2 := e3;have sx3 := e4;have sx4:=sx0;((obtain ⟨sx5,sx6,sx7,sx8,sx9⟩:=sx0_5;refine goR9 _ _ _ _ _ _ _ _ ?_ ?_ ?_ ?_ ?_ ?_ ?_ ?_)<;>(repeat intro hb)<;>first|exact True.intro|refine Lf.mk ?_))
   refine ⟨k, by omega, ⟨enW a n (a ^ q) k, [natO (lmN (a ^ q)) (a ^ q)]⟩, ?_, k, by omega, rfl, by rw [hqe] <;> rfl⟩
   ((try refine sgl ?_);refine Wk.intro [1] (by decide) (by decide) wkH ?_ ?_ <;> repeat' (first|(refine WkV.imm ?_;congr 1;omega)|refine WkVL.cons ?_ ?_|exact wkT|refine WkV.agg ?_|refine WkV.tup ?_|refine WkV.fn ?_ ?_|exact WkO.dead|exact WkO.raw|refine WkO.ghost ?_|exact WkO.mpE rfl trivial|refine WkO.box ?_ rfl|refine WkO.arr ?_|refine And.intro ?_ (And.intro aF ?_)|exact trivial|(intro i j hi hj)))
end Go.Proofs.YtonmienclploaaaGreatDoor.Q
namespace Go.Proofs.YtonmienclploaaaGreatDoor.Q
open Go.Ab
set_option maxRecDepth 100000 in
set_option maxHeartbeats 4000000 in
theorem harm : Harmless Tryz.prog 132 2 := by
 intro caps w hk
 obtain ⟨x, y, rfl⟩ : ∃ x y, caps = #[x, y] := by
  match caps, hk with
  | ⟨[x, y]⟩, _ => exact ⟨x, y, rfl⟩
 refine ⟨#[x, y], rfl, ?_⟩
 refine callsDIn_of_wpSIn (fn := Tryz.f132) Tryz.func132 rfl trivial fun c₀ cs hu => ?_
 refine wpSIn_seq (wpSIn_region ?_)
 simp [wpOpsSIn, go_sem, recoverD, hu, Tryz.ntmps132, Exit.thenS]
 refine wpSIn_seq (wpSIn_region ?_)
 simp [wpOpsSIn, go_sem, recoverD, hu, Exit.thenS]
 refine wpSIn_cond (t := false) (by simp [Act.eval, Array.replicate]) ?_
 simp only [Bool.false_eq_true, if_false]
 refine wpSIn_of_wpIn rfl (wpIn_skip ?_)
 cases c₀
 simp_all [bodyPostS, results, Tryz.results132]
theorem cvl_free {σ : List AObj} {vs : List AV} (h : FreeL vs) : CvL σ vs vs := fun _ _ _ _ hx => FreeL.sound (fun _ hb => (not_has_nil hb).elim) vs h hx
def gN (l : List Nat) (i : Nat) : Nat := l.getD i 0
def nvE (l : List Nat) (i _j : Nat) : AV := natV (gN l i)
@[go_sem] theorem nvE_us (l : List Nat) (i j : Nat) : nvE l i j = natV (gN l i) := rfl
@[simp] theorem nvE_free (l : List Nat) (i j : Nat) : Free (nvE l i j) := by simp [nvE, Free]
@[go_sem, reducible] def nvs (l : List Nat) : AV := .view l.length 1 (nvE l)
@[go_sem,reducible] def enG (f : FuncId) (caps : List AV) (l : List Nat) (i : Nat) : List AV := [.fn (.func f) [] caps,nvs l,.top,.top,.optr 0 0 0,.optr 1 0 0,.top,.top,nvs l,.imm (.int .i64 l.length),.imm (.int .i64 i)] ++ List.replicate 10 .top
@[go_sem, reducible] def fxG : List AObj := [.box 166 [.imm (.slice none 0 0)], .box 30 [.imm (.int .i64 0)]]
set_option maxRecDepth 100000 in
set_option maxHeartbeats 4000000 in
theorem guarded_mk (f : FuncId) (caps : List AV) (l : List Nat) (r : Nat) (hl : l.length ≤ 1000) (hv : ∀ i,i < l.length → lmN (gN l i) ≤ 640) (hcf : FreeL caps)
  (h : Makes Tryz.prog f caps (.own 0 0 (lmN r) none) [natO (lmN r) r]) : Makes Tryz.prog 123 [.fn (.func f) [] caps,nvs l] (.tup [.own 0 0 (lmN r) none,.imm (.int .i64 0)]) [natO (lmN r) r] := by
 refine natMkE ?_
 generalize hQ : (fun (v : AV) (σ' : List AObj) => ∃ k L c E',v = .tup [.own k 0 (lmN r) c,.imm (.int .i64 0)] ∧ nthO σ' k = .arr 179 1 L E' ∧ lmN r ≤ L ∧ ∀ i,i < lmN r → E' i 0 = lmE r i 0) = Q
 refine TC_of_TD Γ_ok Tryz.func123 rfl (by kernel_rfl) harm ?_
 simp only [Tryz.ntmps123,Tryz.results123,List.length_cons,List.length_nil,Nat.reduceSub,Nat.reduceAdd,List.replicate,List.cons_append,List.nil_append]
 (((refine goR0 _ _ _ _ _ _ _ _ ?_ ?_ ?_ ?_ ?_ ?_ ?_ ?_)<;>(repeat intro hb)<;>first|exact True.intro|refine Lf.mk ?_))
 refine T_loopW (fun m st => ∃ i : Nat, i ≤ l.length ∧ m + i = l.length ∧ st = ⟨enG f caps l i, fxG⟩)
  l.length ⟨_, ?_, 0, by omega, rfl, rfl⟩ ?_
 ·have hfn : ∀ π σ,WkV π σ (.fn (.func f) [] caps) (.fn (.func f) [] caps) := fun π σ => WkV.free (by simp [Free,FreeL];exact hcf)
  ((try refine sgl ?_);refine Wk.intro [0,1] (by decide) (by decide) wkH ?_ ?_ <;> repeat' (first|(exact hfn _ _)|refine WkVL.cons ?_ ?_|exact wkT|refine WkV.agg ?_|refine WkV.tup ?_|refine WkV.fn ?_ ?_|exact WkO.dead|exact WkO.raw|refine WkO.ghost ?_|exact WkO.mpE rfl trivial|refine WkO.box ?_ rfl|refine WkO.arr ?_|refine And.intro ?_ (And.intro aF ?_)|exact trivial|(intro i j hi hj)))
 rintro m st ⟨i, h0, h1, rfl⟩
 by_cases hi : i < l.length
 ·have c1 := valid_tc (gN l i) (hv i hi)
  refine sgo ?_
  (have cl1 := c1;((refine goR0 _ _ _ _ _ _ _ _ ?_ ?_ ?_ ?_ ?_ ?_ ?_ ?_)<;>(repeat intro hb)<;>first|exact True.intro|refine Lf.mk ?_))
  refine ⟨l.length - (i + 1), by omega, _, ?_, i + 1, by omega, by omega, rfl⟩
  have hfn : ∀ π σ,WkV π σ (.fn (.func f) [] caps) (.fn (.func f) [] caps) := fun π σ => WkV.free (by simp [Free,FreeL];exact hcf)
  ((try refine sgl ?_);refine Wk.intro [0,1] (by decide) (by decide) wkH ?_ ?_ <;> repeat' (first|(exact hfn _ _)|(refine WkV.imm ?_;congr 1;omega)|refine WkVL.cons ?_ ?_|exact wkT|refine WkV.agg ?_|refine WkV.tup ?_|refine WkV.fn ?_ ?_|exact WkO.dead|exact WkO.raw|refine WkO.ghost ?_|exact WkO.mpE rfl trivial|refine WkO.box ?_ rfl|refine WkO.arr ?_|refine And.intro ?_ (And.intro aF ?_)|exact trivial|(intro i j hi hj)))
 ·refine sgo ?_
  (((refine goR0 _ _ _ _ _ _ _ _ ?_ ?_ ?_ ?_ ?_ ?_ ?_ ?_)<;>(repeat intro hb)<;>first|exact True.intro|refine Lf.mk ?_))
  refine callGoal_makeA h trivial (cvl_free hcf) ?_
  refine sgo ?_
  rename_i KF hKF NF hNF
  refine hNF _ _ ?_
  (((refine goR0 _ _ _ _ _ _ _ _ ?_ ?_ ?_ ?_ ?_ ?_ ?_ ?_)<;>(repeat intro hb)<;>first|exact True.intro|refine Lf.mk ?_))
  refine hKF _ ?_
  (((refine goR0 _ _ _ _ _ _ _ _ ?_ ?_ ?_ ?_ ?_ ?_ ?_ ?_)<;>(repeat intro hb)<;>first|exact True.intro|refine Lf.mk ?_))
  refine retQM_r ?_
  refine sgo ?_
  rw [← hQ]
  exact ⟨2, _, _, _, rfl, rfl, Nat.le_refl _, fun _ _ => rfl⟩
@[go_sem, reducible] def rp (v : AV) : AV := .rptr 1 (nth [v])
theorem cv_rp {σ : List AObj} {o : Nat} {ety : TypeId} {n : Nat} (h : nthO σ o = .box ety [natV n]) : Cv σ (.optr o 0 0) (rp (natV n)) :=
 Cv.ptr h rfl (CvL.cons (Cv.free (by simp [Free])) CvL.nil)
set_option maxRecDepth 100000 in
set_option maxHeartbeats 4000000 in
theorem mulc_mk (a b : Nat) (ha : lmN a ≤ 640) (hb' : lmN b ≤ 640) (hab : lmN (a * b) ≤ 640) : Makes Tryz.prog 134 [rp (natV a),rp (natV b)] (.own 0 0 (lmN (a * b)) none) [natO (lmN (a * b)) (a * b)] := by
 refine natMk ?_
 have c1 := product_mk a b ha hb' hab
 (refine TC_of_T Γ_ok Tryz.func134 rfl (by kernel_rfl) ?_;simp only [Tryz.ntmps134,Tryz.results134,List.length_cons,List.length_nil,Nat.reduceSub,Nat.reduceAdd,List.replicate,List.cons_append,List.nil_append])
 (have cm1 := c1;((refine goR0 _ _ _ _ _ _ _ _ ?_ ?_ ?_ ?_ ?_ ?_ ?_ ?_)<;>(repeat intro hb)<;>first|exact True.intro|refine Lf.mk ?_))
 exact ⟨_, _, _, _, rfl, rfl, Nat.le_refl _, fun _ _ => rfl⟩
set_option maxRecDepth 100000 in
set_option maxHeartbeats 4000000 in
theorem mul_mk (a b : Nat) (ha : lmN a ≤ 640) (hb' : lmN b ≤ 640) (hab : lmN (a * b) ≤ 640) : Makes Tryz.prog 127 [natV a,natV b] (.tup [.own 0 0 (lmN (a * b)) none,.imm (.int .i64 0)]) [natO (lmN (a * b)) (a * b)] := by
 refine natMkE ?_
 generalize hQ : (fun (v : AV) (σ' : List AObj)=>∃ k L c E',v = .tup [.own k 0 (lmN (a * b)) c,.imm (.int .i64 0)] ∧ nthO σ' k = .arr 179 1 L E' ∧ lmN (a * b) ≤ L ∧ ∀ i,i < lmN (a * b) → E' i 0 = lmE (a * b) i 0) = Q
 have c1 := guarded_mk 134 [rp (natV a), rp (natV b)] [a, b] (a * b) (by simp) (fun i hi => by
  rcases i with _ | _ | i
  ·exact ha
  ·exact hb'
  ·have : i + 1 + 1 < 2 := hi
   omega) (by simp [FreeL, Free, nth]) (mulc_mk a b ha hb' hab)
 have hv2 : ∀ i j, i < 2 → j < 1 → nth [natV a, natV b] (i * 1 + j) = nvE [a, b] i j := fun i j hi hj => by
  obtain rfl : j = 0 := by omega
  rcases i with _ | _ | i
  ·rfl
  ·rfl
  ·omega
 (refine TC_of_T Γ_ok Tryz.func127 rfl (by kernel_rfl) ?_;simp only [Tryz.ntmps127,Tryz.results127,List.length_cons,List.length_nil,Nat.reduceSub,Nat.reduceAdd,List.replicate,List.cons_append,List.nil_append])
 (((refine goR0 _ _ _ _ _ _ _ _ ?_ ?_ ?_ ?_ ?_ ?_ ?_ ?_)<;>(repeat intro hb)<;>first|exact True.intro|refine Lf.mk ?_))
 refine callGoal_makeA c1 trivial (CvL.cons (Cv.fn CvL.nil (CvL.cons (cv_rp rfl) (CvL.cons (cv_rp rfl) CvL.nil))) (CvL.cons (Cv.own (o := 2) rfl (by omega) hv2 (nvE_free _)) CvL.nil)) ?_
 refine sgo ?_
 rename_i KF hKF NF
 refine hb _ _ ?_
 (((refine goR0 _ _ _ _ _ _ _ _ ?_ ?_ ?_ ?_ ?_ ?_ ?_ ?_)<;>(repeat intro hb)<;>first|exact True.intro|refine Lf.mk ?_))
 refine hKF _ ?_
 (((refine goR0 _ _ _ _ _ _ _ _ ?_ ?_ ?_ ?_ ?_ ?_ ?_ ?_)<;>(repeat intro hb)<;>first|exact True.intro|refine Lf.mk ?_))
 rw [← hQ]
 exact ⟨3, _, _, _, rfl, rfl, Nat.le_refl _, fun _ _ => rfl⟩
@[go_sem, reducible] def rpI (n : Nat) : AV := .rptr 1 (nth [AV.imm (.int .i64 n)])
set_option maxRecDepth 100000 in
set_option maxHeartbeats 4000000 in
theorem powc_mk (a n : Nat) (h2 : 2 ≤ a) (hn : n ≤ 1152) (ha : lmN a ≤ 640) (hr : lmN (a ^ n) ≤ 640) : Makes Tryz.prog 124 [rp (natV a),rpI n] (.own 0 0 (lmN (a ^ n)) none) [natO (lmN (a ^ n)) (a ^ n)] := by
 refine natMk ?_
 have c1 := power_mk a n h2 hn ha hr
 (refine TC_of_T Γ_ok Tryz.func124 rfl (by kernel_rfl) ?_;simp only [Tryz.ntmps124,Tryz.results124,List.length_cons,List.length_nil,Nat.reduceSub,Nat.reduceAdd,List.replicate,List.cons_append,List.nil_append])
 (have cm1 := c1;((refine goR0 _ _ _ _ _ _ _ _ ?_ ?_ ?_ ?_ ?_ ?_ ?_ ?_)<;>(repeat intro hb)<;>first|exact True.intro|refine Lf.mk ?_))
 exact ⟨_, _, _, _, rfl, rfl, Nat.le_refl _, fun _ _ => rfl⟩
set_option maxRecDepth 100000 in
set_option maxHeartbeats 4000000 in
theorem pow_mk (a n : Nat) (h2 : 2 ≤ a) (hn : n ≤ 1152) (ha : lmN a ≤ 640) (hr : lmN (a ^ n) ≤ 640) : Makes Tryz.prog 106 [natV a,.imm (.int .i64 n)] (.tup [.own 0 0 (lmN (a ^ n)) none,.imm (.int .i64 0)]) [natO (lmN (a ^ n)) (a ^ n)] := by
 refine natMkE ?_
 generalize hQ : (fun (v : AV) (σ' : List AObj)=>∃ k L c E',v = .tup [.own k 0 (lmN (a ^ n)) c,.imm (.int .i64 0)] ∧ nthO σ' k = .arr 179 1 L E' ∧ lmN (a ^ n) ≤ L ∧ ∀ i,i < lmN (a ^ n) → E' i 0 = lmE (a ^ n) i 0) = Q
 have c1 := guarded_mk 124 [rp (natV a), rpI n] [a] (a ^ n) (by simp) (fun i hi => by
  rcases i with _ | i
  ·exact ha
  ·have : i + 1 < 1 := hi
   omega) (by simp [FreeL, Free, nth]) (powc_mk a n h2 hn ha hr)
 have hv2 : ∀ i j, i < 1 → j < 1 → nth [natV a] (i * 1 + j) = nvE [a] i j := fun i j hi hj => by
  obtain rfl : j = 0 := by omega
  obtain rfl : i = 0 := by omega
  rfl
 have hrp : ∀ {σ : List AObj} {o : Nat} {ety : TypeId},nthO σ o = .box ety [AV.imm (.int .i64 (n : Int))] → Cv σ (.optr o 0 0) (rpI n) := fun h => Cv.ptr h rfl (CvL.cons (Cv.imm rfl) CvL.nil)
 (refine TC_of_T Γ_ok Tryz.func106 rfl (by kernel_rfl) ?_;simp only [Tryz.ntmps106,Tryz.results106,List.length_cons,List.length_nil,Nat.reduceSub,Nat.reduceAdd,List.replicate,List.cons_append,List.nil_append])
 (((refine goR0 _ _ _ _ _ _ _ _ ?_ ?_ ?_ ?_ ?_ ?_ ?_ ?_)<;>(repeat intro hb)<;>first|exact True.intro|refine Lf.mk ?_))
 refine callGoal_makeA c1 trivial (CvL.cons (Cv.fn CvL.nil (CvL.cons (cv_rp rfl) (CvL.cons (hrp rfl) CvL.nil))) (CvL.cons (Cv.own (o := 2) rfl (by omega) hv2 (nvE_free _)) CvL.nil)) ?_
 refine sgo ?_
 rename_i KF hKF NF
 refine hb _ _ ?_
 (((refine goR0 _ _ _ _ _ _ _ _ ?_ ?_ ?_ ?_ ?_ ?_ ?_ ?_)<;>(repeat intro hb)<;>first|exact True.intro|refine Lf.mk ?_))
 refine hKF _ ?_
 (((refine goR0 _ _ _ _ _ _ _ _ ?_ ?_ ?_ ?_ ?_ ?_ ?_ ?_)<;>(repeat intro hb)<;>first|exact True.intro|refine Lf.mk ?_))
 rw [← hQ]
 exact ⟨3, _, _, _, rfl, rfl, Nat.le_refl _, fun _ _ => rfl⟩
end Go.Proofs.YtonmienclploaaaGreatDoor.Q
namespace Go.Proofs.YtonmienclploaaaGreatDoor.Q
open Go.Ab
@[go_sem,reducible] def p6L (p : P6) : List AV := [.imm (.int .i64 p.a),.imm (.int .i64 p.b),.imm (.int .i64 p.c),.imm (.int .i64 p.d),.imm (.int .i64 p.e),.imm (.int .i64 p.f)]
@[go_sem, reducible] def p6A (p : P6) : AV := .agg (p6L p)
@[go_sem] theorem P6.eta (p : P6) : (⟨p.a, p.b, p.c, p.d, p.e, p.f⟩ : P6) = p := rfl
set_option maxRecDepth 100000 in
set_option maxHeartbeats 4000000 in
theorem within_tc (p : P6) (n : Int) (h0 : 0 ≤ n) (h1 : n ≤ 1000) : Look Tryz.prog 54 [p6A p,.imm (.int .i64 n)] (.imm (.bool (decide (Bd6 n p)))) := by
 refine Look.mk trivial ?_
 (refine TC_of_T Γ_ok Tryz.func54 rfl (by kernel_rfl) ?_;simp only [Tryz.ntmps54,Tryz.results54,List.length_cons,List.length_nil,Nat.reduceSub,Nat.reduceAdd,List.replicate,List.cons_append,List.nil_append])
 (have sx1:=sx0;((refine goU1 _ _ _ _ _ _ _ _ _ _ _ _ ?_ ?_ ?_ ?_ ?_ ?_ ?_ ?_ ?_ ?_ ?_ ?_)<;>(repeat intro hb)<;>first|exact True.intro|refine Lf.mk ?_))
 refine T_rounds 7 ?_
 (have sx1:=sx0;((refine goU1 _ _ _ _ _ _ _ _ _ _ _ _ ?_ ?_ ?_ ?_ ?_ ?_ ?_ ?_ ?_ ?_ ?_ ?_)<;>(repeat intro hb)<;>first|exact True.intro|refine Lf.mk ?_))
 all_goals (refine congrArg (fun b => AV.imm (.bool b)) ?_; rw [Bool.eq_iff_iff, decide_eq_true_eq]; unfold Bd6; grind)
set_option maxRecDepth 100000 in
set_option maxHeartbeats 4000000 in
theorem valid_p (p : P6) : Look Tryz.prog 50 [p6A p] (.imm (.bool (decide (Bd6 576 p)))) := by
 have h := within_tc p 576 (by omega) (by omega)
 refine Look.mk trivial ?_
 (refine TC_of_T Γ_ok Tryz.func50 rfl (by kernel_rfl) ?_;simp only [Tryz.ntmps50,Tryz.results50,List.length_cons,List.length_nil,Nat.reduceSub,Nat.reduceAdd,List.replicate,List.cons_append,List.nil_append])
 (have cl1 := h;have sx1:=sx0;((refine goU1 _ _ _ _ _ _ _ _ _ _ _ _ ?_ ?_ ?_ ?_ ?_ ?_ ?_ ?_ ?_ ?_ ?_ ?_)<;>(repeat intro hb)<;>first|exact True.intro|refine Lf.mk ?_))
def prK (l : List Nat) (i : Nat) : Nat := (l.take i).foldl (· * ·) 1
theorem prK_s {l : List Nat} {i : Nat} (h : i < l.length) : prK l (i + 1) = prK l i * gN l i := by
 unfold prK gN
 rw [List.take_add_one, List.getElem?_eq_getElem h, List.foldl_append]
 simp [h]
theorem prK_end (l : List Nat) : prK l l.length = prodN l := by unfold prK prodN; rw [List.take_length]
@[go_sem,reducible] def enM (l : List Nat) (V i : Nat) : List AV := [nvs l,.top,.imm (.slice none 0 0),.own 0 0 (lmN V) none,.top,.top,.top,nvs l,.imm (.int .i64 l.length),.imm (.int .i64 i)] ++ List.replicate 11 .top
end Go.Proofs.YtonmienclploaaaGreatDoor.Q
namespace Go.Proofs.YtonmienclploaaaGreatDoor.Q
open Go.Ab
set_option maxRecDepth 100000 in
set_option maxHeartbeats 4000000 in
theorem multiply_mk (l : List Nat) (hl : l.length ≤ 1000) (h1 : ∀ i,i < l.length → lmN (gN l i) ≤ 640) (h2 : ∀ i,i ≤ l.length → lmN (prK l i) ≤ 640) : Makes Tryz.prog 108 [nvs l] (.own 0 0 (lmN (prodN l)) none) [natO (lmN (prodN l)) (prodN l)] := by
 refine natMk ?_
 generalize hQ : (fun (v : AV) (σ' : List AObj)=>∃ k L c E',v = .own k 0 (lmN (prodN l)) c ∧ nthO σ' k = .arr 179 1 L E' ∧ lmN (prodN l) ≤ L ∧ ∀ i,i < lmN (prodN l) → E' i 0 = lmE (prodN l) i 0) = Q
 have c1 := make_mk 1 (by omega)
 rw [Int.natCast_one] at c1
 (refine TC_of_T Γ_ok Tryz.func108 rfl (by kernel_rfl) ?_;simp only [Tryz.ntmps108,Tryz.results108,List.length_cons,List.length_nil,Nat.reduceSub,Nat.reduceAdd,List.replicate,List.cons_append,List.nil_append])
 (have cm1 := c1;((refine goR0 _ _ _ _ _ _ _ _ ?_ ?_ ?_ ?_ ?_ ?_ ?_ ?_)<;>(repeat intro hb)<;>first|exact True.intro|refine Lf.mk ?_))
 refine T_loopW (fun m st => ∃ i : Nat,i ≤ l.length ∧ m + i = l.length ∧ st = ⟨enM l (prK l i) i,[natO (lmN (prK l i)) (prK l i)]⟩)
  l.length ⟨_, ?_, 0, by omega, rfl, rfl⟩ ?_
 ·rw [show prK l 0 = 1 from rfl]
  ((try refine sgl ?_);exact wkI [0])
 rintro m st ⟨i, k0, k1, rfl⟩
 by_cases hi : i < l.length
 ·have hp := prK_s hi
  obtain ⟨V, hV⟩ : ∃ V, V = prK l i := ⟨_, rfl⟩
  have l0 := h2 i k0
  have l1 := h2 (i + 1) hi
  rw [← hV] at hp l0 ⊢
  rw [hp] at l1
  have c2 := mul_mk V (gN l i) l0 (h1 i hi) l1
  rw [← hp] at c2
  refine sgo ?_
  (have cm1 := c2;((refine goR0 _ _ _ _ _ _ _ _ ?_ ?_ ?_ ?_ ?_ ?_ ?_ ?_)<;>(repeat intro hb)<;>first|exact True.intro|refine Lf.mk ?_))
  refine ⟨l.length - (i + 1),by omega,⟨enM l (prK l (i + 1)) (i + 1),[natO (lmN (prK l (i + 1))) (prK l (i + 1))]⟩,?_,i + 1,by omega,by omega,rfl⟩
  ((try refine sgl ?_);refine Wk.intro [1] (by decide) (by decide) wkH ?_ ?_ <;> repeat' (first|(refine WkV.imm ?_;congr 1;omega)|refine WkVL.cons ?_ ?_|exact wkT|refine WkV.agg ?_|refine WkV.tup ?_|refine WkV.fn ?_ ?_|exact WkO.dead|exact WkO.raw|refine WkO.ghost ?_|exact WkO.mpE rfl trivial|refine WkO.box ?_ rfl|refine WkO.arr ?_|refine And.intro ?_ (And.intro aF ?_)|exact trivial|(intro i j hi hj)))
 ·obtain rfl : i = l.length := by omega
  rw [prK_end]
  refine sgo ?_
  (((refine goR0 _ _ _ _ _ _ _ _ ?_ ?_ ?_ ?_ ?_ ?_ ?_ ?_)<;>(repeat intro hb)<;>first|exact True.intro|refine Lf.mk ?_))
  rw [← hQ]
  exact ⟨_, _, _, _, rfl, rfl, Nat.le_refl _, fun _ _ => rfl⟩
end Go.Proofs.YtonmienclploaaaGreatDoor.Q
