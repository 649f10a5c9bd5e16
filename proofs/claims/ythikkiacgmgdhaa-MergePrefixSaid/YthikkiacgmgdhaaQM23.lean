/-
  The reference's lies, Liars.
-/
import Derived.Test.YthikkiacgmgdhaaQGo
import Derived.Test.YthikkiacgmgdhaaQM22
set_option linter.unusedSimpArgs false
set_option linter.unusedVariables false
namespace Go.Proofs.Ythikkiacgmgdhaa
open Go.Ab

/-- Is a desk a liar in one clash? -/
def lie1 (js : List Jn) (c : Cl) (d : Int) : Bool :=
  decide ((entOf js c.s c.a).b = (entOf js c.s c.b).b) && hasB (entOf js c.s c.a).v d && hasB (entOf js c.s c.b).v d
def liesB (js : List Jn) (cs : List Cl) (d : Int) : Bool := cs.any fun c => lie1 js c d
theorem liesB_drop {js : List Jn} {cs : List Cl} {d : Int} {i : Nat} (h : i < cs.length) : liesB js (cs.drop i) d = (lie1 js (cs.toArray[i]!) d || liesB js (cs.drop (i + 1)) d) := by
  rw [List.drop_eq_getElem_cons h, liesB, List.any_cons]
  simp [h, liesB]
def rliR (n : Int) (js : List Jn) : List Int × Int := if jsB n js = true then (mkR (fun d => liesB js (rcA js 15) d) n.toNat, 0) else ([], 1)

set_option maxRecDepth 100000 in
set_option maxHeartbeats 4000000 in
theorem lies_tc (n : Int) (js : List Jn) (h : JsOk js) (hv : jsB n js = true) (cs : List Cl) (hok : ∀ c ∈ cs, ClOk js c) (hl : cs.length ≤ 9223372036854775807) (d : Int) : Look Try.prog 44 [jns js, cls cs, .imm (.int .i64 d)] (.imm (.bool (liesB js cs d))) := by
  have hjv : ∀ i, i < js.length → jnB n (gj js i) = true := fun i hi => allJ_gj (n := n) (l := js) (by unfold jsB at hv; simp at hv; exact hv.2) hi
  have hn8 : n ≤ 8 := by unfold jsB cntB at hv; simp at hv; exact hv.1.1.2
  have hl8 : js.length ≤ 8 := by unfold jsB at hv; simp at hv; exact hv.1.2
  refine Look.mk trivial ?_
  (refine TC_of_T Γ_ok Try.func44 rfl (by kernel_rfl) ?_; simp only [Try.ntmps44, Try.results44, List.length_cons, List.length_nil, Nat.reduceSub, Nat.reduceAdd, List.replicate, List.cons_append, List.nil_append])
  (repeat' (first | with_reducible refine T_seq_drawT (id := 4) Γ_ok drawsAny pl44_4 (by kernel_rfl) (fun K hK => ?_) | with_reducible refine T_last_drawT (id := 4) Γ_ok drawsAny pl44_4 (by kernel_rfl) (fun K hK => ?_) | with_reducible refine T_seq_drawT (id := 5) Γ_ok drawsAny pl44_5 (by kernel_rfl) (fun K hK => ?_) | with_reducible refine T_last_drawT (id := 5) Γ_ok drawsAny pl44_5 (by kernel_rfl) (fun K hK => ?_) | ((refine goR0 _ _ _ _ _ _ _ _ ?_ ?_ ?_ ?_ ?_ ?_ ?_ ?_) <;> (repeat intro hb) <;> first | exact True.intro | refine Lf.mk ?_)))
  refine T_loopW (fun m st => ∃ i : Nat, i ≤ cs.length ∧ m + i = cs.length ∧ liesB js cs d = liesB js (cs.drop i) d ∧
      st = ⟨[jns js, cls cs, .imm (.int .i64 d), .top, .top, .top, .imm (.bool false), .imm (.int .i64 i)] ++ List.replicate 61 .top, []⟩)
      cs.length ⟨_, ?_, 0, by omega, by omega, rfl, rfl⟩ ?_
  · ((try simp only [List.length_append, List.length_cons, List.length_nil, Nat.zero_add]); refine Wk.intro [] (by decide) (by decide) (by intro o ho; simp at ho ⊢ <;> omega) ?_ ?_ <;> repeat' (first | exact WkVL.nil | refine WkVL.cons ?_ ?_ | exact WkV.top | exact WkV.imm rfl | exact WkV.imm (by simp) | exact WkV.optr rfl | exact WkV.own rfl (by simp) | exact WkV.nil_own (.inl rfl) | exact WkV.map rfl | (refine WkV.free ?_; simp [Free, FreeL] <;> assumption) | (refine WkV.free (fun _ _ => FreeL_nth ?_ _); simp [Free, FreeL]; done) | refine WkV.agg ?_ | refine WkV.tup ?_ | refine WkV.fn ?_ ?_ | exact WkO.dead | exact WkO.raw | refine WkO.ghost ?_ | exact WkO.mpE rfl trivial | refine WkO.box ?_ rfl | refine WkO.arr ?_ | refine And.intro ?_ (And.intro (by first | exact fun h => h | exact fun _ => rfl | exact nofun) ?_) | exact trivial | (intro i j hi hj)))
  rintro m st ⟨i, h0, h1, h2, rfl⟩
  by_cases hlt : i < cs.length
  · have hci := hok cs[i] (List.getElem_mem hlt)
    have hce : cs.toArray[i]! = cs[i] := by simp [hlt]
    rw [← hce] at hci
    obtain ⟨iB, iA, x, y, hcx, hik, hil, hx, hy, ht⟩ := hci
    have hxv := (jnB_facts (hjv iB hil)).1 x (lookE_mem hx).1
    have hyv := (jnB_facts (hjv iA (by omega))).1 y (lookE_mem hy).1
    have hxl := enB_len hxv.2 hn8
    have hyl := enB_len hyv.2 hn8
    have hs1 : (cs.toArray[i]!).s = x.s := by rw [hcx]
    have hs2 : (cs.toArray[i]!).a = (iA : Int) := by rw [hcx]
    have hs3 : (cs.toArray[i]!).b = (iB : Int) := by rw [hcx]
    have hd := liesB_drop (js := js) (d := d) hlt
    unfold lie1 at hd
    rw [hs1, hs2, hs3] at hd
    simp only [entOf, Int.toNat_natCast, hx, hy, Option.getD_some] at hd
    have p1 := at_yes (h.2 iA) hy
    have p2 := at_yes (h.2 iB) hx
    have q1 := rhas_tc y.v d (by omega)
    have q2 := rhas_tc x.v d (by omega)
    (simp only [go_sem, ↓reduceIte, Nat.reduceAdd, Nat.reduceSub, Nat.reduceMul, Nat.reduceLT, Nat.reduceLeDiff, Nat.reduceEqDiff, Nat.reduceGT, Int.reduceToNat, Int.reduceBEq, Int.reduceBNe]; try simp (disch := omega) only [wrapI, wrapU, half_sum, toNat_sub1, toNat_add1, Int.toNat_natCast])
    (have cp1 := p1; have cp2 := p2; have dl1 := q1; have dl2 := q2; have sx1 := hs1; have sx2 := hs2; have sx3 := hs3; have sx4 : (0 : Nat) + 0 = 0 := rfl; repeat' (first | with_reducible refine T_seq_drawT (id := 4) Γ_ok drawsAny pl44_4 (by kernel_rfl) (fun K hK => ?_) | with_reducible refine T_last_drawT (id := 4) Γ_ok drawsAny pl44_4 (by kernel_rfl) (fun K hK => ?_) | with_reducible refine T_seq_drawT (id := 5) Γ_ok drawsAny pl44_5 (by kernel_rfl) (fun K hK => ?_) | with_reducible refine T_last_drawT (id := 5) Γ_ok drawsAny pl44_5 (by kernel_rfl) (fun K hK => ?_) | ((refine goR4 _ _ _ _ _ _ _ _ ?_ ?_ ?_ ?_ ?_ ?_ ?_ ?_) <;> (repeat intro hb) <;> first | exact True.intro | refine Lf.mk ?_)))
    · rw [h2, hd, decide_eq_true hb.1.1, hb.1.2, hb.2]
      rfl
    · refine ⟨cs.length - (i + 1), by omega, _, ?_, i + 1, by omega, by omega, ?_, rfl⟩
      · ((try simp only [List.length_append, List.length_cons, List.length_nil, Nat.zero_add]); refine Wk.intro [] (by decide) (by decide) (by intro o ho; simp at ho ⊢ <;> omega) ?_ ?_ <;> repeat' (first | (refine WkV.imm ?_; congr 1; omega) | exact WkVL.nil | refine WkVL.cons ?_ ?_ | exact WkV.top | exact WkV.imm rfl | exact WkV.imm (by simp) | exact WkV.optr rfl | exact WkV.own rfl (by simp) | exact WkV.nil_own (.inl rfl) | exact WkV.map rfl | (refine WkV.free ?_; simp [Free, FreeL] <;> assumption) | (refine WkV.free (fun _ _ => FreeL_nth ?_ _); simp [Free, FreeL]; done) | refine WkV.agg ?_ | refine WkV.tup ?_ | refine WkV.fn ?_ ?_ | exact WkO.dead | exact WkO.raw | refine WkO.ghost ?_ | exact WkO.mpE rfl trivial | refine WkO.box ?_ rfl | refine WkO.arr ?_ | refine And.intro ?_ (And.intro (by first | exact fun h => h | exact fun _ => rfl | exact nofun) ?_) | exact trivial | (intro i j hi hj)))
      · rw [h2, hd]
        by_cases e : y.b = x.b
        · cases e2 : hasB y.v d with
          | true => rw [hb ⟨e, e2⟩]; simp
          | false => simp
        · rw [decide_eq_false e]; simp
  · (simp only [go_sem, ↓reduceIte, Nat.reduceAdd, Nat.reduceSub, Nat.reduceMul, Nat.reduceLT, Nat.reduceLeDiff, Nat.reduceEqDiff, Nat.reduceGT, Int.reduceToNat, Int.reduceBEq, Int.reduceBNe]; try simp (disch := omega) only [wrapI, wrapU, half_sum, toNat_sub1, toNat_add1, Int.toNat_natCast])
    (repeat' (first | with_reducible refine T_seq_drawT (id := 4) Γ_ok drawsAny pl44_4 (by kernel_rfl) (fun K hK => ?_) | with_reducible refine T_last_drawT (id := 4) Γ_ok drawsAny pl44_4 (by kernel_rfl) (fun K hK => ?_) | with_reducible refine T_seq_drawT (id := 5) Γ_ok drawsAny pl44_5 (by kernel_rfl) (fun K hK => ?_) | with_reducible refine T_last_drawT (id := 5) Γ_ok drawsAny pl44_5 (by kernel_rfl) (fun K hK => ?_) | ((refine goR0 _ _ _ _ _ _ _ _ ?_ ?_ ?_ ?_ ?_ ?_ ?_ ?_) <;> (repeat intro hb) <;> first | exact True.intro | refine Lf.mk ?_)))
    rw [h2, List.drop_of_length_le (by omega)]
    rfl

theorem mkR_len' (M : Nat → Bool) (i : Nat) : (mkR M i).length ≤ i := mkR_len M i
set_option maxRecDepth 100000 in
set_option maxHeartbeats 4000000 in
theorem rliars_raw (n : Int) (js : List Jn) (h : JsOk js) (hv : jsB n js = true) : TC Try.prog 21 [.imm (.int .i64 n), jns js] [] (fun v σ' =>
    ∃ k E', v = .tup [.own k 0 (rliR n js).1.length none, .imm (.int .i64 (rliR n js).2)] ∧ nthO σ' k = .arr 3 1 (rliR n js).1.length E' ∧ ∀ i j, i < (rliR n js).1.length → E' i j = inE (rliR n js).1 i j) := by
  have hc := rclashes_tc n js h
  unfold rclsR at hc
  unfold rliR
  rw [if_pos hv] at hc ⊢
  have hok := clsL_ok hv
  rw [clsL_rcA hv] at hok
  have hcl := clsL_le hv
  rw [clsL_rcA hv] at hcl
  have hn8 : 1 ≤ n ∧ n ≤ 8 := by unfold jsB cntB at hv; simp at hv; omega
  have hli := fun d => lies_tc n js h hv (rcA js 15) hok (by omega) d
  generalize rcA js 15 = cs at hc hok hcl hli
  simp only [] at hc
  (refine TC_of_T Γ_ok Try.func21 rfl (by kernel_rfl) ?_; simp only [Try.ntmps21, Try.results21, List.length_cons, List.length_nil, Nat.reduceSub, Nat.reduceAdd, List.replicate, List.cons_append, List.nil_append])
  (have cm1 := hc; ((refine goR0 _ _ _ _ _ _ _ _ ?_ ?_ ?_ ?_ ?_ ?_ ?_ ?_) <;> (repeat intro hb) <;> first | exact True.intro | refine Lf.mk ?_))
  refine T_loopW (fun m st => ∃ (k : Nat) (c : List Int), k ≤ n.toNat ∧ m + k = n.toNat ∧ c = mkR (fun d => liesB js cs d) k ∧
      st = ⟨[.imm (.int .i64 n), jns js, .top, .top, .top, .top, .own 0 0 cs.length none, .top, .own 1 0 c.length none, .imm (.int .i64 k)] ++ List.replicate 23 .top, [elO cs.length cs.toArray, intO c]⟩)
    n.toNat ⟨_, Wk.trans (Wk.push 3 1 (inE [])) ?_, 0, [], by omega, by omega, rfl, rfl⟩ ?_
  · ((try simp only [List.length_append, List.length_cons, List.length_nil, Nat.zero_add]); refine Wk.intro [0, 1] (by decide) (by decide) (by intro o ho; simp at ho ⊢ <;> omega) ?_ ?_ <;> repeat' (first | exact WkVL.nil | refine WkVL.cons ?_ ?_ | exact WkV.top | exact WkV.imm rfl | exact WkV.imm (by simp) | exact WkV.optr rfl | exact WkV.own rfl (by simp) | exact WkV.nil_own (.inl rfl) | exact WkV.map rfl | (refine WkV.free ?_; simp [Free, FreeL] <;> assumption) | (refine WkV.free (fun _ _ => FreeL_nth ?_ _); simp [Free, FreeL]; done) | refine WkV.agg ?_ | refine WkV.tup ?_ | refine WkV.fn ?_ ?_ | exact WkO.dead | exact WkO.raw | refine WkO.ghost ?_ | exact WkO.mpE rfl trivial | refine WkO.box ?_ rfl | refine WkO.arr ?_ | refine And.intro ?_ (And.intro (by first | exact fun h => h | exact fun _ => rfl | exact nofun) ?_) | exact trivial | (intro i j hi hj)))
  rintro m st ⟨k, c, h1, h2, rfl, rfl⟩
  have hcl2 := mkR_len (fun d => liesB js cs d) k
  have hsucc := mkR_succ (fun d => liesB js cs d) k
  have hlk := hli k
  (simp only [go_sem, ↓reduceIte, Nat.reduceAdd, Nat.reduceSub, Nat.reduceMul, Nat.reduceLT, Nat.reduceLeDiff, Nat.reduceEqDiff, Nat.reduceGT, Int.reduceToNat, Int.reduceBEq, Int.reduceBNe]; try simp (disch := omega) only [wrapI, wrapU, half_sum, toNat_sub1, toNat_add1, Int.toNat_natCast])
  (have cl1 := hlk; ((refine goR0 _ _ _ _ _ _ _ _ ?_ ?_ ?_ ?_ ?_ ?_ ?_ ?_) <;> (repeat intro hb) <;> first | exact True.intro | refine Lf.mk ?_))
  · rw [if_pos hb] at hsucc
    refine ⟨n.toNat - (k + 1), by omega, _, ?_, k + 1, _, by omega, by omega, hsucc.symm, rfl⟩
    ((try simp only [List.length_append, List.length_cons, List.length_nil, Nat.zero_add]); refine Wk.intro [0, 3] (by decide) (by decide) (by intro o ho; simp at ho ⊢ <;> omega) ?_ ?_ <;> repeat' (first | (refine WkV.imm ?_; congr 1; omega) | (exact WkV.eqF (inE_snoc _ _ _ hj hi) (inE_free _ _ _)) | exact WkVL.nil | refine WkVL.cons ?_ ?_ | exact WkV.top | exact WkV.imm rfl | exact WkV.imm (by simp) | exact WkV.optr rfl | exact WkV.own rfl (by simp) | exact WkV.nil_own (.inl rfl) | exact WkV.map rfl | (refine WkV.free ?_; simp [Free, FreeL] <;> assumption) | (refine WkV.free (fun _ _ => FreeL_nth ?_ _); simp [Free, FreeL]; done) | refine WkV.agg ?_ | refine WkV.tup ?_ | refine WkV.fn ?_ ?_ | exact WkO.dead | exact WkO.raw | refine WkO.ghost ?_ | exact WkO.mpE rfl trivial | refine WkO.box ?_ rfl | refine WkO.arr ?_ | refine And.intro ?_ (And.intro (by first | exact fun h => h | exact fun _ => rfl | exact nofun) ?_) | exact trivial | (intro i j hi hj)))
  · rw [if_neg (by simp [hb])] at hsucc
    refine ⟨n.toNat - (k + 1), by omega, _, ?_, k + 1, _, by omega, by omega, hsucc.symm, rfl⟩
    ((try simp only [List.length_append, List.length_cons, List.length_nil, Nat.zero_add]); refine Wk.intro [0, 1] (by decide) (by decide) (by intro o ho; simp at ho ⊢ <;> omega) ?_ ?_ <;> repeat' (first | (refine WkV.imm ?_; congr 1; omega) | exact WkVL.nil | refine WkVL.cons ?_ ?_ | exact WkV.top | exact WkV.imm rfl | exact WkV.imm (by simp) | exact WkV.optr rfl | exact WkV.own rfl (by simp) | exact WkV.nil_own (.inl rfl) | exact WkV.map rfl | (refine WkV.free ?_; simp [Free, FreeL] <;> assumption) | (refine WkV.free (fun _ _ => FreeL_nth ?_ _); simp [Free, FreeL]; done) | refine WkV.agg ?_ | refine WkV.tup ?_ | refine WkV.fn ?_ ?_ | exact WkO.dead | exact WkO.raw | refine WkO.ghost ?_ | exact WkO.mpE rfl trivial | refine WkO.box ?_ rfl | refine WkO.arr ?_ | refine And.intro ?_ (And.intro (by first | exact fun h => h | exact fun _ => rfl | exact nofun) ?_) | exact trivial | (intro i j hi hj)))
  · obtain rfl : k = n.toNat := by omega
    exact ⟨1, _, rfl, rfl, fun _ _ _ => rfl⟩

set_option maxRecDepth 100000 in
set_option maxHeartbeats 4000000 in
theorem rliars_no (n : Int) (js : List Jn) (h : JsOk js) (hv : jsB n js = false) : TC Try.prog 21 [.imm (.int .i64 n), jns js] [] (fun v _ => ∃ x : Int, x = 1 ∧ v = .tup [.imm (.slice none 0 0), .imm (.int .i64 x)]) := by
  have hc := rclashes_tc n js h
  unfold rclsR at hc
  rw [if_neg (by simp [hv])] at hc
  (refine TC_of_T Γ_ok Try.func21 rfl (by kernel_rfl) ?_; simp only [Try.ntmps21, Try.results21, List.length_cons, List.length_nil, Nat.reduceSub, Nat.reduceAdd, List.replicate, List.cons_append, List.nil_append])
  (have cm1 := hc; ((refine goR0 _ _ _ _ _ _ _ _ ?_ ?_ ?_ ?_ ?_ ?_ ?_ ?_) <;> (repeat intro hb) <;> first | exact True.intro | refine Lf.mk ?_))
  exact ⟨1, rfl, rfl⟩

theorem rliars_tc (n : Int) (js : List Jn) (h : JsOk js) : Makes Try.prog 21 [.imm (.int .i64 n), jns js] (.tup [ownI (rliR n js).1, .imm (.int .i64 (rliR n js).2)]) [intO (rliR n js).1] := by
  refine Makes.lst (fun i j => inE_pl _ i j) trivial ?_
  cases hv : jsB n js with
  | true => exact (rliars_raw n js h hv).mono fun v σ' hq => .inr hq
  | false =>
    have e : rliR n js = ([], 1) := if_neg (by simp [hv])
    rw [e]
    refine (rliars_no n js h hv).mono fun v σ' ⟨x, hx, h1⟩ => .inl ⟨?_, rfl⟩
    subst hx
    exact h1
end Go.Proofs.Ythikkiacgmgdhaa
