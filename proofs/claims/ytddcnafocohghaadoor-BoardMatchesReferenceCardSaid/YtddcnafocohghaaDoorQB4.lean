/-
  Keys and keyboards as values; board.Valid.
-/
import Derived.Test.YtddcnafocohghaaDoorQGo
import Derived.Test.YtddcnafocohghaaDoorQB3
set_option linter.unusedSimpArgs false
set_option linter.unusedVariables false
namespace Go.Proofs.YtddcnafocohghaaDoor
open Go.Ab
@[go_sem, reducible] def kyL (k : Ky) : List AV := [.imm (.int .i64 k.id), .imm (.int .i64 k.x), .imm (.int .i64 k.row), .imm (.int .i64 k.p.a), .imm (.int .i64 k.p.b), .imm (.int .i64 k.p.c), .imm (.int .i64 k.p.d), .imm (.int .i64 k.p.e), .imm (.int .i64 k.p.f)]
@[go_sem, reducible] def kyA (k : Ky) : AV := .agg (kyL k)
instance : Inhabited Ky := ⟨ky0⟩
def gk (l : List Ky) (i : Nat) : Ky := l.getD i ky0
def kyE (l : List Ky) (i j : Nat) : AV := nth (kyL (gk l i)) j
@[go_sem] theorem kyE_0 (l : List Ky) (i : Nat) : kyE l i 0 = .imm (.int .i64 (gk l i).id) := rfl
@[go_sem] theorem kyE_1 (l : List Ky) (i : Nat) : kyE l i 1 = .imm (.int .i64 (gk l i).x) := rfl
@[go_sem] theorem kyE_2 (l : List Ky) (i : Nat) : kyE l i 2 = .imm (.int .i64 (gk l i).row) := rfl
@[go_sem] theorem kyE_3 (l : List Ky) (i : Nat) : kyE l i 3 = .imm (.int .i64 (gk l i).p.a) := rfl
@[go_sem] theorem kyE_4 (l : List Ky) (i : Nat) : kyE l i 4 = .imm (.int .i64 (gk l i).p.b) := rfl
@[go_sem] theorem kyE_5 (l : List Ky) (i : Nat) : kyE l i 5 = .imm (.int .i64 (gk l i).p.c) := rfl
@[go_sem] theorem kyE_6 (l : List Ky) (i : Nat) : kyE l i 6 = .imm (.int .i64 (gk l i).p.d) := rfl
@[go_sem] theorem kyE_7 (l : List Ky) (i : Nat) : kyE l i 7 = .imm (.int .i64 (gk l i).p.e) := rfl
@[go_sem] theorem kyE_8 (l : List Ky) (i : Nat) : kyE l i 8 = .imm (.int .i64 (gk l i).p.f) := rfl
@[simp] theorem kyE_pl (l : List Ky) (i j : Nat) : Pl (kyE l i j) := by rcases j with _ | _ | _ | _ | _ | _ | _ | _ | _ | j <;> trivial
@[simp] theorem kyE_free (l : List Ky) (i j : Nat) : Free (kyE l i j) := Pl.free _ (kyE_pl l i j)
@[go_sem, reducible] def kys (l : List Ky) : AV := .view l.length 9 (kyE l)
@[go_sem, reducible] def kyO (l : List Ky) : AObj := .arr 43 9 l.length (kyE l)
@[go_sem, reducible] def bdL (b : Bd) : List AV := [kys b.ks, .imm (.int .i64 b.span), .imm (.int .i64 b.tol)]
@[go_sem, reducible] def bdA (b : Bd) : AV := .agg (bdL b)
theorem gk_mem {l : List Ky} {i : Nat} (h : i < l.length) : gk l i ∈ l := by simp [gk, h]
theorem drop_gk {l : List Ky} {i : Nat} (h : i < l.length) : l.drop i = gk l i :: l.drop (i + 1) := by
  rw [List.drop_eq_getElem_cons h]
  simp only [gk, List.getD_eq_getElem?_getD, List.getElem?_eq_getElem h, Option.getD_some]
theorem take_gk {l : List Ky} {i : Nat} (h : i < l.length) : l.take (i + 1) = l.take i ++ [gk l i] := by
  rw [List.take_add_one, List.getElem?_eq_getElem h]
  simp only [gk, List.getD_eq_getElem?_getD, List.getElem?_eq_getElem h, Option.getD_some, Option.toList_some]
@[go_sem, reducible] def plK (x r : Int) : Value := .agg [.int .i64 x, .int .i64 r].toArray
def seenK (S : List Ky) : List (Value × AV) := S.map fun k => (plK k.x k.row, .imm (.bool true))
def takenB (S : List Ky) (x r : Int) : Bool := S.any fun y => decide (y.x = x) && decide (y.row = r)
theorem keq_pl (x r x' r' : Int) : keq (plK x r) (plK x' r') = (decide (x' = x) && decide (r' = r)) := by
  simp only [plK, keq, keqL, Bool.and_true]
  rw [Bool.eq_iff_iff]
  simp only [Bool.and_eq_true, beq_iff_eq, decide_eq_true_eq]
  exact ⟨fun h => ⟨h.1.symm, h.2.symm⟩, fun h => ⟨h.1.symm, h.2.symm⟩⟩
theorem mget_seenK (x r : Int) : ∀ S : List Ky, mget (seenK S) (plK x r) = if takenB S x r = true then some (.imm (.bool true)) else none
  | [] => rfl
  | e :: S => by
    have ih := mget_seenK x r S
    simp only [seenK] at ih
    simp only [seenK, List.map_cons, mget, keq_pl, ih, takenB, List.any_cons, Bool.or_eq_true]
    cases (decide (e.x = x) && decide (e.row = r)) <;> simp
@[go_sem] theorem mval_seenK (x r : Int) (S : List Ky) : mval (seenK S) (.imm (.bool false)) (.agg [.int .i64 x, .int .i64 r].toArray) = .imm (.bool (takenB S x r)) := by
  unfold mval
  rw [mget_seenK x r S]
  cases takenB S x r <;> simp
theorem mput_seenK (k : Ky) : ∀ S : List Ky, takenB S k.x k.row = false → mput (seenK S) (plK k.x k.row) (.imm (.bool true)) = seenK (S ++ [k])
  | [], _ => rfl
  | e :: S, h => by
    have h2 : (decide (e.x = k.x) && decide (e.row = k.row)) = false ∧ takenB S k.x k.row = false := by
      simpa [takenB] using h
    have ih := mput_seenK k S h2.2
    simp only [seenK] at ih
    simp only [seenK, List.map_cons, mput, keq_pl, ih, List.cons_append, h2.1]
    simp
theorem seenK_free (S : List Ky) : FreeL ((seenK S).map (·.2)) := by
  induction S with
  | nil => trivial
  | cons d D ih => exact ⟨trivial, ih⟩
theorem keysB_drop (seen : List Ky) (last : Int) {l : List Ky} {i : Nat} (h : i < l.length) :
    keysB seen last (l.drop i) = (keyB last (gk l i) && !takenB seen (gk l i).x (gk l i).row && keysB (seen ++ [gk l i]) (gk l i).id (l.drop (i + 1))) := by
  rw [drop_gk h, keysB]
  congr 2
  unfold takenB
  rw [List.not_any_eq_all_not]
set_option maxRecDepth 100000 in
set_option maxHeartbeats 4000000 in
theorem valid_tc (b : Bd) (hl : b.ks.length ≤ 9223372036854775807) : Look Tryd.prog 12 [bdA b] (.imm (.bool (bdB b))) := by
  refine Look.mk trivial ?_
  (refine TC_of_T Γ_ok Tryd.func12 rfl (by kernel_rfl) ?_; simp only [Tryd.ntmps12, Tryd.results12, List.length_cons, List.length_nil, Nat.reduceSub, Nat.reduceAdd, List.replicate, List.cons_append, List.nil_append])
  (repeat' (first | with_reducible refine T_seq_drawT (id := 10) Γ_ok drawsAny pl12_10 (by kernel_rfl) (fun K hK => ?_) | with_reducible refine T_last_drawT (id := 10) Γ_ok drawsAny pl12_10 (by kernel_rfl) (fun K hK => ?_) | ((refine goR0 _ _ _ _ _ _ _ _ ?_ ?_ ?_ ?_ ?_ ?_ ?_ ?_) <;> (repeat intro hb) <;> first | exact True.intro | refine Lf.mk ?_)))
  · refine congrArg (fun b => AV.imm (.bool b)) ?_
    unfold bdB
    grind
  · have he : bdB b = keysB [] 0 b.ks := by unfold bdB; grind
    rw [he]
    have hl2 : b.ks.length ≤ 120 := by omega
    refine T_loopW (fun m st => ∃ (i : Nat) (last : Int), i ≤ b.ks.length ∧ m + i = b.ks.length ∧ keysB [] 0 b.ks = keysB (b.ks.take i) last (b.ks.drop i) ∧
      st = ⟨[bdA b, .optr 0 0 0, .imm (.bool false), .imm (.int .i64 last), .map 1] ++ List.replicate 27 .top ++ [kys b.ks, .imm (.int .i64 b.ks.length), .imm (.int .i64 i)] ++ List.replicate 51 .top, [.box 24 (bdL b), .mp (.agg [some .i64, some .i64]) (seenK (b.ks.take i))]⟩)
      b.ks.length ⟨_, ?_, 0, 0, by omega, rfl, rfl, rfl⟩ ?_
    · ((try simp only [List.length_append, List.length_cons, List.length_nil, Nat.zero_add]); refine Wk.intro [0, 1] (by decide) (by decide) (by intro o ho; simp at ho ⊢ <;> omega) ?_ ?_ <;> repeat' (first | exact WkVL.nil | refine WkVL.cons ?_ ?_ | exact WkV.top | exact WkV.imm rfl | exact WkV.imm (by simp) | exact WkV.optr rfl | exact WkV.own rfl (by simp) | exact WkV.nil_own (.inl rfl) | exact WkV.map rfl | (refine WkV.free ?_; simp [Free, FreeL] <;> assumption) | (refine WkV.free (fun _ _ => FreeL_nth ?_ _); simp [Free, FreeL]; done) | refine WkV.agg ?_ | refine WkV.tup ?_ | refine WkV.fn ?_ ?_ | exact WkO.dead | exact WkO.raw | refine WkO.ghost ?_ | exact WkO.mpE rfl trivial | refine WkO.box ?_ rfl | refine WkO.arr ?_ | refine And.intro ?_ (And.intro (by first | exact fun h => h | exact fun _ => rfl | exact nofun) ?_) | exact trivial | (intro i j hi hj)))
    rintro m st ⟨i, last, h0, h1, h2, rfl⟩
    have hp := valid_p (gk b.ks i).p
    (simp only [go_sem, ↓reduceIte, Nat.reduceAdd, Nat.reduceSub, Nat.reduceMul, Nat.reduceLT, Nat.reduceLeDiff, Nat.reduceEqDiff, Nat.reduceGT, Int.reduceToNat, Int.reduceBEq, Int.reduceBNe]; try simp (disch := omega) only [wrapI, wrapU, half_sum, toNat_sub1, toNat_add1, Int.toNat_natCast])
    (have dl1 := hp; repeat' (first | with_reducible refine T_seq_drawT (id := 10) Γ_ok drawsAny pl12_10 (by kernel_rfl) (fun K hK => ?_) | with_reducible refine T_last_drawT (id := 10) Γ_ok drawsAny pl12_10 (by kernel_rfl) (fun K hK => ?_) | ((refine goR0 _ _ _ _ _ _ _ _ ?_ ?_ ?_ ?_ ?_ ?_ ?_ ?_) <;> (repeat intro hb) <;> first | exact True.intro | refine Lf.mk ?_)))
    · refine congrArg (fun b => AV.imm (.bool b)) ?_
      rw [h2, keysB_drop _ _ (by omega)]
      unfold keyB
      symm
      simp only [Bool.and_eq_false_iff, decide_eq_false_iff_not, Bool.not_eq_false']
      grind
    · have hi : i < b.ks.length := by omega
      refine ⟨b.ks.length - (i + 1), by omega, _, ?_, i + 1, (gk b.ks i).id, by omega, by omega, ?_, rfl⟩
      · have e := mput_seenK (gk b.ks i) (b.ks.take i) hb.2
        rw [← take_gk hi] at e
        rw [show mput (seenK (List.take i b.ks)) (Value.agg #[.int .i64 (gk b.ks i).x, .int .i64 (gk b.ks i).row]) (AV.imm (.bool true)) = seenK (List.take (i + 1) b.ks) from e]
        ((try simp only [List.length_append, List.length_cons, List.length_nil, Nat.zero_add]); refine Wk.intro [0, 1] (by decide) (by decide) (by intro o ho; simp at ho ⊢ <;> omega) ?_ ?_ <;> repeat' (first | (exact WkO.mpE rfl (seenK_free _)) | (refine WkV.imm ?_; congr 1; omega) | exact WkVL.nil | refine WkVL.cons ?_ ?_ | exact WkV.top | exact WkV.imm rfl | exact WkV.imm (by simp) | exact WkV.optr rfl | exact WkV.own rfl (by simp) | exact WkV.nil_own (.inl rfl) | exact WkV.map rfl | (refine WkV.free ?_; simp [Free, FreeL] <;> assumption) | (refine WkV.free (fun _ _ => FreeL_nth ?_ _); simp [Free, FreeL]; done) | refine WkV.agg ?_ | refine WkV.tup ?_ | refine WkV.fn ?_ ?_ | exact WkO.dead | exact WkO.raw | refine WkO.ghost ?_ | exact WkO.mpE rfl trivial | refine WkO.box ?_ rfl | refine WkO.arr ?_ | refine And.intro ?_ (And.intro (by first | exact fun h => h | exact fun _ => rfl | exact nofun) ?_) | exact trivial | (intro i j hi hj)))
      · rw [h2, keysB_drop _ _ hi, take_gk hi, hb.2]
        have hk : keyB last (gk b.ks i) = true := by
          rw [keyB_iff]
          obtain ⟨⟨⟨⟨⟨⟨h3, h4⟩, h5⟩, h6⟩, h7⟩, h8⟩, _⟩ := hb
          split at h5 <;> exact ⟨h3, h4, by omega, by omega, by omega, by omega, h8⟩
        rw [hk]
        rfl
    · refine congrArg (fun b => AV.imm (.bool b)) ?_
      rw [h2, List.drop_of_length_le (by omega)]
      rfl
end Go.Proofs.YtddcnafocohghaaDoor
