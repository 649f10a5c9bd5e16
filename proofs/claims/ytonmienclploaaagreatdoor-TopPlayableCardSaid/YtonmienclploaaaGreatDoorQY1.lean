/-
 Parts joined: B4 K0 K1 KS.
-/
import Derived.Test.YtonmienclploaaaGreatDoorQGo
import Derived.Test.YtonmienclploaaaGreatDoorQT2
import Derived.Test.YtonmienclploaaaGreatDoorQA5
import Derived.Sort.Defs
import Derived.Sort.AssemblyPlain
import Derived.Test.YtonmienclploaaaGreatDoorQU3
set_option linter.unusedSimpArgs false
set_option linter.unusedVariables false
namespace Go.Proofs.YtonmienclploaaaGreatDoor.B
open Go.Ab
@[go_sem,reducible] def kyL (k : Ky) : List AV := [.imm (.int .i64 k.id),.imm (.int .i64 k.x),.imm (.int .i64 k.row),.imm (.int .i64 k.p.a),.imm (.int .i64 k.p.b),.imm (.int .i64 k.p.c),.imm (.int .i64 k.p.d),.imm (.int .i64 k.p.e),.imm (.int .i64 k.p.f)]
@[go_sem, reducible] def kyA (k : Ky) : AV := .agg (kyL k)
instance : Inhabited Ky := ⟨ky0⟩
def gk (l : List Ky) (i : Nat) : Ky := l.getD i ky0
def kyE (l : List Ky) (i j : Nat) : AV := nth (kyL (gk l i)) j
@[go_sem] theorem kyE_0 (l : List Ky) (i : Nat) : kyE l i 0 = .imm (.int .i64 (gk l i).id) := rfl
@[go_sem] theorem kyE_1 (l : List Ky) (i : Nat) : kyE l i 1 = .imm (.int .i64 (gk l i).x) := rfl
@[go_sem] theorem kyE_2 (l : List Ky) (i : Nat) : kyE l i 2 = .imm (.int .i64 (gk l i).row) := rfl
@[go_sem] theorem kyE_3 (l : List Ky) (i : Nat) : kyE l i 3 = .imm (.int .i64 (gk l i).p.a) := rfl
@[go_sem] theorem kyE_4 (l : List Ky) (i : Nat) : kyE l i 4 = .imm (.int .i64 (gk l i).p.b) := rfl
@[go_sem] theorem kyE_5 (l : List Ky) (i : Nat) : kyE l i 5 = .imm (.int .i64 (gk l i).p.c) := rfl
@[go_sem] theorem kyE_6 (l : List Ky) (i : Nat) : kyE l i 6 = .imm (.int .i64 (gk l i).p.d) := rfl
@[go_sem] theorem kyE_7 (l : List Ky) (i : Nat) : kyE l i 7 = .imm (.int .i64 (gk l i).p.e) := rfl
@[go_sem] theorem kyE_8 (l : List Ky) (i : Nat) : kyE l i 8 = .imm (.int .i64 (gk l i).p.f) := rfl
@[simp] theorem kyE_pl (l : List Ky) (i j : Nat) : Pl (kyE l i j) := by rcases j with _ | _ | _ | _ | _ | _ | _ | _ | _ | j <;> trivial
@[simp] theorem kyE_free (l : List Ky) (i j : Nat) : Free (kyE l i j) := Pl.free _ (kyE_pl l i j)
@[go_sem, reducible] def kys (l : List Ky) : AV := .view l.length 9 (kyE l)
@[go_sem, reducible] def kyO (l : List Ky) : AObj := .arr 96 9 l.length (kyE l)
@[go_sem, reducible] def bdL (b : Bd) : List AV := [kys b.ks, .imm (.int .i64 b.span), .imm (.int .i64 b.tol)]
@[go_sem, reducible] def bdA (b : Bd) : AV := .agg (bdL b)
theorem gk_mem {l : List Ky} {i : Nat} (h : i < l.length) : gk l i ∈ l := by simp [gk, h]
theorem drop_gk {l : List Ky} {i : Nat} (h : i < l.length) : l.drop i = gk l i :: l.drop (i + 1) := by
 rw [List.drop_eq_getElem_cons h]
 simp only [gk, List.getD_eq_getElem?_getD, List.getElem?_eq_getElem h, Option.getD_some]
theorem take_gk {l : List Ky} {i : Nat} (h : i < l.length) : l.take (i + 1) = l.take i ++ [gk l i] := by
 rw [List.take_add_one, List.getElem?_eq_getElem h]
 simp only [gk, List.getD_eq_getElem?_getD, List.getElem?_eq_getElem h, Option.getD_some, Option.toList_some]
@[go_sem, reducible] def plK (x r : Int) : Value := .agg [.int .i64 x, .int .i64 r].toArray
def seenK (S : List Ky) : List (Value × AV) := S.map fun k => (plK k.x k.row, .imm (.bool true))
def takenB (S : List Ky) (x r : Int) : Bool := S.any fun y => decide (y.x = x) && decide (y.row = r)
theorem keq_pl (x r x' r' : Int) : keq (plK x r) (plK x' r') = (decide (x' = x) && decide (r' = r)) := by
 simp only [plK, keq, keqL, Bool.and_true]
 rw [Bool.eq_iff_iff]
 simp only [Bool.and_eq_true, beq_iff_eq, decide_eq_true_eq]
 exact ⟨fun h => ⟨h.1.symm, h.2.symm⟩, fun h => ⟨h.1.symm, h.2.symm⟩⟩
theorem mget_seenK (x r : Int) : ∀ S : List Ky,mget (seenK S) (plK x r) = if takenB S x r = true then some (.imm (.bool true)) else none
 | [] => rfl
 | e :: S => by
  have ih := mget_seenK x r S
  simp only [seenK] at ih
  simp only [seenK, List.map_cons, mget, keq_pl, ih, takenB, List.any_cons, Bool.or_eq_true]
  cases (decide (e.x = x) && decide (e.row = r)) <;> simp
@[go_sem] theorem mval_seenK (x r : Int) (S : List Ky) : mval (seenK S) (.imm (.bool false)) (.agg [.int .i64 x,.int .i64 r].toArray) = .imm (.bool (takenB S x r)) := by
 unfold mval
 rw [mget_seenK x r S]
 cases takenB S x r <;> simp
theorem mput_seenK (k : Ky) : ∀ S : List Ky,takenB S k.x k.row = false → mput (seenK S) (plK k.x k.row) (.imm (.bool true)) = seenK (S ++ [k])
 | [], _ => rfl
 | e :: S, h => by
  have h2 : (decide (e.x = k.x) && decide (e.row = k.row)) = false ∧ takenB S k.x k.row = false := by
   simpa [takenB] using h
  have ih := mput_seenK k S h2.2
  simp only [seenK] at ih
  simp only [seenK, List.map_cons, mput, keq_pl, ih, List.cons_append, h2.1]
  simp
theorem seenK_free (S : List Ky) : FreeL ((seenK S).map (·.2)) := by
 induction S with
 | nil => trivial
 | cons d D ih => exact ⟨trivial, ih⟩
theorem keysB_drop (seen : List Ky) (last : Int) {l : List Ky} {i : Nat} (h : i < l.length) :
  keysB seen last (l.drop i) = (keyB last (gk l i) && !takenB seen (gk l i).x (gk l i).row && keysB (seen ++ [gk l i]) (gk l i).id (l.drop (i + 1))) := by
 rw [drop_gk h, keysB]
 congr 2
 unfold takenB
 rw [List.not_any_eq_all_not]
set_option maxRecDepth 100000 in
set_option maxHeartbeats 4000000 in
theorem valid_tc (b : Bd) (hl : b.ks.length ≤ 9223372036854775807) : Look Tryz.prog 32 [bdA b] (.imm (.bool (bdB b))) := by
 refine Look.mk trivial ?_
 (refine TC_of_T Γ_ok Tryz.func32 rfl (by kernel_rfl) ?_;simp only [Tryz.ntmps32,Tryz.results32,List.length_cons,List.length_nil,Nat.reduceSub,Nat.reduceAdd,List.replicate,List.cons_append,List.nil_append])
 (repeat' (first|with_reducible refine T_seq_drawT (id := 10) Γ_ok drawsAny pl32_10 (by kernel_rfl) (fun K hK=>?_)|with_reducible refine T_last_drawT (id := 10) Γ_ok drawsAny pl32_10 (by kernel_rfl) (fun K hK=>?_)|((refine goR0 _ _ _ _ _ _ _ _ ?_ ?_ ?_ ?_ ?_ ?_ ?_ ?_)<;>(repeat intro hb)<;>first|exact True.intro|refine Lf.mk ?_)))
 ·refine congrArg (fun b => AV.imm (.bool b)) ?_
  unfold bdB
  grind
 ·have he : bdB b = keysB [] 0 b.ks := by unfold bdB; grind
  rw [he]
  have hl2 : b.ks.length ≤ 120 := by omega
  refine T_loopW (fun m st => ∃ (i : Nat) (last : Int),i ≤ b.ks.length ∧ m + i = b.ks.length ∧ keysB [] 0 b.ks = keysB (b.ks.take i) last (b.ks.drop i) ∧
   st = ⟨[bdA b,.optr 0 0 0,.imm (.bool false),.imm (.int .i64 last),.map 1] ++ List.replicate 27 .top ++ [kys b.ks,.imm (.int .i64 b.ks.length),.imm (.int .i64 i)] ++ List.replicate 51 .top,[.box 46 (bdL b),.mp (.agg [some .i64,some .i64]) (seenK (b.ks.take i))]⟩)
   b.ks.length ⟨_, ?_, 0, 0, by omega, rfl, rfl, rfl⟩ ?_
  ·((try refine sgl ?_);exact wkI [0,1])
  rintro m st ⟨i, last, h0, h1, h2, rfl⟩
  have hp := valid_p (gk b.ks i).p
  refine sgo ?_
  (have dl1 := hp;repeat' (first|with_reducible refine T_seq_drawT (id := 10) Γ_ok drawsAny pl32_10 (by kernel_rfl) (fun K hK=>?_)|with_reducible refine T_last_drawT (id := 10) Γ_ok drawsAny pl32_10 (by kernel_rfl) (fun K hK=>?_)|((refine goR0 _ _ _ _ _ _ _ _ ?_ ?_ ?_ ?_ ?_ ?_ ?_ ?_)<;>(repeat intro hb)<;>first|exact True.intro|refine Lf.mk ?_)))
  ·refine congrArg (fun b => AV.imm (.bool b)) ?_
   rw [h2, keysB_drop _ _ (by omega)]
   unfold keyB
   symm
   simp only [Bool.and_eq_false_iff, decide_eq_false_iff_not, Bool.not_eq_false']
   grind
  ·have hi : i < b.ks.length := by omega
   refine ⟨b.ks.length - (i + 1), by omega, _, ?_, i + 1, (gk b.ks i).id, by omega, by omega, ?_, rfl⟩
   ·have e := mput_seenK (gk b.ks i) (b.ks.take i) hb.2
    rw [← take_gk hi] at e
    rw [show mput (seenK (List.take i b.ks)) (Value.agg #[.int .i64 (gk b.ks i).x,.int .i64 (gk b.ks i).row]) (AV.imm (.bool true)) = seenK (List.take (i + 1) b.ks) from e]
    ((try refine sgl ?_);refine Wk.intro [0,1] (by decide) (by decide) wkH ?_ ?_ <;> repeat' (first|(exact WkO.mpE rfl (seenK_free _))|(refine WkV.imm ?_;congr 1;omega)|refine WkVL.cons ?_ ?_|exact wkT|refine WkV.agg ?_|refine WkV.tup ?_|refine WkV.fn ?_ ?_|exact WkO.dead|exact WkO.raw|refine WkO.ghost ?_|exact WkO.mpE rfl trivial|refine WkO.box ?_ rfl|refine WkO.arr ?_|refine And.intro ?_ (And.intro aF ?_)|exact trivial|(intro i j hi hj)))
   ·rw [h2, keysB_drop _ _ hi, take_gk hi, hb.2]
    have hk : keyB last (gk b.ks i) = true := by
     rw [keyB_iff]
     obtain ⟨⟨⟨⟨⟨⟨h3, h4⟩, h5⟩, h6⟩, h7⟩, h8⟩, _⟩ := hb
     split at h5 <;> exact ⟨h3, h4, by omega, by omega, by omega, by omega, h8⟩
    rw [hk]
    rfl
  ·refine congrArg (fun b => AV.imm (.bool b)) ?_
   rw [h2, List.drop_of_length_le (by omega)]
   rfl
end Go.Proofs.YtonmienclploaaaGreatDoor.B
namespace Go.Proofs.YtonmienclploaaaGreatDoor.B
open Go.Ab
abbrev El := Ky
@[go_sem,reducible] def elL (k : Ky) : List AV := [.imm (.int .i64 k.id),.imm (.int .i64 k.x),.imm (.int .i64 k.row),.imm (.int .i64 k.p.a),.imm (.int .i64 k.p.b),.imm (.int .i64 k.p.c),.imm (.int .i64 k.p.d),.imm (.int .i64 k.p.e),.imm (.int .i64 k.p.f)]
@[go_sem, reducible] def elA (x : Ky) : AV := .agg (elL x)
@[go_sem, reducible] def elS : Nat := 9
theorem elL_len (x : El) : (elL x).length = elS := rfl
theorem elL_free (x : El) : FreeL (elL x) := by simp [elL, FreeL, Free]
def elE (d : Array Ky) (i j : Nat) : AV := nth (elL d[i]!) j
@[go_sem] theorem elE_0 (d : Array Ky) (i : Nat) : elE d i 0 = .imm (.int .i64 d[i]!.id) := rfl
@[go_sem] theorem elE_1 (d : Array Ky) (i : Nat) : elE d i 1 = .imm (.int .i64 d[i]!.x) := rfl
@[go_sem] theorem elE_2 (d : Array Ky) (i : Nat) : elE d i 2 = .imm (.int .i64 d[i]!.row) := rfl
@[go_sem] theorem elE_3 (d : Array Ky) (i : Nat) : elE d i 3 = .imm (.int .i64 d[i]!.p.a) := rfl
@[go_sem] theorem elE_4 (d : Array Ky) (i : Nat) : elE d i 4 = .imm (.int .i64 d[i]!.p.b) := rfl
@[go_sem] theorem elE_5 (d : Array Ky) (i : Nat) : elE d i 5 = .imm (.int .i64 d[i]!.p.c) := rfl
@[go_sem] theorem elE_6 (d : Array Ky) (i : Nat) : elE d i 6 = .imm (.int .i64 d[i]!.p.d) := rfl
@[go_sem] theorem elE_7 (d : Array Ky) (i : Nat) : elE d i 7 = .imm (.int .i64 d[i]!.p.e) := rfl
@[go_sem] theorem elE_8 (d : Array Ky) (i : Nat) : elE d i 8 = .imm (.int .i64 d[i]!.p.f) := rfl
@[simp] theorem elE_free (d : Array Ky) (i j : Nat) : Free (elE d i j) := FreeL_nth (elL_free _) _
theorem elE_pl (d : Array Ky) (i j : Nat) : Pl (elE d i j) := by
 rcases j with _ | _ | _ | _ | _ | _ | _ | _ | _ | j <;> trivial
def cmpI (x y : Int) : Int := if x < y then -1 else if x > y then 1 else 0
def or2 (x y : Int) : Int := if x ≠ 0 then x else y
def cmpE (x y : Ky) : Int := or2 (cmpI x.x y.x) (cmpI x.row y.row)
set_option maxRecDepth 100000 in
set_option maxHeartbeats 4000000 in
theorem isNaN_tc (x : Int) : Look Tryz.prog 86 [.imm (.int .i64 x)] (.imm (.bool false)) := by
 refine Look.mk trivial ?_
 (refine TC_of_T Γ_ok Tryz.func86 rfl (by kernel_rfl) ?_;simp only [Tryz.ntmps86,Tryz.results86,List.length_cons,List.length_nil,Nat.reduceSub,Nat.reduceAdd,List.replicate,List.cons_append,List.nil_append])
 (((refine goL0 _ _ _ _ _ _ _ _ ?_ ?_ ?_ ?_ ?_ ?_ ?_ ?_)<;>(repeat intro hb)<;>first|exact True.intro|refine Lf.mk ?_))
 all_goals simp
set_option maxRecDepth 100000 in
set_option maxHeartbeats 4000000 in
theorem cmp_tc (x y : Int) : Look Tryz.prog 59 [.imm (.int .i64 x),.imm (.int .i64 y)] (.imm (.int .i64 (cmpI x y))) := by
 refine Look.mk trivial ?_
 (refine TC_of_T Γ_ok Tryz.func59 rfl (by kernel_rfl) ?_;simp only [Tryz.ntmps59,Tryz.results59,List.length_cons,List.length_nil,Nat.reduceSub,Nat.reduceAdd,List.replicate,List.cons_append,List.nil_append])
 (have cl1 := fun u1 => isNaN_tc u1;((refine goL0 _ _ _ _ _ _ _ _ ?_ ?_ ?_ ?_ ?_ ?_ ?_ ?_)<;>(repeat intro hb)<;>first|exact True.intro|refine Lf.mk ?_))
 all_goals (congr 2; unfold cmpI)
 ·rw [if_pos hb]
 ·rename_i h; rw [if_neg (by omega), if_pos hb]
 ·rw [if_neg (by omega), if_neg (by omega)]
def l2 (x y : Int) (i : Nat) (_ : Nat) : AV := .imm (.int .i64 ([x, y].getD i 0))
@[simp] theorem l2_free (x y : Int) (i j : Nat) : Free (l2 x y i j) := trivial
@[go_sem] theorem l2_us (x y : Int) (i j : Nat) : l2 x y i j = .imm (.int .i64 ([x, y].getD i 0)) := rfl
set_option maxRecDepth 100000 in
set_option maxHeartbeats 4000000 in
theorem or_tc (x y : Int) : Look Tryz.prog 58 [.view 2 1 (l2 x y)] (.imm (.int .i64 (or2 x y))) := by
 refine Look.mk trivial ?_
 (refine TC_of_T Γ_ok Tryz.func58 rfl (by kernel_rfl) ?_;simp only [Tryz.ntmps58,Tryz.results58,List.length_cons,List.length_nil,Nat.reduceSub,Nat.reduceAdd,List.replicate,List.cons_append,List.nil_append])
 (((refine goL0 _ _ _ _ _ _ _ _ ?_ ?_ ?_ ?_ ?_ ?_ ?_ ?_)<;>(repeat intro hb)<;>first|exact True.intro|refine Lf.mk ?_))
 refine T_loopW (fun m st => ∃ i : Nat, i ≤ 2 ∧ m + i = 2 ∧ (∀ j, j < i → [x, y].getD j 0 = 0) ∧
   st = ⟨[.view 2 1 (l2 x y),.top,.imm (.int .i64 0),.imm (.int .i64 0),.top,.top,.view 2 1 (l2 x y),.imm (.int .i64 2),.imm (.int .i64 i)] ++ List.replicate 9 .top,[]⟩)
   2 ⟨_, ?_, 0, by omega, rfl, fun j hj => by omega, rfl⟩ ?_
 ·((try refine sgl ?_);exact wkI [])
 rintro m st ⟨i, h0, h1, h2, rfl⟩
 refine sgo ?_
 (((refine goL0 _ _ _ _ _ _ _ _ ?_ ?_ ?_ ?_ ?_ ?_ ?_ ?_)<;>(repeat intro hb)<;>first|exact True.intro|refine Lf.mk ?_))
 ·congr 2
  have h3 : i = 0 ∨ i = 1 := by omega
  rcases h3 with rfl | rfl
  ·simp only [List.getD_cons_zero] at hb ⊢; unfold or2; rw [if_pos hb]
  ·have e0 := h2 0 (by omega)
   simp only [List.getD_cons_zero, List.getD_cons_succ] at hb e0 ⊢; unfold or2; rw [if_neg (by omega)]
 ·refine ⟨2 - (i + 1), by omega, _, ?_, i + 1, by omega, by omega, fun j hj => ?_, rfl⟩
  ·((try refine sgl ?_);refine Wk.intro [] (by decide) (by decide) wkH ?_ ?_ <;> repeat' (first|(refine WkV.imm ?_;congr 1;omega)|refine WkVL.cons ?_ ?_|exact wkT|refine WkV.agg ?_|refine WkV.tup ?_|refine WkV.fn ?_ ?_|exact WkO.dead|exact WkO.raw|refine WkO.ghost ?_|exact WkO.mpE rfl trivial|refine WkO.box ?_ rfl|refine WkO.arr ?_|refine And.intro ?_ (And.intro aF ?_)|exact trivial|(intro i j hi hj)))
  ·by_cases e : j = i
   ·subst e; exact hb
   ·exact h2 j (by omega)
 ·have : i = 2 := by omega
  subst this
  have e0 := h2 0 (by omega)
  have e1 := h2 1 (by omega)
  simp only [List.getD_cons_zero, List.getD_cons_succ] at e0 e1
  congr 2
  unfold or2
  rw [if_neg (by omega), e1]
set_option maxRecDepth 100000 in
set_option maxHeartbeats 4000000 in
theorem cmpE_tc (x y : El) : Look Tryz.prog 35 [elA x, elA y] (.imm (.int .i64 (cmpE x y))) := by
 refine Look.mk trivial ?_
 (refine TC_of_T Γ_ok Tryz.func35 rfl (by kernel_rfl) ?_;simp only [Tryz.ntmps35,Tryz.results35,List.length_cons,List.length_nil,Nat.reduceSub,Nat.reduceAdd,List.replicate,List.cons_append,List.nil_append])
 (have cl1 := fun u1 u2=>cmp_tc u1 u2;have cl2 := or_tc (cmpI x.x y.x) (cmpI x.row y.row);repeat' (first|with_reducible refine T_seq_drawT (id := 1) Γ_ok drawsAny pl35_1 (by kernel_rfl) (fun K hK=>?_)|with_reducible refine T_last_drawT (id := 1) Γ_ok drawsAny pl35_1 (by kernel_rfl) (fun K hK=>?_)|((refine goL0 _ _ _ _ _ _ _ _ ?_ ?_ ?_ ?_ ?_ ?_ ?_ ?_)<;>(repeat intro hb)<;>first|exact True.intro|refine Lf.mk ?_)))
 all_goals rfl
end Go.Proofs.YtonmienclploaaaGreatDoor.B
namespace Go.Proofs.YtonmienclploaaaGreatDoor.B
open Go.Ab Go.Sort
@[go_sem, reducible] def elO (n : Nat) (d : Array El) : AObj := .arr 96 elS n (elE d)
@[go_sem, reducible] def elV (n : Nat) : AV := .own 0 0 n none
@[go_sem, reducible] def cmpF : AV := .fn (.func 35) [] []
def ltE (x y : El) : Bool := decide (cmpE x y < 0)
theorem ltE_t {x y : El} (h : cmpE x y < 0) : ltE x y = true := by simpa [ltE] using h
theorem ltE_f {x y : El} (h : 0 ≤ cmpE x y) : ltE x y = false := by simpa [ltE] using h
abbrev ga (d : Array El) (i : Nat) : El := d[i]!
theorem nth_out : ∀ {l : List AV} {i : Nat}, l.length ≤ i → nth l i = .top
 | [], i, _ => by cases i <;> rfl
 | a :: l, 0, h => by simp at h
 | a :: l, i + 1, h => by simpa [nth] using nth_out (l := l) (i := i) (by simpa using h)
theorem swp_elE {d : Array El} {i j : Nat} (hi : i < d.size) (hj : j < d.size) (p q : Nat) : updE (updE (elE d) i 0 (elL d[j]!)) j 0 (elL d[i]!) p q = elE (swp d i j) p q := by
 unfold updE elE
 simp only [Nat.zero_le, true_and, Nat.sub_zero, Nat.zero_add]
 by_cases h1 : p = j
 ·subst h1
  rw [swp_right _ _ _ hj]
  by_cases h2 : q < (elL d[i]!).length
  ·rw [if_pos ⟨rfl, h2⟩]
  ·rw [if_neg (fun h => h2 h.2), if_neg (fun h => by have := h.2; rw [elL_len] at h2 this; omega)]
   rw [nth_out (by rw [elL_len] at h2 ⊢; omega), nth_out (by rw [elL_len] at h2 ⊢; omega)]
 ·rw [if_neg (fun h => h1 h.1)]
  by_cases h3 : p = i
  ·subst h3
   rw [swp_left _ _ _ hi h1]
   by_cases h2 : q < (elL d[j]!).length
   ·rw [if_pos ⟨rfl, h2⟩]
   ·rw [if_neg (fun h => h2 h.2),nth_out (by rw [elL_len] at h2 ⊢;omega),nth_out (by rw [elL_len] at h2 ⊢;omega)]
  ·rw [if_neg (fun h => h3 h.1), swp_other _ _ _ _ h3 h1]
theorem insOuter_lt {lt : El → El → Bool} {a b i : Nat} {d : Array El} (h : i < b) : insOuter lt a b i d = insOuter lt a b (i + 1) (insInner lt a i d) := by
 rw [insOuter, if_pos h]
theorem insOuter_ge {lt : El → El → Bool} {a b i : Nat} {d : Array El} (h : ¬ i < b) : insOuter lt a b i d = d := by
 rw [insOuter, if_neg h]
theorem insInner_go {lt : El → El → Bool} {a j : Nat} {d : Array El} (h : a < j) (h2 : lt d[j]! d[j - 1]! = true) : insInner lt a j d = insInner lt a (j - 1) (swp d j (j - 1)) := by
 obtain ⟨q, rfl⟩ : ∃ q, j = q + 1 := ⟨j - 1, by omega⟩
 simp only [Nat.add_sub_cancel] at h2 ⊢
 rw [insInner, if_pos (by simp [h2]; omega)]
theorem insInner_stop {lt : El → El → Bool} {a j : Nat} {d : Array El} (h : a < j → lt d[j]! d[j - 1]! = false) : insInner lt a j d = d := by
 cases j with
 | zero => rfl
 | succ q =>
  simp only [Nat.add_sub_cancel] at h
  rw [insInner, if_neg (by simpa using fun e => h (by omega))]
set_option maxRecDepth 100000 in
set_option maxHeartbeats 4000000 in
theorem insertion_tc (n : Nat) (d : Array El) (hd : d.size = n) (hn : n ≤ 60000) (a b : Nat) (hab : a ≤ 60000) (hbn : b ≤ n) : TC Tryz.prog 76 [elV n,.imm (.int .i64 a),.imm (.int .i64 b),cmpF] [elO n d] (fun v σ'=>v = .tup [] ∧ σ' = [elO n (insertionSort ltE d a b)]) := by
 (refine TC_of_T Γ_ok Tryz.func76 rfl (by kernel_rfl) ?_;simp only [Tryz.ntmps76,Tryz.results76,List.length_cons,List.length_nil,Nat.reduceSub,Nat.reduceAdd,List.replicate,List.cons_append,List.nil_append])
 (repeat' (first|with_reducible refine T_seq_drawT (id := 4) Γ_ok drawsAny pl76_4 (by kernel_rfl) (fun K hK=>?_)|with_reducible refine T_last_drawT (id := 4) Γ_ok drawsAny pl76_4 (by kernel_rfl) (fun K hK=>?_)|with_reducible refine T_seq_drawT (id := 6) Γ_ok drawsAny pl76_6 (by kernel_rfl) (fun K hK=>?_)|with_reducible refine T_last_drawT (id := 6) Γ_ok drawsAny pl76_6 (by kernel_rfl) (fun K hK=>?_)|((refine goR0 _ _ _ _ _ _ _ _ ?_ ?_ ?_ ?_ ?_ ?_ ?_ ?_)<;>(repeat intro hb)<;>first|exact True.intro|refine Lf.mk ?_)))
 refine T_loopW (fun m st=>∃ (i : Nat) (e : Array El),a < i ∧ i ≤ 60001 ∧ m = b - i ∧ e.size = n ∧ insOuter ltE a b i e = insertionSort ltE d a b ∧ st = ⟨[elV n,.imm (.int .i64 a),.imm (.int .i64 b),cmpF,.top,.top,.top,.top,.imm (.int .i64 i)] ++ List.replicate 44 .top,[elO n e]⟩) (b - (a + 1)) ⟨_,?_,a + 1,d,by omega,by omega,rfl,hd,rfl,rfl⟩ ?_
 ·((try refine sgl ?_);exact wkI [0])
 rintro m st ⟨i, e, h1, h2, h3, h4, h5, rfl⟩
 refine sgo ?_
 (repeat' (first|with_reducible refine T_seq_drawT (id := 4) Γ_ok drawsAny pl76_4 (by kernel_rfl) (fun K hK=>?_)|with_reducible refine T_last_drawT (id := 4) Γ_ok drawsAny pl76_4 (by kernel_rfl) (fun K hK=>?_)|with_reducible refine T_seq_drawT (id := 6) Γ_ok drawsAny pl76_6 (by kernel_rfl) (fun K hK=>?_)|with_reducible refine T_last_drawT (id := 6) Γ_ok drawsAny pl76_6 (by kernel_rfl) (fun K hK=>?_)|((refine goR0 _ _ _ _ _ _ _ _ ?_ ?_ ?_ ?_ ?_ ?_ ?_ ?_)<;>(repeat intro hb)<;>first|exact True.intro|refine Lf.mk ?_)))
 ·refine T_loopW (fun q st=>∃ (j : Nat) (f : Array El),a ≤ j ∧ j ≤ i ∧ q = j ∧ f.size = n ∧ insInner ltE a j f = insInner ltE a i e ∧ st = ⟨[elV n,.imm (.int .i64 a),.imm (.int .i64 b),cmpF,.top,.top,.top,.top,.imm (.int .i64 i),.imm (.int .i64 j)] ++ List.replicate 43 .top,[elO n f]⟩) i ⟨_,?_,i,e,by omega,by omega,rfl,h4,rfl,rfl⟩ ?_
  ·((try refine sgl ?_);exact wkI [0])
  rintro j st ⟨_, f, g1, g2, rfl, g4, g5, rfl⟩
  refine sgo ?_
  (have cl1 := cmpE_tc (ga f j) (ga f (j - 1));repeat' (first|with_reducible refine T_seq_drawT (id := 4) Γ_ok drawsAny pl76_4 (by kernel_rfl) (fun K hK=>?_)|with_reducible refine T_last_drawT (id := 4) Γ_ok drawsAny pl76_4 (by kernel_rfl) (fun K hK=>?_)|with_reducible refine T_seq_drawT (id := 6) Γ_ok drawsAny pl76_6 (by kernel_rfl) (fun K hK=>?_)|with_reducible refine T_last_drawT (id := 6) Γ_ok drawsAny pl76_6 (by kernel_rfl) (fun K hK=>?_)|((refine goR0 _ _ _ _ _ _ _ _ ?_ ?_ ?_ ?_ ?_ ?_ ?_ ?_)<;>(repeat intro hb)<;>first|exact True.intro|refine Lf.mk ?_)))
  ·refine ⟨j - 1,by omega,_,?_,j - 1,swp f j (j - 1),by omega,by omega,rfl,by rw [size_swp];exact g4,?_,rfl⟩
   ·((try refine sgl ?_);refine Wk.intro [0] (by decide) (by decide) wkH ?_ ?_ <;> repeat' (first|(refine WkV.imm ?_;congr 1;omega)|(exact WkV.eqF (swp_elE (by omega) (by omega) _ _) (by simp))|refine WkVL.cons ?_ ?_|exact wkT|refine WkV.agg ?_|refine WkV.tup ?_|refine WkV.fn ?_ ?_|exact WkO.dead|exact WkO.raw|refine WkO.ghost ?_|exact WkO.mpE rfl trivial|refine WkO.box ?_ rfl|refine WkO.arr ?_|refine And.intro ?_ (And.intro aF ?_)|exact trivial|(intro i j hi hj)))
   ·exact (insInner_go (lt := ltE) (a := a) (j := j) (d := f) (by omega) (ltE_t hb.2)).symm.trans g5
  ·refine ⟨b - (i + 1), by omega, _, ?_, i + 1, f, by omega, by omega, rfl, g4, ?_, rfl⟩
   ·((try refine sgl ?_);exact wkI [0])
   ·rw [insInner_stop (lt := ltE) (a := a) (j := j) (d := f) (fun h => ltE_f (hb (by omega)))] at g5
    rw [← h5, insOuter_lt (i := i) (by omega), g5]
 ·rw [← h5, insOuter_ge (by omega)]
theorem elO_vf (n : Nat) (d : Array El) : ∀ a ∈ [elO n d], VFO a := fun a ha => by
 simp only [List.mem_singleton] at ha
 subst ha
 exact fun i j => elE_pl d i j
theorem insertion_tu (n : Nat) (d : Array El) (hd : d.size = n) (hn : n ≤ 60000) (a b : Nat) (hab : a ≤ 60000) (hbn : b ≤ n) : Turns Tryz.prog 76 [elV n,.imm (.int .i64 a),.imm (.int .i64 b),cmpF] [elO n d] (.tup []) [elO n (insertionSort ltE d a b)] :=
 ⟨insertion_tc n d hd hn a b hab hbn, by simp [VF, VFL], elO_vf _ _⟩
end Go.Proofs.YtonmienclploaaaGreatDoor.B
namespace Go.Proofs.YtonmienclploaaaGreatDoor.B
open Go.Ab Go.Sort
theorem pdq_1K {lt : El → El → Bool} {d : Array El} {a b limit : Nat} {wb wp : Bool} (h : b - a ≤ 12) : pdq lt d a b limit wb wp = insertionSort lt d a b := by rw [pdq,if_pos h]
set_option maxRecDepth 100000 in
set_option maxHeartbeats 4000000 in
theorem pdqK_tc (n : Nat) (d : Array El) (hd : d.size = n) (hn : n ≤ 12) (lim : Int) : TC Tryz.prog 56 [elV n,.imm (.int .i64 0),.imm (.int .i64 n),.imm (.int .i64 lim),cmpF] [elO n d] (fun v σ'=>v = .tup [] ∧ σ' = [elO n (insertionSort ltE d 0 n)]) := by
 have e1 : decide (((n : Int) - 0) ≤ 12) = true := decide_eq_true (by omega)
 have e2 : decide ((n : Int) ≤ 12) = true := decide_eq_true (by omega)
 have hi9 := insertion_tu n d hd (by omega) 0 n (by omega) (Nat.le_refl n)
 rw [show ((0 : Nat) : Int) = 0 from rfl] at hi9
 (refine TC_of_T Γ_ok Tryz.func56 rfl (by kernel_rfl) ?_;simp only [Tryz.ntmps56,Tryz.results56,List.length_cons,List.length_nil,Nat.reduceSub,Nat.reduceAdd,List.replicate,List.cons_append,List.nil_append])
 (((refine goR0 _ _ _ _ _ _ _ _ ?_ ?_ ?_ ?_ ?_ ?_ ?_ ?_)<;>(repeat intro hb)<;>first|exact True.intro|refine Lf.mk ?_))
 refine T_loopW (fun m st=>st = ⟨[elV n,.imm (.int .i64 0),.imm (.int .i64 n),.imm (.int .i64 lim),cmpF,.top,.top,.top,.top,.top,.imm (.bool true),.imm (.bool true)] ++ List.replicate 136 .top,[elO n d]⟩) 0 ⟨_,?_,rfl⟩ ?_
 ·((try refine sgl ?_);exact wkI [0])
 rintro m st rfl
 refine sgo ?_
 (have ct1 := TurnsAt.mk [0] (hi9);have sx1 := e1;have sx2 := e2;((obtain ⟨sx3,sx4,sx5,sx6,sx7,sx8,sx9⟩:=sx0_7;refine goR9 _ _ _ _ _ _ _ _ ?_ ?_ ?_ ?_ ?_ ?_ ?_ ?_)<;>(repeat intro hb)<;>first|exact True.intro|refine Lf.mk ?_))
theorem pdqK_tu (n : Nat) (d : Array El) (hd : d.size = n) (hn : n ≤ 12) (lim : Int) : Turns Tryz.prog 56 [elV n,.imm (.int .i64 0),.imm (.int .i64 n),.imm (.int .i64 lim),cmpF] [elO n d] (.tup []) [elO n (insertionSort ltE d 0 n)] :=
 ⟨pdqK_tc n d hd hn lim, by simp [VF, VFL], elO_vf _ _⟩
set_option maxRecDepth 100000 in
set_option maxHeartbeats 4000000 in
theorem sortF_tc (n : Nat) (d : Array El) (hd : d.size = n) (hn : n ≤ 12) : TC Tryz.prog 34 [elV n,cmpF] [elO n d] (fun v σ' => v = .tup [] ∧ σ' = [elO n (Go.Sort.sort ltE d)]) := by
 have e2 : IntKind.u64.wrap (n : Int) = (n : Int) := wrapU (by omega) (by omega)
 have e3 : Go.Sort.sort ltE d = insertionSort ltE d 0 n := by rw [Go.Sort.sort, hd, pdq_1K (by omega)]
 rw [e3]
 (refine TC_of_T Γ_ok Tryz.func34 rfl (by kernel_rfl) ?_;simp only [Tryz.ntmps34,Tryz.results34,List.length_cons,List.length_nil,Nat.reduceSub,Nat.reduceAdd,List.replicate,List.cons_append,List.nil_append])
 (have cl1 := Q.len_tc n (by omega);have ct1 := fun u1=>TurnsAt.mk [0] (pdqK_tu n d hd hn u1);have sx1 := e2;have sx2:=sx0;((obtain ⟨sx3,sx4,sx5,sx6,sx7,sx8,sx9⟩:=sx0_7;refine goR9 _ _ _ _ _ _ _ _ ?_ ?_ ?_ ?_ ?_ ?_ ?_ ?_)<;>(repeat intro hb)<;>first|exact True.intro|refine Lf.mk ?_))
theorem sortF_tu (n : Nat) (d : Array El) (hd : d.size = n) (hn : n ≤ 12) : Turns Tryz.prog 34 [elV n,cmpF] [elO n d] (.tup []) [elO n (Go.Sort.sort ltE d)] :=
 ⟨sortF_tc n d hd hn, by simp [VF, VFL], elO_vf _ _⟩
end Go.Proofs.YtonmienclploaaaGreatDoor.B
