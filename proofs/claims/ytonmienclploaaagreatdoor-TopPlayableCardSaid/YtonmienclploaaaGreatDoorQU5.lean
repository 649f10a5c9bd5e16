/-
 Parts joined: V4 V5 P3v V6.
-/
import Derived.Test.YtonmienclploaaaGreatDoorQGo
import Derived.Test.YtonmienclploaaaGreatDoorQV3
import Derived.Test.YtonmienclploaaaGreatDoorQA6
set_option linter.unusedSimpArgs false
set_option linter.unusedVariables false
namespace Go.Proofs.YtonmienclploaaaGreatDoor
open Go.Ab
set_option maxRecDepth 100000 in
set_option maxHeartbeats 4000000 in
theorem rsvalid_tc (v : Vc) : Look Tryz.prog 188 [vcA v] (.imm (.bool (vcB v))) := by
 refine Look.mk trivial ?_
 (refine TC_of_T Γ_ok Tryz.func188 rfl (by kernel_rfl) ?_;simp only [Tryz.ntmps188,Tryz.results188,List.length_cons,List.length_nil,Nat.reduceSub,Nat.reduceAdd,List.replicate,List.cons_append,List.nil_append])
 (have cl1 := vvalid_tc v;((refine goR0 _ _ _ _ _ _ _ _ ?_ ?_ ?_ ?_ ?_ ?_ ?_ ?_)<;>(repeat intro hb)<;>first|exact True.intro|refine Lf.mk ?_))
@[go_sem, reducible] def nil1 : AV := .imm (.slice none 0 0)
@[go_sem, reducible] def i0 : AV := .imm (.int .i64 0)
@[go_sem,reducible] def plV (v : Vc) : AV := .agg ([.imm (.int .i64 5),nil1,i0,i0,nil1,i0,i0,nil1,nil1,i0,i0,i0,i0,i0,i0,i0,i0,nil1,i0,i0] ++ vcL v)
end Go.Proofs.YtonmienclploaaaGreatDoor
namespace Go.Proofs.YtonmienclploaaaGreatDoor
open Go.Ab
def gV (l : List P6) (i : Nat) : P6 := l.getD i ⟨0, 0, 0, 0, 0, 0⟩
def vtE (l : List P6) (i j : Nat) : AV := nth (p6L (gV l i)) j
@[go_sem] theorem vtE_0 (l : List P6) (i : Nat) : vtE l i 0 = .imm (.int .i64 (gV l i).a) := rfl
@[go_sem] theorem vtE_1 (l : List P6) (i : Nat) : vtE l i 1 = .imm (.int .i64 (gV l i).b) := rfl
@[go_sem] theorem vtE_2 (l : List P6) (i : Nat) : vtE l i 2 = .imm (.int .i64 (gV l i).c) := rfl
@[go_sem] theorem vtE_3 (l : List P6) (i : Nat) : vtE l i 3 = .imm (.int .i64 (gV l i).d) := rfl
@[go_sem] theorem vtE_4 (l : List P6) (i : Nat) : vtE l i 4 = .imm (.int .i64 (gV l i).e) := rfl
@[go_sem] theorem vtE_5 (l : List P6) (i : Nat) : vtE l i 5 = .imm (.int .i64 (gV l i).f) := rfl
theorem FreeL_p6 (p : P6) : FreeL (p6L p) := by simp [FreeL, Free]
@[simp] theorem vtE_free (l : List P6) (i j : Nat) : Free (vtE l i j) := FreeL_nth (FreeL_p6 _) _
@[simp] theorem vtE_pl (l : List P6) (i j : Nat) : Pl (vtE l i j) := by
 unfold vtE
 rcases j with _ | _ | _ | _ | _ | _ | j <;> simp [nth, Pl]
@[go_sem, reducible] def vts (l : List P6) : AV := .view l.length 6 (vtE l)
def anyV (g : P6 → Bool) (l : List P6) : Bool := decide (fstF (fun i => g (gV l i)) 0 l.length < l.length)
set_option maxRecDepth 100000 in
set_option maxHeartbeats 4000000 in
theorem idxV_tc (f : FuncId) (g : P6 → Bool) (l : List P6) (hl : l.length ≤ 1000000) (hf : ∀ x,Look Tryz.prog f [p6A x] (.imm (.bool (g x)))) :
  Look Tryz.prog 55 [vts l,.fn (.func f) [] []] (.imm (.int .i64 (if fstF (fun i => g (gV l i)) 0 l.length < l.length then (fstF (fun i => g (gV l i)) 0 l.length : Int) else -1))) := by
 refine Look.mk trivial ?_
 generalize hr : fstF (fun i => g (gV l i)) 0 l.length = r
 (refine TC_of_T Γ_ok Tryz.func55 rfl (by kernel_rfl) ?_;simp only [Tryz.ntmps55,Tryz.results55,List.length_cons,List.length_nil,Nat.reduceSub,Nat.reduceAdd,List.replicate,List.cons_append,List.nil_append])
 (((refine goR0 _ _ _ _ _ _ _ _ ?_ ?_ ?_ ?_ ?_ ?_ ?_ ?_)<;>(repeat intro hb)<;>first|exact True.intro|refine Lf.mk ?_))
 refine T_loopW (fun m st=>∃ i : Nat,i ≤ l.length ∧ m + i = l.length ∧ fstF (fun i=>g (gV l i)) i (l.length - i) = r ∧ st = ⟨[vts l,.fn (.func f) [] [],.top,.top,.imm (.int .i64 0),.top,vts l,.imm (.int .i64 l.length),.imm (.int .i64 i)] ++ List.replicate 10 .top,[]⟩)
  l.length ⟨_, ?_, 0, by omega, rfl, hr, rfl⟩ ?_
 ·((try refine sgl ?_);exact wkI [])
 rintro m st ⟨i, g0, g1, g2, rfl⟩
 refine sgo ?_
 by_cases hi : i < l.length
 ·have h1 := hf (gV l i)
  cases hg : g (gV l i) with
  | true =>
   rw [hg] at h1
   rw [fstF_yes hg (by omega)] at g2
   subst g2
   (have cl1 := h1;((refine goR0 _ _ _ _ _ _ _ _ ?_ ?_ ?_ ?_ ?_ ?_ ?_ ?_)<;>(repeat intro hb)<;>first|exact True.intro|refine Lf.mk ?_))
   rw [if_pos hi] at *
  | false =>
   rw [hg] at h1
   rw [show l.length - i = l.length - (i + 1) + 1 by omega, fstF_no hg] at g2
   (have cl1 := h1;((refine goR0 _ _ _ _ _ _ _ _ ?_ ?_ ?_ ?_ ?_ ?_ ?_ ?_)<;>(repeat intro hb)<;>first|exact True.intro|refine Lf.mk ?_))
   refine ⟨l.length - (i + 1), by omega, _, ?_, i + 1, by omega, by omega, g2, rfl⟩
   ((try refine sgl ?_);exact wkI [])
 ·have : r = l.length := by
   rw [show l.length - i = 0 by omega, fstF] at g2
   omega
  (((refine goR0 _ _ _ _ _ _ _ _ ?_ ?_ ?_ ?_ ?_ ?_ ?_ ?_)<;>(repeat intro hb)<;>first|exact True.intro|refine Lf.mk ?_))
  rw [if_neg (by omega)]
set_option maxRecDepth 100000 in
set_option maxHeartbeats 4000000 in
theorem anyV_tc (f : FuncId) (g : P6 → Bool) (l : List P6) (hl : l.length ≤ 1000000) (hf : ∀ x,Look Tryz.prog f [p6A x] (.imm (.bool (g x)))) : Look Tryz.prog 31 [vts l,.fn (.func f) [] []] (.imm (.bool (anyV g l))) := by
 have h := idxV_tc f g l hl hf
 unfold anyV
 generalize fstF (fun i => g (gV l i)) 0 l.length = r at h ⊢
 refine Look.mk trivial ?_
 by_cases hr : r < l.length
 ·rw [if_pos hr] at h
  rw [decide_eq_true hr]
  (refine TC_of_T Γ_ok Tryz.func31 rfl (by kernel_rfl) ?_;simp only [Tryz.ntmps31,Tryz.results31,List.length_cons,List.length_nil,Nat.reduceSub,Nat.reduceAdd,List.replicate,List.cons_append,List.nil_append])
  (have cl1 := h;((refine goR0 _ _ _ _ _ _ _ _ ?_ ?_ ?_ ?_ ?_ ?_ ?_ ?_)<;>(repeat intro hb)<;>first|exact True.intro|refine Lf.mk ?_))
  simp
 ·rw [if_neg hr] at h
  rw [decide_eq_false hr]
  (refine TC_of_T Γ_ok Tryz.func31 rfl (by kernel_rfl) ?_;simp only [Tryz.ntmps31,Tryz.results31,List.length_cons,List.length_nil,Nat.reduceSub,Nat.reduceAdd,List.replicate,List.cons_append,List.nil_append])
  (have cl1 := h;((refine goR0 _ _ _ _ _ _ _ _ ?_ ?_ ?_ ?_ ?_ ?_ ?_ ?_)<;>(repeat intro hb)<;>first|exact True.intro|refine Lf.mk ?_))
  simp
set_option maxRecDepth 100000 in
set_option maxHeartbeats 4000000 in
theorem rbad_tc (x : P6) : Look Tryz.prog 30 [p6A x] (.imm (.bool (!(vOk x)))) := by
 refine Look.mk trivial ?_
 (refine TC_of_T Γ_ok Tryz.func30 rfl (by kernel_rfl) ?_;simp only [Tryz.ntmps30,Tryz.results30,List.length_cons,List.length_nil,Nat.reduceSub,Nat.reduceAdd,List.replicate,List.cons_append,List.nil_append])
 (have cl1 := valid_v x;((refine goR0 _ _ _ _ _ _ _ _ ?_ ?_ ?_ ?_ ?_ ?_ ?_ ?_)<;>(repeat intro hb)<;>first|exact True.intro|refine Lf.mk ?_))
set_option maxRecDepth 100000 in
set_option maxHeartbeats 4000000 in
theorem sopt_no (v : Vc) (x : P6) (h : (hasR v x).1 = false) : Look Tryz.prog 187 [vcA v,p6A x] (.imm (.slice none 0 0)) := by
 have h1 := vhas_tc v x
 rw [h] at h1
 refine Look.mk trivial ?_
 (refine TC_of_T Γ_ok Tryz.func187 rfl (by kernel_rfl) ?_;simp only [Tryz.ntmps187,Tryz.results187,List.length_cons,List.length_nil,Nat.reduceSub,Nat.reduceAdd,List.replicate,List.cons_append,List.nil_append])
 (have cl1 := h1;((refine goR0 _ _ _ _ _ _ _ _ ?_ ?_ ?_ ?_ ?_ ?_ ?_ ?_)<;>(repeat intro hb)<;>first|exact True.intro|refine Lf.mk ?_))
set_option maxRecDepth 100000 in
set_option maxHeartbeats 4000000 in
theorem sopt_yes (v : Vc) (x : P6) (h : (hasR v x).1 = true) : Makes Tryz.prog 187 [vcA v,p6A x] (.own 0 0 1 none) [itO [0]] := by
 have h1 := vhas_tc v x
 rw [h] at h1
 refine Makes.gen [] trivial (fun a h=>by simp only [List.mem_singleton] at h;subst h;exact itE_pl _) (TC.mono (Q := fun u σ'=>∃ k t E',u = .own k 0 1 t ∧ nthO σ' k = .arr 3 1 1 E' ∧ ∀ i j,i < 1 → j < 1 → E' i j = itE [0] i j) ?_ fun u σ' ⟨k,t,E',hu,hs,hE⟩=>?_)
 ·(refine TC_of_T Γ_ok Tryz.func187 rfl (by kernel_rfl) ?_;simp only [Tryz.ntmps187,Tryz.results187,List.length_cons,List.length_nil,Nat.reduceSub,Nat.reduceAdd,List.replicate,List.cons_append,List.nil_append])
  (have cl1 := h1;((refine goR0 _ _ _ _ _ _ _ _ ?_ ?_ ?_ ?_ ?_ ?_ ?_ ?_)<;>(repeat intro hb)<;>first|exact True.intro|refine Lf.mk ?_))
  exact ⟨2, _, _, rfl, rfl, fun i j hi hj => by
   obtain rfl : i = 0 := by omega
   obtain rfl : j = 0 := by omega
   rfl⟩
 ·refine ⟨[k], by simp, fun o ho => ?_, ?_, ?_⟩
  ·simp only [List.mem_singleton] at ho
   subst ho
   simpa using (List.getElem?_eq_some_iff.1 (nthO_eq hs rfl)).1
  ·rw [hu]; exact WkV.own rfl (by simp)
  ·simp only [List.map_nil, List.append_nil]
   refine ⟨?_, fun _ => by rw [hs]; rfl, trivial⟩
   rw [hs]
   exact WkO.arr fun i j hi hj => by rw [hE i j hi hj]; exact WkV.free (by simp)
end Go.Proofs.YtonmienclploaaaGreatDoor
namespace Go.Proofs.YtonmienclploaaaGreatDoor
end Go.Proofs.YtonmienclploaaaGreatDoor
namespace Go.Proofs.YtonmienclploaaaGreatDoor
open Go.Ab
set_option maxRecDepth 100000 in
set_option maxHeartbeats 4000000 in
theorem idxI_tc (x : Int) (l : List Int) (hl : l.length ≤ 1000000) : Look Tryz.prog 25 [its l,.imm (.int .i64 x)] (.imm (.int .i64 (if fstF (fun i=>decide (x = gL l i)) 0 l.length < l.length then (fstF (fun i=>decide (x = gL l i)) 0 l.length : Int) else -1))) := by
 refine Look.mk trivial ?_
 generalize hr : fstF (fun i => decide (x = gL l i)) 0 l.length = r
 (refine TC_of_T Γ_ok Tryz.func25 rfl (by kernel_rfl) ?_;simp only [Tryz.ntmps25,Tryz.results25,List.length_cons,List.length_nil,Nat.reduceSub,Nat.reduceAdd,List.replicate,List.cons_append,List.nil_append])
 (((refine goR0 _ _ _ _ _ _ _ _ ?_ ?_ ?_ ?_ ?_ ?_ ?_ ?_)<;>(repeat intro hb)<;>first|exact True.intro|refine Lf.mk ?_))
 refine T_loopW (fun m st=>∃ i : Nat,i ≤ l.length ∧ m + i = l.length ∧ fstF (fun i=>decide (x = gL l i)) i (l.length - i) = r ∧ st = ⟨[its l,.imm (.int .i64 x),.top,.top,.imm (.int .i64 0),.top,its l,.imm (.int .i64 l.length),.imm (.int .i64 i)] ++ List.replicate 10 .top,[]⟩)
  l.length ⟨_, ?_, 0, by omega, rfl, hr, rfl⟩ ?_
 ·((try refine sgl ?_);exact wkI [])
 rintro m st ⟨i, g0, g1, g2, rfl⟩
 refine sgo ?_
 by_cases hi : i < l.length
 ·by_cases hg : x = gL l i
  ·rw [fstF_yes (decide_eq_true hg) (by omega)] at g2
   subst g2
   have e1 : (x == gL l i) = true := by simpa using hg
   (have sx1 := e1;have sx2:=sx0;((obtain ⟨sx3,sx4,sx5,sx6,sx7,sx8,sx9⟩:=sx0_7;refine goR9 _ _ _ _ _ _ _ _ ?_ ?_ ?_ ?_ ?_ ?_ ?_ ?_)<;>(repeat intro hb)<;>first|exact True.intro|refine Lf.mk ?_))
   rw [if_pos hi] at *
  ·rw [show l.length - i = l.length - (i + 1) + 1 by omega, fstF_no (decide_eq_false hg)] at g2
   have e1 : (x == gL l i) = false := by simpa using hg
   (have sx1 := e1;have sx2:=sx0;((obtain ⟨sx3,sx4,sx5,sx6,sx7,sx8,sx9⟩:=sx0_7;refine goR9 _ _ _ _ _ _ _ _ ?_ ?_ ?_ ?_ ?_ ?_ ?_ ?_)<;>(repeat intro hb)<;>first|exact True.intro|refine Lf.mk ?_))
   refine ⟨l.length - (i + 1), by omega, _, ?_, i + 1, by omega, by omega, g2, rfl⟩
   ((try refine sgl ?_);exact wkI [])
 ·have : r = l.length := by
   rw [show l.length - i = 0 by omega, fstF] at g2
   omega
  (((refine goR0 _ _ _ _ _ _ _ _ ?_ ?_ ?_ ?_ ?_ ?_ ?_ ?_)<;>(repeat intro hb)<;>first|exact True.intro|refine Lf.mk ?_))
  rw [if_neg (by omega)]
theorem contains_fst (x : Int) (l : List Int) : decide (fstF (fun i => decide (x = gL l i)) 0 l.length < l.length) = l.contains x := by
 have h := fstF_spec (f := fun i => decide (x = gL l i)) (d := l.length) (i := 0)
 rw [Bool.eq_iff_iff, decide_eq_true_eq, List.contains_iff_mem]
 refine ⟨fun hlt => ?_, fun hm => ?_⟩
 ·have := of_decide_eq_true (h.2.2.2 (by omega))
  rw [this]
  exact gL_mem hlt
 ·obtain ⟨k, hk, rfl⟩ := List.getElem_of_mem hm
  by_cases hlt : fstF (fun i => decide (l[k] = gL l i)) 0 l.length < l.length
  ·exact hlt
  ·have := h.2.2.1 k (by omega) (by omega)
   simp [gL, hk] at this
set_option maxRecDepth 100000 in
set_option maxHeartbeats 4000000 in
theorem contains_tc (x : Int) (l : List Int) (hl : l.length ≤ 1000000) : Look Tryz.prog 7 [its l,.imm (.int .i64 x)] (.imm (.bool (l.contains x))) := by
 have h := idxI_tc x l hl
 rw [← contains_fst]
 generalize fstF (fun i => decide (x = gL l i)) 0 l.length = r at h ⊢
 refine Look.mk trivial ?_
 by_cases hr : r < l.length
 ·rw [if_pos hr] at h
  rw [decide_eq_true hr]
  (refine TC_of_T Γ_ok Tryz.func7 rfl (by kernel_rfl) ?_;simp only [Tryz.ntmps7,Tryz.results7,List.length_cons,List.length_nil,Nat.reduceSub,Nat.reduceAdd,List.replicate,List.cons_append,List.nil_append])
  (have cl1 := h;((refine goR0 _ _ _ _ _ _ _ _ ?_ ?_ ?_ ?_ ?_ ?_ ?_ ?_)<;>(repeat intro hb)<;>first|exact True.intro|refine Lf.mk ?_))
  simp
 ·rw [if_neg hr] at h
  rw [decide_eq_false hr]
  (refine TC_of_T Γ_ok Tryz.func7 rfl (by kernel_rfl) ?_;simp only [Tryz.ntmps7,Tryz.results7,List.length_cons,List.length_nil,Nat.reduceSub,Nat.reduceAdd,List.replicate,List.cons_append,List.nil_append])
  (have cl1 := h;((refine goR0 _ _ _ _ _ _ _ _ ?_ ?_ ?_ ?_ ?_ ?_ ?_ ?_)<;>(repeat intro hb)<;>first|exact True.intro|refine Lf.mk ?_))
  simp
end Go.Proofs.YtonmienclploaaaGreatDoor
