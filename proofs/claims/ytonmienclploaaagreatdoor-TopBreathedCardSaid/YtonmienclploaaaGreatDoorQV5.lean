/-
  reach.Best, Can of a singer and one note.
-/
import Derived.Test.YtonmienclploaaaGreatDoorQGo
import Derived.Test.YtonmienclploaaaGreatDoorQV4
set_option linter.unusedSimpArgs false
set_option linter.unusedVariables false
namespace Go.Proofs.YtonmienclploaaaGreatDoor
open Go.Ab
def gV (l : List P6) (i : Nat) : P6 := l.getD i ⟨0, 0, 0, 0, 0, 0⟩
def vtE (l : List P6) (i j : Nat) : AV := nth (p6L (gV l i)) j
@[go_sem] theorem vtE_0 (l : List P6) (i : Nat) : vtE l i 0 = .imm (.int .i64 (gV l i).a) := rfl
@[go_sem] theorem vtE_1 (l : List P6) (i : Nat) : vtE l i 1 = .imm (.int .i64 (gV l i).b) := rfl
@[go_sem] theorem vtE_2 (l : List P6) (i : Nat) : vtE l i 2 = .imm (.int .i64 (gV l i).c) := rfl
@[go_sem] theorem vtE_3 (l : List P6) (i : Nat) : vtE l i 3 = .imm (.int .i64 (gV l i).d) := rfl
@[go_sem] theorem vtE_4 (l : List P6) (i : Nat) : vtE l i 4 = .imm (.int .i64 (gV l i).e) := rfl
@[go_sem] theorem vtE_5 (l : List P6) (i : Nat) : vtE l i 5 = .imm (.int .i64 (gV l i).f) := rfl
theorem FreeL_p6 (p : P6) : FreeL (p6L p) := by simp [FreeL, Free]
@[simp] theorem vtE_free (l : List P6) (i j : Nat) : Free (vtE l i j) := FreeL_nth (FreeL_p6 _) _
@[simp] theorem vtE_pl (l : List P6) (i j : Nat) : Pl (vtE l i j) := by
  unfold vtE
  rcases j with _ | _ | _ | _ | _ | _ | j <;> simp [nth, Pl]
@[go_sem, reducible] def vts (l : List P6) : AV := .view l.length 6 (vtE l)
def anyV (g : P6 → Bool) (l : List P6) : Bool := decide (fstF (fun i => g (gV l i)) 0 l.length < l.length)
set_option maxRecDepth 100000 in
set_option maxHeartbeats 4000000 in
theorem idxV_tc (f : FuncId) (g : P6 → Bool) (l : List P6) (hl : l.length ≤ 1000000) (hf : ∀ x,Look Tryz.prog f [p6A x] (.imm (.bool (g x)))) :
    Look Tryz.prog 55 [vts l,.fn (.func f) [] []] (.imm (.int .i64 (if fstF (fun i => g (gV l i)) 0 l.length < l.length then (fstF (fun i => g (gV l i)) 0 l.length : Int) else -1))) := by
  refine Look.mk trivial ?_
  generalize hr : fstF (fun i => g (gV l i)) 0 l.length = r
  (refine TC_of_T Γ_ok Tryz.func55 rfl (by kernel_rfl) ?_;simp only [Tryz.ntmps55,Tryz.results55,List.length_cons,List.length_nil,Nat.reduceSub,Nat.reduceAdd,List.replicate,List.cons_append,List.nil_append])
  (((refine goR0 _ _ _ _ _ _ _ _ ?_ ?_ ?_ ?_ ?_ ?_ ?_ ?_) <;> (repeat intro hb) <;> first | exact True.intro | refine Lf.mk ?_))
  refine T_loopW (fun m st=>∃ i : Nat,i ≤ l.length ∧ m + i = l.length ∧ fstF (fun i=>g (gV l i)) i (l.length - i) = r ∧ st = ⟨[vts l,.fn (.func f) [] [],.top,.top,.imm (.int .i64 0),.top,vts l,.imm (.int .i64 l.length),.imm (.int .i64 i)] ++ List.replicate 10 .top,[]⟩)
    l.length ⟨_, ?_, 0, by omega, rfl, hr, rfl⟩ ?_
  · ((try simp only [List.length_append,List.length_cons,List.length_nil,Nat.zero_add]);refine Wk.intro [] (by decide) (by decide) (by intro o ho;simp at ho ⊢ <;> omega) ?_ ?_ <;> repeat' (first|exact WkVL.nil|refine WkVL.cons ?_ ?_|exact WkV.top|exact WkV.imm rfl|exact WkV.imm (by simp)|exact WkV.optr rfl|exact WkV.own rfl (by simp)|exact WkV.nil_own (.inl rfl)|exact WkV.map rfl|(refine WkV.free ?_;simp [Free,FreeL] <;> assumption)|(refine WkV.free (fun _ _=>FreeL_nth ?_ _);simp [Free,FreeL];done)|refine WkV.agg ?_|refine WkV.tup ?_|refine WkV.fn ?_ ?_|exact WkO.dead|exact WkO.raw|refine WkO.ghost ?_|exact WkO.mpE rfl trivial|refine WkO.box ?_ rfl|refine WkO.arr ?_|refine And.intro ?_ (And.intro (by first|exact fun h=>h|exact fun _=>rfl|exact nofun) ?_)|exact trivial|(intro i j hi hj)))
  rintro m st ⟨i, g0, g1, g2, rfl⟩
  (simp only [go_sem,↓reduceIte,Nat.reduceAdd,Nat.reduceSub,Nat.reduceMul,Nat.reduceLT,Nat.reduceLeDiff,Nat.reduceEqDiff,Nat.reduceGT,Int.reduceToNat,Int.reduceBEq,Int.reduceBNe];try simp (disch := omega) only [wrapI,wrapU,half_sum,toNat_sub1,toNat_add1,Int.toNat_natCast])
  by_cases hi : i < l.length
  · have h1 := hf (gV l i)
    cases hg : g (gV l i) with
    | true =>
      rw [hg] at h1
      rw [fstF_yes hg (by omega)] at g2
      subst g2
      (have cl1 := h1;((refine goR0 _ _ _ _ _ _ _ _ ?_ ?_ ?_ ?_ ?_ ?_ ?_ ?_) <;> (repeat intro hb) <;> first | exact True.intro | refine Lf.mk ?_))
      rw [if_pos hi] at *
    | false =>
      rw [hg] at h1
      rw [show l.length - i = l.length - (i + 1) + 1 by omega, fstF_no hg] at g2
      (have cl1 := h1;((refine goR0 _ _ _ _ _ _ _ _ ?_ ?_ ?_ ?_ ?_ ?_ ?_ ?_) <;> (repeat intro hb) <;> first | exact True.intro | refine Lf.mk ?_))
      refine ⟨l.length - (i + 1), by omega, _, ?_, i + 1, by omega, by omega, g2, rfl⟩
      ((try simp only [List.length_append,List.length_cons,List.length_nil,Nat.zero_add]);refine Wk.intro [] (by decide) (by decide) (by intro o ho;simp at ho ⊢ <;> omega) ?_ ?_ <;> repeat' (first|exact WkVL.nil|refine WkVL.cons ?_ ?_|exact WkV.top|exact WkV.imm rfl|exact WkV.imm (by simp)|exact WkV.optr rfl|exact WkV.own rfl (by simp)|exact WkV.nil_own (.inl rfl)|exact WkV.map rfl|(refine WkV.free ?_;simp [Free,FreeL] <;> assumption)|(refine WkV.free (fun _ _=>FreeL_nth ?_ _);simp [Free,FreeL];done)|refine WkV.agg ?_|refine WkV.tup ?_|refine WkV.fn ?_ ?_|exact WkO.dead|exact WkO.raw|refine WkO.ghost ?_|exact WkO.mpE rfl trivial|refine WkO.box ?_ rfl|refine WkO.arr ?_|refine And.intro ?_ (And.intro (by first|exact fun h=>h|exact fun _=>rfl|exact nofun) ?_)|exact trivial|(intro i j hi hj)))
  · have : r = l.length := by
      rw [show l.length - i = 0 by omega, fstF] at g2
      omega
    (((refine goR0 _ _ _ _ _ _ _ _ ?_ ?_ ?_ ?_ ?_ ?_ ?_ ?_) <;> (repeat intro hb) <;> first | exact True.intro | refine Lf.mk ?_))
    rw [if_neg (by omega)]
set_option maxRecDepth 100000 in
set_option maxHeartbeats 4000000 in
theorem anyV_tc (f : FuncId) (g : P6 → Bool) (l : List P6) (hl : l.length ≤ 1000000) (hf : ∀ x,Look Tryz.prog f [p6A x] (.imm (.bool (g x)))) : Look Tryz.prog 31 [vts l,.fn (.func f) [] []] (.imm (.bool (anyV g l))) := by
  have h := idxV_tc f g l hl hf
  unfold anyV
  generalize fstF (fun i => g (gV l i)) 0 l.length = r at h ⊢
  refine Look.mk trivial ?_
  by_cases hr : r < l.length
  · rw [if_pos hr] at h
    rw [decide_eq_true hr]
    (refine TC_of_T Γ_ok Tryz.func31 rfl (by kernel_rfl) ?_;simp only [Tryz.ntmps31,Tryz.results31,List.length_cons,List.length_nil,Nat.reduceSub,Nat.reduceAdd,List.replicate,List.cons_append,List.nil_append])
    (have cl1 := h;((refine goR0 _ _ _ _ _ _ _ _ ?_ ?_ ?_ ?_ ?_ ?_ ?_ ?_) <;> (repeat intro hb) <;> first | exact True.intro | refine Lf.mk ?_))
    simp
  · rw [if_neg hr] at h
    rw [decide_eq_false hr]
    (refine TC_of_T Γ_ok Tryz.func31 rfl (by kernel_rfl) ?_;simp only [Tryz.ntmps31,Tryz.results31,List.length_cons,List.length_nil,Nat.reduceSub,Nat.reduceAdd,List.replicate,List.cons_append,List.nil_append])
    (have cl1 := h;((refine goR0 _ _ _ _ _ _ _ _ ?_ ?_ ?_ ?_ ?_ ?_ ?_ ?_) <;> (repeat intro hb) <;> first | exact True.intro | refine Lf.mk ?_))
    simp
set_option maxRecDepth 100000 in
set_option maxHeartbeats 4000000 in
theorem rbad_tc (x : P6) : Look Tryz.prog 30 [p6A x] (.imm (.bool (!(vOk x)))) := by
  refine Look.mk trivial ?_
  (refine TC_of_T Γ_ok Tryz.func30 rfl (by kernel_rfl) ?_;simp only [Tryz.ntmps30,Tryz.results30,List.length_cons,List.length_nil,Nat.reduceSub,Nat.reduceAdd,List.replicate,List.cons_append,List.nil_append])
  (have cl1 := valid_v x;((refine goR0 _ _ _ _ _ _ _ _ ?_ ?_ ?_ ?_ ?_ ?_ ?_ ?_) <;> (repeat intro hb) <;> first | exact True.intro | refine Lf.mk ?_))
set_option maxRecDepth 100000 in
set_option maxHeartbeats 4000000 in
theorem sopt_no (v : Vc) (x : P6) (h : (hasR v x).1 = false) : Look Tryz.prog 187 [vcA v,p6A x] (.imm (.slice none 0 0)) := by
  have h1 := vhas_tc v x
  rw [h] at h1
  refine Look.mk trivial ?_
  (refine TC_of_T Γ_ok Tryz.func187 rfl (by kernel_rfl) ?_;simp only [Tryz.ntmps187,Tryz.results187,List.length_cons,List.length_nil,Nat.reduceSub,Nat.reduceAdd,List.replicate,List.cons_append,List.nil_append])
  (have cl1 := h1;((refine goR0 _ _ _ _ _ _ _ _ ?_ ?_ ?_ ?_ ?_ ?_ ?_ ?_) <;> (repeat intro hb) <;> first | exact True.intro | refine Lf.mk ?_))
set_option maxRecDepth 100000 in
set_option maxHeartbeats 4000000 in
theorem sopt_yes (v : Vc) (x : P6) (h : (hasR v x).1 = true) : Makes Tryz.prog 187 [vcA v,p6A x] (.own 0 0 1 none) [itO [0]] := by
  have h1 := vhas_tc v x
  rw [h] at h1
  refine Makes.gen [] trivial (fun a h=>by simp only [List.mem_singleton] at h;subst h;exact itE_pl _) (TC.mono (Q := fun u σ'=>∃ k t E',u = .own k 0 1 t ∧ nthO σ' k = .arr 3 1 1 E' ∧ ∀ i j,i < 1 → j < 1 → E' i j = itE [0] i j) ?_ fun u σ' ⟨k,t,E',hu,hs,hE⟩=>?_)
  · (refine TC_of_T Γ_ok Tryz.func187 rfl (by kernel_rfl) ?_;simp only [Tryz.ntmps187,Tryz.results187,List.length_cons,List.length_nil,Nat.reduceSub,Nat.reduceAdd,List.replicate,List.cons_append,List.nil_append])
    (have cl1 := h1;((refine goR0 _ _ _ _ _ _ _ _ ?_ ?_ ?_ ?_ ?_ ?_ ?_ ?_) <;> (repeat intro hb) <;> first | exact True.intro | refine Lf.mk ?_))
    exact ⟨2, _, _, rfl, rfl, fun i j hi hj => by
      obtain rfl : i = 0 := by omega
      obtain rfl : j = 0 := by omega
      rfl⟩
  · refine ⟨[k], by simp, fun o ho => ?_, ?_, ?_⟩
    · simp only [List.mem_singleton] at ho
      subst ho
      simpa using (List.getElem?_eq_some_iff.1 (nthO_eq hs rfl)).1
    · rw [hu]; exact WkV.own rfl (by simp)
    · simp only [List.map_nil, List.append_nil]
      refine ⟨?_, fun _ => by rw [hs]; rfl, trivial⟩
      rw [hs]
      exact WkO.arr fun i j hi hj => by rw [hE i j hi hj]; exact WkV.free (by simp)
theorem gV_one (x : P6) : gV [x] 0 = x := rfl
set_option maxRecDepth 100000 in
set_option maxHeartbeats 4000000 in
theorem sbest_no (v : Vc) (x : P6) (h : (hasR v x).1 = false) : Look Tryz.prog 186 [vcA v,vts [x]] (.tup [.imm (.slice none 0 0),.imm (.int .i64 4)]) := by
  have h1 := sopt_no v x h
  have hg := gV_one x
  refine Look.mk (by simp [Pl, PlL]) ?_
  (refine TC_of_T Γ_ok Tryz.func186 rfl (by kernel_rfl) ?_;simp only [Tryz.ntmps186,Tryz.results186,List.length_cons,List.length_nil,Nat.reduceSub,Nat.reduceAdd,List.replicate,List.cons_append,List.nil_append])
  (have cl1 := h1;have sx1 := hg;have sx2 : (0 : Nat) + 0 = 0 := rfl;repeat' (first|with_reducible refine T_seq_drawT (id := 5) Γ_ok drawsAny pl186_5 (by kernel_rfl) (fun K hK=>?_)|with_reducible refine T_last_drawT (id := 5) Γ_ok drawsAny pl186_5 (by kernel_rfl) (fun K hK=>?_)|((have sx3 : (0 : Nat) + 0 = 0 := rfl;have sx4 : (0 : Nat) + 0 = 0 := rfl;have sx5 : (0 : Nat) + 0 = 0 := rfl;have sx6 : (0 : Nat) + 0 = 0 := rfl;refine goR6 _ _ _ _ _ _ _ _ ?_ ?_ ?_ ?_ ?_ ?_ ?_ ?_) <;> (repeat intro hb) <;> first|exact True.intro|refine Lf.mk ?_)))
set_option maxRecDepth 100000 in
set_option maxHeartbeats 4000000 in
theorem sbest_yes (v : Vc) (x : P6) (h : (hasR v x).1 = true) : Makes Tryz.prog 186 [vcA v,vts [x]] (.tup [.own 0 0 1 none,.imm (.int .i64 0)]) [itO [0]] := by
  have h1 := sopt_yes v x h
  have hg := gV_one x
  refine Makes.gen [] (by simp [VF,VFL]) (fun a h=>by simp only [List.mem_singleton] at h;subst h;exact itE_pl _) (TC.mono (Q := fun u σ'=>∃ k t,u = .tup [.own k 0 1 t,.imm (.int .i64 0)] ∧ nthO σ' k = itO [0]) ?_ fun u σ' ⟨k,t,hu,hs⟩=>?_)
  · (refine TC_of_T Γ_ok Tryz.func186 rfl (by kernel_rfl) ?_;simp only [Tryz.ntmps186,Tryz.results186,List.length_cons,List.length_nil,Nat.reduceSub,Nat.reduceAdd,List.replicate,List.cons_append,List.nil_append])
    (have cm1 := h1;have sx1 := hg;have sx2 : (0 : Nat) + 0 = 0 := rfl;repeat' (first|with_reducible refine T_seq_drawT (id := 5) Γ_ok drawsAny pl186_5 (by kernel_rfl) (fun K hK=>?_)|with_reducible refine T_last_drawT (id := 5) Γ_ok drawsAny pl186_5 (by kernel_rfl) (fun K hK=>?_)|((have sx3 : (0 : Nat) + 0 = 0 := rfl;have sx4 : (0 : Nat) + 0 = 0 := rfl;have sx5 : (0 : Nat) + 0 = 0 := rfl;have sx6 : (0 : Nat) + 0 = 0 := rfl;refine goR6 _ _ _ _ _ _ _ _ ?_ ?_ ?_ ?_ ?_ ?_ ?_ ?_) <;> (repeat intro hb) <;> first|exact True.intro|refine Lf.mk ?_)))
    exact ⟨1, _, rfl, rfl⟩
  · refine ⟨[k], by simp, fun o ho => ?_, ?_, ?_⟩
    · simp only [List.mem_singleton] at ho
      subst ho
      simpa using (List.getElem?_eq_some_iff.1 (nthO_eq hs rfl)).1
    · rw [hu]; exact WkV.tup (WkVL.cons (WkV.own rfl (by simp)) (WkVL.cons (WkV.imm rfl) WkVL.nil))
    · simp only [List.map_nil, List.append_nil]
      refine ⟨?_, fun _ => by rw [hs]; rfl, trivial⟩
      rw [hs]
      exact WkO.arr fun i j hi hj => WkV.free (by simp)
theorem anyV_one (x : P6) : anyV (fun x => !vOk x) [x] = !(vOk x) := by
  unfold anyV
  cases h : vOk x <;> simp [fstF, gV_one, h]
set_option maxRecDepth 100000 in
set_option maxHeartbeats 4000000 in
theorem rbest_arg (v : Vc) (x : P6) (h : ¬ (vcB v = true ∧ vOk x = true)) : Look Tryz.prog 13 [plV v,vts [x]] (.tup [.imm (.slice none 0 0),.imm (.int .i64 1)]) := by
  have h1 := ofV_tc v
  have h2 := anyV_tc _ _ [x] (by simp) rbad_tc
  rw [anyV_one] at h2
  refine Look.mk (by simp [Pl, PlL]) ?_
  (refine TC_of_T Γ_ok Tryz.func13 rfl (by kernel_rfl) ?_;simp only [Tryz.ntmps13,Tryz.results13,List.length_cons,List.length_nil,Nat.reduceSub,Nat.reduceAdd,List.replicate,List.cons_append,List.nil_append])
  (have cl1 := h1;have cl2 := h2;((refine goR0 _ _ _ _ _ _ _ _ ?_ ?_ ?_ ?_ ?_ ?_ ?_ ?_) <;> (repeat intro hb) <;> first | exact True.intro | refine Lf.mk ?_))
  exact absurd ⟨hb.1.1, hb.2⟩ h
set_option maxRecDepth 100000 in
set_option maxHeartbeats 4000000 in
theorem rbest_no (v : Vc) (x : P6) (h : vcB v = true ∧ vOk x = true) (h0 : (hasR v x).1 = false) : Look Tryz.prog 13 [plV v,vts [x]] (.tup [.imm (.slice none 0 0),.imm (.int .i64 4)]) := by
  have h1 := ofV_tc v
  have h2 := anyV_tc _ _ [x] (by simp) rbad_tc
  rw [anyV_one, h.2] at h2
  rw [h.1] at h1
  have h3 := sbest_no v x h0
  refine Look.mk (by simp [Pl, PlL]) ?_
  (refine TC_of_T Γ_ok Tryz.func13 rfl (by kernel_rfl) ?_;simp only [Tryz.ntmps13,Tryz.results13,List.length_cons,List.length_nil,Nat.reduceSub,Nat.reduceAdd,List.replicate,List.cons_append,List.nil_append])
  repeat' (first
    | (with_reducible refine hK _ ?_; clear hK K)
    | (with_reducible refine TO_invN (t := 136) (k := 186) rfl rfl (by with_unfolding_all rfl) (by kernel_rfl) (fun N hN=>?_);try (simp only [go_sem,↓reduceIte,Nat.reduceAdd,Nat.reduceSub,Nat.reduceMul,Nat.reduceLT,Nat.reduceLeDiff,Nat.reduceEqDiff,Nat.reduceGT,Int.reduceToNat,Int.reduceBEq,Int.reduceBNe];try simp (disch := omega) only [wrapI,wrapU,half_sum,toNat_sub1,toNat_add1,Int.toNat_natCast]))
    | ((with_reducible first|apply callGoal_lookA (h1)|apply dCall_lookA (h1)|apply callGoal_lookA (h2)|apply dCall_lookA (h2)|apply callGoal_lookA (h3)|apply dCall_lookA (h3));(case hC=>first|exact trivial|(simp only [go_sem,and_self];done)|(simp only [go_sem];omega));(case hc=>((repeat' (first|exact CvL.nil|exact Cv.nil_view|refine CvL.cons ?_ ?_|exact Cv.imm rfl|(refine Cv.free ?_;simp [Free,FreeL] <;> assumption)|(refine Cv.free (fun _ _=>FreeL_nth ?_ _);simp [Free,FreeL];done)|refine Cv.agg ?_|(apply Cv.own;(case hob=>(with_unfolding_all exact rfl));(case hz=>decide);(case hE=>(first|(intro _ _ _ _;rfl)|(intro i j hi hj;exact hv5 i j hi hj)|(intro i j hi hj;(rcases i with _ | _|i) <;> (rcases j with _ | _ | _ | _|j) <;> first|rfl|(exfalso;omega))));(case hf=>(intro _ _;simp;done)))|(refine Cv.pvE ?_ ?_ (by decide);(focus (first|(intro _ _ _ _;rfl)|(intro i j hi hj;exact hv5 i j hi hj)|(intro i j hi hj;(rcases i with _ | _|i) <;> (rcases j with _ | _ | _ | _|j) <;> first|rfl|(exfalso;omega))));(focus (intro _ _;simp;done)))|(apply Cv.ownS;(case hob=>(with_unfolding_all exact rfl));(case hz=>decide);(case hle=>(first|omega|(simp only [decide_eq_true_eq] at hg;omega)|(simp;omega)));(case hE=>(intro _ _ _ _;first|(rw [Nat.zero_add];done)|(rw [Nat.zero_add];rfl)|(simpa using hv1 _ _ (by assumption) (by assumption))|(simpa using hv2 _ _ (by assumption) (by assumption))|(simpa using hv3 _ _ (by assumption) (by assumption))|(simpa using hv4 _ _ (by assumption) (by assumption))));(case hf=>(intro _ _;simp;done)))|(refine Cv.viewE (by decide) ?_ ?_;(focus (intro _ _ _ _;first|rfl|(simpa using hv1 _ _ (by assumption) (by assumption))|(simpa using hv2 _ _ (by assumption) (by assumption))|(simpa using hv3 _ _ (by assumption) (by assumption))|(simpa using hv4 _ _ (by assumption) (by assumption))));(focus (intro _ _;simp;done)))|refine Cv.ptr (by with_unfolding_all rfl) (by with_unfolding_all rfl) ?_|refine Cv.fn ?_ ?_));done)))
    | ((with_reducible first|apply gC_lookA (fun hg=>(h1))|apply dCall_lookGA (fun hg=>(h1))|apply gC_lookA (fun hg=>(h2))|apply dCall_lookGA (fun hg=>(h2))|apply gC_lookA (fun hg=>(h3))|apply dCall_lookGA (fun hg=>(h3)));(case hC=>(intro hg;first|exact trivial|exact hg|(simp only [hg,and_self,implies_true];done)|(simp only [go_sem,hg,and_self,implies_true];done)));(case hc=>(intro hg;((repeat' (first|exact CvL.nil|exact Cv.nil_view|refine CvL.cons ?_ ?_|exact Cv.imm rfl|(refine Cv.free ?_;simp [Free,FreeL] <;> assumption)|(refine Cv.free (fun _ _=>FreeL_nth ?_ _);simp [Free,FreeL];done)|refine Cv.agg ?_|(apply Cv.own;(case hob=>(with_unfolding_all exact rfl));(case hz=>decide);(case hE=>(first|(intro _ _ _ _;rfl)|(intro i j hi hj;exact hv5 i j hi hj)|(intro i j hi hj;(rcases i with _ | _|i) <;> (rcases j with _ | _ | _ | _|j) <;> first|rfl|(exfalso;omega))));(case hf=>(intro _ _;simp;done)))|(refine Cv.pvE ?_ ?_ (by decide);(focus (first|(intro _ _ _ _;rfl)|(intro i j hi hj;exact hv5 i j hi hj)|(intro i j hi hj;(rcases i with _ | _|i) <;> (rcases j with _ | _ | _ | _|j) <;> first|rfl|(exfalso;omega))));(focus (intro _ _;simp;done)))|(apply Cv.ownS;(case hob=>(with_unfolding_all exact rfl));(case hz=>decide);(case hle=>(first|omega|(simp only [decide_eq_true_eq] at hg;omega)|(simp;omega)));(case hE=>(intro _ _ _ _;first|(rw [Nat.zero_add];done)|(rw [Nat.zero_add];rfl)|(simpa using hv1 _ _ (by assumption) (by assumption))|(simpa using hv2 _ _ (by assumption) (by assumption))|(simpa using hv3 _ _ (by assumption) (by assumption))|(simpa using hv4 _ _ (by assumption) (by assumption))));(case hf=>(intro _ _;simp;done)))|(refine Cv.viewE (by decide) ?_ ?_;(focus (intro _ _ _ _;first|rfl|(simpa using hv1 _ _ (by assumption) (by assumption))|(simpa using hv2 _ _ (by assumption) (by assumption))|(simpa using hv3 _ _ (by assumption) (by assumption))|(simpa using hv4 _ _ (by assumption) (by assumption))));(focus (intro _ _;simp;done)))|refine Cv.ptr (by with_unfolding_all rfl) (by with_unfolding_all rfl) ?_|refine Cv.fn ?_ ?_));done))))
    | ((with_reducible apply DC_call);(focus exact rfl);(focus exact rfl);(focus exact rfl);intro N hN;(simp only [go_sem,↓reduceIte,Nat.reduceAdd,Nat.reduceSub,Nat.reduceMul,Nat.reduceLT,Nat.reduceLeDiff,Nat.reduceEqDiff,Nat.reduceGT,Int.reduceToNat,Int.reduceBEq,Int.reduceBNe];try simp (disch := omega) only [wrapI,wrapU,half_sum,toNat_sub1,toNat_add1,Int.toNat_natCast]))
    | ((with_reducible first|refine T_seq_region Γ_ok (fun K hK=>?_)|refine T_last_region Γ_ok (fun K hK=>?_)|refine TO_callN rfl (fun N hN=>?_)|refine DCT_fork Γ_ok (fun K2 hK2=>?_)|refine DCT_last Γ_ok ?_|refine DC_ev Γ_ok ?_|refine TO_ev Γ_ok ?_|refine retQ_r ?_|refine retQ_n ?_);(simp only [go_sem,↓reduceIte,Nat.reduceAdd,Nat.reduceSub,Nat.reduceMul,Nat.reduceLT,Nat.reduceLeDiff,Nat.reduceEqDiff,Nat.reduceGT,Int.reduceToNat,Int.reduceBEq,Int.reduceBNe];try simp (disch := omega) only [wrapI,wrapU,half_sum,toNat_sub1,toNat_add1,Int.toNat_natCast]))
    | (with_reducible refine hK2 _ ?_ ?_ <;> clear hK2 K2)
    | with_reducible refine gC_false ?_ | with_reducible refine gC_true ?_ | with_reducible refine dCall_true ?_
    | (with_reducible refine hN _ _ ?_; clear hN N)
    | (with_reducible refine hN _ _ (dInl rfl) ?_; clear hN N)
    | ((with_reducible refine hN _ _ (.inr ?_) ?_);(focus (simp only [go_sem,↓reduceIte,Nat.reduceAdd,Nat.reduceSub,Nat.reduceMul,Nat.reduceLT,Nat.reduceLeDiff,Nat.reduceEqDiff,Nat.reduceGT,Int.reduceToNat,Int.reduceBEq,Int.reduceBNe];try simp (disch := omega) only [wrapI,wrapU,half_sum,toNat_sub1,toNat_add1,Int.toNat_natCast]));all_goals (try clear hN N))
    | with_reducible refine T_seq ?_|with_reducible refine T_block ?_|with_reducible refine T_ret ?_|with_reducible refine T_exit ?_|with_reducible refine T_skip ?_|with_reducible refine T_label ?_
    | with_reducible refine thenQ_n ?_|with_reducible refine thenQ_e ?_|with_reducible refine thenQ_r ?_|with_reducible refine blockQ_n ?_|with_reducible refine blockQ_e ?_|with_reducible refine blockQ_r ?_
    | with_reducible refine blockQ_o (by decide) ?_
    | ((with_reducible refine T_cond _ rfl (fun hb=>?_) (fun hb=>?_)) <;> first|(cases hb;done)|(simp only [decide_eq_true_eq,decide_eq_false_iff_not,Bool.and_eq_true,Bool.or_eq_true,Bool.and_eq_false_imp,Bool.or_eq_false_iff,Bool.not_eq_true',Bool.not_eq_false',beq_iff_eq,bne_iff_ne,ne_eq,beq_eq_false_iff_ne,bne_eq_false_iff_eq,Int.not_lt,Int.not_le,ge_iff_le,gt_iff_lt] at hb)|skip)
    | (with_reducible refine And.intro (by first | exact trivial | omega | (intro hg;simp at hg ⊢ <;> omega) | (simp <;> omega)) ?_)
    | assumption | omega)
set_option maxRecDepth 100000 in
set_option maxHeartbeats 4000000 in
theorem rbest_yes (v : Vc) (x : P6) (h : vcB v = true ∧ vOk x = true) (h0 : (hasR v x).1 = true) : Makes Tryz.prog 13 [plV v,vts [x]] (.tup [.own 0 0 1 none,.imm (.int .i64 0)]) [itO [0]] := by
  have h1 := ofV_tc v
  have h2 := anyV_tc _ _ [x] (by simp) rbad_tc
  rw [anyV_one, h.2] at h2
  rw [h.1] at h1
  have h3 := sbest_yes v x h0
  refine Makes.gen [] (by simp [VF,VFL]) (fun a h=>by simp only [List.mem_singleton] at h;subst h;exact itE_pl _) (TC.mono (Q := fun u σ'=>∃ k t,u = .tup [.own k 0 1 t,.imm (.int .i64 0)] ∧ nthO σ' k = itO [0]) ?_ fun u σ' ⟨k,t,hu,hs⟩=>?_)
  · (refine TC_of_T Γ_ok Tryz.func13 rfl (by kernel_rfl) ?_;simp only [Tryz.ntmps13,Tryz.results13,List.length_cons,List.length_nil,Nat.reduceSub,Nat.reduceAdd,List.replicate,List.cons_append,List.nil_append])
    repeat' (first
    | (with_reducible refine hK _ ?_; clear hK K)
    | (with_reducible refine TO_invN (t := 136) (k := 186) rfl rfl (by with_unfolding_all rfl) (by kernel_rfl) (fun N hN=>?_);try (simp only [go_sem,↓reduceIte,Nat.reduceAdd,Nat.reduceSub,Nat.reduceMul,Nat.reduceLT,Nat.reduceLeDiff,Nat.reduceEqDiff,Nat.reduceGT,Int.reduceToNat,Int.reduceBEq,Int.reduceBNe];try simp (disch := omega) only [wrapI,wrapU,half_sum,toNat_sub1,toNat_add1,Int.toNat_natCast]))
    | ((with_reducible apply callGoal_makeA (h3));(case hC=>first|exact trivial|(simp only [go_sem,and_self];done)|(simp only [go_sem];omega));(case hc=>((repeat' (first|exact CvL.nil|exact Cv.nil_view|refine CvL.cons ?_ ?_|exact Cv.imm rfl|(refine Cv.free ?_;simp [Free,FreeL] <;> assumption)|(refine Cv.free (fun _ _=>FreeL_nth ?_ _);simp [Free,FreeL];done)|refine Cv.agg ?_|(apply Cv.own;(case hob=>(with_unfolding_all exact rfl));(case hz=>decide);(case hE=>(first|(intro _ _ _ _;rfl)|(intro i j hi hj;exact hv5 i j hi hj)|(intro i j hi hj;(rcases i with _ | _|i) <;> (rcases j with _ | _ | _ | _|j) <;> first|rfl|(exfalso;omega))));(case hf=>(intro _ _;simp;done)))|(refine Cv.pvE ?_ ?_ (by decide);(focus (first|(intro _ _ _ _;rfl)|(intro i j hi hj;exact hv5 i j hi hj)|(intro i j hi hj;(rcases i with _ | _|i) <;> (rcases j with _ | _ | _ | _|j) <;> first|rfl|(exfalso;omega))));(focus (intro _ _;simp;done)))|(apply Cv.ownS;(case hob=>(with_unfolding_all exact rfl));(case hz=>decide);(case hle=>(first|omega|(simp only [decide_eq_true_eq] at hg;omega)|(simp;omega)));(case hE=>(intro _ _ _ _;first|(rw [Nat.zero_add];done)|(rw [Nat.zero_add];rfl)|(simpa using hv1 _ _ (by assumption) (by assumption))|(simpa using hv2 _ _ (by assumption) (by assumption))|(simpa using hv3 _ _ (by assumption) (by assumption))|(simpa using hv4 _ _ (by assumption) (by assumption))));(case hf=>(intro _ _;simp;done)))|(refine Cv.viewE (by decide) ?_ ?_;(focus (intro _ _ _ _;first|rfl|(simpa using hv1 _ _ (by assumption) (by assumption))|(simpa using hv2 _ _ (by assumption) (by assumption))|(simpa using hv3 _ _ (by assumption) (by assumption))|(simpa using hv4 _ _ (by assumption) (by assumption))));(focus (intro _ _;simp;done)))|refine Cv.ptr (by with_unfolding_all rfl) (by with_unfolding_all rfl) ?_|refine Cv.fn ?_ ?_));done));(case' hn=>(simp only [go_sem,↓reduceIte,Nat.reduceAdd,Nat.reduceSub,Nat.reduceMul,Nat.reduceLT,Nat.reduceLeDiff,Nat.reduceEqDiff,Nat.reduceGT,Int.reduceToNat,Int.reduceBEq,Int.reduceBNe];try simp (disch := omega) only [wrapI,wrapU,half_sum,toNat_sub1,toNat_add1,Int.toNat_natCast])))
    | ((with_reducible apply dCall_makeA (h3));(case hC=>first|exact trivial|(simp only [go_sem,and_self];done)|(simp only [go_sem];omega));(case hc=>((repeat' (first|exact CvL.nil|exact Cv.nil_view|refine CvL.cons ?_ ?_|exact Cv.imm rfl|(refine Cv.free ?_;simp [Free,FreeL] <;> assumption)|(refine Cv.free (fun _ _=>FreeL_nth ?_ _);simp [Free,FreeL];done)|refine Cv.agg ?_|(apply Cv.own;(case hob=>(with_unfolding_all exact rfl));(case hz=>decide);(case hE=>(first|(intro _ _ _ _;rfl)|(intro i j hi hj;exact hv5 i j hi hj)|(intro i j hi hj;(rcases i with _ | _|i) <;> (rcases j with _ | _ | _ | _|j) <;> first|rfl|(exfalso;omega))));(case hf=>(intro _ _;simp;done)))|(refine Cv.pvE ?_ ?_ (by decide);(focus (first|(intro _ _ _ _;rfl)|(intro i j hi hj;exact hv5 i j hi hj)|(intro i j hi hj;(rcases i with _ | _|i) <;> (rcases j with _ | _ | _ | _|j) <;> first|rfl|(exfalso;omega))));(focus (intro _ _;simp;done)))|(apply Cv.ownS;(case hob=>(with_unfolding_all exact rfl));(case hz=>decide);(case hle=>(first|omega|(simp only [decide_eq_true_eq] at hg;omega)|(simp;omega)));(case hE=>(intro _ _ _ _;first|(rw [Nat.zero_add];done)|(rw [Nat.zero_add];rfl)|(simpa using hv1 _ _ (by assumption) (by assumption))|(simpa using hv2 _ _ (by assumption) (by assumption))|(simpa using hv3 _ _ (by assumption) (by assumption))|(simpa using hv4 _ _ (by assumption) (by assumption))));(case hf=>(intro _ _;simp;done)))|(refine Cv.viewE (by decide) ?_ ?_;(focus (intro _ _ _ _;first|rfl|(simpa using hv1 _ _ (by assumption) (by assumption))|(simpa using hv2 _ _ (by assumption) (by assumption))|(simpa using hv3 _ _ (by assumption) (by assumption))|(simpa using hv4 _ _ (by assumption) (by assumption))));(focus (intro _ _;simp;done)))|refine Cv.ptr (by with_unfolding_all rfl) (by with_unfolding_all rfl) ?_|refine Cv.fn ?_ ?_));done));(case' hn=>(simp only [go_sem,↓reduceIte,Nat.reduceAdd,Nat.reduceSub,Nat.reduceMul,Nat.reduceLT,Nat.reduceLeDiff,Nat.reduceEqDiff,Nat.reduceGT,Int.reduceToNat,Int.reduceBEq,Int.reduceBNe];try simp (disch := omega) only [wrapI,wrapU,half_sum,toNat_sub1,toNat_add1,Int.toNat_natCast])))
    | ((with_reducible first|apply callGoal_lookA (h1)|apply dCall_lookA (h1)|apply callGoal_lookA (h2)|apply dCall_lookA (h2));(case hC=>first|exact trivial|(simp only [go_sem,and_self];done)|(simp only [go_sem];omega));(case hc=>((repeat' (first|exact CvL.nil|exact Cv.nil_view|refine CvL.cons ?_ ?_|exact Cv.imm rfl|(refine Cv.free ?_;simp [Free,FreeL] <;> assumption)|(refine Cv.free (fun _ _=>FreeL_nth ?_ _);simp [Free,FreeL];done)|refine Cv.agg ?_|(apply Cv.own;(case hob=>(with_unfolding_all exact rfl));(case hz=>decide);(case hE=>(first|(intro _ _ _ _;rfl)|(intro i j hi hj;exact hv5 i j hi hj)|(intro i j hi hj;(rcases i with _ | _|i) <;> (rcases j with _ | _ | _ | _|j) <;> first|rfl|(exfalso;omega))));(case hf=>(intro _ _;simp;done)))|(refine Cv.pvE ?_ ?_ (by decide);(focus (first|(intro _ _ _ _;rfl)|(intro i j hi hj;exact hv5 i j hi hj)|(intro i j hi hj;(rcases i with _ | _|i) <;> (rcases j with _ | _ | _ | _|j) <;> first|rfl|(exfalso;omega))));(focus (intro _ _;simp;done)))|(apply Cv.ownS;(case hob=>(with_unfolding_all exact rfl));(case hz=>decide);(case hle=>(first|omega|(simp only [decide_eq_true_eq] at hg;omega)|(simp;omega)));(case hE=>(intro _ _ _ _;first|(rw [Nat.zero_add];done)|(rw [Nat.zero_add];rfl)|(simpa using hv1 _ _ (by assumption) (by assumption))|(simpa using hv2 _ _ (by assumption) (by assumption))|(simpa using hv3 _ _ (by assumption) (by assumption))|(simpa using hv4 _ _ (by assumption) (by assumption))));(case hf=>(intro _ _;simp;done)))|(refine Cv.viewE (by decide) ?_ ?_;(focus (intro _ _ _ _;first|rfl|(simpa using hv1 _ _ (by assumption) (by assumption))|(simpa using hv2 _ _ (by assumption) (by assumption))|(simpa using hv3 _ _ (by assumption) (by assumption))|(simpa using hv4 _ _ (by assumption) (by assumption))));(focus (intro _ _;simp;done)))|refine Cv.ptr (by with_unfolding_all rfl) (by with_unfolding_all rfl) ?_|refine Cv.fn ?_ ?_));done)))
    | ((with_reducible first|apply gC_lookA (fun hg=>(h1))|apply dCall_lookGA (fun hg=>(h1))|apply gC_lookA (fun hg=>(h2))|apply dCall_lookGA (fun hg=>(h2)));(case hC=>(intro hg;first|exact trivial|exact hg|(simp only [hg,and_self,implies_true];done)|(simp only [go_sem,hg,and_self,implies_true];done)));(case hc=>(intro hg;((repeat' (first|exact CvL.nil|exact Cv.nil_view|refine CvL.cons ?_ ?_|exact Cv.imm rfl|(refine Cv.free ?_;simp [Free,FreeL] <;> assumption)|(refine Cv.free (fun _ _=>FreeL_nth ?_ _);simp [Free,FreeL];done)|refine Cv.agg ?_|(apply Cv.own;(case hob=>(with_unfolding_all exact rfl));(case hz=>decide);(case hE=>(first|(intro _ _ _ _;rfl)|(intro i j hi hj;exact hv5 i j hi hj)|(intro i j hi hj;(rcases i with _ | _|i) <;> (rcases j with _ | _ | _ | _|j) <;> first|rfl|(exfalso;omega))));(case hf=>(intro _ _;simp;done)))|(refine Cv.pvE ?_ ?_ (by decide);(focus (first|(intro _ _ _ _;rfl)|(intro i j hi hj;exact hv5 i j hi hj)|(intro i j hi hj;(rcases i with _ | _|i) <;> (rcases j with _ | _ | _ | _|j) <;> first|rfl|(exfalso;omega))));(focus (intro _ _;simp;done)))|(apply Cv.ownS;(case hob=>(with_unfolding_all exact rfl));(case hz=>decide);(case hle=>(first|omega|(simp only [decide_eq_true_eq] at hg;omega)|(simp;omega)));(case hE=>(intro _ _ _ _;first|(rw [Nat.zero_add];done)|(rw [Nat.zero_add];rfl)|(simpa using hv1 _ _ (by assumption) (by assumption))|(simpa using hv2 _ _ (by assumption) (by assumption))|(simpa using hv3 _ _ (by assumption) (by assumption))|(simpa using hv4 _ _ (by assumption) (by assumption))));(case hf=>(intro _ _;simp;done)))|(refine Cv.viewE (by decide) ?_ ?_;(focus (intro _ _ _ _;first|rfl|(simpa using hv1 _ _ (by assumption) (by assumption))|(simpa using hv2 _ _ (by assumption) (by assumption))|(simpa using hv3 _ _ (by assumption) (by assumption))|(simpa using hv4 _ _ (by assumption) (by assumption))));(focus (intro _ _;simp;done)))|refine Cv.ptr (by with_unfolding_all rfl) (by with_unfolding_all rfl) ?_|refine Cv.fn ?_ ?_));done))))
    | ((with_reducible apply DC_call);(focus exact rfl);(focus exact rfl);(focus exact rfl);intro N hN;(simp only [go_sem,↓reduceIte,Nat.reduceAdd,Nat.reduceSub,Nat.reduceMul,Nat.reduceLT,Nat.reduceLeDiff,Nat.reduceEqDiff,Nat.reduceGT,Int.reduceToNat,Int.reduceBEq,Int.reduceBNe];try simp (disch := omega) only [wrapI,wrapU,half_sum,toNat_sub1,toNat_add1,Int.toNat_natCast]))
    | ((with_reducible first|refine T_seq_region Γ_ok (fun K hK=>?_)|refine T_last_region Γ_ok (fun K hK=>?_)|refine TO_callN rfl (fun N hN=>?_)|refine DCT_fork Γ_ok (fun K2 hK2=>?_)|refine DCT_last Γ_ok ?_|refine DC_ev Γ_ok ?_|refine TO_ev Γ_ok ?_|refine retQ_r ?_|refine retQ_n ?_);(simp only [go_sem,↓reduceIte,Nat.reduceAdd,Nat.reduceSub,Nat.reduceMul,Nat.reduceLT,Nat.reduceLeDiff,Nat.reduceEqDiff,Nat.reduceGT,Int.reduceToNat,Int.reduceBEq,Int.reduceBNe];try simp (disch := omega) only [wrapI,wrapU,half_sum,toNat_sub1,toNat_add1,Int.toNat_natCast]))
    | (with_reducible refine hK2 _ ?_ ?_ <;> clear hK2 K2)
    | with_reducible refine gC_false ?_ | with_reducible refine gC_true ?_ | with_reducible refine dCall_true ?_
    | (with_reducible refine hN _ _ ?_; clear hN N)
    | (with_reducible refine hN _ _ (dInl rfl) ?_; clear hN N)
    | ((with_reducible refine hN _ _ (.inr ?_) ?_);(focus (simp only [go_sem,↓reduceIte,Nat.reduceAdd,Nat.reduceSub,Nat.reduceMul,Nat.reduceLT,Nat.reduceLeDiff,Nat.reduceEqDiff,Nat.reduceGT,Int.reduceToNat,Int.reduceBEq,Int.reduceBNe];try simp (disch := omega) only [wrapI,wrapU,half_sum,toNat_sub1,toNat_add1,Int.toNat_natCast]));all_goals (try clear hN N))
    | with_reducible refine T_seq ?_|with_reducible refine T_block ?_|with_reducible refine T_ret ?_|with_reducible refine T_exit ?_|with_reducible refine T_skip ?_|with_reducible refine T_label ?_
    | with_reducible refine thenQ_n ?_|with_reducible refine thenQ_e ?_|with_reducible refine thenQ_r ?_|with_reducible refine blockQ_n ?_|with_reducible refine blockQ_e ?_|with_reducible refine blockQ_r ?_
    | with_reducible refine blockQ_o (by decide) ?_
    | ((with_reducible refine T_cond _ rfl (fun hb=>?_) (fun hb=>?_)) <;> first|(cases hb;done)|(simp only [decide_eq_true_eq,decide_eq_false_iff_not,Bool.and_eq_true,Bool.or_eq_true,Bool.and_eq_false_imp,Bool.or_eq_false_iff,Bool.not_eq_true',Bool.not_eq_false',beq_iff_eq,bne_iff_ne,ne_eq,beq_eq_false_iff_ne,bne_eq_false_iff_eq,Int.not_lt,Int.not_le,ge_iff_le,gt_iff_lt] at hb)|skip)
    | (with_reducible refine And.intro (by first | exact trivial | omega | (intro hg;simp at hg ⊢ <;> omega) | (simp <;> omega)) ?_)
    | assumption | omega)
    exact ⟨1, _, rfl, rfl⟩
  · refine ⟨[k], by simp, fun o ho => ?_, ?_, ?_⟩
    · simp only [List.mem_singleton] at ho
      subst ho
      simpa using (List.getElem?_eq_some_iff.1 (nthO_eq hs rfl)).1
    · rw [hu]; exact WkV.tup (WkVL.cons (WkV.own rfl (by simp)) (WkVL.cons (WkV.imm rfl) WkVL.nil))
    · simp only [List.map_nil, List.append_nil]
      refine ⟨?_, fun _ => by rw [hs]; rfl, trivial⟩
      rw [hs]
      exact WkO.arr fun i j hi hj => WkV.free (by simp)
set_option maxRecDepth 100000 in
set_option maxHeartbeats 4000000 in
theorem rcan_tc (v : Vc) (x : P6) : Look Tryz.prog 11 [plV v,vts [x]] (.tup [.imm (.bool (hasR v x).1),.imm (.int .i64 (hasR v x).2)]) := by
  refine Look.mk (by simp [Pl, PlL]) ?_
  by_cases h : vcB v = true ∧ vOk x = true
  · have e : hasR v x = (hsB v x, 0) := if_pos h
    cases hs : hsB v x with
    | true =>
      have h1 := rbest_yes v x h (by rw [e, hs])
      rw [e, hs]
      (refine TC_of_T Γ_ok Tryz.func11 rfl (by kernel_rfl) ?_;simp only [Tryz.ntmps11,Tryz.results11,List.length_cons,List.length_nil,Nat.reduceSub,Nat.reduceAdd,List.replicate,List.cons_append,List.nil_append])
      (have cm1 := h1;((refine goR0 _ _ _ _ _ _ _ _ ?_ ?_ ?_ ?_ ?_ ?_ ?_ ?_) <;> (repeat intro hb) <;> first | exact True.intro | refine Lf.mk ?_))
    | false =>
      have h1 := rbest_no v x h (by rw [e, hs])
      rw [e, hs]
      (refine TC_of_T Γ_ok Tryz.func11 rfl (by kernel_rfl) ?_;simp only [Tryz.ntmps11,Tryz.results11,List.length_cons,List.length_nil,Nat.reduceSub,Nat.reduceAdd,List.replicate,List.cons_append,List.nil_append])
      (have cl1 := h1;((refine goR0 _ _ _ _ _ _ _ _ ?_ ?_ ?_ ?_ ?_ ?_ ?_ ?_) <;> (repeat intro hb) <;> first | exact True.intro | refine Lf.mk ?_))
  · have e : hasR v x = (false, 1) := if_neg h
    have h1 := rbest_arg v x h
    rw [e]
    (refine TC_of_T Γ_ok Tryz.func11 rfl (by kernel_rfl) ?_;simp only [Tryz.ntmps11,Tryz.results11,List.length_cons,List.length_nil,Nat.reduceSub,Nat.reduceAdd,List.replicate,List.cons_append,List.nil_append])
    (have cl1 := h1;((refine goR0 _ _ _ _ _ _ _ _ ?_ ?_ ?_ ?_ ?_ ?_ ?_ ?_) <;> (repeat intro hb) <;> first | exact True.intro | refine Lf.mk ?_))
end Go.Proofs.YtonmienclploaaaGreatDoor
