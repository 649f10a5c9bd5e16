/-
  score.Before; the reference's Note, Ahead, Before.
-/
import Derived.Test.YtmglcamgpgkblaaQGo
import Derived.Test.YtmglcamgpgkblaaQS6
import Derived.Test.YtmglcamgpgkblaaQS1
set_option linter.unusedSimpArgs false
set_option linter.unusedVariables false
namespace Go.Proofs.Ytmglcamgpgkblaa
open Go.Ab
def aheadI (l : List Nt) (v t : Int) : Int := match ahead l v t with | some b => b | none => -1
def befI (s : Sc) (n : Nat) : Int := match befN s n with | some b => b | none => -1
theorem aheadI_some {l : List Nt} {v t : Int} {i : Nat} (hi : i < l.length) (h : (gn l i).v = v ∧ (gn l i).u = t) (hn : ∀ j,j < i → ¬ ((gn l j).v = v ∧ (gn l j).u = t)) : aheadI l v t = i := by
  have : ahead l v t = some i := by
    unfold ahead
    rw [rfind]
    refine ⟨hi, by simp [h.1, h.2], fun k hk => ?_⟩
    have := hn k hk
    rw [Bool.and_eq_false_iff, decide_eq_false_iff_not, decide_eq_false_iff_not]
    by_cases e : (gn l k).v = v
    · exact .inr fun e2 => this ⟨e, e2⟩
    · exact .inl e
  unfold aheadI; rw [this]
theorem aheadI_none {l : List Nt} {v t : Int} (hn : ∀ j,j < l.length → ¬ ((gn l j).v = v ∧ (gn l j).u = t)) : aheadI l v t = -1 := by
  unfold aheadI
  cases h : ahead l v t with
  | none => rfl
  | some k => obtain ⟨h1, h2, h3⟩ := ahead_some h; exact absurd ⟨h2, h3⟩ (hn k h1)
theorem befI_not {s : Sc} {n : Nat} (h : (gn s.notes n).tied = false) : befI s n = -1 := by unfold befI befN;rw [if_neg (by rw [h];simp)]
theorem befI_tied {s : Sc} {n : Nat} (h : (gn s.notes n).tied = true) : befI s n = aheadI s.notes (gn s.notes n).v (gn s.notes n).f := by unfold befI befN aheadI;rw [if_pos h]
@[go_sem, reducible] def fnB (x : Nt) : AV := .fn (.func 68) [] [.rptr 10 (nth (ntL x))]
set_option maxRecDepth 100000 in
set_option maxHeartbeats 4000000 in
theorem befC_tc (x b : Nt) : Look Try.prog 68 [ntA b,.rptr 10 (nth (ntL x))] (.imm (.bool (decide (b.v = x.v) && decide (b.u = x.f)))) := by
  refine Look.mk trivial ?_
  (refine TC_of_T Γ_ok Try.func68 rfl (by kernel_rfl) ?_;simp only [Try.ntmps68,Try.results68,List.length_cons,List.length_nil,Nat.reduceSub,Nat.reduceAdd,List.replicate,List.cons_append,List.nil_append])
  (((have sx1 := Nat.add_zero 0;refine goU1 _ _ _ _ _ _ _ _ _ _ _ _ ?_ ?_ ?_ ?_ ?_ ?_ ?_ ?_ ?_ ?_ ?_ ?_) <;> (repeat intro hb) <;> first | exact True.intro | refine Lf.mk ?_))
  all_goals (refine congrArg (fun b => AV.imm (.bool b)) ?_; rfl)
set_option maxRecDepth 100000 in
set_option maxHeartbeats 4000000 in
theorem befX_tc (l : List Nt) (x : Nt) (hl : l.length ≤ 9223372036854775807) : Look Try.prog 67 [nts l,fnB x] (.imm (.int .i64 (aheadI l x.v x.f))) := by
  refine Look.mk trivial ?_
  (refine TC_of_T Γ_ok Try.func67 rfl (by kernel_rfl) ?_;simp only [Try.ntmps67,Try.results67,List.length_cons,List.length_nil,Nat.reduceSub,Nat.reduceAdd,List.replicate,List.cons_append,List.nil_append])
  (((have sx1 := Nat.add_zero 0;refine goU1 _ _ _ _ _ _ _ _ _ _ _ _ ?_ ?_ ?_ ?_ ?_ ?_ ?_ ?_ ?_ ?_ ?_ ?_) <;> (repeat intro hb) <;> first | exact True.intro | refine Lf.mk ?_))
  refine T_loopW (fun m st=>∃ i : Nat,i ≤ l.length ∧ m + i = l.length ∧ (∀ j,j < i → ¬ ((gn l j).v = x.v ∧ (gn l j).u = x.f)) ∧ st = ⟨[nts l,fnB x,.top,.top,.imm (.int .i64 0),.top,nts l,.imm (.int .i64 l.length),.imm (.int .i64 i)] ++ List.replicate 10 .top,[]⟩)
    l.length ⟨_, ?_, 0, by omega, rfl, by omega, rfl⟩ ?_
  · ((try simp only [List.length_append,List.length_cons,List.length_nil,Nat.zero_add]);refine Wk.intro [] (by decide) (by decide) (by intro o ho;simp at ho ⊢ <;> omega) ?_ ?_ <;> repeat' (first|exact WkVL.nil|refine WkVL.cons ?_ ?_|exact WkV.top|exact WkV.imm rfl|exact WkV.imm (by simp)|exact WkV.optr rfl|exact WkV.own rfl (by simp)|exact WkV.nil_own (.inl rfl)|exact WkV.map rfl|(refine WkV.free ?_;simp [Free,FreeL] <;> assumption)|(refine WkV.free (fun _ _=>FreeL_nth ?_ _);simp [Free,FreeL];done)|refine WkV.agg ?_|refine WkV.tup ?_|refine WkV.fn ?_ ?_|exact WkO.dead|exact WkO.raw|refine WkO.ghost ?_|exact WkO.mpE rfl trivial|refine WkO.box ?_ rfl|refine WkO.arr ?_|refine And.intro ?_ (And.intro (by first|exact fun h=>h|exact fun _=>rfl|exact nofun) ?_)|exact trivial|(intro i j hi hj)))
  rintro m st ⟨i, h0, h1, h2, rfl⟩
  (simp only [go_sem,↓reduceIte,Nat.reduceAdd,Nat.reduceSub,Nat.reduceMul,Nat.reduceLT,Nat.reduceLeDiff,Nat.reduceEqDiff,Nat.reduceGT,Int.reduceToNat,Int.reduceBEq,Int.reduceBNe];try simp (disch := omega) only [wrapI,wrapU,half_sum,toNat_sub1,toNat_add1,Int.toNat_natCast])
  (have cl1 := befC_tc x (gn l i);((have sx1 := Nat.add_zero 0;refine goU1 _ _ _ _ _ _ _ _ _ _ _ _ ?_ ?_ ?_ ?_ ?_ ?_ ?_ ?_ ?_ ?_ ?_ ?_) <;> (repeat intro hb) <;> first|exact True.intro|refine Lf.mk ?_))
  · rw [aheadI_some (by omega) hb h2]
  · refine ⟨l.length - (i + 1), by omega, _, ?_, i + 1, by omega, by omega, fun j hj => ?_, rfl⟩
    · ((try simp only [List.length_append,List.length_cons,List.length_nil,Nat.zero_add]);refine Wk.intro [] (by decide) (by decide) (by intro o ho;simp at ho ⊢ <;> omega) ?_ ?_ <;> repeat' (first|(refine WkV.imm ?_;congr 1;omega)|exact WkVL.nil|refine WkVL.cons ?_ ?_|exact WkV.top|exact WkV.imm rfl|exact WkV.imm (by simp)|exact WkV.optr rfl|exact WkV.own rfl (by simp)|exact WkV.nil_own (.inl rfl)|exact WkV.map rfl|(refine WkV.free ?_;simp [Free,FreeL] <;> assumption)|(refine WkV.free (fun _ _=>FreeL_nth ?_ _);simp [Free,FreeL];done)|refine WkV.agg ?_|refine WkV.tup ?_|refine WkV.fn ?_ ?_|exact WkO.dead|exact WkO.raw|refine WkO.ghost ?_|exact WkO.mpE rfl trivial|refine WkO.box ?_ rfl|refine WkO.arr ?_|refine And.intro ?_ (And.intro (by first|exact fun h=>h|exact fun _=>rfl|exact nofun) ?_)|exact trivial|(intro i j hi hj)))
    · by_cases e : j = i
      · subst e; intro h; exact hb h.1 h.2
      · exact h2 j (by omega)
  · rw [aheadI_none fun j hj => h2 j (by omega)]
set_option maxRecDepth 100000 in
set_option maxHeartbeats 4000000 in
theorem before_tc (s : Sc) (hl : ScL s) (hs : ScOk s) (n : Nat) (hn : n < s.notes.length) : Look Try.prog 44 [scA s,.imm (.int .i64 n)] (.tup [.imm (.int .i64 (befI s n)),.imm (.int .i64 0)]) := by
  have c1 := valid_tc s hl
  rw [tf_t hs] at c1
  have c2 := befX_tc s.notes (gn s.notes n) hl.1
  have hsz := hs.sz
  unfold SzOk at hsz
  refine Look.mk (by simp [Pl, PlL]) ?_
  (refine TC_of_T Γ_ok Try.func44 rfl (by kernel_rfl) ?_;simp only [Try.ntmps44,Try.results44,List.length_cons,List.length_nil,Nat.reduceSub,Nat.reduceAdd,List.replicate,List.cons_append,List.nil_append])
  (have cl1 := c1;have cl2 := c2;((have sx1 := Nat.add_zero 0;refine goU1 _ _ _ _ _ _ _ _ _ _ _ _ ?_ ?_ ?_ ?_ ?_ ?_ ?_ ?_ ?_ ?_ ?_ ?_) <;> (repeat intro hb) <;> first|exact True.intro|refine Lf.mk ?_))
  · rw [befI_not hb]
  · rw [befI_tied hb]
set_option maxRecDepth 100000 in
set_option maxHeartbeats 4000000 in
theorem rnote_tc (s : Sc) (x : Nt) : Look Try.prog 35 [scA s, ntA x] (.imm (.bool (tf (NtOk s.voices x)))) := by
  have c1 := rbounded_tc x.pl 24 (by omega) (by omega)
  refine Look.mk trivial ?_
  (refine TC_of_T Γ_ok Try.func35 rfl (by kernel_rfl) ?_;simp only [Try.ntmps35,Try.results35,List.length_cons,List.length_nil,Nat.reduceSub,Nat.reduceAdd,List.replicate,List.cons_append,List.nil_append])
  (have cl1 := c1;((have sx1 := Nat.add_zero 0;refine goU1 _ _ _ _ _ _ _ _ _ _ _ _ ?_ ?_ ?_ ?_ ?_ ?_ ?_ ?_ ?_ ?_ ?_ ?_) <;> (repeat intro hb) <;> first | exact True.intro | refine Lf.mk ?_))
  refine congrArg (fun b => AV.imm (.bool b)) ?_
  rw [Bool.eq_iff_iff, tf_iff]
  unfold NtOk
  simp only [Bool.and_eq_true, decide_eq_true_eq]
  grind
set_option maxRecDepth 100000 in
set_option maxHeartbeats 4000000 in
theorem rahead_tc (s : Sc) (v t : Int) (hl : s.notes.length ≤ 9223372036854775807) : Look Try.prog 36 [scA s,.imm (.int .i64 v),.imm (.int .i64 t)] (.imm (.int .i64 (aheadI s.notes v t))) := by
  refine Look.mk trivial ?_
  (refine TC_of_T Γ_ok Try.func36 rfl (by kernel_rfl) ?_;simp only [Try.ntmps36,Try.results36,List.length_cons,List.length_nil,Nat.reduceSub,Nat.reduceAdd,List.replicate,List.cons_append,List.nil_append])
  (((have sx1 := Nat.add_zero 0;refine goU1 _ _ _ _ _ _ _ _ _ _ _ _ ?_ ?_ ?_ ?_ ?_ ?_ ?_ ?_ ?_ ?_ ?_ ?_) <;> (repeat intro hb) <;> first | exact True.intro | refine Lf.mk ?_))
  refine T_loopW (fun m st => ∃ i : Nat,i ≤ s.notes.length ∧ m + i = s.notes.length ∧ (∀ j,j < i → ¬ ((gn s.notes j).v = v ∧ (gn s.notes j).u = t)) ∧
      st = ⟨[.top,.imm (.int .i64 v),.imm (.int .i64 t),.optr 0 0 0,.top,.top,.imm (.int .i64 0),.imm (.int .i64 i)] ++ List.replicate 26 .top,[.box 26 (scL s)]⟩)
    s.notes.length ⟨_, ?_, 0, by omega, rfl, by omega, rfl⟩ ?_
  · ((try simp only [List.length_append,List.length_cons,List.length_nil,Nat.zero_add]);refine Wk.intro [0] (by decide) (by decide) (by intro o ho;simp at ho ⊢ <;> omega) ?_ ?_ <;> repeat' (first|exact WkVL.nil|refine WkVL.cons ?_ ?_|exact WkV.top|exact WkV.imm rfl|exact WkV.imm (by simp)|exact WkV.optr rfl|exact WkV.own rfl (by simp)|exact WkV.nil_own (.inl rfl)|exact WkV.map rfl|(refine WkV.free ?_;simp [Free,FreeL] <;> assumption)|(refine WkV.free (fun _ _=>FreeL_nth ?_ _);simp [Free,FreeL];done)|refine WkV.agg ?_|refine WkV.tup ?_|refine WkV.fn ?_ ?_|exact WkO.dead|exact WkO.raw|refine WkO.ghost ?_|exact WkO.mpE rfl trivial|refine WkO.box ?_ rfl|refine WkO.arr ?_|refine And.intro ?_ (And.intro (by first|exact fun h=>h|exact fun _=>rfl|exact nofun) ?_)|exact trivial|(intro i j hi hj)))
  rintro m st ⟨i, h0, h1, h2, rfl⟩
  (simp only [go_sem,↓reduceIte,Nat.reduceAdd,Nat.reduceSub,Nat.reduceMul,Nat.reduceLT,Nat.reduceLeDiff,Nat.reduceEqDiff,Nat.reduceGT,Int.reduceToNat,Int.reduceBEq,Int.reduceBNe];try simp (disch := omega) only [wrapI,wrapU,half_sum,toNat_sub1,toNat_add1,Int.toNat_natCast])
  (((have sx1 := Nat.add_zero 0;refine goU1 _ _ _ _ _ _ _ _ _ _ _ _ ?_ ?_ ?_ ?_ ?_ ?_ ?_ ?_ ?_ ?_ ?_ ?_) <;> (repeat intro hb) <;> first | exact True.intro | refine Lf.mk ?_))
  · rw [aheadI_some (by omega) hb h2]
  · refine ⟨s.notes.length - (i + 1), by omega, _, ?_, i + 1, by omega, by omega, fun j hj => ?_, rfl⟩
    · ((try simp only [List.length_append,List.length_cons,List.length_nil,Nat.zero_add]);refine Wk.intro [0] (by decide) (by decide) (by intro o ho;simp at ho ⊢ <;> omega) ?_ ?_ <;> repeat' (first|(refine WkV.imm ?_;congr 1;omega)|exact WkVL.nil|refine WkVL.cons ?_ ?_|exact WkV.top|exact WkV.imm rfl|exact WkV.imm (by simp)|exact WkV.optr rfl|exact WkV.own rfl (by simp)|exact WkV.nil_own (.inl rfl)|exact WkV.map rfl|(refine WkV.free ?_;simp [Free,FreeL] <;> assumption)|(refine WkV.free (fun _ _=>FreeL_nth ?_ _);simp [Free,FreeL];done)|refine WkV.agg ?_|refine WkV.tup ?_|refine WkV.fn ?_ ?_|exact WkO.dead|exact WkO.raw|refine WkO.ghost ?_|exact WkO.mpE rfl trivial|refine WkO.box ?_ rfl|refine WkO.arr ?_|refine And.intro ?_ (And.intro (by first|exact fun h=>h|exact fun _=>rfl|exact nofun) ?_)|exact trivial|(intro i j hi hj)))
    · by_cases e : j = i
      · subst e; intro h; exact hb h.1 h.2
      · exact h2 j (by omega)
  · rw [aheadI_none fun j hj => h2 j (by omega)]
end Go.Proofs.Ytmglcamgpgkblaa
