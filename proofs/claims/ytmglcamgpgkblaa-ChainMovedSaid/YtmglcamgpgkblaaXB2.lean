/-
  score: sizes, notes, pairs, cadences.
-/
import Derived.Test.YtmglcamgpgkblaaXGo
import Derived.Test.YtmglcamgpgkblaaXK0
set_option linter.unusedSimpArgs false
set_option linter.unusedVariables false
namespace Go.Proofs.Ytmglcamgpgkblaa
open Go.Ab
set_option maxRecDepth 100000 in
set_option maxHeartbeats 4000000 in
theorem sizes_tc (s : Sc) (hn : s.notes.length ≤ 9223372036854775807) (hp : s.pairs.length ≤ 9223372036854775807) (hc : s.cads.length ≤ 9223372036854775807) : Look Try.prog 38 [scA s] (.imm (.bool (tf (SzOk s)))) := by
  refine Look.mk trivial ?_
  (refine TC_of_T Γ_ok Try.func38 rfl (by kernel_rfl) ?_;simp only [Try.ntmps38,Try.results38,List.length_cons,List.length_nil,Nat.reduceSub,Nat.reduceAdd,List.replicate,List.cons_append,List.nil_append])
  (((refine goR0 _ _ _ _ _ _ _ _ ?_ ?_ ?_ ?_ ?_ ?_ ?_ ?_) <;> (repeat intro hb) <;> first | exact True.intro | refine Lf.mk ?_))
  refine congrArg (fun b => AV.imm (.bool b)) ?_
  rw [Bool.eq_iff_iff, tf_iff]
  unfold SzOk
  simp only [Bool.and_eq_true, decide_eq_true_eq]
  omega
set_option maxRecDepth 100000 in
set_option maxHeartbeats 4000000 in
theorem cmpN_tc (x y : Nt) : Look Try.prog 62 [ntA x,ntA y] (.imm (.int .i64 (or2 (cmpI x.f y.f) (cmpI x.v y.v)))) := by
  refine Look.mk trivial ?_
  (refine TC_of_T Γ_ok Try.func62 rfl (by kernel_rfl) ?_;simp only [Try.ntmps62,Try.results62,List.length_cons,List.length_nil,Nat.reduceSub,Nat.reduceAdd,List.replicate,List.cons_append,List.nil_append])
  (have cl1 := fun u1 u2=>cmp_tc u1 u2;have cl2 := or_tc (cmpI x.f y.f) (cmpI x.v y.v);repeat' (first|with_reducible refine T_seq_drawT (id := 1) Γ_ok drawsAny pl62_1 (by kernel_rfl) (fun K hK=>?_)|with_reducible refine T_last_drawT (id := 1) Γ_ok drawsAny pl62_1 (by kernel_rfl) (fun K hK=>?_)|((refine goR0 _ _ _ _ _ _ _ _ ?_ ?_ ?_ ?_ ?_ ?_ ?_ ?_) <;> (repeat intro hb) <;> first|exact True.intro|refine Lf.mk ?_)))
  all_goals rfl
set_option maxRecDepth 100000 in
set_option maxHeartbeats 4000000 in
theorem cmpP_tc (x y : Pr) : Look Try.prog 65 [prA x,prA y] (.imm (.int .i64 (or2 (cmpI x.a y.a) (cmpI x.b y.b)))) := by
  refine Look.mk trivial ?_
  (refine TC_of_T Γ_ok Try.func65 rfl (by kernel_rfl) ?_;simp only [Try.ntmps65,Try.results65,List.length_cons,List.length_nil,Nat.reduceSub,Nat.reduceAdd,List.replicate,List.cons_append,List.nil_append])
  (have cl1 := fun u1 u2=>cmp_tc u1 u2;have cl2 := or_tc (cmpI x.a y.a) (cmpI x.b y.b);repeat' (first|with_reducible refine T_seq_drawT (id := 1) Γ_ok drawsAny pl65_1 (by kernel_rfl) (fun K hK=>?_)|with_reducible refine T_last_drawT (id := 1) Γ_ok drawsAny pl65_1 (by kernel_rfl) (fun K hK=>?_)|((refine goR0 _ _ _ _ _ _ _ _ ?_ ?_ ?_ ?_ ?_ ?_ ?_ ?_) <;> (repeat intro hb) <;> first|exact True.intro|refine Lf.mk ?_)))
  all_goals rfl
theorem cmpI_lt {a b : Int} : cmpI a b < 0 ↔ a < b := by
  unfold cmpI
  split
  · simp; assumption
  · split <;> omega
theorem or2_lt {a b c d : Int} : or2 (cmpI a b) (cmpI c d) < 0 ↔ a < b ∨ a = b ∧ c < d := by
  unfold or2
  have h1 : cmpI a b = 0 ↔ a = b := by unfold cmpI; split <;> (try split) <;> omega
  have h2 := @cmpI_lt a b
  have h3 := @cmpI_lt c d
  split <;> omega
@[go_sem, reducible] def fnN : AV := .fn (.func 62) [] ([])
@[go_sem, reducible] def fnP : AV := .fn (.func 65) [] ([])
@[go_sem, reducible] def fnC : AV := .fn (.func 47) [] ([])
set_option maxRecDepth 100000 in
set_option maxHeartbeats 4000000 in
theorem riseN_tc (l : List Nt) (hl : l.length ≤ 9223372036854775807) : Look Try.prog 61 [nts l,fnN] (.imm (.bool (tf (∀ i,1 ≤ i → i < l.length → ltN (gn l (i - 1)) (gn l i))))) := by
  refine Look.mk trivial ?_
  (refine TC_of_T Γ_ok Try.func61 rfl (by kernel_rfl) ?_;simp only [Try.ntmps61,Try.results61,List.length_cons,List.length_nil,Nat.reduceSub,Nat.reduceAdd,List.replicate,List.cons_append,List.nil_append])
  (repeat' (first|with_reducible refine T_seq_drawT (id := 4) Γ_ok drawsAny pl61_4 (by kernel_rfl) (fun K hK=>?_)|with_reducible refine T_last_drawT (id := 4) Γ_ok drawsAny pl61_4 (by kernel_rfl) (fun K hK=>?_)|((refine goR0 _ _ _ _ _ _ _ _ ?_ ?_ ?_ ?_ ?_ ?_ ?_ ?_) <;> (repeat intro hb) <;> first|exact True.intro|refine Lf.mk ?_)))
  refine T_loopW (fun m st => ∃ i : Nat,1 ≤ i ∧ m = l.length - i ∧ (∀ j,1 ≤ j → j < i → j < l.length → ltN (gn l (j - 1)) (gn l j)) ∧
      st = ⟨[nts l, fnN, .top, .top, .imm (.bool false), .imm (.int .i64 i)] ++ List.replicate 18 .top, []⟩)
      (l.length - 1) ⟨_, ?_, 1, by omega, rfl, fun j h1 h2 => by omega, rfl⟩ ?_
  · ((try simp only [List.length_append,List.length_cons,List.length_nil,Nat.zero_add]);refine Wk.intro [] (by decide) (by decide) (by intro o ho;simp at ho ⊢ <;> omega) ?_ ?_ <;> repeat' (first|exact WkVL.nil|refine WkVL.cons ?_ ?_|exact WkV.top|exact WkV.imm rfl|exact WkV.imm (by simp)|exact WkV.optr rfl|exact WkV.own rfl (by simp)|exact WkV.nil_own (.inl rfl)|exact WkV.map rfl|(refine WkV.free ?_;simp [Free,FreeL] <;> assumption)|(refine WkV.free (fun _ _=>FreeL_nth ?_ _);simp [Free,FreeL];done)|refine WkV.agg ?_|refine WkV.tup ?_|refine WkV.fn ?_ ?_|exact WkO.dead|exact WkO.raw|refine WkO.ghost ?_|exact WkO.mpE rfl trivial|refine WkO.box ?_ rfl|refine WkO.arr ?_|refine And.intro ?_ (And.intro (by first|exact fun h=>h|exact fun _=>rfl|exact nofun) ?_)|exact trivial|(intro i j hi hj)))
  rintro m st ⟨i, h0, h1, h2, rfl⟩
  (simp only [go_sem,↓reduceIte,Nat.reduceAdd,Nat.reduceSub,Nat.reduceMul,Nat.reduceLT,Nat.reduceLeDiff,Nat.reduceEqDiff,Nat.reduceGT,Int.reduceToNat,Int.reduceBEq,Int.reduceBNe];try simp (disch := omega) only [wrapI,wrapU,half_sum,toNat_sub1,toNat_add1,Int.toNat_natCast])
  (have cl1 := fun u1 u2=>cmpN_tc u1 u2;repeat' (first|with_reducible refine T_seq_drawT (id := 4) Γ_ok drawsAny pl61_4 (by kernel_rfl) (fun K hK=>?_)|with_reducible refine T_last_drawT (id := 4) Γ_ok drawsAny pl61_4 (by kernel_rfl) (fun K hK=>?_)|((refine goR0 _ _ _ _ _ _ _ _ ?_ ?_ ?_ ?_ ?_ ?_ ?_ ?_) <;> (repeat intro hb) <;> first|exact True.intro|refine Lf.mk ?_)))
  · rw [tf_f fun h => by have := or2_lt.2 (h i h0 (by omega)); omega]
  · refine ⟨l.length - (i + 1), by omega, _, ?_, i + 1, by omega, rfl, fun j h3 h4 h5 => ?_, rfl⟩
    · ((try simp only [List.length_append,List.length_cons,List.length_nil,Nat.zero_add]);refine Wk.intro [] (by decide) (by decide) (by intro o ho;simp at ho ⊢ <;> omega) ?_ ?_ <;> repeat' (first|(refine WkV.imm ?_;congr 1;omega)|exact WkVL.nil|refine WkVL.cons ?_ ?_|exact WkV.top|exact WkV.imm rfl|exact WkV.imm (by simp)|exact WkV.optr rfl|exact WkV.own rfl (by simp)|exact WkV.nil_own (.inl rfl)|exact WkV.map rfl|(refine WkV.free ?_;simp [Free,FreeL] <;> assumption)|(refine WkV.free (fun _ _=>FreeL_nth ?_ _);simp [Free,FreeL];done)|refine WkV.agg ?_|refine WkV.tup ?_|refine WkV.fn ?_ ?_|exact WkO.dead|exact WkO.raw|refine WkO.ghost ?_|exact WkO.mpE rfl trivial|refine WkO.box ?_ rfl|refine WkO.arr ?_|refine And.intro ?_ (And.intro (by first|exact fun h=>h|exact fun _=>rfl|exact nofun) ?_)|exact trivial|(intro i j hi hj)))
    · by_cases e : j = i
      · subst e; exact or2_lt.1 hb
      · exact h2 j h3 (by omega) h5
  · rw [tf_t fun j h3 h4 => h2 j h3 (by omega) h4]
set_option maxRecDepth 100000 in
set_option maxHeartbeats 4000000 in
theorem riseP_tc (l : List Pr) (hl : l.length ≤ 9223372036854775807) : Look Try.prog 64 [prs l,fnP] (.imm (.bool (tf (∀ i,1 ≤ i → i < l.length → ltP (gp l (i - 1)) (gp l i))))) := by
  refine Look.mk trivial ?_
  (refine TC_of_T Γ_ok Try.func64 rfl (by kernel_rfl) ?_;simp only [Try.ntmps64,Try.results64,List.length_cons,List.length_nil,Nat.reduceSub,Nat.reduceAdd,List.replicate,List.cons_append,List.nil_append])
  (repeat' (first|with_reducible refine T_seq_drawT (id := 4) Γ_ok drawsAny pl64_4 (by kernel_rfl) (fun K hK=>?_)|with_reducible refine T_last_drawT (id := 4) Γ_ok drawsAny pl64_4 (by kernel_rfl) (fun K hK=>?_)|((refine goR0 _ _ _ _ _ _ _ _ ?_ ?_ ?_ ?_ ?_ ?_ ?_ ?_) <;> (repeat intro hb) <;> first|exact True.intro|refine Lf.mk ?_)))
  refine T_loopW (fun m st => ∃ i : Nat,1 ≤ i ∧ m = l.length - i ∧ (∀ j,1 ≤ j → j < i → j < l.length → ltP (gp l (j - 1)) (gp l j)) ∧
      st = ⟨[prs l, fnP, .top, .top, .imm (.bool false), .imm (.int .i64 i)] ++ List.replicate 18 .top, []⟩)
      (l.length - 1) ⟨_, ?_, 1, by omega, rfl, fun j h1 h2 => by omega, rfl⟩ ?_
  · ((try simp only [List.length_append,List.length_cons,List.length_nil,Nat.zero_add]);refine Wk.intro [] (by decide) (by decide) (by intro o ho;simp at ho ⊢ <;> omega) ?_ ?_ <;> repeat' (first|exact WkVL.nil|refine WkVL.cons ?_ ?_|exact WkV.top|exact WkV.imm rfl|exact WkV.imm (by simp)|exact WkV.optr rfl|exact WkV.own rfl (by simp)|exact WkV.nil_own (.inl rfl)|exact WkV.map rfl|(refine WkV.free ?_;simp [Free,FreeL] <;> assumption)|(refine WkV.free (fun _ _=>FreeL_nth ?_ _);simp [Free,FreeL];done)|refine WkV.agg ?_|refine WkV.tup ?_|refine WkV.fn ?_ ?_|exact WkO.dead|exact WkO.raw|refine WkO.ghost ?_|exact WkO.mpE rfl trivial|refine WkO.box ?_ rfl|refine WkO.arr ?_|refine And.intro ?_ (And.intro (by first|exact fun h=>h|exact fun _=>rfl|exact nofun) ?_)|exact trivial|(intro i j hi hj)))
  rintro m st ⟨i, h0, h1, h2, rfl⟩
  (simp only [go_sem,↓reduceIte,Nat.reduceAdd,Nat.reduceSub,Nat.reduceMul,Nat.reduceLT,Nat.reduceLeDiff,Nat.reduceEqDiff,Nat.reduceGT,Int.reduceToNat,Int.reduceBEq,Int.reduceBNe];try simp (disch := omega) only [wrapI,wrapU,half_sum,toNat_sub1,toNat_add1,Int.toNat_natCast])
  (have cl1 := fun u1 u2=>cmpP_tc u1 u2;repeat' (first|with_reducible refine T_seq_drawT (id := 4) Γ_ok drawsAny pl64_4 (by kernel_rfl) (fun K hK=>?_)|with_reducible refine T_last_drawT (id := 4) Γ_ok drawsAny pl64_4 (by kernel_rfl) (fun K hK=>?_)|((refine goR0 _ _ _ _ _ _ _ _ ?_ ?_ ?_ ?_ ?_ ?_ ?_ ?_) <;> (repeat intro hb) <;> first|exact True.intro|refine Lf.mk ?_)))
  · rw [tf_f fun h => by have := or2_lt.2 (h i h0 (by omega)); omega]
  · refine ⟨l.length - (i + 1), by omega, _, ?_, i + 1, by omega, rfl, fun j h3 h4 h5 => ?_, rfl⟩
    · ((try simp only [List.length_append,List.length_cons,List.length_nil,Nat.zero_add]);refine Wk.intro [] (by decide) (by decide) (by intro o ho;simp at ho ⊢ <;> omega) ?_ ?_ <;> repeat' (first|(refine WkV.imm ?_;congr 1;omega)|exact WkVL.nil|refine WkVL.cons ?_ ?_|exact WkV.top|exact WkV.imm rfl|exact WkV.imm (by simp)|exact WkV.optr rfl|exact WkV.own rfl (by simp)|exact WkV.nil_own (.inl rfl)|exact WkV.map rfl|(refine WkV.free ?_;simp [Free,FreeL] <;> assumption)|(refine WkV.free (fun _ _=>FreeL_nth ?_ _);simp [Free,FreeL];done)|refine WkV.agg ?_|refine WkV.tup ?_|refine WkV.fn ?_ ?_|exact WkO.dead|exact WkO.raw|refine WkO.ghost ?_|exact WkO.mpE rfl trivial|refine WkO.box ?_ rfl|refine WkO.arr ?_|refine And.intro ?_ (And.intro (by first|exact fun h=>h|exact fun _=>rfl|exact nofun) ?_)|exact trivial|(intro i j hi hj)))
    · by_cases e : j = i
      · subst e; exact or2_lt.1 hb
      · exact h2 j h3 (by omega) h5
  · rw [tf_t fun j h3 h4 => h2 j h3 (by omega) h4]
set_option maxRecDepth 100000 in
set_option maxHeartbeats 4000000 in
theorem riseC_tc (l : List Int) (hl : l.length ≤ 9223372036854775807) : Look Try.prog 66 [ints l,fnC] (.imm (.bool (tf (∀ i,1 ≤ i → i < l.length → (gi l (i - 1)) < (gi l i))))) := by
  refine Look.mk trivial ?_
  (refine TC_of_T Γ_ok Try.func66 rfl (by kernel_rfl) ?_;simp only [Try.ntmps66,Try.results66,List.length_cons,List.length_nil,Nat.reduceSub,Nat.reduceAdd,List.replicate,List.cons_append,List.nil_append])
  (repeat' (first|with_reducible refine T_seq_drawT (id := 4) Γ_ok drawsAny pl66_4 (by kernel_rfl) (fun K hK=>?_)|with_reducible refine T_last_drawT (id := 4) Γ_ok drawsAny pl66_4 (by kernel_rfl) (fun K hK=>?_)|((refine goR0 _ _ _ _ _ _ _ _ ?_ ?_ ?_ ?_ ?_ ?_ ?_ ?_) <;> (repeat intro hb) <;> first|exact True.intro|refine Lf.mk ?_)))
  refine T_loopW (fun m st => ∃ i : Nat,1 ≤ i ∧ m = l.length - i ∧ (∀ j,1 ≤ j → j < i → j < l.length → (gi l (j - 1)) < (gi l j)) ∧
      st = ⟨[ints l, fnC, .top, .top, .imm (.bool false), .imm (.int .i64 i)] ++ List.replicate 18 .top, []⟩)
      (l.length - 1) ⟨_, ?_, 1, by omega, rfl, fun j h1 h2 => by omega, rfl⟩ ?_
  · ((try simp only [List.length_append,List.length_cons,List.length_nil,Nat.zero_add]);refine Wk.intro [] (by decide) (by decide) (by intro o ho;simp at ho ⊢ <;> omega) ?_ ?_ <;> repeat' (first|exact WkVL.nil|refine WkVL.cons ?_ ?_|exact WkV.top|exact WkV.imm rfl|exact WkV.imm (by simp)|exact WkV.optr rfl|exact WkV.own rfl (by simp)|exact WkV.nil_own (.inl rfl)|exact WkV.map rfl|(refine WkV.free ?_;simp [Free,FreeL] <;> assumption)|(refine WkV.free (fun _ _=>FreeL_nth ?_ _);simp [Free,FreeL];done)|refine WkV.agg ?_|refine WkV.tup ?_|refine WkV.fn ?_ ?_|exact WkO.dead|exact WkO.raw|refine WkO.ghost ?_|exact WkO.mpE rfl trivial|refine WkO.box ?_ rfl|refine WkO.arr ?_|refine And.intro ?_ (And.intro (by first|exact fun h=>h|exact fun _=>rfl|exact nofun) ?_)|exact trivial|(intro i j hi hj)))
  rintro m st ⟨i, h0, h1, h2, rfl⟩
  (simp only [go_sem,↓reduceIte,Nat.reduceAdd,Nat.reduceSub,Nat.reduceMul,Nat.reduceLT,Nat.reduceLeDiff,Nat.reduceEqDiff,Nat.reduceGT,Int.reduceToNat,Int.reduceBEq,Int.reduceBNe];try simp (disch := omega) only [wrapI,wrapU,half_sum,toNat_sub1,toNat_add1,Int.toNat_natCast])
  (have cl1 := fun u1 u2=>cmp_tc u1 u2;repeat' (first|with_reducible refine T_seq_drawT (id := 4) Γ_ok drawsAny pl66_4 (by kernel_rfl) (fun K hK=>?_)|with_reducible refine T_last_drawT (id := 4) Γ_ok drawsAny pl66_4 (by kernel_rfl) (fun K hK=>?_)|((refine goR0 _ _ _ _ _ _ _ _ ?_ ?_ ?_ ?_ ?_ ?_ ?_ ?_) <;> (repeat intro hb) <;> first|exact True.intro|refine Lf.mk ?_)))
  · rw [tf_f fun h => by have := cmpI_lt.2 (h i h0 (by omega)); omega]
  · refine ⟨l.length - (i + 1), by omega, _, ?_, i + 1, by omega, rfl, fun j h3 h4 h5 => ?_, rfl⟩
    · ((try simp only [List.length_append,List.length_cons,List.length_nil,Nat.zero_add]);refine Wk.intro [] (by decide) (by decide) (by intro o ho;simp at ho ⊢ <;> omega) ?_ ?_ <;> repeat' (first|(refine WkV.imm ?_;congr 1;omega)|exact WkVL.nil|refine WkVL.cons ?_ ?_|exact WkV.top|exact WkV.imm rfl|exact WkV.imm (by simp)|exact WkV.optr rfl|exact WkV.own rfl (by simp)|exact WkV.nil_own (.inl rfl)|exact WkV.map rfl|(refine WkV.free ?_;simp [Free,FreeL] <;> assumption)|(refine WkV.free (fun _ _=>FreeL_nth ?_ _);simp [Free,FreeL];done)|refine WkV.agg ?_|refine WkV.tup ?_|refine WkV.fn ?_ ?_|exact WkO.dead|exact WkO.raw|refine WkO.ghost ?_|exact WkO.mpE rfl trivial|refine WkO.box ?_ rfl|refine WkO.arr ?_|refine And.intro ?_ (And.intro (by first|exact fun h=>h|exact fun _=>rfl|exact nofun) ?_)|exact trivial|(intro i j hi hj)))
    · by_cases e : j = i
      · subst e; exact cmpI_lt.1 hb
      · exact h2 j h3 (by omega) h5
  · rw [tf_t fun j h3 h4 => h2 j h3 (by omega) h4]
set_option maxRecDepth 100000 in
set_option maxHeartbeats 4000000 in
theorem notes_tc (s : Sc) (hn : s.notes.length ≤ 9223372036854775807) : Look Try.prog 39 [scA s] (.imm (.bool (tf (NsOk s)))) := by
  have c1 := riseN_tc s.notes hn
  have c2 := fun p : P6 => bounded_tc p 24 (by omega) (by omega)
  refine Look.mk trivial ?_
  (refine TC_of_T Γ_ok Try.func39 rfl (by kernel_rfl) ?_;simp only [Try.ntmps39,Try.results39,List.length_cons,List.length_nil,Nat.reduceSub,Nat.reduceAdd,List.replicate,List.cons_append,List.nil_append])
  (((refine goR0 _ _ _ _ _ _ _ _ ?_ ?_ ?_ ?_ ?_ ?_ ?_ ?_) <;> (repeat intro hb) <;> first | exact True.intro | refine Lf.mk ?_))
  refine T_loopW (fun m st => ∃ i : Nat,m = s.notes.length - i ∧ i ≤ s.notes.length ∧ (∀ j,j < i → NtOk s.voices (gn s.notes j)) ∧
      st = ⟨[.top,.optr 0 0 0,.imm (.bool false)] ++ List.replicate 3 .top ++ [nts s.notes,.imm (.int .i64 s.notes.length),.imm (.int .i64 i)] ++ List.replicate 40 .top,[.box 26 (scL s)]⟩)
      s.notes.length ⟨_, ?_, 0, rfl, by omega, fun j h => by omega, rfl⟩ ?_
  · ((try simp only [List.length_append,List.length_cons,List.length_nil,Nat.zero_add]);refine Wk.intro [0] (by decide) (by decide) (by intro o ho;simp at ho ⊢ <;> omega) ?_ ?_ <;> repeat' (first|exact WkVL.nil|refine WkVL.cons ?_ ?_|exact WkV.top|exact WkV.imm rfl|exact WkV.imm (by simp)|exact WkV.optr rfl|exact WkV.own rfl (by simp)|exact WkV.nil_own (.inl rfl)|exact WkV.map rfl|(refine WkV.free ?_;simp [Free,FreeL] <;> assumption)|(refine WkV.free (fun _ _=>FreeL_nth ?_ _);simp [Free,FreeL];done)|refine WkV.agg ?_|refine WkV.tup ?_|refine WkV.fn ?_ ?_|exact WkO.dead|exact WkO.raw|refine WkO.ghost ?_|exact WkO.mpE rfl trivial|refine WkO.box ?_ rfl|refine WkO.arr ?_|refine And.intro ?_ (And.intro (by first|exact fun h=>h|exact fun _=>rfl|exact nofun) ?_)|exact trivial|(intro i j hi hj)))
  rintro m st ⟨i, h0, h1, h2, rfl⟩
  (simp only [go_sem,↓reduceIte,Nat.reduceAdd,Nat.reduceSub,Nat.reduceMul,Nat.reduceLT,Nat.reduceLeDiff,Nat.reduceEqDiff,Nat.reduceGT,Int.reduceToNat,Int.reduceBEq,Int.reduceBNe];try simp (disch := omega) only [wrapI,wrapU,half_sum,toNat_sub1,toNat_add1,Int.toNat_natCast])
  (have dl1 := fun u1 => c2 u1;have dl2 := c1;((refine goR0 _ _ _ _ _ _ _ _ ?_ ?_ ?_ ?_ ?_ ?_ ?_ ?_) <;> (repeat intro hb) <;> first | exact True.intro | refine Lf.mk ?_))
  · rw [tf_f fun h=>by have := h.one i (by omega);unfold NtOk at this;rcases hb with ((((hb|hb)|hb)|hb)|hb)|hb <;> first|omega|(rw [hb] at this;exact absurd this.2.2.2.2.2 (by simp))]
  · refine ⟨s.notes.length - (i + 1), by omega, _, ?_, i + 1, rfl, by omega, fun j hj => ?_, rfl⟩
    · ((try simp only [List.length_append,List.length_cons,List.length_nil,Nat.zero_add]);refine Wk.intro [0] (by decide) (by decide) (by intro o ho;simp at ho ⊢ <;> omega) ?_ ?_ <;> repeat' (first|(refine WkV.imm ?_;congr 1;omega)|exact WkVL.nil|refine WkVL.cons ?_ ?_|exact WkV.top|exact WkV.imm rfl|exact WkV.imm (by simp)|exact WkV.optr rfl|exact WkV.own rfl (by simp)|exact WkV.nil_own (.inl rfl)|exact WkV.map rfl|(refine WkV.free ?_;simp [Free,FreeL] <;> assumption)|(refine WkV.free (fun _ _=>FreeL_nth ?_ _);simp [Free,FreeL];done)|refine WkV.agg ?_|refine WkV.tup ?_|refine WkV.fn ?_ ?_|exact WkO.dead|exact WkO.raw|refine WkO.ghost ?_|exact WkO.mpE rfl trivial|refine WkO.box ?_ rfl|refine WkO.arr ?_|refine And.intro ?_ (And.intro (by first|exact fun h=>h|exact fun _=>rfl|exact nofun) ?_)|exact trivial|(intro i j hi hj)))
    · by_cases e : j = i
      · subst e; unfold NtOk; exact ⟨by omega, by omega, by omega, by omega, by omega, hb.2⟩
      · exact h2 j (by omega)
  · rw [tf_congr (show NsOk s ↔ _ from ⟨fun h => h.rise, fun h => ⟨fun j hj => h2 j (by omega), h⟩⟩)]
set_option maxRecDepth 100000 in
set_option maxHeartbeats 4000000 in
theorem pairs_tc (s : Sc) (hn : s.notes.length ≤ 9223372036854775807) (hp : s.pairs.length ≤ 9223372036854775807) : Look Try.prog 41 [scA s] (.imm (.bool (tf (PsOk s)))) := by
  have c1 := riseP_tc s.pairs hp
  have c2 := fun p : P6 => bounded_tc p 16 (by omega) (by omega)
  refine Look.mk trivial ?_
  (refine TC_of_T Γ_ok Try.func41 rfl (by kernel_rfl) ?_;simp only [Try.ntmps41,Try.results41,List.length_cons,List.length_nil,Nat.reduceSub,Nat.reduceAdd,List.replicate,List.cons_append,List.nil_append])
  (repeat' (first|with_reducible refine T_seq_drawT (id := 6) Γ_ok drawsAny pl41_6 (by kernel_rfl) (fun K hK=>?_)|with_reducible refine T_last_drawT (id := 6) Γ_ok drawsAny pl41_6 (by kernel_rfl) (fun K hK=>?_)|((refine goR0 _ _ _ _ _ _ _ _ ?_ ?_ ?_ ?_ ?_ ?_ ?_ ?_) <;> (repeat intro hb) <;> first|exact True.intro|refine Lf.mk ?_)))
  refine T_loopW (fun m st => ∃ i : Nat,m = s.pairs.length - i ∧ i ≤ s.pairs.length ∧ (∀ j,j < i → PrB s.notes.length (gp s.pairs j) ∧ PrV s (gp s.pairs j)) ∧
      st = ⟨[.top,.optr 0 0 0,.imm (.bool false)] ++ List.replicate 5 .top ++ [prs s.pairs,.imm (.int .i64 s.pairs.length),.imm (.int .i64 i)] ++ List.replicate 65 .top,[.box 26 (scL s)]⟩)
      s.pairs.length ⟨_, ?_, 0, rfl, by omega, fun j h => by omega, rfl⟩ ?_
  · ((try simp only [List.length_append,List.length_cons,List.length_nil,Nat.zero_add]);refine Wk.intro [0] (by decide) (by decide) (by intro o ho;simp at ho ⊢ <;> omega) ?_ ?_ <;> repeat' (first|exact WkVL.nil|refine WkVL.cons ?_ ?_|exact WkV.top|exact WkV.imm rfl|exact WkV.imm (by simp)|exact WkV.optr rfl|exact WkV.own rfl (by simp)|exact WkV.nil_own (.inl rfl)|exact WkV.map rfl|(refine WkV.free ?_;simp [Free,FreeL] <;> assumption)|(refine WkV.free (fun _ _=>FreeL_nth ?_ _);simp [Free,FreeL];done)|refine WkV.agg ?_|refine WkV.tup ?_|refine WkV.fn ?_ ?_|exact WkO.dead|exact WkO.raw|refine WkO.ghost ?_|exact WkO.mpE rfl trivial|refine WkO.box ?_ rfl|refine WkO.arr ?_|refine And.intro ?_ (And.intro (by first|exact fun h=>h|exact fun _=>rfl|exact nofun) ?_)|exact trivial|(intro i j hi hj)))
  rintro m st ⟨i, h0, h1, h2, rfl⟩
  (simp only [go_sem,↓reduceIte,Nat.reduceAdd,Nat.reduceSub,Nat.reduceMul,Nat.reduceLT,Nat.reduceLeDiff,Nat.reduceEqDiff,Nat.reduceGT,Int.reduceToNat,Int.reduceBEq,Int.reduceBNe];try simp (disch := omega) only [wrapI,wrapU,half_sum,toNat_sub1,toNat_add1,Int.toNat_natCast])
  (have dl1 := fun u1=>c2 u1;have dl2 := c1;repeat' (first|with_reducible refine T_seq_drawT (id := 6) Γ_ok drawsAny pl41_6 (by kernel_rfl) (fun K hK=>?_)|with_reducible refine T_last_drawT (id := 6) Γ_ok drawsAny pl41_6 (by kernel_rfl) (fun K hK=>?_)|((refine goR0 _ _ _ _ _ _ _ _ ?_ ?_ ?_ ?_ ?_ ?_ ?_ ?_) <;> (repeat intro hb) <;> first|exact True.intro|refine Lf.mk ?_)))
  · rw [tf_f fun h=>by have := (h.one i (by omega)).1;unfold PrB at this;rcases hb with ((((hb|hb)|hb)|hb)|hb)|hb <;> first|omega|(rw [hb] at this;exact absurd this.2.2.2.1 (by simp))]
  · rw [tf_f fun h => by have := (h.one i (by omega)).2; unfold PrV at this; omega]
  · refine ⟨s.pairs.length - (i + 1), by omega, _, ?_, i + 1, rfl, by omega, fun j hj => ?_, rfl⟩
    · ((try simp only [List.length_append,List.length_cons,List.length_nil,Nat.zero_add]);refine Wk.intro [0] (by decide) (by decide) (by intro o ho;simp at ho ⊢ <;> omega) ?_ ?_ <;> repeat' (first|(refine WkV.imm ?_;congr 1;omega)|exact WkVL.nil|refine WkVL.cons ?_ ?_|exact WkV.top|exact WkV.imm rfl|exact WkV.imm (by simp)|exact WkV.optr rfl|exact WkV.own rfl (by simp)|exact WkV.nil_own (.inl rfl)|exact WkV.map rfl|(refine WkV.free ?_;simp [Free,FreeL] <;> assumption)|(refine WkV.free (fun _ _=>FreeL_nth ?_ _);simp [Free,FreeL];done)|refine WkV.agg ?_|refine WkV.tup ?_|refine WkV.fn ?_ ?_|exact WkO.dead|exact WkO.raw|refine WkO.ghost ?_|exact WkO.mpE rfl trivial|refine WkO.box ?_ rfl|refine WkO.arr ?_|refine And.intro ?_ (And.intro (by first|exact fun h=>h|exact fun _=>rfl|exact nofun) ?_)|exact trivial|(intro i j hi hj)))
    · by_cases e : j = i
      · subst e
        rename_i hq
        exact ⟨⟨hq.1.1.1.1.1, hq.1.1.1.1.2, hq.1.1.1.2, hq.1.1.2, hq.1.2, hq.2⟩, hb⟩
      · exact h2 j (by omega)
  · refine ⟨s.pairs.length - (i + 1), by omega, _, ?_, i + 1, rfl, by omega, fun j hj => ?_, rfl⟩
    · ((try simp only [List.length_append,List.length_cons,List.length_nil,Nat.zero_add]);refine Wk.intro [0] (by decide) (by decide) (by intro o ho;simp at ho ⊢ <;> omega) ?_ ?_ <;> repeat' (first|(refine WkV.imm ?_;congr 1;omega)|exact WkVL.nil|refine WkVL.cons ?_ ?_|exact WkV.top|exact WkV.imm rfl|exact WkV.imm (by simp)|exact WkV.optr rfl|exact WkV.own rfl (by simp)|exact WkV.nil_own (.inl rfl)|exact WkV.map rfl|(refine WkV.free ?_;simp [Free,FreeL] <;> assumption)|(refine WkV.free (fun _ _=>FreeL_nth ?_ _);simp [Free,FreeL];done)|refine WkV.agg ?_|refine WkV.tup ?_|refine WkV.fn ?_ ?_|exact WkO.dead|exact WkO.raw|refine WkO.ghost ?_|exact WkO.mpE rfl trivial|refine WkO.box ?_ rfl|refine WkO.arr ?_|refine And.intro ?_ (And.intro (by first|exact fun h=>h|exact fun _=>rfl|exact nofun) ?_)|exact trivial|(intro i j hi hj)))
    · by_cases e : j = i
      · subst e
        rename_i hq
        exact ⟨⟨hq.1.1.1.1.1, hq.1.1.1.1.2, hq.1.1.1.2, hq.1.1.2, hq.1.2, hq.2⟩, hb⟩
      · exact h2 j (by omega)
  · rw [tf_congr (show PsOk s ↔ _ from ⟨fun h => h.rise, fun h => ⟨fun j hj => h2 j (by omega), h⟩⟩)]
set_option maxRecDepth 100000 in
set_option maxHeartbeats 4000000 in
theorem cadences_tc (s : Sc) (hn : s.cads.length ≤ 9223372036854775807) : Look Try.prog 42 [scA s] (.imm (.bool (tf (CsOk s)))) := by
  have c1 := riseC_tc s.cads hn
  refine Look.mk trivial ?_
  (refine TC_of_T Γ_ok Try.func42 rfl (by kernel_rfl) ?_;simp only [Try.ntmps42,Try.results42,List.length_cons,List.length_nil,Nat.reduceSub,Nat.reduceAdd,List.replicate,List.cons_append,List.nil_append])
  (((refine goR0 _ _ _ _ _ _ _ _ ?_ ?_ ?_ ?_ ?_ ?_ ?_ ?_) <;> (repeat intro hb) <;> first | exact True.intro | refine Lf.mk ?_))
  refine T_loopW (fun m st => ∃ i : Nat,m = s.cads.length - i ∧ i ≤ s.cads.length ∧ (∀ j,j < i → 1 ≤ gi s.cads j ∧ gi s.cads j < 100000) ∧
      st = ⟨[.top,.optr 0 0 0,.imm (.bool false)] ++ List.replicate 3 .top ++ [ints s.cads,.imm (.int .i64 s.cads.length),.imm (.int .i64 i)] ++ List.replicate 13 .top,[.box 26 (scL s)]⟩)
      s.cads.length ⟨_, ?_, 0, rfl, by omega, fun j h => by omega, rfl⟩ ?_
  · ((try simp only [List.length_append,List.length_cons,List.length_nil,Nat.zero_add]);refine Wk.intro [0] (by decide) (by decide) (by intro o ho;simp at ho ⊢ <;> omega) ?_ ?_ <;> repeat' (first|exact WkVL.nil|refine WkVL.cons ?_ ?_|exact WkV.top|exact WkV.imm rfl|exact WkV.imm (by simp)|exact WkV.optr rfl|exact WkV.own rfl (by simp)|exact WkV.nil_own (.inl rfl)|exact WkV.map rfl|(refine WkV.free ?_;simp [Free,FreeL] <;> assumption)|(refine WkV.free (fun _ _=>FreeL_nth ?_ _);simp [Free,FreeL];done)|refine WkV.agg ?_|refine WkV.tup ?_|refine WkV.fn ?_ ?_|exact WkO.dead|exact WkO.raw|refine WkO.ghost ?_|exact WkO.mpE rfl trivial|refine WkO.box ?_ rfl|refine WkO.arr ?_|refine And.intro ?_ (And.intro (by first|exact fun h=>h|exact fun _=>rfl|exact nofun) ?_)|exact trivial|(intro i j hi hj)))
  rintro m st ⟨i, h0, h1, h2, rfl⟩
  (simp only [go_sem,↓reduceIte,Nat.reduceAdd,Nat.reduceSub,Nat.reduceMul,Nat.reduceLT,Nat.reduceLeDiff,Nat.reduceEqDiff,Nat.reduceGT,Int.reduceToNat,Int.reduceBEq,Int.reduceBNe];try simp (disch := omega) only [wrapI,wrapU,half_sum,toNat_sub1,toNat_add1,Int.toNat_natCast])
  (have dl1 := c1;((refine goR0 _ _ _ _ _ _ _ _ ?_ ?_ ?_ ?_ ?_ ?_ ?_ ?_) <;> (repeat intro hb) <;> first | exact True.intro | refine Lf.mk ?_))
  · rw [tf_f fun h => by have := h.one i (by omega); omega]
  · refine ⟨s.cads.length - (i + 1), by omega, _, ?_, i + 1, rfl, by omega, fun j hj => ?_, rfl⟩
    · ((try simp only [List.length_append,List.length_cons,List.length_nil,Nat.zero_add]);refine Wk.intro [0] (by decide) (by decide) (by intro o ho;simp at ho ⊢ <;> omega) ?_ ?_ <;> repeat' (first|(refine WkV.imm ?_;congr 1;omega)|exact WkVL.nil|refine WkVL.cons ?_ ?_|exact WkV.top|exact WkV.imm rfl|exact WkV.imm (by simp)|exact WkV.optr rfl|exact WkV.own rfl (by simp)|exact WkV.nil_own (.inl rfl)|exact WkV.map rfl|(refine WkV.free ?_;simp [Free,FreeL] <;> assumption)|(refine WkV.free (fun _ _=>FreeL_nth ?_ _);simp [Free,FreeL];done)|refine WkV.agg ?_|refine WkV.tup ?_|refine WkV.fn ?_ ?_|exact WkO.dead|exact WkO.raw|refine WkO.ghost ?_|exact WkO.mpE rfl trivial|refine WkO.box ?_ rfl|refine WkO.arr ?_|refine And.intro ?_ (And.intro (by first|exact fun h=>h|exact fun _=>rfl|exact nofun) ?_)|exact trivial|(intro i j hi hj)))
    · by_cases e : j = i
      · subst e; omega
      · exact h2 j (by omega)
  · rw [tf_congr (show CsOk s ↔ _ from ⟨fun h => h.rise, fun h => ⟨fun j hj => h2 j (by omega), h⟩⟩)]
end Go.Proofs.Ytmglcamgpgkblaa
