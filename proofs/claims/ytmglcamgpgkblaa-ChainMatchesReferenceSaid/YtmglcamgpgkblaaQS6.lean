/-
  Parts joined: B2 B3 B4.
-/
import Derived.Test.YtmglcamgpgkblaaQGo
import Derived.Test.YtmglcamgpgkblaaQK0
set_option linter.unusedSimpArgs false
set_option linter.unusedVariables false
namespace Go.Proofs.Ytmglcamgpgkblaa
open Go.Ab
set_option maxRecDepth 100000 in
set_option maxHeartbeats 4000000 in
theorem sizes_tc (s : Sc) (hn : s.notes.length ≤ 9223372036854775807) (hp : s.pairs.length ≤ 9223372036854775807) (hc : s.cads.length ≤ 9223372036854775807) : Look Try.prog 38 [scA s] (.imm (.bool (tf (SzOk s)))) := by
  refine Look.mk trivial ?_
  (refine TC_of_T Γ_ok Try.func38 rfl (by kernel_rfl) ?_;simp only [Try.ntmps38,Try.results38,List.length_cons,List.length_nil,Nat.reduceSub,Nat.reduceAdd,List.replicate,List.cons_append,List.nil_append])
  (((have sx1 := Nat.add_zero 0;refine goU1 _ _ _ _ _ _ _ _ _ _ _ _ ?_ ?_ ?_ ?_ ?_ ?_ ?_ ?_ ?_ ?_ ?_ ?_) <;> (repeat intro hb) <;> first | exact True.intro | refine Lf.mk ?_))
  refine congrArg (fun b => AV.imm (.bool b)) ?_
  rw [Bool.eq_iff_iff, tf_iff]
  unfold SzOk
  simp only [Bool.and_eq_true, decide_eq_true_eq]
  omega
set_option maxRecDepth 100000 in
set_option maxHeartbeats 4000000 in
theorem cmpN_tc (x y : Nt) : Look Try.prog 62 [ntA x,ntA y] (.imm (.int .i64 (or2 (cmpI x.f y.f) (cmpI x.v y.v)))) := by
  refine Look.mk trivial ?_
  (refine TC_of_T Γ_ok Try.func62 rfl (by kernel_rfl) ?_;simp only [Try.ntmps62,Try.results62,List.length_cons,List.length_nil,Nat.reduceSub,Nat.reduceAdd,List.replicate,List.cons_append,List.nil_append])
  (have cl1 := fun u1 u2=>cmp_tc u1 u2;have cl2 := or_tc (cmpI x.f y.f) (cmpI x.v y.v);repeat' (first|with_reducible refine T_seq_drawT (id := 1) Γ_ok drawsAny pl62_1 (by kernel_rfl) (fun K hK=>?_)|with_reducible refine T_last_drawT (id := 1) Γ_ok drawsAny pl62_1 (by kernel_rfl) (fun K hK=>?_)|((have sx1 := Nat.add_zero 0;refine goU1 _ _ _ _ _ _ _ _ _ _ _ _ ?_ ?_ ?_ ?_ ?_ ?_ ?_ ?_ ?_ ?_ ?_ ?_) <;> (repeat intro hb) <;> first|exact True.intro|refine Lf.mk ?_)))
  all_goals rfl
set_option maxRecDepth 100000 in
set_option maxHeartbeats 4000000 in
theorem cmpP_tc (x y : Pr) : Look Try.prog 65 [prA x,prA y] (.imm (.int .i64 (or2 (cmpI x.a y.a) (cmpI x.b y.b)))) := by
  refine Look.mk trivial ?_
  (refine TC_of_T Γ_ok Try.func65 rfl (by kernel_rfl) ?_;simp only [Try.ntmps65,Try.results65,List.length_cons,List.length_nil,Nat.reduceSub,Nat.reduceAdd,List.replicate,List.cons_append,List.nil_append])
  (have cl1 := fun u1 u2=>cmp_tc u1 u2;have cl2 := or_tc (cmpI x.a y.a) (cmpI x.b y.b);repeat' (first|with_reducible refine T_seq_drawT (id := 1) Γ_ok drawsAny pl65_1 (by kernel_rfl) (fun K hK=>?_)|with_reducible refine T_last_drawT (id := 1) Γ_ok drawsAny pl65_1 (by kernel_rfl) (fun K hK=>?_)|((have sx1 := Nat.add_zero 0;refine goU1 _ _ _ _ _ _ _ _ _ _ _ _ ?_ ?_ ?_ ?_ ?_ ?_ ?_ ?_ ?_ ?_ ?_ ?_) <;> (repeat intro hb) <;> first|exact True.intro|refine Lf.mk ?_)))
  all_goals rfl
theorem cmpI_lt {a b : Int} : cmpI a b < 0 ↔ a < b := by
  unfold cmpI
  split
  · simp; assumption
  · split <;> omega
theorem or2_lt {a b c d : Int} : or2 (cmpI a b) (cmpI c d) < 0 ↔ a < b ∨ a = b ∧ c < d := by
  unfold or2
  have h1 : cmpI a b = 0 ↔ a = b := by unfold cmpI; split <;> (try split) <;> omega
  have h2 := @cmpI_lt a b
  have h3 := @cmpI_lt c d
  split <;> omega
@[go_sem, reducible] def fnN : AV := .fn (.func 62) [] ([])
@[go_sem, reducible] def fnP : AV := .fn (.func 65) [] ([])
@[go_sem, reducible] def fnC : AV := .fn (.func 47) [] ([])
set_option maxRecDepth 100000 in
set_option maxHeartbeats 4000000 in
theorem riseN_tc (l : List Nt) (hl : l.length ≤ 9223372036854775807) : Look Try.prog 61 [nts l,fnN] (.imm (.bool (tf (∀ i,1 ≤ i → i < l.length → ltN (gn l (i - 1)) (gn l i))))) := by
  refine Look.mk trivial ?_
  (refine TC_of_T Γ_ok Try.func61 rfl (by kernel_rfl) ?_;simp only [Try.ntmps61,Try.results61,List.length_cons,List.length_nil,Nat.reduceSub,Nat.reduceAdd,List.replicate,List.cons_append,List.nil_append])
  (repeat' (first|with_reducible refine T_seq_drawT (id := 4) Γ_ok drawsAny pl61_4 (by kernel_rfl) (fun K hK=>?_)|with_reducible refine T_last_drawT (id := 4) Γ_ok drawsAny pl61_4 (by kernel_rfl) (fun K hK=>?_)|((have sx1 := Nat.add_zero 0;refine goU1 _ _ _ _ _ _ _ _ _ _ _ _ ?_ ?_ ?_ ?_ ?_ ?_ ?_ ?_ ?_ ?_ ?_ ?_) <;> (repeat intro hb) <;> first|exact True.intro|refine Lf.mk ?_)))
  refine T_loopW (fun m st => ∃ i : Nat,1 ≤ i ∧ m = l.length - i ∧ (∀ j,1 ≤ j → j < i → j < l.length → ltN (gn l (j - 1)) (gn l j)) ∧
      st = ⟨[nts l, fnN, .top, .top, .imm (.bool false), .imm (.int .i64 i)] ++ List.replicate 18 .top, []⟩)
      (l.length - 1) ⟨_, ?_, 1, by omega, rfl, fun j h1 h2 => by omega, rfl⟩ ?_
  · ((try simp only [List.length_append,List.length_cons,List.length_nil,Nat.zero_add]);refine Wk.intro [] (by decide) (by decide) (by intro o ho;simp at ho ⊢ <;> omega) ?_ ?_ <;> repeat' (first|exact WkVL.nil|refine WkVL.cons ?_ ?_|exact WkV.top|exact WkV.imm rfl|exact WkV.imm (by simp)|exact WkV.optr rfl|exact WkV.own rfl (by simp)|exact WkV.nil_own (.inl rfl)|exact WkV.map rfl|(refine WkV.free ?_;simp [Free,FreeL] <;> assumption)|(refine WkV.free (fun _ _=>FreeL_nth ?_ _);simp [Free,FreeL];done)|refine WkV.agg ?_|refine WkV.tup ?_|refine WkV.fn ?_ ?_|exact WkO.dead|exact WkO.raw|refine WkO.ghost ?_|exact WkO.mpE rfl trivial|refine WkO.box ?_ rfl|refine WkO.arr ?_|refine And.intro ?_ (And.intro (by first|exact fun h=>h|exact fun _=>rfl|exact nofun) ?_)|exact trivial|(intro i j hi hj)))
  rintro m st ⟨i, h0, h1, h2, rfl⟩
  (simp only [go_sem,↓reduceIte,Nat.reduceAdd,Nat.reduceSub,Nat.reduceMul,Nat.reduceLT,Nat.reduceLeDiff,Nat.reduceEqDiff,Nat.reduceGT,Int.reduceToNat,Int.reduceBEq,Int.reduceBNe];try simp (disch := omega) only [wrapI,wrapU,half_sum,toNat_sub1,toNat_add1,Int.toNat_natCast])
  (have cl1 := fun u1 u2=>cmpN_tc u1 u2;repeat' (first|with_reducible refine T_seq_drawT (id := 4) Γ_ok drawsAny pl61_4 (by kernel_rfl) (fun K hK=>?_)|with_reducible refine T_last_drawT (id := 4) Γ_ok drawsAny pl61_4 (by kernel_rfl) (fun K hK=>?_)|((have sx1 := Nat.add_zero 0;refine goU1 _ _ _ _ _ _ _ _ _ _ _ _ ?_ ?_ ?_ ?_ ?_ ?_ ?_ ?_ ?_ ?_ ?_ ?_) <;> (repeat intro hb) <;> first|exact True.intro|refine Lf.mk ?_)))
  · rw [tf_f fun h => by have := or2_lt.2 (h i h0 (by omega)); omega]
  · refine ⟨l.length - (i + 1), by omega, _, ?_, i + 1, by omega, rfl, fun j h3 h4 h5 => ?_, rfl⟩
    · ((try simp only [List.length_append,List.length_cons,List.length_nil,Nat.zero_add]);refine Wk.intro [] (by decide) (by decide) (by intro o ho;simp at ho ⊢ <;> omega) ?_ ?_ <;> repeat' (first|(refine WkV.imm ?_;congr 1;omega)|exact WkVL.nil|refine WkVL.cons ?_ ?_|exact WkV.top|exact WkV.imm rfl|exact WkV.imm (by simp)|exact WkV.optr rfl|exact WkV.own rfl (by simp)|exact WkV.nil_own (.inl rfl)|exact WkV.map rfl|(refine WkV.free ?_;simp [Free,FreeL] <;> assumption)|(refine WkV.free (fun _ _=>FreeL_nth ?_ _);simp [Free,FreeL];done)|refine WkV.agg ?_|refine WkV.tup ?_|refine WkV.fn ?_ ?_|exact WkO.dead|exact WkO.raw|refine WkO.ghost ?_|exact WkO.mpE rfl trivial|refine WkO.box ?_ rfl|refine WkO.arr ?_|refine And.intro ?_ (And.intro (by first|exact fun h=>h|exact fun _=>rfl|exact nofun) ?_)|exact trivial|(intro i j hi hj)))
    · by_cases e : j = i
      · subst e; exact or2_lt.1 hb
      · exact h2 j h3 (by omega) h5
  · rw [tf_t fun j h3 h4 => h2 j h3 (by omega) h4]
set_option maxRecDepth 100000 in
set_option maxHeartbeats 4000000 in
theorem riseP_tc (l : List Pr) (hl : l.length ≤ 9223372036854775807) : Look Try.prog 64 [prs l,fnP] (.imm (.bool (tf (∀ i,1 ≤ i → i < l.length → ltP (gp l (i - 1)) (gp l i))))) := by
  refine Look.mk trivial ?_
  (refine TC_of_T Γ_ok Try.func64 rfl (by kernel_rfl) ?_;simp only [Try.ntmps64,Try.results64,List.length_cons,List.length_nil,Nat.reduceSub,Nat.reduceAdd,List.replicate,List.cons_append,List.nil_append])
  (repeat' (first|with_reducible refine T_seq_drawT (id := 4) Γ_ok drawsAny pl64_4 (by kernel_rfl) (fun K hK=>?_)|with_reducible refine T_last_drawT (id := 4) Γ_ok drawsAny pl64_4 (by kernel_rfl) (fun K hK=>?_)|((have sx1 := Nat.add_zero 0;refine goU1 _ _ _ _ _ _ _ _ _ _ _ _ ?_ ?_ ?_ ?_ ?_ ?_ ?_ ?_ ?_ ?_ ?_ ?_) <;> (repeat intro hb) <;> first|exact True.intro|refine Lf.mk ?_)))
  refine T_loopW (fun m st => ∃ i : Nat,1 ≤ i ∧ m = l.length - i ∧ (∀ j,1 ≤ j → j < i → j < l.length → ltP (gp l (j - 1)) (gp l j)) ∧
      st = ⟨[prs l, fnP, .top, .top, .imm (.bool false), .imm (.int .i64 i)] ++ List.replicate 18 .top, []⟩)
      (l.length - 1) ⟨_, ?_, 1, by omega, rfl, fun j h1 h2 => by omega, rfl⟩ ?_
  · ((try simp only [List.length_append,List.length_cons,List.length_nil,Nat.zero_add]);refine Wk.intro [] (by decide) (by decide) (by intro o ho;simp at ho ⊢ <;> omega) ?_ ?_ <;> repeat' (first|exact WkVL.nil|refine WkVL.cons ?_ ?_|exact WkV.top|exact WkV.imm rfl|exact WkV.imm (by simp)|exact WkV.optr rfl|exact WkV.own rfl (by simp)|exact WkV.nil_own (.inl rfl)|exact WkV.map rfl|(refine WkV.free ?_;simp [Free,FreeL] <;> assumption)|(refine WkV.free (fun _ _=>FreeL_nth ?_ _);simp [Free,FreeL];done)|refine WkV.agg ?_|refine WkV.tup ?_|refine WkV.fn ?_ ?_|exact WkO.dead|exact WkO.raw|refine WkO.ghost ?_|exact WkO.mpE rfl trivial|refine WkO.box ?_ rfl|refine WkO.arr ?_|refine And.intro ?_ (And.intro (by first|exact fun h=>h|exact fun _=>rfl|exact nofun) ?_)|exact trivial|(intro i j hi hj)))
  rintro m st ⟨i, h0, h1, h2, rfl⟩
  (simp only [go_sem,↓reduceIte,Nat.reduceAdd,Nat.reduceSub,Nat.reduceMul,Nat.reduceLT,Nat.reduceLeDiff,Nat.reduceEqDiff,Nat.reduceGT,Int.reduceToNat,Int.reduceBEq,Int.reduceBNe];try simp (disch := omega) only [wrapI,wrapU,half_sum,toNat_sub1,toNat_add1,Int.toNat_natCast])
  (have cl1 := fun u1 u2=>cmpP_tc u1 u2;repeat' (first|with_reducible refine T_seq_drawT (id := 4) Γ_ok drawsAny pl64_4 (by kernel_rfl) (fun K hK=>?_)|with_reducible refine T_last_drawT (id := 4) Γ_ok drawsAny pl64_4 (by kernel_rfl) (fun K hK=>?_)|((have sx1 := Nat.add_zero 0;refine goU1 _ _ _ _ _ _ _ _ _ _ _ _ ?_ ?_ ?_ ?_ ?_ ?_ ?_ ?_ ?_ ?_ ?_ ?_) <;> (repeat intro hb) <;> first|exact True.intro|refine Lf.mk ?_)))
  · rw [tf_f fun h => by have := or2_lt.2 (h i h0 (by omega)); omega]
  · refine ⟨l.length - (i + 1), by omega, _, ?_, i + 1, by omega, rfl, fun j h3 h4 h5 => ?_, rfl⟩
    · ((try simp only [List.length_append,List.length_cons,List.length_nil,Nat.zero_add]);refine Wk.intro [] (by decide) (by decide) (by intro o ho;simp at ho ⊢ <;> omega) ?_ ?_ <;> repeat' (first|(refine WkV.imm ?_;congr 1;omega)|exact WkVL.nil|refine WkVL.cons ?_ ?_|exact WkV.top|exact WkV.imm rfl|exact WkV.imm (by simp)|exact WkV.optr rfl|exact WkV.own rfl (by simp)|exact WkV.nil_own (.inl rfl)|exact WkV.map rfl|(refine WkV.free ?_;simp [Free,FreeL] <;> assumption)|(refine WkV.free (fun _ _=>FreeL_nth ?_ _);simp [Free,FreeL];done)|refine WkV.agg ?_|refine WkV.tup ?_|refine WkV.fn ?_ ?_|exact WkO.dead|exact WkO.raw|refine WkO.ghost ?_|exact WkO.mpE rfl trivial|refine WkO.box ?_ rfl|refine WkO.arr ?_|refine And.intro ?_ (And.intro (by first|exact fun h=>h|exact fun _=>rfl|exact nofun) ?_)|exact trivial|(intro i j hi hj)))
    · by_cases e : j = i
      · subst e; exact or2_lt.1 hb
      · exact h2 j h3 (by omega) h5
  · rw [tf_t fun j h3 h4 => h2 j h3 (by omega) h4]
set_option maxRecDepth 100000 in
set_option maxHeartbeats 4000000 in
theorem riseC_tc (l : List Int) (hl : l.length ≤ 9223372036854775807) : Look Try.prog 66 [ints l,fnC] (.imm (.bool (tf (∀ i,1 ≤ i → i < l.length → (gi l (i - 1)) < (gi l i))))) := by
  refine Look.mk trivial ?_
  (refine TC_of_T Γ_ok Try.func66 rfl (by kernel_rfl) ?_;simp only [Try.ntmps66,Try.results66,List.length_cons,List.length_nil,Nat.reduceSub,Nat.reduceAdd,List.replicate,List.cons_append,List.nil_append])
  (repeat' (first|with_reducible refine T_seq_drawT (id := 4) Γ_ok drawsAny pl66_4 (by kernel_rfl) (fun K hK=>?_)|with_reducible refine T_last_drawT (id := 4) Γ_ok drawsAny pl66_4 (by kernel_rfl) (fun K hK=>?_)|((have sx1 := Nat.add_zero 0;refine goU1 _ _ _ _ _ _ _ _ _ _ _ _ ?_ ?_ ?_ ?_ ?_ ?_ ?_ ?_ ?_ ?_ ?_ ?_) <;> (repeat intro hb) <;> first|exact True.intro|refine Lf.mk ?_)))
  refine T_loopW (fun m st => ∃ i : Nat,1 ≤ i ∧ m = l.length - i ∧ (∀ j,1 ≤ j → j < i → j < l.length → (gi l (j - 1)) < (gi l j)) ∧
      st = ⟨[ints l, fnC, .top, .top, .imm (.bool false), .imm (.int .i64 i)] ++ List.replicate 18 .top, []⟩)
      (l.length - 1) ⟨_, ?_, 1, by omega, rfl, fun j h1 h2 => by omega, rfl⟩ ?_
  · ((try simp only [List.length_append,List.length_cons,List.length_nil,Nat.zero_add]);refine Wk.intro [] (by decide) (by decide) (by intro o ho;simp at ho ⊢ <;> omega) ?_ ?_ <;> repeat' (first|exact WkVL.nil|refine WkVL.cons ?_ ?_|exact WkV.top|exact WkV.imm rfl|exact WkV.imm (by simp)|exact WkV.optr rfl|exact WkV.own rfl (by simp)|exact WkV.nil_own (.inl rfl)|exact WkV.map rfl|(refine WkV.free ?_;simp [Free,FreeL] <;> assumption)|(refine WkV.free (fun _ _=>FreeL_nth ?_ _);simp [Free,FreeL];done)|refine WkV.agg ?_|refine WkV.tup ?_|refine WkV.fn ?_ ?_|exact WkO.dead|exact WkO.raw|refine WkO.ghost ?_|exact WkO.mpE rfl trivial|refine WkO.box ?_ rfl|refine WkO.arr ?_|refine And.intro ?_ (And.intro (by first|exact fun h=>h|exact fun _=>rfl|exact nofun) ?_)|exact trivial|(intro i j hi hj)))
  rintro m st ⟨i, h0, h1, h2, rfl⟩
  (simp only [go_sem,↓reduceIte,Nat.reduceAdd,Nat.reduceSub,Nat.reduceMul,Nat.reduceLT,Nat.reduceLeDiff,Nat.reduceEqDiff,Nat.reduceGT,Int.reduceToNat,Int.reduceBEq,Int.reduceBNe];try simp (disch := omega) only [wrapI,wrapU,half_sum,toNat_sub1,toNat_add1,Int.toNat_natCast])
  (have cl1 := fun u1 u2=>cmp_tc u1 u2;repeat' (first|with_reducible refine T_seq_drawT (id := 4) Γ_ok drawsAny pl66_4 (by kernel_rfl) (fun K hK=>?_)|with_reducible refine T_last_drawT (id := 4) Γ_ok drawsAny pl66_4 (by kernel_rfl) (fun K hK=>?_)|((have sx1 := Nat.add_zero 0;refine goU1 _ _ _ _ _ _ _ _ _ _ _ _ ?_ ?_ ?_ ?_ ?_ ?_ ?_ ?_ ?_ ?_ ?_ ?_) <;> (repeat intro hb) <;> first|exact True.intro|refine Lf.mk ?_)))
  · rw [tf_f fun h => by have := cmpI_lt.2 (h i h0 (by omega)); omega]
  · refine ⟨l.length - (i + 1), by omega, _, ?_, i + 1, by omega, rfl, fun j h3 h4 h5 => ?_, rfl⟩
    · ((try simp only [List.length_append,List.length_cons,List.length_nil,Nat.zero_add]);refine Wk.intro [] (by decide) (by decide) (by intro o ho;simp at ho ⊢ <;> omega) ?_ ?_ <;> repeat' (first|(refine WkV.imm ?_;congr 1;omega)|exact WkVL.nil|refine WkVL.cons ?_ ?_|exact WkV.top|exact WkV.imm rfl|exact WkV.imm (by simp)|exact WkV.optr rfl|exact WkV.own rfl (by simp)|exact WkV.nil_own (.inl rfl)|exact WkV.map rfl|(refine WkV.free ?_;simp [Free,FreeL] <;> assumption)|(refine WkV.free (fun _ _=>FreeL_nth ?_ _);simp [Free,FreeL];done)|refine WkV.agg ?_|refine WkV.tup ?_|refine WkV.fn ?_ ?_|exact WkO.dead|exact WkO.raw|refine WkO.ghost ?_|exact WkO.mpE rfl trivial|refine WkO.box ?_ rfl|refine WkO.arr ?_|refine And.intro ?_ (And.intro (by first|exact fun h=>h|exact fun _=>rfl|exact nofun) ?_)|exact trivial|(intro i j hi hj)))
    · by_cases e : j = i
      · subst e; exact cmpI_lt.1 hb
      · exact h2 j h3 (by omega) h5
  · rw [tf_t fun j h3 h4 => h2 j h3 (by omega) h4]
set_option maxRecDepth 100000 in
set_option maxHeartbeats 4000000 in
theorem notes_tc (s : Sc) (hn : s.notes.length ≤ 9223372036854775807) : Look Try.prog 39 [scA s] (.imm (.bool (tf (NsOk s)))) := by
  have c1 := riseN_tc s.notes hn
  have c2 := fun p : P6 => bounded_tc p 24 (by omega) (by omega)
  refine Look.mk trivial ?_
  (refine TC_of_T Γ_ok Try.func39 rfl (by kernel_rfl) ?_;simp only [Try.ntmps39,Try.results39,List.length_cons,List.length_nil,Nat.reduceSub,Nat.reduceAdd,List.replicate,List.cons_append,List.nil_append])
  (((have sx1 := Nat.add_zero 0;refine goU1 _ _ _ _ _ _ _ _ _ _ _ _ ?_ ?_ ?_ ?_ ?_ ?_ ?_ ?_ ?_ ?_ ?_ ?_) <;> (repeat intro hb) <;> first | exact True.intro | refine Lf.mk ?_))
  refine T_loopW (fun m st => ∃ i : Nat,m = s.notes.length - i ∧ i ≤ s.notes.length ∧ (∀ j,j < i → NtOk s.voices (gn s.notes j)) ∧
      st = ⟨[.top,.optr 0 0 0,.imm (.bool false)] ++ List.replicate 3 .top ++ [nts s.notes,.imm (.int .i64 s.notes.length),.imm (.int .i64 i)] ++ List.replicate 40 .top,[.box 26 (scL s)]⟩)
      s.notes.length ⟨_, ?_, 0, rfl, by omega, fun j h => by omega, rfl⟩ ?_
  · ((try simp only [List.length_append,List.length_cons,List.length_nil,Nat.zero_add]);refine Wk.intro [0] (by decide) (by decide) (by intro o ho;simp at ho ⊢ <;> omega) ?_ ?_ <;> repeat' (first|exact WkVL.nil|refine WkVL.cons ?_ ?_|exact WkV.top|exact WkV.imm rfl|exact WkV.imm (by simp)|exact WkV.optr rfl|exact WkV.own rfl (by simp)|exact WkV.nil_own (.inl rfl)|exact WkV.map rfl|(refine WkV.free ?_;simp [Free,FreeL] <;> assumption)|(refine WkV.free (fun _ _=>FreeL_nth ?_ _);simp [Free,FreeL];done)|refine WkV.agg ?_|refine WkV.tup ?_|refine WkV.fn ?_ ?_|exact WkO.dead|exact WkO.raw|refine WkO.ghost ?_|exact WkO.mpE rfl trivial|refine WkO.box ?_ rfl|refine WkO.arr ?_|refine And.intro ?_ (And.intro (by first|exact fun h=>h|exact fun _=>rfl|exact nofun) ?_)|exact trivial|(intro i j hi hj)))
  rintro m st ⟨i, h0, h1, h2, rfl⟩
  (simp only [go_sem,↓reduceIte,Nat.reduceAdd,Nat.reduceSub,Nat.reduceMul,Nat.reduceLT,Nat.reduceLeDiff,Nat.reduceEqDiff,Nat.reduceGT,Int.reduceToNat,Int.reduceBEq,Int.reduceBNe];try simp (disch := omega) only [wrapI,wrapU,half_sum,toNat_sub1,toNat_add1,Int.toNat_natCast])
  (have dl1 := fun u1=>c2 u1;have dl2 := c1;((have sx1 := Nat.add_zero 0;refine goU1 _ _ _ _ _ _ _ _ _ _ _ _ ?_ ?_ ?_ ?_ ?_ ?_ ?_ ?_ ?_ ?_ ?_ ?_) <;> (repeat intro hb) <;> first|exact True.intro|refine Lf.mk ?_))
  · rw [tf_f fun h=>by have := h.one i (by omega);unfold NtOk at this;rcases hb with ((((hb|hb)|hb)|hb)|hb)|hb <;> first|omega|(rw [hb] at this;exact absurd this.2.2.2.2.2 (by simp))]
  · refine ⟨s.notes.length - (i + 1), by omega, _, ?_, i + 1, rfl, by omega, fun j hj => ?_, rfl⟩
    · ((try simp only [List.length_append,List.length_cons,List.length_nil,Nat.zero_add]);refine Wk.intro [0] (by decide) (by decide) (by intro o ho;simp at ho ⊢ <;> omega) ?_ ?_ <;> repeat' (first|(refine WkV.imm ?_;congr 1;omega)|exact WkVL.nil|refine WkVL.cons ?_ ?_|exact WkV.top|exact WkV.imm rfl|exact WkV.imm (by simp)|exact WkV.optr rfl|exact WkV.own rfl (by simp)|exact WkV.nil_own (.inl rfl)|exact WkV.map rfl|(refine WkV.free ?_;simp [Free,FreeL] <;> assumption)|(refine WkV.free (fun _ _=>FreeL_nth ?_ _);simp [Free,FreeL];done)|refine WkV.agg ?_|refine WkV.tup ?_|refine WkV.fn ?_ ?_|exact WkO.dead|exact WkO.raw|refine WkO.ghost ?_|exact WkO.mpE rfl trivial|refine WkO.box ?_ rfl|refine WkO.arr ?_|refine And.intro ?_ (And.intro (by first|exact fun h=>h|exact fun _=>rfl|exact nofun) ?_)|exact trivial|(intro i j hi hj)))
    · by_cases e : j = i
      · subst e; unfold NtOk; exact ⟨by omega, by omega, by omega, by omega, by omega, hb.2⟩
      · exact h2 j (by omega)
  · rw [tf_congr (show NsOk s ↔ _ from ⟨fun h => h.rise, fun h => ⟨fun j hj => h2 j (by omega), h⟩⟩)]
set_option maxRecDepth 100000 in
set_option maxHeartbeats 4000000 in
theorem pairs_tc (s : Sc) (hn : s.notes.length ≤ 9223372036854775807) (hp : s.pairs.length ≤ 9223372036854775807) : Look Try.prog 41 [scA s] (.imm (.bool (tf (PsOk s)))) := by
  have c1 := riseP_tc s.pairs hp
  have c2 := fun p : P6 => bounded_tc p 16 (by omega) (by omega)
  refine Look.mk trivial ?_
  (refine TC_of_T Γ_ok Try.func41 rfl (by kernel_rfl) ?_;simp only [Try.ntmps41,Try.results41,List.length_cons,List.length_nil,Nat.reduceSub,Nat.reduceAdd,List.replicate,List.cons_append,List.nil_append])
  (repeat' (first|with_reducible refine T_seq_drawT (id := 6) Γ_ok drawsAny pl41_6 (by kernel_rfl) (fun K hK=>?_)|with_reducible refine T_last_drawT (id := 6) Γ_ok drawsAny pl41_6 (by kernel_rfl) (fun K hK=>?_)|((have sx1 := Nat.add_zero 0;refine goU1 _ _ _ _ _ _ _ _ _ _ _ _ ?_ ?_ ?_ ?_ ?_ ?_ ?_ ?_ ?_ ?_ ?_ ?_) <;> (repeat intro hb) <;> first|exact True.intro|refine Lf.mk ?_)))
  refine T_loopW (fun m st => ∃ i : Nat,m = s.pairs.length - i ∧ i ≤ s.pairs.length ∧ (∀ j,j < i → PrB s.notes.length (gp s.pairs j) ∧ PrV s (gp s.pairs j)) ∧
      st = ⟨[.top,.optr 0 0 0,.imm (.bool false)] ++ List.replicate 5 .top ++ [prs s.pairs,.imm (.int .i64 s.pairs.length),.imm (.int .i64 i)] ++ List.replicate 65 .top,[.box 26 (scL s)]⟩)
      s.pairs.length ⟨_, ?_, 0, rfl, by omega, fun j h => by omega, rfl⟩ ?_
  · ((try simp only [List.length_append,List.length_cons,List.length_nil,Nat.zero_add]);refine Wk.intro [0] (by decide) (by decide) (by intro o ho;simp at ho ⊢ <;> omega) ?_ ?_ <;> repeat' (first|exact WkVL.nil|refine WkVL.cons ?_ ?_|exact WkV.top|exact WkV.imm rfl|exact WkV.imm (by simp)|exact WkV.optr rfl|exact WkV.own rfl (by simp)|exact WkV.nil_own (.inl rfl)|exact WkV.map rfl|(refine WkV.free ?_;simp [Free,FreeL] <;> assumption)|(refine WkV.free (fun _ _=>FreeL_nth ?_ _);simp [Free,FreeL];done)|refine WkV.agg ?_|refine WkV.tup ?_|refine WkV.fn ?_ ?_|exact WkO.dead|exact WkO.raw|refine WkO.ghost ?_|exact WkO.mpE rfl trivial|refine WkO.box ?_ rfl|refine WkO.arr ?_|refine And.intro ?_ (And.intro (by first|exact fun h=>h|exact fun _=>rfl|exact nofun) ?_)|exact trivial|(intro i j hi hj)))
  rintro m st ⟨i, h0, h1, h2, rfl⟩
  (simp only [go_sem,↓reduceIte,Nat.reduceAdd,Nat.reduceSub,Nat.reduceMul,Nat.reduceLT,Nat.reduceLeDiff,Nat.reduceEqDiff,Nat.reduceGT,Int.reduceToNat,Int.reduceBEq,Int.reduceBNe];try simp (disch := omega) only [wrapI,wrapU,half_sum,toNat_sub1,toNat_add1,Int.toNat_natCast])
  (have dl1 := fun u1=>c2 u1;have dl2 := c1;repeat' (first|with_reducible refine T_seq_drawT (id := 6) Γ_ok drawsAny pl41_6 (by kernel_rfl) (fun K hK=>?_)|with_reducible refine T_last_drawT (id := 6) Γ_ok drawsAny pl41_6 (by kernel_rfl) (fun K hK=>?_)|((have sx1 := Nat.add_zero 0;refine goU1 _ _ _ _ _ _ _ _ _ _ _ _ ?_ ?_ ?_ ?_ ?_ ?_ ?_ ?_ ?_ ?_ ?_ ?_) <;> (repeat intro hb) <;> first|exact True.intro|refine Lf.mk ?_)))
  · rw [tf_f fun h=>by have := (h.one i (by omega)).1;unfold PrB at this;rcases hb with ((((hb|hb)|hb)|hb)|hb)|hb <;> first|omega|(rw [hb] at this;exact absurd this.2.2.2.1 (by simp))]
  · rw [tf_f fun h => by have := (h.one i (by omega)).2; unfold PrV at this; omega]
  · refine ⟨s.pairs.length - (i + 1), by omega, _, ?_, i + 1, rfl, by omega, fun j hj => ?_, rfl⟩
    · ((try simp only [List.length_append,List.length_cons,List.length_nil,Nat.zero_add]);refine Wk.intro [0] (by decide) (by decide) (by intro o ho;simp at ho ⊢ <;> omega) ?_ ?_ <;> repeat' (first|(refine WkV.imm ?_;congr 1;omega)|exact WkVL.nil|refine WkVL.cons ?_ ?_|exact WkV.top|exact WkV.imm rfl|exact WkV.imm (by simp)|exact WkV.optr rfl|exact WkV.own rfl (by simp)|exact WkV.nil_own (.inl rfl)|exact WkV.map rfl|(refine WkV.free ?_;simp [Free,FreeL] <;> assumption)|(refine WkV.free (fun _ _=>FreeL_nth ?_ _);simp [Free,FreeL];done)|refine WkV.agg ?_|refine WkV.tup ?_|refine WkV.fn ?_ ?_|exact WkO.dead|exact WkO.raw|refine WkO.ghost ?_|exact WkO.mpE rfl trivial|refine WkO.box ?_ rfl|refine WkO.arr ?_|refine And.intro ?_ (And.intro (by first|exact fun h=>h|exact fun _=>rfl|exact nofun) ?_)|exact trivial|(intro i j hi hj)))
    · by_cases e : j = i
      · subst e
        rename_i hq
        exact ⟨⟨hq.1.1.1.1.1, hq.1.1.1.1.2, hq.1.1.1.2, hq.1.1.2, hq.1.2, hq.2⟩, hb⟩
      · exact h2 j (by omega)
  · refine ⟨s.pairs.length - (i + 1), by omega, _, ?_, i + 1, rfl, by omega, fun j hj => ?_, rfl⟩
    · ((try simp only [List.length_append,List.length_cons,List.length_nil,Nat.zero_add]);refine Wk.intro [0] (by decide) (by decide) (by intro o ho;simp at ho ⊢ <;> omega) ?_ ?_ <;> repeat' (first|(refine WkV.imm ?_;congr 1;omega)|exact WkVL.nil|refine WkVL.cons ?_ ?_|exact WkV.top|exact WkV.imm rfl|exact WkV.imm (by simp)|exact WkV.optr rfl|exact WkV.own rfl (by simp)|exact WkV.nil_own (.inl rfl)|exact WkV.map rfl|(refine WkV.free ?_;simp [Free,FreeL] <;> assumption)|(refine WkV.free (fun _ _=>FreeL_nth ?_ _);simp [Free,FreeL];done)|refine WkV.agg ?_|refine WkV.tup ?_|refine WkV.fn ?_ ?_|exact WkO.dead|exact WkO.raw|refine WkO.ghost ?_|exact WkO.mpE rfl trivial|refine WkO.box ?_ rfl|refine WkO.arr ?_|refine And.intro ?_ (And.intro (by first|exact fun h=>h|exact fun _=>rfl|exact nofun) ?_)|exact trivial|(intro i j hi hj)))
    · by_cases e : j = i
      · subst e
        rename_i hq
        exact ⟨⟨hq.1.1.1.1.1, hq.1.1.1.1.2, hq.1.1.1.2, hq.1.1.2, hq.1.2, hq.2⟩, hb⟩
      · exact h2 j (by omega)
  · rw [tf_congr (show PsOk s ↔ _ from ⟨fun h => h.rise, fun h => ⟨fun j hj => h2 j (by omega), h⟩⟩)]
set_option maxRecDepth 100000 in
set_option maxHeartbeats 4000000 in
theorem cadences_tc (s : Sc) (hn : s.cads.length ≤ 9223372036854775807) : Look Try.prog 42 [scA s] (.imm (.bool (tf (CsOk s)))) := by
  have c1 := riseC_tc s.cads hn
  refine Look.mk trivial ?_
  (refine TC_of_T Γ_ok Try.func42 rfl (by kernel_rfl) ?_;simp only [Try.ntmps42,Try.results42,List.length_cons,List.length_nil,Nat.reduceSub,Nat.reduceAdd,List.replicate,List.cons_append,List.nil_append])
  (((have sx1 := Nat.add_zero 0;refine goU1 _ _ _ _ _ _ _ _ _ _ _ _ ?_ ?_ ?_ ?_ ?_ ?_ ?_ ?_ ?_ ?_ ?_ ?_) <;> (repeat intro hb) <;> first | exact True.intro | refine Lf.mk ?_))
  refine T_loopW (fun m st => ∃ i : Nat,m = s.cads.length - i ∧ i ≤ s.cads.length ∧ (∀ j,j < i → 1 ≤ gi s.cads j ∧ gi s.cads j < 100000) ∧
      st = ⟨[.top,.optr 0 0 0,.imm (.bool false)] ++ List.replicate 3 .top ++ [ints s.cads,.imm (.int .i64 s.cads.length),.imm (.int .i64 i)] ++ List.replicate 13 .top,[.box 26 (scL s)]⟩)
      s.cads.length ⟨_, ?_, 0, rfl, by omega, fun j h => by omega, rfl⟩ ?_
  · ((try simp only [List.length_append,List.length_cons,List.length_nil,Nat.zero_add]);refine Wk.intro [0] (by decide) (by decide) (by intro o ho;simp at ho ⊢ <;> omega) ?_ ?_ <;> repeat' (first|exact WkVL.nil|refine WkVL.cons ?_ ?_|exact WkV.top|exact WkV.imm rfl|exact WkV.imm (by simp)|exact WkV.optr rfl|exact WkV.own rfl (by simp)|exact WkV.nil_own (.inl rfl)|exact WkV.map rfl|(refine WkV.free ?_;simp [Free,FreeL] <;> assumption)|(refine WkV.free (fun _ _=>FreeL_nth ?_ _);simp [Free,FreeL];done)|refine WkV.agg ?_|refine WkV.tup ?_|refine WkV.fn ?_ ?_|exact WkO.dead|exact WkO.raw|refine WkO.ghost ?_|exact WkO.mpE rfl trivial|refine WkO.box ?_ rfl|refine WkO.arr ?_|refine And.intro ?_ (And.intro (by first|exact fun h=>h|exact fun _=>rfl|exact nofun) ?_)|exact trivial|(intro i j hi hj)))
  rintro m st ⟨i, h0, h1, h2, rfl⟩
  (simp only [go_sem,↓reduceIte,Nat.reduceAdd,Nat.reduceSub,Nat.reduceMul,Nat.reduceLT,Nat.reduceLeDiff,Nat.reduceEqDiff,Nat.reduceGT,Int.reduceToNat,Int.reduceBEq,Int.reduceBNe];try simp (disch := omega) only [wrapI,wrapU,half_sum,toNat_sub1,toNat_add1,Int.toNat_natCast])
  (have dl1 := c1;((have sx1 := Nat.add_zero 0;refine goU1 _ _ _ _ _ _ _ _ _ _ _ _ ?_ ?_ ?_ ?_ ?_ ?_ ?_ ?_ ?_ ?_ ?_ ?_) <;> (repeat intro hb) <;> first | exact True.intro | refine Lf.mk ?_))
  · rw [tf_f fun h => by have := h.one i (by omega); omega]
  · refine ⟨s.cads.length - (i + 1), by omega, _, ?_, i + 1, rfl, by omega, fun j hj => ?_, rfl⟩
    · ((try simp only [List.length_append,List.length_cons,List.length_nil,Nat.zero_add]);refine Wk.intro [0] (by decide) (by decide) (by intro o ho;simp at ho ⊢ <;> omega) ?_ ?_ <;> repeat' (first|(refine WkV.imm ?_;congr 1;omega)|exact WkVL.nil|refine WkVL.cons ?_ ?_|exact WkV.top|exact WkV.imm rfl|exact WkV.imm (by simp)|exact WkV.optr rfl|exact WkV.own rfl (by simp)|exact WkV.nil_own (.inl rfl)|exact WkV.map rfl|(refine WkV.free ?_;simp [Free,FreeL] <;> assumption)|(refine WkV.free (fun _ _=>FreeL_nth ?_ _);simp [Free,FreeL];done)|refine WkV.agg ?_|refine WkV.tup ?_|refine WkV.fn ?_ ?_|exact WkO.dead|exact WkO.raw|refine WkO.ghost ?_|exact WkO.mpE rfl trivial|refine WkO.box ?_ rfl|refine WkO.arr ?_|refine And.intro ?_ (And.intro (by first|exact fun h=>h|exact fun _=>rfl|exact nofun) ?_)|exact trivial|(intro i j hi hj)))
    · by_cases e : j = i
      · subst e; omega
      · exact h2 j (by omega)
  · rw [tf_congr (show CsOk s ↔ _ from ⟨fun h => h.rise, fun h => ⟨fun j hj => h2 j (by omega), h⟩⟩)]
end Go.Proofs.Ytmglcamgpgkblaa
namespace Go.Proofs.Ytmglcamgpgkblaa
open Go.Ab
def lvL (l : List Nt) (i : Nat) : List AV := (List.range 80).map fun j => nth (ntL (lastN l i (j / 10 : Nat))) (j % 10)
theorem lvL_0 (l : List Nt) : lvL l 0 = (List.range 8).flatMap fun _ => ntL nt0 := rfl
theorem lvL_len (l : List Nt) (i : Nat) : (lvL l i).length = 80 := by simp [lvL]
theorem lvL_get (l : List Nt) (i : Nat) {w k : Nat} (hw : w < 8) (hk : k < 10) : nth (lvL l i) (w * 10 + k) = nth (ntL (lastN l i w)) k := by
  have h : w * 10 + k < 80 := by omega
  have e1 : (w * 10 + k) / 10 = w := by omega
  have e2 : (w * 10 + k) % 10 = k := by omega
  have h3 := nth_eq (l := lvL l i) (i := w * 10 + k) (by rw [lvL_len]; exact h)
  unfold lvL at h3 ⊢
  rw [List.getElem?_map, List.getElem?_range h, Option.map_some, Option.some.injEq, e1, e2] at h3
  exact h3.symm
theorem lvL_set (l : List Nt) (i : Nat) {w : Nat} (hw : w < 8) (hv : (gn l i).v = w) : (lvL l i).take (w * 10) ++ ntL (gn l i) ++ (lvL l i).drop (w * 10 + 10) = lvL l (i + 1) := by
  refine List.ext_getElem? fun j => ?_
  have e : ∀ x,(lvL l x)[j]? = if j < 80 then some (nth (ntL (lastN l x (j / 10 : Nat))) (j % 10)) else none := fun x => by
    unfold lvL
    rw [List.getElem?_map]
    split
    · rename_i h; rw [List.getElem?_range h]; rfl
    · rename_i h; rw [List.getElem?_eq_none (by simpa using h)]; rfl
  rw [e (i + 1), lastN, hv]
  have lt1 : ((lvL l i).take (w * 10)).length = w * 10 := by rw [List.length_take, lvL_len]; omega
  have ln : (ntL (gn l i)).length = 10 := rfl
  by_cases h1 : j < w * 10
  · rw [List.append_assoc,List.getElem?_append_left (by omega),List.getElem?_take_of_lt h1,e i,if_neg (show ¬ (w : Int) = ((j / 10 : Nat) : Int) by omega)]
  · by_cases h2 : j < w * 10 + 10
    · rw [List.getElem?_append_left (by rw [List.length_append];omega),List.getElem?_append_right (by omega),lt1,if_pos (by omega),if_pos (show (w : Int) = ((j / 10 : Nat) : Int) by omega),nth_eq (by rw [ln];omega),show j - w * 10 = j % 10 by omega]
    · rw [List.getElem?_append_right (by rw [List.length_append];omega),List.length_append,lt1,ln,List.getElem?_drop,show w * 10 + 10 + (j - (w * 10 + 10)) = j by omega,e i,if_neg (show ¬ (w : Int) = ((j / 10 : Nat) : Int) by omega)]
set_option maxRecDepth 100000 in
set_option maxHeartbeats 4000000 in
theorem voices_tc (s : Sc) (hn : s.notes.length ≤ 9223372036854775807) (hns : NsOk s) (hv : s.voices ≤ 8) : Look Try.prog 40 [scA s] (.imm (.bool (tf (VsOk s)))) := by
  rw [tf_congr (vs_iff hns)]
  refine Look.mk trivial ?_
  (refine TC_of_T Γ_ok Try.func40 rfl (by kernel_rfl) ?_;simp only [Try.ntmps40,Try.results40,List.length_cons,List.length_nil,Nat.reduceSub,Nat.reduceAdd,List.replicate,List.cons_append,List.nil_append])
  (((have sx1 : (0 : Nat) + 0 = 0 := rfl;refine goL1 _ _ _ _ _ _ _ _ ?_ ?_ ?_ ?_ ?_ ?_ ?_ ?_) <;> (repeat intro hb) <;> first | exact True.intro | refine Lf.mk ?_))
  refine T_loopW (fun m st => ∃ i : Nat, m = s.notes.length - i ∧ i ≤ s.notes.length ∧ (∀ j, j < i → VcAt s.notes j) ∧
      st = ⟨[.top,.optr 0 0 0,.imm (.bool false),.optr 1 0 0] ++ List.replicate 4 .top ++ [nts s.notes,.imm (.int .i64 s.notes.length),.imm (.int .i64 i)] ++ List.replicate 40 .top,[.box 26 (scL s),.box 108 (lvL s.notes i)]⟩)
      s.notes.length ⟨_, ?_, 0, rfl, by omega, fun j h => by omega, rfl⟩ ?_
  · rw [lvL_0]
    ((try simp only [List.length_append,List.length_cons,List.length_nil,Nat.zero_add]);refine Wk.intro [0,1] (by decide) (by decide) (by intro o ho;simp at ho ⊢ <;> omega) ?_ ?_ <;> repeat' (first|exact WkVL.nil|refine WkVL.cons ?_ ?_|exact WkV.top|exact WkV.imm rfl|exact WkV.imm (by simp)|exact WkV.optr rfl|exact WkV.own rfl (by simp)|exact WkV.nil_own (.inl rfl)|exact WkV.map rfl|(refine WkV.free ?_;simp [Free,FreeL] <;> assumption)|(refine WkV.free (fun _ _=>FreeL_nth ?_ _);simp [Free,FreeL];done)|refine WkV.agg ?_|refine WkV.tup ?_|refine WkV.fn ?_ ?_|exact WkO.dead|exact WkO.raw|refine WkO.ghost ?_|exact WkO.mpE rfl trivial|refine WkO.box ?_ rfl|refine WkO.arr ?_|refine And.intro ?_ (And.intro (by first|exact fun h=>h|exact fun _=>rfl|exact nofun) ?_)|exact trivial|(intro i j hi hj)))
  rintro m st ⟨i, h0, h1, h2, rfl⟩
  by_cases hi : i < s.notes.length
  · have hone := hns.one i hi
    unfold NtOk at hone
    obtain ⟨w, hw⟩ := Int.eq_ofNat_of_zero_le hone.1
    have hw8 : w < 8 := by omega
    have hx : VcAt s.notes i ↔ (lastN s.notes i w).u ≤ (gn s.notes i).f ∧ ((gn s.notes i).tied = true → (lastN s.notes i w).u = (gn s.notes i).f ∧ (lastN s.notes i w).u ≠ 0 ∧ (lastN s.notes i w).pl = (gn s.notes i).pl) := by unfold VcAt;rw [hw]
    have hr := fun k h => lvL_get s.notes i (w := w) (k := k) hw8 h
    have hlen := lvL_len s.notes i
    generalize lastN s.notes i w = bf at hr hx
    have r0 : nth (lvL s.notes i) (w * 10) = .imm (.int .i64 bf.v) := hr 0 (by omega)
    have r1 : nth (lvL s.notes i) (w * 10 + 1) = .imm (.int .i64 bf.f) := hr 1 (by omega)
    have r2 : nth (lvL s.notes i) (w * 10 + 2) = .imm (.int .i64 bf.u) := hr 2 (by omega)
    have r3 : nth (lvL s.notes i) (w * 10 + 3) = .imm (.int .i64 bf.pl.a) := hr 3 (by omega)
    have r4 : nth (lvL s.notes i) (w * 10 + 4) = .imm (.int .i64 bf.pl.b) := hr 4 (by omega)
    have r5 : nth (lvL s.notes i) (w * 10 + 5) = .imm (.int .i64 bf.pl.c) := hr 5 (by omega)
    have r6 : nth (lvL s.notes i) (w * 10 + 6) = .imm (.int .i64 bf.pl.d) := hr 6 (by omega)
    have r7 : nth (lvL s.notes i) (w * 10 + 7) = .imm (.int .i64 bf.pl.e) := hr 7 (by omega)
    have r8 : nth (lvL s.notes i) (w * 10 + 8) = .imm (.int .i64 bf.pl.f) := hr 8 (by omega)
    have r9 : nth (lvL s.notes i) (w * 10 + 9) = .imm (.bool bf.tied) := hr 9 (by omega)
    clear hr
    (simp only [go_sem,↓reduceIte,Nat.reduceAdd,Nat.reduceSub,Nat.reduceMul,Nat.reduceLT,Nat.reduceLeDiff,Nat.reduceEqDiff,Nat.reduceGT,Int.reduceToNat,Int.reduceBEq,Int.reduceBNe];try simp (disch := omega) only [wrapI,wrapU,half_sum,toNat_sub1,toNat_add1,Int.toNat_natCast])
    (have sx1 := (And.intro hw (And.intro r0 (And.intro r1 (And.intro r2 (And.intro r3 (And.intro r4 (And.intro r5 (And.intro r6 (And.intro r7 (And.intro r8 (And.intro r9 hlen)))))))))));((refine goL1 _ _ _ _ _ _ _ _ ?_ ?_ ?_ ?_ ?_ ?_ ?_ ?_) <;> (repeat intro hb) <;> first|exact True.intro|refine Lf.mk ?_))
    · rw [tf_f fun h => ?_]
      have h3 := hx.1 (h i hi)
      rcases hb with hb | ⟨hb, hb2 | hb2⟩
      · omega
      · have := h3.2 hb; omega
      · have h4 := (h3.2 hb).2.2
        rw [h4] at hb2
        exact hb2 rfl rfl rfl rfl rfl rfl
    · have hset := lvL_set s.notes i hw8 hw
      simp only [ntL, hw] at hset
      rw [hset]
      refine ⟨s.notes.length - (i + 1), by omega, _, ?_, i + 1, rfl, by omega, fun j hj => ?_, rfl⟩
      · ((try simp only [List.length_append,List.length_cons,List.length_nil,Nat.zero_add]);refine Wk.intro [0,1] (by decide) (by decide) (by intro o ho;simp at ho ⊢ <;> omega) ?_ ?_ <;> repeat' (first|(refine WkV.imm ?_;congr 1;omega)|exact WkVL.nil|refine WkVL.cons ?_ ?_|exact WkV.top|exact WkV.imm rfl|exact WkV.imm (by simp)|exact WkV.optr rfl|exact WkV.own rfl (by simp)|exact WkV.nil_own (.inl rfl)|exact WkV.map rfl|(refine WkV.free ?_;simp [Free,FreeL] <;> assumption)|(refine WkV.free (fun _ _=>FreeL_nth ?_ _);simp [Free,FreeL];done)|refine WkV.agg ?_|refine WkV.tup ?_|refine WkV.fn ?_ ?_|exact WkO.dead|exact WkO.raw|refine WkO.ghost ?_|exact WkO.mpE rfl trivial|refine WkO.box ?_ rfl|refine WkO.arr ?_|refine And.intro ?_ (And.intro (by first|exact fun h=>h|exact fun _=>rfl|exact nofun) ?_)|exact trivial|(intro i j hi hj)))
      · by_cases e : j = i
        · subst e
          exact hx.2 ⟨hb.1,fun ht => ⟨(hb.2 ht).1.1,(hb.2 ht).1.2,P6.ext' (hb.2 ht).2.1 (hb.2 ht).2.2.1 (hb.2 ht).2.2.2.1 (hb.2 ht).2.2.2.2.1 (hb.2 ht).2.2.2.2.2.1 (hb.2 ht).2.2.2.2.2.2⟩⟩
        · exact h2 j (by omega)
  · (simp only [go_sem,↓reduceIte,Nat.reduceAdd,Nat.reduceSub,Nat.reduceMul,Nat.reduceLT,Nat.reduceLeDiff,Nat.reduceEqDiff,Nat.reduceGT,Int.reduceToNat,Int.reduceBEq,Int.reduceBNe];try simp (disch := omega) only [wrapI,wrapU,half_sum,toNat_sub1,toNat_add1,Int.toNat_natCast])
    (((have sx1 : (0 : Nat) + 0 = 0 := rfl;refine goL1 _ _ _ _ _ _ _ _ ?_ ?_ ?_ ?_ ?_ ?_ ?_ ?_) <;> (repeat intro hb) <;> first | exact True.intro | refine Lf.mk ?_))
    rw [tf_t fun j hj => h2 j (by omega)]
end Go.Proofs.Ytmglcamgpgkblaa
namespace Go.Proofs.Ytmglcamgpgkblaa
open Go.Ab
def ScL (s : Sc) : Prop := s.notes.length ≤ 9223372036854775807 ∧ s.pairs.length ≤ 9223372036854775807 ∧ s.cads.length ≤ 9223372036854775807
set_option maxRecDepth 100000 in
set_option maxHeartbeats 4000000 in
theorem valid_tc (s : Sc) (hl : ScL s) : Look Try.prog 26 [scA s] (.imm (.bool (tf (ScOk s)))) := by
  refine Look.mk trivial ?_
  have c1 := sizes_tc s hl.1 hl.2.1 hl.2.2
  have c2 := notes_tc s hl.1
  have c4 := pairs_tc s hl.1 hl.2.1
  have c5 := cadences_tc s hl.2.2
  by_cases h1 : SzOk s
  · rw [tf_t h1] at c1
    by_cases h2 : NsOk s
    · rw [tf_t h2] at c2
      have c3 := voices_tc s hl.1 h2 h1.2.1
      (refine TC_of_T Γ_ok Try.func26 rfl (by kernel_rfl) ?_;simp only [Try.ntmps26,Try.results26,List.length_cons,List.length_nil,Nat.reduceSub,Nat.reduceAdd,List.replicate,List.cons_append,List.nil_append])
      (have sx1 : (0 : Nat) + 0 = 0 := rfl;((refine goU1 _ _ _ _ _ _ _ _ _ _ _ _ ?_ ?_ ?_ ?_ ?_ ?_ ?_ ?_ ?_ ?_ ?_ ?_) <;> (repeat intro hb) <;> first | exact True.intro | refine Lf.mk ?_))
      refine T_rounds 6 ?_
      (have cl1 := c1;have cl2 := c2;have cl3 := c3;have cl4 := c4;have cl5 := c5;have sx1 : (0 : Nat) + 0 = 0 := rfl;((refine goU1 _ _ _ _ _ _ _ _ _ _ _ _ ?_ ?_ ?_ ?_ ?_ ?_ ?_ ?_ ?_ ?_ ?_ ?_) <;> (repeat intro hb) <;> first|exact True.intro|refine Lf.mk ?_))
      · rw [tf_f fun h => by rw [tf_t h.vs] at hb; cases hb]
      · rw [tf_f fun h => by rw [tf_t h.ps] at hb; cases hb]
      · rw [tf_f fun h => by rw [tf_t h.cs] at hb; cases hb]
      · rw [tf_t ⟨h1, h2, tf_iff.1 (by assumption), tf_iff.1 (by assumption), tf_iff.1 (by assumption)⟩]
    · rw [tf_f h2] at c2
      (refine TC_of_T Γ_ok Try.func26 rfl (by kernel_rfl) ?_;simp only [Try.ntmps26,Try.results26,List.length_cons,List.length_nil,Nat.reduceSub,Nat.reduceAdd,List.replicate,List.cons_append,List.nil_append])
      (have sx1 : (0 : Nat) + 0 = 0 := rfl;((refine goU1 _ _ _ _ _ _ _ _ _ _ _ _ ?_ ?_ ?_ ?_ ?_ ?_ ?_ ?_ ?_ ?_ ?_ ?_) <;> (repeat intro hb) <;> first | exact True.intro | refine Lf.mk ?_))
      refine T_rounds 6 ?_
      (have cl1 := c1;have cl2 := c2;have sx1 : (0 : Nat) + 0 = 0 := rfl;((refine goU1 _ _ _ _ _ _ _ _ _ _ _ _ ?_ ?_ ?_ ?_ ?_ ?_ ?_ ?_ ?_ ?_ ?_ ?_) <;> (repeat intro hb) <;> first|exact True.intro|refine Lf.mk ?_))
      rw [tf_f fun h => h2 h.ns]
  · rw [tf_f h1] at c1
    (refine TC_of_T Γ_ok Try.func26 rfl (by kernel_rfl) ?_;simp only [Try.ntmps26,Try.results26,List.length_cons,List.length_nil,Nat.reduceSub,Nat.reduceAdd,List.replicate,List.cons_append,List.nil_append])
    (have sx1 : (0 : Nat) + 0 = 0 := rfl;((refine goU1 _ _ _ _ _ _ _ _ _ _ _ _ ?_ ?_ ?_ ?_ ?_ ?_ ?_ ?_ ?_ ?_ ?_ ?_) <;> (repeat intro hb) <;> first | exact True.intro | refine Lf.mk ?_))
    refine T_rounds 6 ?_
    (have cl1 := c1;have sx1 : (0 : Nat) + 0 = 0 := rfl;((refine goU1 _ _ _ _ _ _ _ _ _ _ _ _ ?_ ?_ ?_ ?_ ?_ ?_ ?_ ?_ ?_ ?_ ?_ ?_) <;> (repeat intro hb) <;> first|exact True.intro|refine Lf.mk ?_))
    rw [tf_f fun h => h1 h.sz]
end Go.Proofs.Ytmglcamgpgkblaa
