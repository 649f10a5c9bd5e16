/-
  Own arrays of elements that are sorted: what is read, what a swap leaves; insertionSortCmpFunc.
-/
import Derived.Test.YtgljhmnmmaclaaaQGo
import Derived.Test.YtgljhmnmmaclaaaQK0
import Derived.Sort.AssemblyPlain
set_option linter.unusedSimpArgs false
set_option linter.unusedVariables false
namespace Go.Proofs.Ytgljhmnmmaclaaa
open Go.Ab Go.Sort
@[go_sem, reducible] def elO (n : Nat) (d : Array El) : AObj := .arr 65 elS n (elE d)
@[go_sem, reducible] def elV (n : Nat) : AV := .own 0 0 n none
@[go_sem, reducible] def cmpF : AV := .fn (.func 36) [] []
def ltE (x y : El) : Bool := decide (cmpE x y < 0)
theorem ltE_t {x y : El} (h : cmpE x y < 0) : ltE x y = true := by simpa [ltE] using h
theorem ltE_f {x y : El} (h : 0 ≤ cmpE x y) : ltE x y = false := by simpa [ltE] using h
abbrev ga (d : Array El) (i : Nat) : El := d[i]!
theorem nth_out : ∀ {l : List AV} {i : Nat}, l.length ≤ i → nth l i = .top
  | [], i, _ => by cases i <;> rfl
  | a :: l, 0, h => by simp at h
  | a :: l, i + 1, h => by simpa [nth] using nth_out (l := l) (i := i) (by simpa using h)
theorem swp_elE {d : Array El} {i j : Nat} (hi : i < d.size) (hj : j < d.size) (p q : Nat) : updE (updE (elE d) i 0 (elL d[j]!)) j 0 (elL d[i]!) p q = elE (swp d i j) p q := by
  unfold updE elE
  simp only [Nat.zero_le, true_and, Nat.sub_zero, Nat.zero_add]
  by_cases h1 : p = j
  · subst h1
    rw [swp_right _ _ _ hj]
    by_cases h2 : q < (elL d[i]!).length
    · rw [if_pos ⟨rfl, h2⟩]
    · rw [if_neg (fun h => h2 h.2), if_neg (fun h => by have := h.2; rw [elL_len] at h2 this; omega)]
      rw [nth_out (by rw [elL_len] at h2 ⊢; omega), nth_out (by rw [elL_len] at h2 ⊢; omega)]
  · rw [if_neg (fun h => h1 h.1)]
    by_cases h3 : p = i
    · subst h3
      rw [swp_left _ _ _ hi h1]
      by_cases h2 : q < (elL d[j]!).length
      · rw [if_pos ⟨rfl, h2⟩]
      · rw [if_neg (fun h => h2 h.2),nth_out (by rw [elL_len] at h2 ⊢;omega),nth_out (by rw [elL_len] at h2 ⊢;omega)]
    · rw [if_neg (fun h => h3 h.1), swp_other _ _ _ _ h3 h1]
theorem insOuter_lt {lt : El → El → Bool} {a b i : Nat} {d : Array El} (h : i < b) : insOuter lt a b i d = insOuter lt a b (i + 1) (insInner lt a i d) := by
  rw [insOuter, if_pos h]
theorem insOuter_ge {lt : El → El → Bool} {a b i : Nat} {d : Array El} (h : ¬ i < b) : insOuter lt a b i d = d := by
  rw [insOuter, if_neg h]
theorem insInner_go {lt : El → El → Bool} {a j : Nat} {d : Array El} (h : a < j) (h2 : lt d[j]! d[j - 1]! = true) : insInner lt a j d = insInner lt a (j - 1) (swp d j (j - 1)) := by
  obtain ⟨q, rfl⟩ : ∃ q, j = q + 1 := ⟨j - 1, by omega⟩
  simp only [Nat.add_sub_cancel] at h2 ⊢
  rw [insInner, if_pos (by simp [h2]; omega)]
theorem insInner_stop {lt : El → El → Bool} {a j : Nat} {d : Array El} (h : a < j → lt d[j]! d[j - 1]! = false) : insInner lt a j d = d := by
  cases j with
  | zero => rfl
  | succ q =>
    simp only [Nat.add_sub_cancel] at h
    rw [insInner, if_neg (by simpa using fun e => h (by omega))]
set_option maxRecDepth 100000 in
set_option maxHeartbeats 4000000 in
theorem insertion_tc (n : Nat) (d : Array El) (hd : d.size = n) (hn : n ≤ 60000) (a b : Nat) (hab : a ≤ 60000) (hbn : b ≤ n) : TC Try.prog 60 [elV n,.imm (.int .i64 a),.imm (.int .i64 b),cmpF] [elO n d] (fun v σ'=>v = .tup [] ∧ σ' = [elO n (insertionSort ltE d a b)]) := by
  (refine TC_of_T Γ_ok Try.func60 rfl (by kernel_rfl) ?_;simp only [Try.ntmps60,Try.results60,List.length_cons,List.length_nil,Nat.reduceSub,Nat.reduceAdd,List.replicate,List.cons_append,List.nil_append])
  (repeat' (first|with_reducible refine T_seq_drawT (id := 4) Γ_ok drawsAny pl60_4 (by kernel_rfl) (fun K hK=>?_)|with_reducible refine T_last_drawT (id := 4) Γ_ok drawsAny pl60_4 (by kernel_rfl) (fun K hK=>?_)|with_reducible refine T_seq_drawT (id := 6) Γ_ok drawsAny pl60_6 (by kernel_rfl) (fun K hK=>?_)|with_reducible refine T_last_drawT (id := 6) Γ_ok drawsAny pl60_6 (by kernel_rfl) (fun K hK=>?_)|((refine goR0 _ _ _ _ _ _ _ _ ?_ ?_ ?_ ?_ ?_ ?_ ?_ ?_) <;> (repeat intro hb) <;> first|exact True.intro|refine Lf.mk ?_)))
  refine T_loopW (fun m st=>∃ (i : Nat) (e : Array El),a < i ∧ i ≤ 60001 ∧ m = b - i ∧ e.size = n ∧ insOuter ltE a b i e = insertionSort ltE d a b ∧ st = ⟨[elV n,.imm (.int .i64 a),.imm (.int .i64 b),cmpF,.top,.top,.top,.top,.imm (.int .i64 i)] ++ List.replicate 44 .top,[elO n e]⟩) (b - (a + 1)) ⟨_,?_,a + 1,d,by omega,by omega,rfl,hd,rfl,rfl⟩ ?_
  · ((try simp only [List.length_append,List.length_cons,List.length_nil,Nat.zero_add]);refine Wk.intro [0] (by decide) (by decide) (by intro o ho;simp at ho ⊢ <;> omega) ?_ ?_ <;> repeat' (first|exact WkVL.nil|refine WkVL.cons ?_ ?_|exact WkV.top|exact WkV.imm rfl|exact WkV.imm (by simp)|exact WkV.optr rfl|exact WkV.own rfl (by simp)|exact WkV.nil_own (.inl rfl)|exact WkV.map rfl|(refine WkV.free ?_;simp [Free,FreeL] <;> assumption)|(refine WkV.free (fun _ _=>FreeL_nth ?_ _);simp [Free,FreeL];done)|refine WkV.agg ?_|refine WkV.tup ?_|refine WkV.fn ?_ ?_|exact WkO.dead|exact WkO.raw|refine WkO.ghost ?_|exact WkO.mpE rfl trivial|refine WkO.box ?_ rfl|refine WkO.arr ?_|refine And.intro ?_ (And.intro (by first|exact fun h=>h|exact fun _=>rfl|exact nofun) ?_)|exact trivial|(intro i j hi hj)))
  rintro m st ⟨i, e, h1, h2, h3, h4, h5, rfl⟩
  (simp only [go_sem,↓reduceIte,Nat.reduceAdd,Nat.reduceSub,Nat.reduceMul,Nat.reduceLT,Nat.reduceLeDiff,Nat.reduceEqDiff,Nat.reduceGT,Int.reduceToNat,Int.reduceBEq,Int.reduceBNe];try simp (disch := omega) only [wrapI,wrapU,half_sum,toNat_sub1,toNat_add1,Int.toNat_natCast])
  (repeat' (first|with_reducible refine T_seq_drawT (id := 4) Γ_ok drawsAny pl60_4 (by kernel_rfl) (fun K hK=>?_)|with_reducible refine T_last_drawT (id := 4) Γ_ok drawsAny pl60_4 (by kernel_rfl) (fun K hK=>?_)|with_reducible refine T_seq_drawT (id := 6) Γ_ok drawsAny pl60_6 (by kernel_rfl) (fun K hK=>?_)|with_reducible refine T_last_drawT (id := 6) Γ_ok drawsAny pl60_6 (by kernel_rfl) (fun K hK=>?_)|((refine goR0 _ _ _ _ _ _ _ _ ?_ ?_ ?_ ?_ ?_ ?_ ?_ ?_) <;> (repeat intro hb) <;> first|exact True.intro|refine Lf.mk ?_)))
  · refine T_loopW (fun q st=>∃ (j : Nat) (f : Array El),a ≤ j ∧ j ≤ i ∧ q = j ∧ f.size = n ∧ insInner ltE a j f = insInner ltE a i e ∧ st = ⟨[elV n,.imm (.int .i64 a),.imm (.int .i64 b),cmpF,.top,.top,.top,.top,.imm (.int .i64 i),.imm (.int .i64 j)] ++ List.replicate 43 .top,[elO n f]⟩) i ⟨_,?_,i,e,by omega,by omega,rfl,h4,rfl,rfl⟩ ?_
    · ((try simp only [List.length_append,List.length_cons,List.length_nil,Nat.zero_add]);refine Wk.intro [0] (by decide) (by decide) (by intro o ho;simp at ho ⊢ <;> omega) ?_ ?_ <;> repeat' (first|exact WkVL.nil|refine WkVL.cons ?_ ?_|exact WkV.top|exact WkV.imm rfl|exact WkV.imm (by simp)|exact WkV.optr rfl|exact WkV.own rfl (by simp)|exact WkV.nil_own (.inl rfl)|exact WkV.map rfl|(refine WkV.free ?_;simp [Free,FreeL] <;> assumption)|(refine WkV.free (fun _ _=>FreeL_nth ?_ _);simp [Free,FreeL];done)|refine WkV.agg ?_|refine WkV.tup ?_|refine WkV.fn ?_ ?_|exact WkO.dead|exact WkO.raw|refine WkO.ghost ?_|exact WkO.mpE rfl trivial|refine WkO.box ?_ rfl|refine WkO.arr ?_|refine And.intro ?_ (And.intro (by first|exact fun h=>h|exact fun _=>rfl|exact nofun) ?_)|exact trivial|(intro i j hi hj)))
    rintro j st ⟨_, f, g1, g2, rfl, g4, g5, rfl⟩
    (simp only [go_sem,↓reduceIte,Nat.reduceAdd,Nat.reduceSub,Nat.reduceMul,Nat.reduceLT,Nat.reduceLeDiff,Nat.reduceEqDiff,Nat.reduceGT,Int.reduceToNat,Int.reduceBEq,Int.reduceBNe];try simp (disch := omega) only [wrapI,wrapU,half_sum,toNat_sub1,toNat_add1,Int.toNat_natCast])
    (have cl1 := cmpE_tc (ga f j) (ga f (j - 1));repeat' (first|with_reducible refine T_seq_drawT (id := 4) Γ_ok drawsAny pl60_4 (by kernel_rfl) (fun K hK=>?_)|with_reducible refine T_last_drawT (id := 4) Γ_ok drawsAny pl60_4 (by kernel_rfl) (fun K hK=>?_)|with_reducible refine T_seq_drawT (id := 6) Γ_ok drawsAny pl60_6 (by kernel_rfl) (fun K hK=>?_)|with_reducible refine T_last_drawT (id := 6) Γ_ok drawsAny pl60_6 (by kernel_rfl) (fun K hK=>?_)|((refine goR0 _ _ _ _ _ _ _ _ ?_ ?_ ?_ ?_ ?_ ?_ ?_ ?_) <;> (repeat intro hb) <;> first|exact True.intro|refine Lf.mk ?_)))
    · refine ⟨j - 1,by omega,_,?_,j - 1,swp f j (j - 1),by omega,by omega,rfl,by rw [size_swp];exact g4,?_,rfl⟩
      · ((try simp only [List.length_append,List.length_cons,List.length_nil,Nat.zero_add]);refine Wk.intro [0] (by decide) (by decide) (by intro o ho;simp at ho ⊢ <;> omega) ?_ ?_ <;> repeat' (first|(refine WkV.imm ?_;congr 1;omega)|(exact WkV.eqF (swp_elE (by omega) (by omega) _ _) (by simp))|exact WkVL.nil|refine WkVL.cons ?_ ?_|exact WkV.top|exact WkV.imm rfl|exact WkV.imm (by simp)|exact WkV.optr rfl|exact WkV.own rfl (by simp)|exact WkV.nil_own (.inl rfl)|exact WkV.map rfl|(refine WkV.free ?_;simp [Free,FreeL] <;> assumption)|(refine WkV.free (fun _ _=>FreeL_nth ?_ _);simp [Free,FreeL];done)|refine WkV.agg ?_|refine WkV.tup ?_|refine WkV.fn ?_ ?_|exact WkO.dead|exact WkO.raw|refine WkO.ghost ?_|exact WkO.mpE rfl trivial|refine WkO.box ?_ rfl|refine WkO.arr ?_|refine And.intro ?_ (And.intro (by first|exact fun h=>h|exact fun _=>rfl|exact nofun) ?_)|exact trivial|(intro i j hi hj)))
      · exact (insInner_go (lt := ltE) (a := a) (j := j) (d := f) (by omega) (ltE_t hb.2)).symm.trans g5
    · refine ⟨b - (i + 1), by omega, _, ?_, i + 1, f, by omega, by omega, rfl, g4, ?_, rfl⟩
      · ((try simp only [List.length_append,List.length_cons,List.length_nil,Nat.zero_add]);refine Wk.intro [0] (by decide) (by decide) (by intro o ho;simp at ho ⊢ <;> omega) ?_ ?_ <;> repeat' (first|exact WkVL.nil|refine WkVL.cons ?_ ?_|exact WkV.top|exact WkV.imm rfl|exact WkV.imm (by simp)|exact WkV.optr rfl|exact WkV.own rfl (by simp)|exact WkV.nil_own (.inl rfl)|exact WkV.map rfl|(refine WkV.free ?_;simp [Free,FreeL] <;> assumption)|(refine WkV.free (fun _ _=>FreeL_nth ?_ _);simp [Free,FreeL];done)|refine WkV.agg ?_|refine WkV.tup ?_|refine WkV.fn ?_ ?_|exact WkO.dead|exact WkO.raw|refine WkO.ghost ?_|exact WkO.mpE rfl trivial|refine WkO.box ?_ rfl|refine WkO.arr ?_|refine And.intro ?_ (And.intro (by first|exact fun h=>h|exact fun _=>rfl|exact nofun) ?_)|exact trivial|(intro i j hi hj)))
      · rw [insInner_stop (lt := ltE) (a := a) (j := j) (d := f) (fun h => ltE_f (hb (by omega)))] at g5
        rw [← h5, insOuter_lt (i := i) (by omega), g5]
  · rw [← h5, insOuter_ge (by omega)]
theorem elO_vf (n : Nat) (d : Array El) : ∀ a ∈ [elO n d], VFO a := fun a ha => by
  simp only [List.mem_singleton] at ha
  subst ha
  exact fun i j => elE_pl d i j
theorem insertion_tu (n : Nat) (d : Array El) (hd : d.size = n) (hn : n ≤ 60000) (a b : Nat) (hab : a ≤ 60000) (hbn : b ≤ n) : Turns Try.prog 60 [elV n,.imm (.int .i64 a),.imm (.int .i64 b),cmpF] [elO n d] (.tup []) [elO n (insertionSort ltE d a b)] :=
  ⟨insertion_tc n d hd hn a b hab hbn, by simp [VF, VFL], elO_vf _ _⟩
end Go.Proofs.Ytgljhmnmmaclaaa
