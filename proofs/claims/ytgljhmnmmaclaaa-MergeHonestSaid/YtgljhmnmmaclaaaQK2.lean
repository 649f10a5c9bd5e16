/-
  siftDownCmpFunc.
-/
import Derived.Test.YtgljhmnmmaclaaaQGo
import Derived.Test.YtgljhmnmmaclaaaQK1
set_option linter.unusedSimpArgs false
set_option linter.unusedVariables false
namespace Go.Proofs.Ytgljhmnmmaclaaa
open Go.Ab Go.Sort
theorem sift_end {lt : El → El → Bool} {hi first root : Nat} {d : Array El} (h : 2 * root + 1 ≥ hi) : siftDown lt hi first root d = d := by
  rw [siftDown, dif_pos h]
theorem sift_r0 {lt : El → El → Bool} {hi first root : Nat} {d : Array El} (h : ¬ 2 * root + 1 ≥ hi) (h1 : 2 * root + 1 + 1 < hi) (h2 : lt d[first + (2 * root + 1)]! d[first + (2 * root + 1) + 1]! = true)
    (h3 : lt d[first + root]! d[first + (2 * root + 1 + 1)]! = false) : siftDown lt hi first root d = d := by
  rw [siftDown, dif_neg h, if_pos (by simp [h1, h2]), if_pos (by simpa using h3)]
theorem sift_r1 {lt : El → El → Bool} {hi first root : Nat} {d : Array El} (h : ¬ 2 * root + 1 ≥ hi) (h1 : 2 * root + 1 + 1 < hi) (h2 : lt d[first + (2 * root + 1)]! d[first + (2 * root + 1) + 1]! = true)
    (h3 : lt d[first + root]! d[first + (2 * root + 1 + 1)]! = true) : siftDown lt hi first root d = siftDown lt hi first (2 * root + 1 + 1) (swp d (first + root) (first + (2 * root + 1 + 1))) := by
  rw [siftDown, dif_neg h, if_pos (by simp [h1, h2]), if_neg (by simpa using h3), dif_pos (by omega)]
theorem sift_l0 {lt : El → El → Bool} {hi first root : Nat} {d : Array El} (h : ¬ 2 * root + 1 ≥ hi) (h1 : 2 * root + 1 + 1 < hi → lt d[first + (2 * root + 1)]! d[first + (2 * root + 1) + 1]! = false)
    (h3 : lt d[first + root]! d[first + (2 * root + 1)]! = false) : siftDown lt hi first root d = d := by
  rw [siftDown, dif_neg h, if_neg (by simpa using h1), if_pos (by simpa using h3)]
theorem sift_l1 {lt : El → El → Bool} {hi first root : Nat} {d : Array El} (h : ¬ 2 * root + 1 ≥ hi) (h1 : 2 * root + 1 + 1 < hi → lt d[first + (2 * root + 1)]! d[first + (2 * root + 1) + 1]! = false)
    (h3 : lt d[first + root]! d[first + (2 * root + 1)]! = true) : siftDown lt hi first root d = siftDown lt hi first (2 * root + 1) (swp d (first + root) (first + (2 * root + 1))) := by
  rw [siftDown, dif_neg h, if_neg (by simpa using h1), if_neg (by simpa using h3)]
set_option maxRecDepth 100000 in
set_option maxHeartbeats 4000000 in
theorem sift_tc (n : Nat) (d : Array El) (hd : d.size = n) (hn : n ≤ 60000) (lo hi first : Nat) (hlo : lo ≤ 60000) (hf : first + hi ≤ n) : TC Try.prog 74 [elV n,.imm (.int .i64 lo),.imm (.int .i64 hi),.imm (.int .i64 first),cmpF] [elO n d] (fun v σ'=>v = .tup [] ∧ σ' = [elO n (siftDown ltE hi first lo d)]) := by
  (refine TC_of_T Γ_ok Try.func74 rfl (by kernel_rfl) ?_;simp only [Try.ntmps74,Try.results74,List.length_cons,List.length_nil,Nat.reduceSub,Nat.reduceAdd,List.replicate,List.cons_append,List.nil_append])
  (repeat' (first|with_reducible refine T_seq_drawT (id := 3) Γ_ok drawsAny pl74_3 (by kernel_rfl) (fun K hK=>?_)|with_reducible refine T_last_drawT (id := 3) Γ_ok drawsAny pl74_3 (by kernel_rfl) (fun K hK=>?_)|with_reducible refine T_seq_drawT (id := 5) Γ_ok drawsAny pl74_5 (by kernel_rfl) (fun K hK=>?_)|with_reducible refine T_last_drawT (id := 5) Γ_ok drawsAny pl74_5 (by kernel_rfl) (fun K hK=>?_)|with_reducible refine T_seq_drawT (id := 6) Γ_ok drawsAny pl74_6 (by kernel_rfl) (fun K hK=>?_)|with_reducible refine T_last_drawT (id := 6) Γ_ok drawsAny pl74_6 (by kernel_rfl) (fun K hK=>?_)|((refine goR0 _ _ _ _ _ _ _ _ ?_ ?_ ?_ ?_ ?_ ?_ ?_ ?_) <;> (repeat intro hb) <;> first|exact True.intro|refine Lf.mk ?_)))
  refine T_loopW (fun m st=>∃ (root : Nat) (e : Array El),root ≤ 60000 ∧ m = hi - root ∧ e.size = n ∧ siftDown ltE hi first root e = siftDown ltE hi first lo d ∧ st = ⟨[elV n,.imm (.int .i64 lo),.imm (.int .i64 hi),.imm (.int .i64 first),cmpF,.top,.top,.top,.top,.top,.imm (.int .i64 root)] ++ List.replicate 71 .top,[elO n e]⟩) (hi - lo) ⟨_,?_,lo,d,by omega,rfl,hd,rfl,rfl⟩ ?_
  · ((try simp only [List.length_append,List.length_cons,List.length_nil,Nat.zero_add]);refine Wk.intro [0] (by decide) (by decide) (by intro o ho;simp at ho ⊢ <;> omega) ?_ ?_ <;> repeat' (first|exact WkVL.nil|refine WkVL.cons ?_ ?_|exact WkV.top|exact WkV.imm rfl|exact WkV.imm (by simp)|exact WkV.optr rfl|exact WkV.own rfl (by simp)|exact WkV.nil_own (.inl rfl)|exact WkV.map rfl|(refine WkV.free ?_;simp [Free,FreeL] <;> assumption)|(refine WkV.free (fun _ _=>FreeL_nth ?_ _);simp [Free,FreeL];done)|refine WkV.agg ?_|refine WkV.tup ?_|refine WkV.fn ?_ ?_|exact WkO.dead|exact WkO.raw|refine WkO.ghost ?_|exact WkO.mpE rfl trivial|refine WkO.box ?_ rfl|refine WkO.arr ?_|refine And.intro ?_ (And.intro (by first|exact fun h=>h|exact fun _=>rfl|exact nofun) ?_)|exact trivial|(intro i j hi hj)))
  rintro m st ⟨root, e, h1, h2, h3, h4, rfl⟩
  have x1 : ((first : Int) + (2 * (root : Int) + 1)).toNat = first + (2 * root + 1) := by omega
  have x2 : ((first : Int) + (2 * (root : Int) + 1) + 1).toNat = first + (2 * root + 1) + 1 := by omega
  have x3 : ((first : Int) + (root : Int)).toNat = first + root := by omega
  have x4 : ((first : Int) + (2 * (root : Int) + 1 + 1)).toNat = first + (2 * root + 1 + 1) := by omega
  (simp only [go_sem,↓reduceIte,Nat.reduceAdd,Nat.reduceSub,Nat.reduceMul,Nat.reduceLT,Nat.reduceLeDiff,Nat.reduceEqDiff,Nat.reduceGT,Int.reduceToNat,Int.reduceBEq,Int.reduceBNe];try simp (disch := omega) only [wrapI,wrapU,half_sum,toNat_sub1,toNat_add1,Int.toNat_natCast])
  (have cl1 := fun u1 u2=>cmpE_tc u1 u2;have sx1 := x1;have sx2 := x2;have sx3 := x3;have sx4 := x4;repeat' (first|with_reducible refine T_seq_drawT (id := 3) Γ_ok drawsAny pl74_3 (by kernel_rfl) (fun K hK=>?_)|with_reducible refine T_last_drawT (id := 3) Γ_ok drawsAny pl74_3 (by kernel_rfl) (fun K hK=>?_)|with_reducible refine T_seq_drawT (id := 5) Γ_ok drawsAny pl74_5 (by kernel_rfl) (fun K hK=>?_)|with_reducible refine T_last_drawT (id := 5) Γ_ok drawsAny pl74_5 (by kernel_rfl) (fun K hK=>?_)|with_reducible refine T_seq_drawT (id := 6) Γ_ok drawsAny pl74_6 (by kernel_rfl) (fun K hK=>?_)|with_reducible refine T_last_drawT (id := 6) Γ_ok drawsAny pl74_6 (by kernel_rfl) (fun K hK=>?_)|((have sx5 : (0 : Nat) + 0 = 0 := rfl;have sx6 : (0 : Nat) + 0 = 0 := rfl;have sx7 : (0 : Nat) + 0 = 0 := rfl;have sx8 : (0 : Nat) + 0 = 0 := rfl;have sx9 : (0 : Nat) + 0 = 0 := rfl;refine goR9 _ _ _ _ _ _ _ _ ?_ ?_ ?_ ?_ ?_ ?_ ?_ ?_) <;> (repeat intro hb) <;> first|exact True.intro|refine Lf.mk ?_)))
  · rw [← h4, sift_end (by omega)]
  · have q := ‹_ ∧ cmpE (ga e (first + (2 * root + 1))) (ga e (first + (2 * root + 1) + 1)) < 0›
    rw [← h4, sift_r0 (by omega) (by omega) (ltE_t q.2) (ltE_f hb)]
  · have q := ‹_ ∧ cmpE (ga e (first + (2 * root + 1))) (ga e (first + (2 * root + 1) + 1)) < 0›
    refine ⟨hi - (2 * root + 1 + 1),by omega,_,?_,2 * root + 1 + 1,_,by omega,rfl,(size_swp e (first + root) (first + (2 * root + 1 + 1))).trans h3,?_,rfl⟩
    · ((try simp only [List.length_append,List.length_cons,List.length_nil,Nat.zero_add]);refine Wk.intro [0] (by decide) (by decide) (by intro o ho;simp at ho ⊢ <;> omega) ?_ ?_ <;> repeat' (first|(refine WkV.imm ?_;congr 1;omega)|(exact WkV.eqF (swp_elE (by omega) (by omega) _ _) (by simp))|exact WkVL.nil|refine WkVL.cons ?_ ?_|exact WkV.top|exact WkV.imm rfl|exact WkV.imm (by simp)|exact WkV.optr rfl|exact WkV.own rfl (by simp)|exact WkV.nil_own (.inl rfl)|exact WkV.map rfl|(refine WkV.free ?_;simp [Free,FreeL] <;> assumption)|(refine WkV.free (fun _ _=>FreeL_nth ?_ _);simp [Free,FreeL];done)|refine WkV.agg ?_|refine WkV.tup ?_|refine WkV.fn ?_ ?_|exact WkO.dead|exact WkO.raw|refine WkO.ghost ?_|exact WkO.mpE rfl trivial|refine WkO.box ?_ rfl|refine WkO.arr ?_|refine And.intro ?_ (And.intro (by first|exact fun h=>h|exact fun _=>rfl|exact nofun) ?_)|exact trivial|(intro i j hi hj)))
    · rw [← h4, sift_r1 (root := root) (by omega) (by omega) (ltE_t q.2) (ltE_t hb)]
  · have q := ‹2 * (root : Int) + 1 + 1 < hi → 0 ≤ cmpE (ga e (first + (2 * root + 1))) (ga e (first + (2 * root + 1) + 1))›
    rw [← h4, sift_l0 (by omega) (fun h => ltE_f (q (by omega))) (ltE_f hb)]
  · have q := ‹2 * (root : Int) + 1 + 1 < hi → 0 ≤ cmpE (ga e (first + (2 * root + 1))) (ga e (first + (2 * root + 1) + 1))›
    refine ⟨hi - (2 * root + 1),by omega,_,?_,2 * root + 1,_,by omega,rfl,(size_swp e (first + root) (first + (2 * root + 1))).trans h3,?_,rfl⟩
    · ((try simp only [List.length_append,List.length_cons,List.length_nil,Nat.zero_add]);refine Wk.intro [0] (by decide) (by decide) (by intro o ho;simp at ho ⊢ <;> omega) ?_ ?_ <;> repeat' (first|(refine WkV.imm ?_;congr 1;omega)|(exact WkV.eqF (swp_elE (by omega) (by omega) _ _) (by simp))|exact WkVL.nil|refine WkVL.cons ?_ ?_|exact WkV.top|exact WkV.imm rfl|exact WkV.imm (by simp)|exact WkV.optr rfl|exact WkV.own rfl (by simp)|exact WkV.nil_own (.inl rfl)|exact WkV.map rfl|(refine WkV.free ?_;simp [Free,FreeL] <;> assumption)|(refine WkV.free (fun _ _=>FreeL_nth ?_ _);simp [Free,FreeL];done)|refine WkV.agg ?_|refine WkV.tup ?_|refine WkV.fn ?_ ?_|exact WkO.dead|exact WkO.raw|refine WkO.ghost ?_|exact WkO.mpE rfl trivial|refine WkO.box ?_ rfl|refine WkO.arr ?_|refine And.intro ?_ (And.intro (by first|exact fun h=>h|exact fun _=>rfl|exact nofun) ?_)|exact trivial|(intro i j hi hj)))
    · rw [← h4, sift_l1 (root := root) (by omega) (fun h => ltE_f (q (by omega))) (ltE_t hb)]
theorem sift_tu (n : Nat) (d : Array El) (hd : d.size = n) (hn : n ≤ 60000) (lo hi first : Nat) (hlo : lo ≤ 60000) (hf : first + hi ≤ n) : Turns Try.prog 74 [elV n,.imm (.int .i64 lo),.imm (.int .i64 hi),.imm (.int .i64 first),cmpF] [elO n d] (.tup []) [elO n (siftDown ltE hi first lo d)] :=
  ⟨sift_tc n d hd hn lo hi first hlo hf, by simp [VF, VFL], elO_vf _ _⟩
theorem size_sift (lt : El → El → Bool) (hi first : Nat) : ∀ (k root : Nat) (d : Array El),hi - root ≤ k → (siftDown lt hi first root d).size = d.size := by
  intro k
  induction k with
  | zero => intro root d h; rw [sift_end (by omega)]
  | succ k ih =>
    intro root d h
    rw [siftDown]
    split
    · rfl
    · split
      · split
        · rfl
        · split
          · rw [ih _ _ (by omega), size_swp]
          · rfl
      · split
        · rfl
        · rw [ih _ _ (by omega), size_swp]
end Go.Proofs.Ytgljhmnmmaclaaa
