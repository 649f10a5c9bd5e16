/-
  Parts joined: K2 K3 K4.
-/
import Derived.Test.YtmglcamgpgkblaaQGo
import Derived.Test.YtmglcamgpgkblaaQK1
import Derived.Sort.LotD4
set_option linter.unusedSimpArgs false
set_option linter.unusedVariables false
namespace Go.Proofs.Ytmglcamgpgkblaa
open Go.Ab Go.Sort
theorem sift_end {lt : El → El → Bool} {hi first root : Nat} {d : Array El} (h : 2 * root + 1 ≥ hi) : siftDown lt hi first root d = d := by
  rw [siftDown, dif_pos h]
theorem sift_r0 {lt : El → El → Bool} {hi first root : Nat} {d : Array El} (h : ¬ 2 * root + 1 ≥ hi) (h1 : 2 * root + 1 + 1 < hi) (h2 : lt d[first + (2 * root + 1)]! d[first + (2 * root + 1) + 1]! = true)
    (h3 : lt d[first + root]! d[first + (2 * root + 1 + 1)]! = false) : siftDown lt hi first root d = d := by
  rw [siftDown, dif_neg h, if_pos (by simp [h1, h2]), if_pos (by simpa using h3)]
theorem sift_r1 {lt : El → El → Bool} {hi first root : Nat} {d : Array El} (h : ¬ 2 * root + 1 ≥ hi) (h1 : 2 * root + 1 + 1 < hi) (h2 : lt d[first + (2 * root + 1)]! d[first + (2 * root + 1) + 1]! = true)
    (h3 : lt d[first + root]! d[first + (2 * root + 1 + 1)]! = true) : siftDown lt hi first root d = siftDown lt hi first (2 * root + 1 + 1) (swp d (first + root) (first + (2 * root + 1 + 1))) := by
  rw [siftDown, dif_neg h, if_pos (by simp [h1, h2]), if_neg (by simpa using h3), dif_pos (by omega)]
theorem sift_l0 {lt : El → El → Bool} {hi first root : Nat} {d : Array El} (h : ¬ 2 * root + 1 ≥ hi) (h1 : 2 * root + 1 + 1 < hi → lt d[first + (2 * root + 1)]! d[first + (2 * root + 1) + 1]! = false)
    (h3 : lt d[first + root]! d[first + (2 * root + 1)]! = false) : siftDown lt hi first root d = d := by
  rw [siftDown, dif_neg h, if_neg (by simpa using h1), if_pos (by simpa using h3)]
theorem sift_l1 {lt : El → El → Bool} {hi first root : Nat} {d : Array El} (h : ¬ 2 * root + 1 ≥ hi) (h1 : 2 * root + 1 + 1 < hi → lt d[first + (2 * root + 1)]! d[first + (2 * root + 1) + 1]! = false)
    (h3 : lt d[first + root]! d[first + (2 * root + 1)]! = true) : siftDown lt hi first root d = siftDown lt hi first (2 * root + 1) (swp d (first + root) (first + (2 * root + 1))) := by
  rw [siftDown, dif_neg h, if_neg (by simpa using h1), if_neg (by simpa using h3)]
set_option maxRecDepth 100000 in
set_option maxHeartbeats 4000000 in
theorem sift_tc (n : Nat) (d : Array El) (hd : d.size = n) (hn : n ≤ 60000) (lo hi first : Nat) (hlo : lo ≤ 60000) (hf : first + hi ≤ n) : TC Try.prog 86 [elV n,.imm (.int .i64 lo),.imm (.int .i64 hi),.imm (.int .i64 first),cmpF] [elO n d] (fun v σ'=>v = .tup [] ∧ σ' = [elO n (siftDown ltE hi first lo d)]) := by
  (refine TC_of_T Γ_ok Try.func86 rfl (by kernel_rfl) ?_;simp only [Try.ntmps86,Try.results86,List.length_cons,List.length_nil,Nat.reduceSub,Nat.reduceAdd,List.replicate,List.cons_append,List.nil_append])
  (repeat' (first|with_reducible refine T_seq_drawT (id := 3) Γ_ok drawsAny pl86_3 (by kernel_rfl) (fun K hK=>?_)|with_reducible refine T_last_drawT (id := 3) Γ_ok drawsAny pl86_3 (by kernel_rfl) (fun K hK=>?_)|with_reducible refine T_seq_drawT (id := 5) Γ_ok drawsAny pl86_5 (by kernel_rfl) (fun K hK=>?_)|with_reducible refine T_last_drawT (id := 5) Γ_ok drawsAny pl86_5 (by kernel_rfl) (fun K hK=>?_)|with_reducible refine T_seq_drawT (id := 6) Γ_ok drawsAny pl86_6 (by kernel_rfl) (fun K hK=>?_)|with_reducible refine T_last_drawT (id := 6) Γ_ok drawsAny pl86_6 (by kernel_rfl) (fun K hK=>?_)|((have sx1 := Nat.add_zero 0;refine goU1 _ _ _ _ _ _ _ _ _ _ _ _ ?_ ?_ ?_ ?_ ?_ ?_ ?_ ?_ ?_ ?_ ?_ ?_) <;> (repeat intro hb) <;> first|exact True.intro|refine Lf.mk ?_)))
  refine T_loopW (fun m st=>∃ (root : Nat) (e : Array El),root ≤ 60000 ∧ m = hi - root ∧ e.size = n ∧ siftDown ltE hi first root e = siftDown ltE hi first lo d ∧ st = ⟨[elV n,.imm (.int .i64 lo),.imm (.int .i64 hi),.imm (.int .i64 first),cmpF,.top,.top,.top,.top,.top,.imm (.int .i64 root)] ++ List.replicate 71 .top,[elO n e]⟩) (hi - lo) ⟨_,?_,lo,d,by omega,rfl,hd,rfl,rfl⟩ ?_
  · ((try simp only [List.length_append,List.length_cons,List.length_nil,Nat.zero_add]);refine Wk.intro [0] (by decide) (by decide) (by intro o ho;simp at ho ⊢ <;> omega) ?_ ?_ <;> repeat' (first|exact WkVL.nil|refine WkVL.cons ?_ ?_|exact WkV.top|exact WkV.imm rfl|exact WkV.imm (by simp)|exact WkV.optr rfl|exact WkV.own rfl (by simp)|exact WkV.nil_own (.inl rfl)|exact WkV.map rfl|(refine WkV.free ?_;simp [Free,FreeL] <;> assumption)|(refine WkV.free (fun _ _=>FreeL_nth ?_ _);simp [Free,FreeL];done)|refine WkV.agg ?_|refine WkV.tup ?_|refine WkV.fn ?_ ?_|exact WkO.dead|exact WkO.raw|refine WkO.ghost ?_|exact WkO.mpE rfl trivial|refine WkO.box ?_ rfl|refine WkO.arr ?_|refine And.intro ?_ (And.intro (by first|exact fun h=>h|exact fun _=>rfl|exact nofun) ?_)|exact trivial|(intro i j hi hj)))
  rintro m st ⟨root, e, h1, h2, h3, h4, rfl⟩
  have x1 : ((first : Int) + (2 * (root : Int) + 1)).toNat = first + (2 * root + 1) := by omega
  have x2 : ((first : Int) + (2 * (root : Int) + 1) + 1).toNat = first + (2 * root + 1) + 1 := by omega
  have x3 : ((first : Int) + (root : Int)).toNat = first + root := by omega
  have x4 : ((first : Int) + (2 * (root : Int) + 1 + 1)).toNat = first + (2 * root + 1 + 1) := by omega
  (simp only [go_sem,↓reduceIte,Nat.reduceAdd,Nat.reduceSub,Nat.reduceMul,Nat.reduceLT,Nat.reduceLeDiff,Nat.reduceEqDiff,Nat.reduceGT,Int.reduceToNat,Int.reduceBEq,Int.reduceBNe];try simp (disch := omega) only [wrapI,wrapU,half_sum,toNat_sub1,toNat_add1,Int.toNat_natCast])
  (have cl1 := fun u1 u2=>cmpE_tc u1 u2;have sx1 := And.intro x1 (And.intro x2 (And.intro x3 (x4)));repeat' (first|with_reducible refine T_seq_drawT (id := 3) Γ_ok drawsAny pl86_3 (by kernel_rfl) (fun K hK=>?_)|with_reducible refine T_last_drawT (id := 3) Γ_ok drawsAny pl86_3 (by kernel_rfl) (fun K hK=>?_)|with_reducible refine T_seq_drawT (id := 5) Γ_ok drawsAny pl86_5 (by kernel_rfl) (fun K hK=>?_)|with_reducible refine T_last_drawT (id := 5) Γ_ok drawsAny pl86_5 (by kernel_rfl) (fun K hK=>?_)|with_reducible refine T_seq_drawT (id := 6) Γ_ok drawsAny pl86_6 (by kernel_rfl) (fun K hK=>?_)|with_reducible refine T_last_drawT (id := 6) Γ_ok drawsAny pl86_6 (by kernel_rfl) (fun K hK=>?_)|((refine goU1 _ _ _ _ _ _ _ _ _ _ _ _ ?_ ?_ ?_ ?_ ?_ ?_ ?_ ?_ ?_ ?_ ?_ ?_) <;> (repeat intro hb) <;> first|exact True.intro|refine Lf.mk ?_)))
  · rw [← h4, sift_end (by omega)]
  · have q := ‹_ ∧ cmpE (ga e (first + (2 * root + 1))) (ga e (first + (2 * root + 1) + 1)) < 0›
    rw [← h4, sift_r0 (by omega) (by omega) (ltE_t q.2) (ltE_f hb)]
  · have q := ‹_ ∧ cmpE (ga e (first + (2 * root + 1))) (ga e (first + (2 * root + 1) + 1)) < 0›
    refine ⟨hi - (2 * root + 1 + 1),by omega,_,?_,2 * root + 1 + 1,_,by omega,rfl,(size_swp e (first + root) (first + (2 * root + 1 + 1))).trans h3,?_,rfl⟩
    · ((try simp only [List.length_append,List.length_cons,List.length_nil,Nat.zero_add]);refine Wk.intro [0] (by decide) (by decide) (by intro o ho;simp at ho ⊢ <;> omega) ?_ ?_ <;> repeat' (first|(refine WkV.imm ?_;congr 1;omega)|(exact WkV.eqF (swp_elE (by omega) (by omega) _ _) (by simp))|exact WkVL.nil|refine WkVL.cons ?_ ?_|exact WkV.top|exact WkV.imm rfl|exact WkV.imm (by simp)|exact WkV.optr rfl|exact WkV.own rfl (by simp)|exact WkV.nil_own (.inl rfl)|exact WkV.map rfl|(refine WkV.free ?_;simp [Free,FreeL] <;> assumption)|(refine WkV.free (fun _ _=>FreeL_nth ?_ _);simp [Free,FreeL];done)|refine WkV.agg ?_|refine WkV.tup ?_|refine WkV.fn ?_ ?_|exact WkO.dead|exact WkO.raw|refine WkO.ghost ?_|exact WkO.mpE rfl trivial|refine WkO.box ?_ rfl|refine WkO.arr ?_|refine And.intro ?_ (And.intro (by first|exact fun h=>h|exact fun _=>rfl|exact nofun) ?_)|exact trivial|(intro i j hi hj)))
    · rw [← h4, sift_r1 (root := root) (by omega) (by omega) (ltE_t q.2) (ltE_t hb)]
  · have q := ‹2 * (root : Int) + 1 + 1 < hi → 0 ≤ cmpE (ga e (first + (2 * root + 1))) (ga e (first + (2 * root + 1) + 1))›
    rw [← h4, sift_l0 (by omega) (fun h => ltE_f (q (by omega))) (ltE_f hb)]
  · have q := ‹2 * (root : Int) + 1 + 1 < hi → 0 ≤ cmpE (ga e (first + (2 * root + 1))) (ga e (first + (2 * root + 1) + 1))›
    refine ⟨hi - (2 * root + 1),by omega,_,?_,2 * root + 1,_,by omega,rfl,(size_swp e (first + root) (first + (2 * root + 1))).trans h3,?_,rfl⟩
    · ((try simp only [List.length_append,List.length_cons,List.length_nil,Nat.zero_add]);refine Wk.intro [0] (by decide) (by decide) (by intro o ho;simp at ho ⊢ <;> omega) ?_ ?_ <;> repeat' (first|(refine WkV.imm ?_;congr 1;omega)|(exact WkV.eqF (swp_elE (by omega) (by omega) _ _) (by simp))|exact WkVL.nil|refine WkVL.cons ?_ ?_|exact WkV.top|exact WkV.imm rfl|exact WkV.imm (by simp)|exact WkV.optr rfl|exact WkV.own rfl (by simp)|exact WkV.nil_own (.inl rfl)|exact WkV.map rfl|(refine WkV.free ?_;simp [Free,FreeL] <;> assumption)|(refine WkV.free (fun _ _=>FreeL_nth ?_ _);simp [Free,FreeL];done)|refine WkV.agg ?_|refine WkV.tup ?_|refine WkV.fn ?_ ?_|exact WkO.dead|exact WkO.raw|refine WkO.ghost ?_|exact WkO.mpE rfl trivial|refine WkO.box ?_ rfl|refine WkO.arr ?_|refine And.intro ?_ (And.intro (by first|exact fun h=>h|exact fun _=>rfl|exact nofun) ?_)|exact trivial|(intro i j hi hj)))
    · rw [← h4, sift_l1 (root := root) (by omega) (fun h => ltE_f (q (by omega))) (ltE_t hb)]
theorem sift_tu (n : Nat) (d : Array El) (hd : d.size = n) (hn : n ≤ 60000) (lo hi first : Nat) (hlo : lo ≤ 60000) (hf : first + hi ≤ n) : Turns Try.prog 86 [elV n,.imm (.int .i64 lo),.imm (.int .i64 hi),.imm (.int .i64 first),cmpF] [elO n d] (.tup []) [elO n (siftDown ltE hi first lo d)] :=
  ⟨sift_tc n d hd hn lo hi first hlo hf, by simp [VF, VFL], elO_vf _ _⟩
theorem size_sift (lt : El → El → Bool) (hi first : Nat) : ∀ (k root : Nat) (d : Array El),hi - root ≤ k → (siftDown lt hi first root d).size = d.size := by
  intro k
  induction k with
  | zero => intro root d h; rw [sift_end (by omega)]
  | succ k ih =>
    intro root d h
    rw [siftDown]
    split
    · rfl
    · split
      · split
        · rfl
        · split
          · rw [ih _ _ (by omega), size_swp]
          · rfl
      · split
        · rfl
        · rw [ih _ _ (by omega), size_swp]
end Go.Proofs.Ytmglcamgpgkblaa
namespace Go.Proofs.Ytmglcamgpgkblaa
open Go.Ab Go.Sort
set_option maxRecDepth 100000 in
set_option maxHeartbeats 4000000 in
theorem heap_tc (n : Nat) (d : Array El) (hd : d.size = n) (hn : n ≤ 60000) (a b : Nat) (hab : a ≤ b) (hbn : b ≤ n) : TC Try.prog 76 [elV n,.imm (.int .i64 a),.imm (.int .i64 b),cmpF] [elO n d] (fun v σ'=>v = .tup [] ∧ σ' = [elO n (heapSort ltE d a b)]) := by
  have e0 : ((b : Int) - (a : Int)) = ((b - a : Nat) : Int) := by omega
  have e1 : (IntKind.i64.wrap (((b - a : Nat) : Int) - 1)).tdiv 2 = ((((b - a - 1) / 2 + 1 : Nat) : Int) - 1) := by
    rw [wrapI (by omega) (by omega)]
    rcases Nat.eq_zero_or_pos (b - a) with h | h
    · rw [h]; rfl
    · rw [Int.tdiv_eq_ediv_of_nonneg (by omega)]; omega
  (refine TC_of_T Γ_ok Try.func76 rfl (by kernel_rfl) ?_;simp only [Try.ntmps76,Try.results76,List.length_cons,List.length_nil,Nat.reduceSub,Nat.reduceAdd,List.replicate,List.cons_append,List.nil_append])
  (have sx1 := And.intro e0 (e1);repeat' (first|with_reducible refine T_seq_drawT (id := 10) Γ_ok drawsAny pl76_10 (by kernel_rfl) (fun K hK=>?_)|with_reducible refine T_last_drawT (id := 10) Γ_ok drawsAny pl76_10 (by kernel_rfl) (fun K hK=>?_)|((refine goU1 _ _ _ _ _ _ _ _ _ _ _ _ ?_ ?_ ?_ ?_ ?_ ?_ ?_ ?_ ?_ ?_ ?_ ?_) <;> (repeat intro hb) <;> first|exact True.intro|refine Lf.mk ?_)))
  · refine T_loopW (fun m st=>∃ (k : Nat) (e : Array El),k ≤ 60000 ∧ k ≤ b - a + 1 ∧ m = k ∧ e.size = n ∧ heapBuild ltE (b - a) a k e = heapBuild ltE (b - a) a ((b - a - 1) / 2 + 1) d ∧ st = ⟨[elV n,.imm (.int .i64 a),.imm (.int .i64 b),cmpF,.top,.top,.top,.top,.imm (.int .i64 a),.imm (.int .i64 0),.imm (.int .i64 (b - a : Nat)),.imm (.int .i64 ((k : Int) - 1))] ++ List.replicate 48 .top,[elO n e]⟩) ((b - a - 1) / 2 + 1) ⟨_,?_,(b - a - 1) / 2 + 1,d,by omega,by omega,rfl,hd,rfl,rfl⟩ ?_
    · ((try simp only [List.length_append,List.length_cons,List.length_nil,Nat.zero_add]);refine Wk.intro [0] (by decide) (by decide) (by intro o ho;simp at ho ⊢ <;> omega) ?_ ?_ <;> repeat' (first|exact WkVL.nil|refine WkVL.cons ?_ ?_|exact WkV.top|exact WkV.imm rfl|exact WkV.imm (by simp)|exact WkV.optr rfl|exact WkV.own rfl (by simp)|exact WkV.nil_own (.inl rfl)|exact WkV.map rfl|(refine WkV.free ?_;simp [Free,FreeL] <;> assumption)|(refine WkV.free (fun _ _=>FreeL_nth ?_ _);simp [Free,FreeL];done)|refine WkV.agg ?_|refine WkV.tup ?_|refine WkV.fn ?_ ?_|exact WkO.dead|exact WkO.raw|refine WkO.ghost ?_|exact WkO.mpE rfl trivial|refine WkO.box ?_ rfl|refine WkO.arr ?_|refine And.intro ?_ (And.intro (by first|exact fun h=>h|exact fun _=>rfl|exact nofun) ?_)|exact trivial|(intro i j hi hj)))
    rintro k st ⟨_, e, h1, h2, rfl, h4, h5, rfl⟩
    rcases k with _ | k
    · rw [show (((0 : Nat) : Int) - 1) = -1 by rfl]
      (simp only [go_sem,↓reduceIte,Nat.reduceAdd,Nat.reduceSub,Nat.reduceMul,Nat.reduceLT,Nat.reduceLeDiff,Nat.reduceEqDiff,Nat.reduceGT,Int.reduceToNat,Int.reduceBEq,Int.reduceBNe];try simp (disch := omega) only [wrapI,wrapU,half_sum,toNat_sub1,toNat_add1,Int.toNat_natCast])
      (repeat' (first|with_reducible refine T_seq_drawT (id := 10) Γ_ok drawsAny pl76_10 (by kernel_rfl) (fun K hK=>?_)|with_reducible refine T_last_drawT (id := 10) Γ_ok drawsAny pl76_10 (by kernel_rfl) (fun K hK=>?_)|((have sx1 := Nat.add_zero 0;refine goU1 _ _ _ _ _ _ _ _ _ _ _ _ ?_ ?_ ?_ ?_ ?_ ?_ ?_ ?_ ?_ ?_ ?_ ?_) <;> (repeat intro hb) <;> first|exact True.intro|refine Lf.mk ?_)))
      refine T_loopW (fun m st=>∃ (k : Nat) (e : Array El),k ≤ b - a ∧ m = k ∧ e.size = n ∧ heapPop ltE a k e = heapSort ltE d a b ∧ st = ⟨[elV n,.imm (.int .i64 a),.imm (.int .i64 b),cmpF,.top,.top,.top,.top,.imm (.int .i64 a),.imm (.int .i64 0),.imm (.int .i64 (b - a : Nat)),.top,.imm (.int .i64 ((k : Int) - 1))] ++ List.replicate 47 .top,[elO n e]⟩) (b - a) ⟨_,?_,b - a,e,by omega,rfl,h4,?_,rfl⟩ ?_
      · ((try simp only [List.length_append,List.length_cons,List.length_nil,Nat.zero_add]);refine Wk.intro [0] (by decide) (by decide) (by intro o ho;simp at ho ⊢ <;> omega) ?_ ?_ <;> repeat' (first|exact WkVL.nil|refine WkVL.cons ?_ ?_|exact WkV.top|exact WkV.imm rfl|exact WkV.imm (by simp)|exact WkV.optr rfl|exact WkV.own rfl (by simp)|exact WkV.nil_own (.inl rfl)|exact WkV.map rfl|(refine WkV.free ?_;simp [Free,FreeL] <;> assumption)|(refine WkV.free (fun _ _=>FreeL_nth ?_ _);simp [Free,FreeL];done)|refine WkV.agg ?_|refine WkV.tup ?_|refine WkV.fn ?_ ?_|exact WkO.dead|exact WkO.raw|refine WkO.ghost ?_|exact WkO.mpE rfl trivial|refine WkO.box ?_ rfl|refine WkO.arr ?_|refine And.intro ?_ (And.intro (by first|exact fun h=>h|exact fun _=>rfl|exact nofun) ?_)|exact trivial|(intro i j hi hj)))
      · unfold heapSort; rw [← h5]; rfl
      clear h5 h4 h1 h2 e
      rintro k st ⟨_, e, h1, rfl, h4, h5, rfl⟩
      rcases k with _ | k
      · rw [show (((0 : Nat) : Int) - 1) = -1 by rfl]
        (simp only [go_sem,↓reduceIte,Nat.reduceAdd,Nat.reduceSub,Nat.reduceMul,Nat.reduceLT,Nat.reduceLeDiff,Nat.reduceEqDiff,Nat.reduceGT,Int.reduceToNat,Int.reduceBEq,Int.reduceBNe];try simp (disch := omega) only [wrapI,wrapU,half_sum,toNat_sub1,toNat_add1,Int.toNat_natCast])
        (repeat' (first|with_reducible refine T_seq_drawT (id := 10) Γ_ok drawsAny pl76_10 (by kernel_rfl) (fun K hK=>?_)|with_reducible refine T_last_drawT (id := 10) Γ_ok drawsAny pl76_10 (by kernel_rfl) (fun K hK=>?_)|((have sx1 := Nat.add_zero 0;refine goU1 _ _ _ _ _ _ _ _ _ _ _ _ ?_ ?_ ?_ ?_ ?_ ?_ ?_ ?_ ?_ ?_ ?_ ?_) <;> (repeat intro hb) <;> first|exact True.intro|refine Lf.mk ?_)))
        rw [← h5]; rfl
      · rw [show (((k + 1 : Nat) : Int) - 1) = (k : Int) by omega]
        have x1 : ((a : Int) + (k : Int)).toNat = a + k := by omega
        have hs := (size_swp e a (a + k)).trans h4
        have hq : ∀ p q,updE (updE (elE e) a 0 (elL (ga e (a + k)))) (a + k) 0 (elL (ga e a)) p q = elE (swp e a (a + k)) p q := fun p q => swp_elE (by omega) (by omega) p q
        have hq' := funext fun p => funext fun q => hq p q
        simp only [elL] at hq'
        (simp only [go_sem,↓reduceIte,Nat.reduceAdd,Nat.reduceSub,Nat.reduceMul,Nat.reduceLT,Nat.reduceLeDiff,Nat.reduceEqDiff,Nat.reduceGT,Int.reduceToNat,Int.reduceBEq,Int.reduceBNe];try simp (disch := omega) only [wrapI,wrapU,half_sum,toNat_sub1,toNat_add1,Int.toNat_natCast])
        (have ct1 := TurnsAt.mk [0] (sift_tu n (swp e a (a + k)) hs hn 0 k a (by omega) (by omega));have sx1 := And.intro x1 (hq');repeat' (first|with_reducible refine T_seq_drawT (id := 10) Γ_ok drawsAny pl76_10 (by kernel_rfl) (fun K hK=>?_)|with_reducible refine T_last_drawT (id := 10) Γ_ok drawsAny pl76_10 (by kernel_rfl) (fun K hK=>?_)|((refine goU1 _ _ _ _ _ _ _ _ _ _ _ _ ?_ ?_ ?_ ?_ ?_ ?_ ?_ ?_ ?_ ?_ ?_ ?_) <;> (repeat intro hb) <;> first|exact True.intro|refine Lf.mk ?_)))
        refine ⟨k, by omega, _, ?_, k, _, by omega, rfl, (size_sift _ _ _ k 0 _ (by omega)).trans hs, h5, rfl⟩
        ((try simp only [List.length_append,List.length_cons,List.length_nil,Nat.zero_add]);refine Wk.intro [0] (by decide) (by decide) (by intro o ho;simp at ho ⊢ <;> omega) ?_ ?_ <;> repeat' (first|exact WkVL.nil|refine WkVL.cons ?_ ?_|exact WkV.top|exact WkV.imm rfl|exact WkV.imm (by simp)|exact WkV.optr rfl|exact WkV.own rfl (by simp)|exact WkV.nil_own (.inl rfl)|exact WkV.map rfl|(refine WkV.free ?_;simp [Free,FreeL] <;> assumption)|(refine WkV.free (fun _ _=>FreeL_nth ?_ _);simp [Free,FreeL];done)|refine WkV.agg ?_|refine WkV.tup ?_|refine WkV.fn ?_ ?_|exact WkO.dead|exact WkO.raw|refine WkO.ghost ?_|exact WkO.mpE rfl trivial|refine WkO.box ?_ rfl|refine WkO.arr ?_|refine And.intro ?_ (And.intro (by first|exact fun h=>h|exact fun _=>rfl|exact nofun) ?_)|exact trivial|(intro i j hi hj)))
    · rw [show (((k + 1 : Nat) : Int) - 1) = (k : Int) by omega]
      (simp only [go_sem,↓reduceIte,Nat.reduceAdd,Nat.reduceSub,Nat.reduceMul,Nat.reduceLT,Nat.reduceLeDiff,Nat.reduceEqDiff,Nat.reduceGT,Int.reduceToNat,Int.reduceBEq,Int.reduceBNe];try simp (disch := omega) only [wrapI,wrapU,half_sum,toNat_sub1,toNat_add1,Int.toNat_natCast])
      (have ct1 := TurnsAt.mk [0] (sift_tu n e h4 hn k (b - a) a (by omega) (by omega));repeat' (first|with_reducible refine T_seq_drawT (id := 10) Γ_ok drawsAny pl76_10 (by kernel_rfl) (fun K hK=>?_)|with_reducible refine T_last_drawT (id := 10) Γ_ok drawsAny pl76_10 (by kernel_rfl) (fun K hK=>?_)|((have sx1 := Nat.add_zero 0;refine goU1 _ _ _ _ _ _ _ _ _ _ _ _ ?_ ?_ ?_ ?_ ?_ ?_ ?_ ?_ ?_ ?_ ?_ ?_) <;> (repeat intro hb) <;> first|exact True.intro|refine Lf.mk ?_)))
      refine ⟨k,by omega,_,?_,k,_,by omega,by omega,rfl,(size_sift _ _ _ (b - a) k _ (by omega)).trans h4,h5,rfl⟩
      ((try simp only [List.length_append,List.length_cons,List.length_nil,Nat.zero_add]);refine Wk.intro [0] (by decide) (by decide) (by intro o ho;simp at ho ⊢ <;> omega) ?_ ?_ <;> repeat' (first|exact WkVL.nil|refine WkVL.cons ?_ ?_|exact WkV.top|exact WkV.imm rfl|exact WkV.imm (by simp)|exact WkV.optr rfl|exact WkV.own rfl (by simp)|exact WkV.nil_own (.inl rfl)|exact WkV.map rfl|(refine WkV.free ?_;simp [Free,FreeL] <;> assumption)|(refine WkV.free (fun _ _=>FreeL_nth ?_ _);simp [Free,FreeL];done)|refine WkV.agg ?_|refine WkV.tup ?_|refine WkV.fn ?_ ?_|exact WkO.dead|exact WkO.raw|refine WkO.ghost ?_|exact WkO.mpE rfl trivial|refine WkO.box ?_ rfl|refine WkO.arr ?_|refine And.intro ?_ (And.intro (by first|exact fun h=>h|exact fun _=>rfl|exact nofun) ?_)|exact trivial|(intro i j hi hj)))
theorem heap_tu (n : Nat) (d : Array El) (hd : d.size = n) (hn : n ≤ 60000) (a b : Nat) (hab : a ≤ b) (hbn : b ≤ n) : Turns Try.prog 76 [elV n,.imm (.int .i64 a),.imm (.int .i64 b),cmpF] [elO n d] (.tup []) [elO n (heapSort ltE d a b)] :=
  ⟨heap_tc n d hd hn a b hab hbn, by simp [VF, VFL], elO_vf _ _⟩
set_option maxRecDepth 100000 in
set_option maxHeartbeats 4000000 in
theorem reverse_tc (n : Nat) (d : Array El) (hd : d.size = n) (hn : n ≤ 60000) (a b : Nat) (hab : a < b) (hbn : b ≤ n) : TC Try.prog 79 [elV n,.imm (.int .i64 a),.imm (.int .i64 b),cmpF] [elO n d] (fun v σ'=>v = .tup [] ∧ σ' = [elO n (reverseRange d a b)]) := by
  (refine TC_of_T Γ_ok Try.func79 rfl (by kernel_rfl) ?_;simp only [Try.ntmps79,Try.results79,List.length_cons,List.length_nil,Nat.reduceSub,Nat.reduceAdd,List.replicate,List.cons_append,List.nil_append])
  (repeat' (first|with_reducible refine T_seq_drawT (id := 3) Γ_ok drawsAny pl79_3 (by kernel_rfl) (fun K hK=>?_)|with_reducible refine T_last_drawT (id := 3) Γ_ok drawsAny pl79_3 (by kernel_rfl) (fun K hK=>?_)|((have sx1 := Nat.add_zero 0;refine goU1 _ _ _ _ _ _ _ _ _ _ _ _ ?_ ?_ ?_ ?_ ?_ ?_ ?_ ?_ ?_ ?_ ?_ ?_) <;> (repeat intro hb) <;> first|exact True.intro|refine Lf.mk ?_)))
  refine T_loopW (fun m st=>∃ (i j : Nat) (e : Array El),i ≤ 60000 ∧ i ≤ j + 1 ∧ j < n ∧ m = j + 1 - i ∧ e.size = n ∧ reverseLoop i j e = reverseLoop a (b - 1) d ∧ st = ⟨[elV n,.imm (.int .i64 a),.imm (.int .i64 b),cmpF,.top,.top,.top,.top,.imm (.int .i64 i),.imm (.int .i64 j)] ++ List.replicate 24 .top,[elO n e]⟩) (b - a) ⟨_,?_,a,b - 1,d,by omega,by omega,by omega,by omega,hd,rfl,rfl⟩ ?_
  · ((try simp only [List.length_append,List.length_cons,List.length_nil,Nat.zero_add]);refine Wk.intro [0] (by decide) (by decide) (by intro o ho;simp at ho ⊢ <;> omega) ?_ ?_ <;> repeat' (first|(refine WkV.imm ?_;congr 1;omega)|exact WkVL.nil|refine WkVL.cons ?_ ?_|exact WkV.top|exact WkV.imm rfl|exact WkV.imm (by simp)|exact WkV.optr rfl|exact WkV.own rfl (by simp)|exact WkV.nil_own (.inl rfl)|exact WkV.map rfl|(refine WkV.free ?_;simp [Free,FreeL] <;> assumption)|(refine WkV.free (fun _ _=>FreeL_nth ?_ _);simp [Free,FreeL];done)|refine WkV.agg ?_|refine WkV.tup ?_|refine WkV.fn ?_ ?_|exact WkO.dead|exact WkO.raw|refine WkO.ghost ?_|exact WkO.mpE rfl trivial|refine WkO.box ?_ rfl|refine WkO.arr ?_|refine And.intro ?_ (And.intro (by first|exact fun h=>h|exact fun _=>rfl|exact nofun) ?_)|exact trivial|(intro i j hi hj)))
  rintro m st ⟨i, j, e, h1, h2, h3, h4, h5, h6, rfl⟩
  (simp only [go_sem,↓reduceIte,Nat.reduceAdd,Nat.reduceSub,Nat.reduceMul,Nat.reduceLT,Nat.reduceLeDiff,Nat.reduceEqDiff,Nat.reduceGT,Int.reduceToNat,Int.reduceBEq,Int.reduceBNe];try simp (disch := omega) only [wrapI,wrapU,half_sum,toNat_sub1,toNat_add1,Int.toNat_natCast])
  (repeat' (first|with_reducible refine T_seq_drawT (id := 3) Γ_ok drawsAny pl79_3 (by kernel_rfl) (fun K hK=>?_)|with_reducible refine T_last_drawT (id := 3) Γ_ok drawsAny pl79_3 (by kernel_rfl) (fun K hK=>?_)|((have sx1 := Nat.add_zero 0;refine goU1 _ _ _ _ _ _ _ _ _ _ _ _ ?_ ?_ ?_ ?_ ?_ ?_ ?_ ?_ ?_ ?_ ?_ ?_) <;> (repeat intro hb) <;> first|exact True.intro|refine Lf.mk ?_)))
  · refine ⟨j - 1 + 1 - (i + 1),by omega,_,?_,i + 1,j - 1,swp e i j,by omega,by omega,by omega,rfl,(size_swp e i j).trans h5,?_,rfl⟩
    · ((try simp only [List.length_append,List.length_cons,List.length_nil,Nat.zero_add]);refine Wk.intro [0] (by decide) (by decide) (by intro o ho;simp at ho ⊢ <;> omega) ?_ ?_ <;> repeat' (first|(refine WkV.imm ?_;congr 1;omega)|(exact WkV.eqF (swp_elE (by omega) (by omega) _ _) (by simp))|exact WkVL.nil|refine WkVL.cons ?_ ?_|exact WkV.top|exact WkV.imm rfl|exact WkV.imm (by simp)|exact WkV.optr rfl|exact WkV.own rfl (by simp)|exact WkV.nil_own (.inl rfl)|exact WkV.map rfl|(refine WkV.free ?_;simp [Free,FreeL] <;> assumption)|(refine WkV.free (fun _ _=>FreeL_nth ?_ _);simp [Free,FreeL];done)|refine WkV.agg ?_|refine WkV.tup ?_|refine WkV.fn ?_ ?_|exact WkO.dead|exact WkO.raw|refine WkO.ghost ?_|exact WkO.mpE rfl trivial|refine WkO.box ?_ rfl|refine WkO.arr ?_|refine And.intro ?_ (And.intro (by first|exact fun h=>h|exact fun _=>rfl|exact nofun) ?_)|exact trivial|(intro i j hi hj)))
    · rw [← h6, reverseLoop.eq_1 i j, if_pos (by omega)]
  · rw [reverseLoop, if_neg (by omega)] at h6
    rw [reverseRange, ← h6]
theorem reverse_tu (n : Nat) (d : Array El) (hd : d.size = n) (hn : n ≤ 60000) (a b : Nat) (hab : a < b) (hbn : b ≤ n) : Turns Try.prog 79 [elV n,.imm (.int .i64 a),.imm (.int .i64 b),cmpF] [elO n d] (.tup []) [elO n (reverseRange d a b)] :=
  ⟨reverse_tc n d hd hn a b hab hbn, by simp [VF, VFL], elO_vf _ _⟩
end Go.Proofs.Ytmglcamgpgkblaa
namespace Go.Proofs.Ytmglcamgpgkblaa
open Go.Ab Go.Sort
@[go_sem, reducible] def swB (s : Nat) : AObj := .box 3 [.imm (.int .i64 s)]
@[go_sem, reducible] def swP : AV := .optr 1 0 0
theorem sw_vf (n : Nat) (d : Array El) (s : Nat) : ∀ a ∈ [elO n d, swB s], VFO a := fun a ha => by
  simp only [List.mem_cons, List.not_mem_nil, or_false] at ha
  rcases ha with rfl | rfl
  · exact fun i j => elE_pl d i j
  · simp [VFO, VFL, VF]
theorem order2_y {lt : El → El → Bool} {d : Array El} {a b s : Nat} (h : lt d[b]! d[a]! = true) : order2 lt d a b s = (b,a,s + 1) := if_pos h
theorem order2_n {lt : El → El → Bool} {d : Array El} {a b s : Nat} (h : lt d[b]! d[a]! = false) : order2 lt d a b s = (a,b,s) := by unfold order2;rw [h];rfl
set_option maxRecDepth 100000 in
set_option maxHeartbeats 4000000 in
theorem order2_tc (n : Nat) (d : Array El) (hd : d.size = n) (a b s : Nat) (ha : a < n) (hb' : b < n) (hs : s ≤ 60000) : TC Try.prog 91 [elV n,.imm (.int .i64 a),.imm (.int .i64 b),swP,cmpF] [elO n d,swB s]
    (fun v σ' => v = .tup [.imm (.int .i64 (order2 ltE d a b s).1),.imm (.int .i64 (order2 ltE d a b s).2.1)] ∧ σ' = [elO n d,swB (order2 ltE d a b s).2.2]) := by
  by_cases hq : cmpE (ga d b) (ga d a) < 0
  · rw [order2_y (ltE_t hq)]
    (refine TC_of_T Γ_ok Try.func91 rfl (by kernel_rfl) ?_;simp only [Try.ntmps91,Try.results91,List.length_cons,List.length_nil,Nat.reduceSub,Nat.reduceAdd,List.replicate,List.cons_append,List.nil_append])
    (have cl1 := cmpE_tc (ga d b) (ga d a);repeat' (first|with_reducible refine T_seq_drawT (id := 1) Γ_ok drawsAny pl91_1 (by kernel_rfl) (fun K hK=>?_)|with_reducible refine T_last_drawT (id := 1) Γ_ok drawsAny pl91_1 (by kernel_rfl) (fun K hK=>?_)|((have sx1 := Nat.add_zero 0;refine goU1 _ _ _ _ _ _ _ _ _ _ _ _ ?_ ?_ ?_ ?_ ?_ ?_ ?_ ?_ ?_ ?_ ?_ ?_) <;> (repeat intro hb) <;> first|exact True.intro|refine Lf.mk ?_)))
    exact congrArg (fun z : Int => [elO n d, .box 3 [.imm (.int .i64 z)]]) (by omega)
  · rw [order2_n (ltE_f (Int.not_lt.1 hq))]
    (refine TC_of_T Γ_ok Try.func91 rfl (by kernel_rfl) ?_;simp only [Try.ntmps91,Try.results91,List.length_cons,List.length_nil,Nat.reduceSub,Nat.reduceAdd,List.replicate,List.cons_append,List.nil_append])
    (have cl1 := cmpE_tc (ga d b) (ga d a);repeat' (first|with_reducible refine T_seq_drawT (id := 1) Γ_ok drawsAny pl91_1 (by kernel_rfl) (fun K hK=>?_)|with_reducible refine T_last_drawT (id := 1) Γ_ok drawsAny pl91_1 (by kernel_rfl) (fun K hK=>?_)|((have sx1 := Nat.add_zero 0;refine goU1 _ _ _ _ _ _ _ _ _ _ _ _ ?_ ?_ ?_ ?_ ?_ ?_ ?_ ?_ ?_ ?_ ?_ ?_) <;> (repeat intro hb) <;> first|exact True.intro|refine Lf.mk ?_)))
theorem order2_tu (n : Nat) (d : Array El) (hd : d.size = n) (a b s : Nat) (ha : a < n) (hb' : b < n) (hs : s ≤ 60000) : Turns Try.prog 91 [elV n,.imm (.int .i64 a),.imm (.int .i64 b),swP,cmpF] [elO n d,swB s]
    (.tup [.imm (.int .i64 (order2 ltE d a b s).1),.imm (.int .i64 (order2 ltE d a b s).2.1)]) [elO n d,swB (order2 ltE d a b s).2.2] :=
  ⟨order2_tc n d hd a b s ha hb' hs, by simp [VF, VFL], sw_vf _ _ _⟩
set_option maxRecDepth 100000 in
set_option maxHeartbeats 4000000 in
theorem median_tc (n : Nat) (d : Array El) (hd : d.size = n) (a b c s : Nat) (ha : a < n) (hb' : b < n) (hc : c < n) (hs : s ≤ 50000) : TC Try.prog 90 [elV n,.imm (.int .i64 a),.imm (.int .i64 b),.imm (.int .i64 c),swP,cmpF] [elO n d,swB s]
    (fun v σ' => v = .imm (.int .i64 (median ltE d a b c s).1) ∧ σ' = [elO n d, swB (median ltE d a b c s).2]) := by
  have m1 := order2_mem ltE d a b s
  have k1 := order2_count (lt := ltE) d a b s
  have m2 := order2_mem ltE d (order2 ltE d a b s).2.1 c (order2 ltE d a b s).2.2
  have k2 := order2_count (lt := ltE) d (order2 ltE d a b s).2.1 c (order2 ltE d a b s).2.2
  rw [show median ltE d a b c s = ((order2 ltE d (order2 ltE d a b s).1 (order2 ltE d (order2 ltE d a b s).2.1 c (order2 ltE d a b s).2.2).1 (order2 ltE d (order2 ltE d a b s).2.1 c (order2 ltE d a b s).2.2).2.2).2.1,
    (order2 ltE d (order2 ltE d a b s).1 (order2 ltE d (order2 ltE d a b s).2.1 c (order2 ltE d a b s).2.2).1 (order2 ltE d (order2 ltE d a b s).2.1 c (order2 ltE d a b s).2.2).2.2).2.2) from rfl]
  (refine TC_of_T Γ_ok Try.func90 rfl (by kernel_rfl) ?_;simp only [Try.ntmps90,Try.results90,List.length_cons,List.length_nil,Nat.reduceSub,Nat.reduceAdd,List.replicate,List.cons_append,List.nil_append])
  (have ct1 := fun u1 u2 u3 u4 u5 u6=>TurnsAt.mk [0,1] (order2_tu n d hd u1 u2 u3 u4 u5 u6);((have sx1 := Nat.add_zero 0;refine goU1 _ _ _ _ _ _ _ _ _ _ _ _ ?_ ?_ ?_ ?_ ?_ ?_ ?_ ?_ ?_ ?_ ?_ ?_) <;> (repeat intro hb) <;> first|exact True.intro|refine Lf.mk ?_))
theorem median_tu (n : Nat) (d : Array El) (hd : d.size = n) (a b c s : Nat) (ha : a < n) (hb' : b < n) (hc : c < n) (hs : s ≤ 50000) : Turns Try.prog 90 [elV n,.imm (.int .i64 a),.imm (.int .i64 b),.imm (.int .i64 c),swP,cmpF] [elO n d,swB s]
    (.imm (.int .i64 (median ltE d a b c s).1)) [elO n d, swB (median ltE d a b c s).2] :=
  ⟨median_tc n d hd a b c s ha hb' hc hs, by simp [VF], sw_vf _ _ _⟩
set_option maxRecDepth 100000 in
set_option maxHeartbeats 4000000 in
theorem medianA_tc (n : Nat) (d : Array El) (hd : d.size = n) (hn : n ≤ 60000) (a s : Nat) (ha : 1 ≤ a) (hb' : a + 1 < n) (hs : s ≤ 50000) : TC Try.prog 89 [elV n,.imm (.int .i64 a),swP,cmpF] [elO n d,swB s]
    (fun v σ' => v = .imm (.int .i64 (medianAdjacent ltE d a s).1) ∧ σ' = [elO n d,swB (medianAdjacent ltE d a s).2]) := by
  have c1 := median_tu n d hd (a - 1) a (a + 1) s (by omega) (by omega) (by omega) hs
  rw [show ((a - 1 : Nat) : Int) = (a : Int) - 1 by omega, show ((a + 1 : Nat) : Int) = (a : Int) + 1 by omega] at c1
  rw [show medianAdjacent ltE d a s = median ltE d (a - 1) a (a + 1) s from rfl]
  (refine TC_of_T Γ_ok Try.func89 rfl (by kernel_rfl) ?_;simp only [Try.ntmps89,Try.results89,List.length_cons,List.length_nil,Nat.reduceSub,Nat.reduceAdd,List.replicate,List.cons_append,List.nil_append])
  (have ct1 := TurnsAt.mk [0,1] (c1);((have sx1 := Nat.add_zero 0;refine goU1 _ _ _ _ _ _ _ _ _ _ _ _ ?_ ?_ ?_ ?_ ?_ ?_ ?_ ?_ ?_ ?_ ?_ ?_) <;> (repeat intro hb) <;> first|exact True.intro|refine Lf.mk ?_))
theorem medianA_tu (n : Nat) (d : Array El) (hd : d.size = n) (hn : n ≤ 60000) (a s : Nat) (ha : 1 ≤ a) (hb' : a + 1 < n) (hs : s ≤ 50000) : Turns Try.prog 89 [elV n,.imm (.int .i64 a),swP,cmpF] [elO n d,swB s]
    (.imm (.int .i64 (medianAdjacent ltE d a s).1)) [elO n d, swB (medianAdjacent ltE d a s).2] :=
  ⟨medianA_tc n d hd hn a s ha hb' hs, by simp [VF], sw_vf _ _ _⟩
theorem medianI_tu (n : Nat) (d : Array El) (hd : d.size = n) (A B C S : Int) (ha : 0 ≤ A ∧ A < n) (hb' : 0 ≤ B ∧ B < n) (hc : 0 ≤ C ∧ C < n) (hs : 0 ≤ S ∧ S ≤ 50000) : Turns Try.prog 90 [elV n,.imm (.int .i64 A),.imm (.int .i64 B),.imm (.int .i64 C),swP,cmpF] [elO n d,.box 3 [.imm (.int .i64 S)]]
    (.imm (.int .i64 (median ltE d A.toNat B.toNat C.toNat S.toNat).1)) [elO n d,swB (median ltE d A.toNat B.toNat C.toNat S.toNat).2] := by
  have h := median_tu n d hd A.toNat B.toNat C.toNat S.toNat (by omega) (by omega) (by omega) (by omega)
  rw [Int.toNat_of_nonneg ha.1, Int.toNat_of_nonneg hb'.1, Int.toNat_of_nonneg hc.1] at h
  simp only [swB, Int.toNat_of_nonneg hs.1] at h
  exact h
theorem medianAI_tu (n : Nat) (d : Array El) (hd : d.size = n) (hn : n ≤ 60000) (A S : Int) (ha : 1 ≤ A ∧ A + 1 < n) (hs : 0 ≤ S ∧ S ≤ 50000) : Turns Try.prog 89 [elV n,.imm (.int .i64 A),swP,cmpF] [elO n d,.box 3 [.imm (.int .i64 S)]]
    (.imm (.int .i64 (medianAdjacent ltE d A.toNat S.toNat).1)) [elO n d,swB (medianAdjacent ltE d A.toNat S.toNat).2] := by
  have h := medianA_tu n d hd hn A.toNat S.toNat (by omega) (by omega) (by omega)
  rw [Int.toNat_of_nonneg (by omega : 0 ≤ A)] at h
  simp only [swB, Int.toNat_of_nonneg hs.1] at h
  exact h
theorem hint_e {s : Nat} (h : s ≠ 0) (h2 : s ≠ 12) : hintCode (hintOf s) = 0 := by unfold hintOf;rw [if_neg h,if_neg h2];rfl
set_option maxRecDepth 100000 in
set_option maxHeartbeats 4000000 in
theorem choose_raw (n : Nat) (d : Array El) (hd : d.size = n) (hn : n ≤ 60000) (a b : Nat) (hab : 12 < b - a) (hbn : b ≤ n) : TC Try.prog 78 [elV n,.imm (.int .i64 a),.imm (.int .i64 b),cmpF] [elO n d]
    (fun v σ' => ∃ x,v = .tup [.imm (.int .i64 (choosePivot ltE d a b).1),.imm (.int .i64 (hintCode (choosePivot ltE d a b).2))] ∧ σ' = [elO n d,x]) := by
  have e0 : ((b : Int) - (a : Int)) = ((b - a : Nat) : Int) := by omega
  have e1 : (((b - a : Nat) : Int)).tdiv 4 = (((b - a) / 4 : Nat) : Int) := by rw [Int.tdiv_eq_ediv_of_nonneg (by omega)];omega
  have x1 : ((a : Int) + (((b - a) / 4 : Nat) : Int) * 1).toNat = a + (b - a) / 4 * 1 := by omega
  have x2 : ((a : Int) + (((b - a) / 4 : Nat) : Int) * 2).toNat = a + (b - a) / 4 * 2 := by omega
  have x3 : ((a : Int) + (((b - a) / 4 : Nat) : Int) * 3).toNat = a + (b - a) / 4 * 3 := by omega
  rw [choosePivot_eq]
  by_cases h50 : b - a ≥ 50
  · generalize h1 : medianAdjacent ltE d (a + (b - a) / 4 * 1) 0 = r1
    generalize h2 : medianAdjacent ltE d (a + (b - a) / 4 * 2) r1.2 = r2
    generalize h3 : medianAdjacent ltE d (a + (b - a) / 4 * 3) r2.2 = r3
    generalize h4 : median ltE d r1.1 r2.1 r3.1 r3.2 = q
    have er : rawPivot ltE d a b = q := by
      unfold rawPivot; rw [if_pos (by omega), if_pos h50]; rw [h1, h2, h3, h4]
    rw [er]
    have m1 := medianAdjacent_mem ltE d (a + (b - a) / 4 * 1) 0
    have m2 := medianAdjacent_mem ltE d (a + (b - a) / 4 * 2) r1.2
    have m3 := medianAdjacent_mem ltE d (a + (b - a) / 4 * 3) r2.2
    have k1 := medianAdjacent_count (lt := ltE) d (a + (b - a) / 4 * 1) 0
    have k2 := medianAdjacent_count (lt := ltE) d (a + (b - a) / 4 * 2) r1.2
    have k3 := medianAdjacent_count (lt := ltE) d (a + (b - a) / 4 * 3) r2.2
    rw [h1] at m1 k1
    rw [h2] at m2 k2
    rw [h3] at m3 k3
    (refine TC_of_T Γ_ok Try.func78 rfl (by kernel_rfl) ?_;simp only [Try.ntmps78,Try.results78,List.length_cons,List.length_nil,Nat.reduceSub,Nat.reduceAdd,List.replicate,List.cons_append,List.nil_append])
    (have ct1 := fun u1 u2 u3 u4=>TurnsAt.mk [0,1] (medianAI_tu n d hd hn u1 u2 u3 u4);have ct2 := fun u1 u2 u3 u4 u5 u6 u7 u8=>TurnsAt.mk [0,1] (medianI_tu n d hd u1 u2 u3 u4 u5 u6 u7 u8);have sx1 := And.intro e0 (And.intro e1 (And.intro x1 (And.intro x2 (And.intro x3 (And.intro h1 (And.intro h2 (And.intro h3 (h4))))))));((refine goU1 _ _ _ _ _ _ _ _ _ _ _ _ ?_ ?_ ?_ ?_ ?_ ?_ ?_ ?_ ?_ ?_ ?_ ?_) <;> (repeat intro hb) <;> first|exact True.intro|refine Lf.mk ?_))
    · exact ⟨_, by rw [show q.2 = 0 by omega]; rfl, rfl⟩
    · exact ⟨_, by rw [show q.2 = 12 by omega]; rfl, rfl⟩
    · exact ⟨_, by rw [hint_e (s := q.2) (by omega) (by omega)], rfl⟩
  · have er : rawPivot ltE d a b = median ltE d (a + (b - a) / 4 * 1) (a + (b - a) / 4 * 2) (a + (b - a) / 4 * 3) 0 := by
      unfold rawPivot; rw [if_pos (by omega), if_neg h50]
    rw [er]
    generalize hm : median ltE d (a + (b - a) / 4 * 1) (a + (b - a) / 4 * 2) (a + (b - a) / 4 * 3) 0 = q at *
    (refine TC_of_T Γ_ok Try.func78 rfl (by kernel_rfl) ?_;simp only [Try.ntmps78,Try.results78,List.length_cons,List.length_nil,Nat.reduceSub,Nat.reduceAdd,List.replicate,List.cons_append,List.nil_append])
    (have ct1 := fun u1 u2 u3 u4 u5 u6 u7 u8=>TurnsAt.mk [0,1] (medianI_tu n d hd u1 u2 u3 u4 u5 u6 u7 u8);have sx1 := And.intro e0 (And.intro e1 (And.intro x1 (And.intro x2 (And.intro x3 (hm)))));((refine goU1 _ _ _ _ _ _ _ _ _ _ _ _ ?_ ?_ ?_ ?_ ?_ ?_ ?_ ?_ ?_ ?_ ?_ ?_) <;> (repeat intro hb) <;> first|exact True.intro|refine Lf.mk ?_))
    · exact ⟨_, by rw [show q.2 = 0 by omega]; rfl, rfl⟩
    · exact ⟨_, by rw [show q.2 = 12 by omega]; rfl, rfl⟩
    · exact ⟨_, by rw [hint_e (s := q.2) (by omega) (by omega)], rfl⟩
theorem choose_tu (n : Nat) (d : Array El) (hd : d.size = n) (hn : n ≤ 60000) (a b : Nat) (hab : 12 < b - a) (hbn : b ≤ n) : Turns Try.prog 78 [elV n,.imm (.int .i64 a),.imm (.int .i64 b),cmpF] [elO n d]
    (.tup [.imm (.int .i64 (choosePivot ltE d a b).1),.imm (.int .i64 (hintCode (choosePivot ltE d a b).2))]) [elO n d,.dead] := by
  refine ⟨?_,by simp [VF,VFL],fun a ha => by simp only [List.mem_cons,List.not_mem_nil,or_false] at ha;rcases ha with rfl | rfl;exact fun i j => elE_pl d i j;exact trivial⟩
  refine (choose_raw n d hd hn a b hab hbn).weak fun v σ' ⟨x,hv,hs⟩ => ⟨[0,1],_,_,by simp [List.range_succ],by simp,by simp [hs],?_,?_,rfl,rfl⟩
  · rw [hv]; exact WkV.tup (WkVL.cons (WkV.imm rfl) (WkVL.cons (WkV.imm rfl) WkVL.nil))
  · rw [hs]
    exact ⟨WkO.arr (fun i j _ _ => WkV.free (elE_free d i j)), fun h => h, WkO.dead, fun h => (nomatch h), trivial⟩
end Go.Proofs.Ytmglcamgpgkblaa
