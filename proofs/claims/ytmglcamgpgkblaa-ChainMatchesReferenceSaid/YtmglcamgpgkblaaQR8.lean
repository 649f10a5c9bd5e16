/-
  The reference's back.
-/
import Derived.Test.YtmglcamgpgkblaaQGo
import Derived.Test.YtmglcamgpgkblaaQS4
import Derived.Test.YtmglcamgpgkblaaQB11
set_option linter.unusedSimpArgs false
set_option linter.unusedVariables false
namespace Go.Proofs.Ytmglcamgpgkblaa
open Go.Ab
def wsE (T : Nat → List P6) (i _j : Nat) : AV := vts (T i)
@[go_sem] theorem wsE_us (T : Nat → List P6) (i j : Nat) : wsE T i j = vts (T i) := rfl
@[simp] theorem wsE_free (T : Nat → List P6) (i j : Nat) : Free (wsE T i j) := by simp [wsE, Free]
@[go_sem, reducible] def wsO (n : Nat) (T : Nat → List P6) : AObj := .arr 100 1 n (wsE T)
@[go_sem, reducible] def wsV (n : Nat) (T : Nat → List P6) : AV := .view n 1 (wsE T)
theorem ws_upd (U : Nat → List P6) (n : Nat) (R : List P6) {p q : Nat} (hq : q < 1) : updE (wsE U) n 0 [vts R] p q = wsE (updT U n R) p q := by
  unfold updE
  obtain rfl : q = 0 := by omega
  by_cases hp : p = n
  · subst hp
    rw [if_pos (by simp)]
    simp [wsE, updT, nth]
  · rw [if_neg (by omega)]
    simp [wsE, updT, hp]
theorem ws_upd2 (U : Nat → List P6) (n : Nat) (a : AV) (R : List P6) {p q : Nat} (hq : q < 1) : updE (updE (wsE U) n 0 [a]) n 0 [vts R] p q = wsE (updT U n R) p q := by
  rw [← ws_upd U n R hq]
  unfold updE
  split
  · rfl
  · rename_i h
    simp only [List.length_cons, List.length_nil] at h ⊢
    rw [if_neg h]
theorem ws_nil {π : List Nat} {σ : List AObj} (s : Sc) (T : Nat → List P6) {i j : Nat} (hj : j < 1) : WkV π σ (nth [AV.imm (.slice none 0 0)] j) (wsE (lonT s T 0) i j) := by
  obtain rfl : j = 0 := by omega
  unfold wsE
  rw [show lonT s T 0 i = [] from if_neg (by omega)]
  exact WkV.nil_view
@[go_sem,reducible] def enA (s : Sc) (T : Nat → List P6) (n : Nat) : List AV := [graphV s,wsV s.notes.length T,.top,.top,.imm (.slice none 0 0),.own 1 0 s.notes.length (some s.notes.length),.imm (.int .i64 n)] ++ List.replicate 57 .top
@[go_sem,reducible] def enK (s : Sc) (T : Nat → List P6) (n k : Nat) : List AV := [graphV s,wsV s.notes.length T,.top,.top,.imm (.slice none 0 0),.own 1 0 s.notes.length (some s.notes.length),.imm (.int .i64 n),.imm (.int .i64 k)] ++ List.replicate 56 .top
set_option maxRecDepth 100000 in
set_option maxHeartbeats 4000000 in
theorem rback_raw (s : Sc) (hs : ScOk s) (T : Nat → List P6) (hT : ∀ i,(T i).length ≤ 2 ∧ ∀ p ∈ T i,Bd6 7000 p) (z : AObj) (hz : z.isLive) : TC Try.prog 57 [graphV s,wsV s.notes.length T] [z] (fun u σ'=>u = .own 1 0 s.notes.length (some s.notes.length) ∧ nthO σ' 1 = wsO s.notes.length (lonT s T s.notes.length) ∧ ∃ t,σ' = z :: t) := by
  have hsz := hs.sz
  unfold SzOk at hsz
  generalize hQ : (fun (u : AV) (σ' : List AObj) => u = .own 1 0 s.notes.length (some s.notes.length) ∧ nthO σ' 1 = wsO s.notes.length (lonT s T s.notes.length) ∧ ∃ t,σ' = z :: t) = Q
  (refine TC_of_T Γ_ok Try.func57 rfl (by kernel_rfl) ?_;simp only [Try.ntmps57,Try.results57,List.length_cons,List.length_nil,Nat.reduceSub,Nat.reduceAdd,List.replicate,List.cons_append,List.nil_append])
  (have sx1 : (0 : Nat) + 0 = 0 := rfl;repeat' (first|with_reducible refine T_seq_drawT (id := 13) Γ_ok drawsAny pl57_13 (by kernel_rfl) (fun K hK=>?_)|with_reducible refine T_last_drawT (id := 13) Γ_ok drawsAny pl57_13 (by kernel_rfl) (fun K hK=>?_)|((refine goU1 _ _ _ _ _ _ _ _ _ _ _ _ ?_ ?_ ?_ ?_ ?_ ?_ ?_ ?_ ?_ ?_ ?_ ?_) <;> (repeat intro hb) <;> first|exact True.intro|refine Lf.mk ?_)))
  refine T_loopW (fun m st => ∃ n : Nat,n ≤ s.notes.length ∧ m + n = s.notes.length ∧ st = ⟨enA s T n,[z,wsO s.notes.length (lonT s T n)]⟩)
    s.notes.length ⟨_, ?_, 0, by omega, rfl, rfl⟩ ?_
  · ((try simp only [List.length_append,List.length_cons,List.length_nil,Nat.zero_add]);refine Wk.intro [0,1] (by decide) (by decide) (by intro o ho;simp at ho ⊢ <;> omega) ?_ ?_ <;> repeat' (first|(exact WkO.live hz)|(exact ws_nil s T hj)|exact WkVL.nil|refine WkVL.cons ?_ ?_|exact WkV.top|exact WkV.imm rfl|exact WkV.imm (by simp)|exact WkV.optr rfl|exact WkV.own rfl (by simp)|exact WkV.nil_own (.inl rfl)|exact WkV.map rfl|(refine WkV.free ?_;simp [Free,FreeL] <;> assumption)|(refine WkV.free (fun _ _=>FreeL_nth ?_ _);simp [Free,FreeL];done)|refine WkV.agg ?_|refine WkV.tup ?_|refine WkV.fn ?_ ?_|exact WkO.dead|exact WkO.raw|refine WkO.ghost ?_|exact WkO.mpE rfl trivial|refine WkO.box ?_ rfl|refine WkO.arr ?_|refine And.intro ?_ (And.intro (by first|exact fun h=>h|exact fun _=>rfl|exact nofun) ?_)|exact trivial|(intro i j hi hj)))
  rintro m st ⟨n, h0, h1, rfl⟩
  by_cases hn : n < s.notes.length
  · (simp only [go_sem,↓reduceIte,Nat.reduceAdd,Nat.reduceSub,Nat.reduceMul,Nat.reduceLT,Nat.reduceLeDiff,Nat.reduceEqDiff,Nat.reduceGT,Int.reduceToNat,Int.reduceBEq,Int.reduceBNe];try simp (disch := omega) only [wrapI,wrapU,half_sum,toNat_sub1,toNat_add1,Int.toNat_natCast])
    (have sx1 : (0 : Nat) + 0 = 0 := rfl;repeat' (first|with_reducible refine T_seq_drawT (id := 13) Γ_ok drawsAny pl57_13 (by kernel_rfl) (fun K hK=>?_)|with_reducible refine T_last_drawT (id := 13) Γ_ok drawsAny pl57_13 (by kernel_rfl) (fun K hK=>?_)|((refine goU1 _ _ _ _ _ _ _ _ _ _ _ _ ?_ ?_ ?_ ?_ ?_ ?_ ?_ ?_ ?_ ?_ ?_ ?_) <;> (repeat intro hb) <;> first|exact True.intro|refine Lf.mk ?_)))
    refine T_loopW (fun m st => ∃ k : Nat,k ≤ (rowE s n).length ∧ m + k = (rowE s n).length ∧ st = ⟨enK s T n k,[z,wsO s.notes.length (lonU s T n k)]⟩)
      (rowE s n).length ⟨_, ?_, 0, by omega, rfl, by rw [lonU_0] <;> rfl⟩ ?_
    · ((try simp only [List.length_append,List.length_cons,List.length_nil,Nat.zero_add]);refine Wk.intro [0,1] (by decide) (by decide) (by intro o ho;simp at ho ⊢ <;> omega) ?_ ?_ <;> repeat' (first|(exact WkO.live hz)|exact WkVL.nil|refine WkVL.cons ?_ ?_|exact WkV.top|exact WkV.imm rfl|exact WkV.imm (by simp)|exact WkV.optr rfl|exact WkV.own rfl (by simp)|exact WkV.nil_own (.inl rfl)|exact WkV.map rfl|(refine WkV.free ?_;simp [Free,FreeL] <;> assumption)|(refine WkV.free (fun _ _=>FreeL_nth ?_ _);simp [Free,FreeL];done)|refine WkV.agg ?_|refine WkV.tup ?_|refine WkV.fn ?_ ?_|exact WkO.dead|exact WkO.raw|refine WkO.ghost ?_|exact WkO.mpE rfl trivial|refine WkO.box ?_ rfl|refine WkO.arr ?_|refine And.intro ?_ (And.intro (by first|exact fun h=>h|exact fun _=>rfl|exact nofun) ?_)|exact trivial|(intro i j hi hj)))
    rintro m2 st ⟨k, k0, k1, rfl⟩
    have hrl : (rowE s n).length ≤ 600 := by rw [rowE_len hs];have := jL_len (allJ s) n;have := pairsJ_len s.pairs;have := tiesJ_len s s.notes.length;unfold allJ at *;rw [List.length_append] at *;omega
    by_cases hil : k < (rowE s n).length
    · obtain ⟨⟨b, kk, v⟩, g1, g2, g3⟩ := row_at hil
      have hE := row_mem.1 g2
      have g1 : gE (rowE s n) k = ⟨n, b, kk, v⟩ := g1
      have hbN := hE.1
      simp only [] at hbN
      have hg3 := g3 T
      have hU0 : (lonU s T n k n).length ≤ 2 := by unfold lonU updT; rw [if_pos rfl]; exact lon_len T _ (by simp)
      have hvb := ((stepR_ok hs).bd _ _ _ _ hE.2).mono (show (16 : Int) ≤ 1000000 by omega)
      obtain ⟨hTl, hTb⟩ := hT b
      generalize hUU : lonU s T n k = U at hg3 hU0
      simp only [] at hg3 hE
      match hTb' : T b, hTl, hTb with
      | [], _, _ =>
        (simp only [go_sem,↓reduceIte,Nat.reduceAdd,Nat.reduceSub,Nat.reduceMul,Nat.reduceLT,Nat.reduceLeDiff,Nat.reduceEqDiff,Nat.reduceGT,Int.reduceToNat,Int.reduceBEq,Int.reduceBNe];try simp (disch := omega) only [wrapI,wrapU,half_sum,toNat_sub1,toNat_add1,Int.toNat_natCast])
        (have sx1 := (And.intro g1 hTb');repeat' (first|with_reducible refine T_seq_drawT (id := 13) Γ_ok drawsAny pl57_13 (by kernel_rfl) (fun K hK=>?_)|with_reducible refine T_last_drawT (id := 13) Γ_ok drawsAny pl57_13 (by kernel_rfl) (fun K hK=>?_)|((refine goU1 _ _ _ _ _ _ _ _ _ _ _ _ ?_ ?_ ?_ ?_ ?_ ?_ ?_ ?_ ?_ ?_ ?_ ?_) <;> (repeat intro hb) <;> first|exact True.intro|refine Lf.mk ?_)))
        refine T_rounds 3 ?_
        (have sx1 := (And.intro g1 hTb');repeat' (first|with_reducible refine T_seq_drawT (id := 13) Γ_ok drawsAny pl57_13 (by kernel_rfl) (fun K hK=>?_)|with_reducible refine T_last_drawT (id := 13) Γ_ok drawsAny pl57_13 (by kernel_rfl) (fun K hK=>?_)|((refine goU1 _ _ _ _ _ _ _ _ _ _ _ _ ?_ ?_ ?_ ?_ ?_ ?_ ?_ ?_ ?_ ?_ ?_ ?_) <;> (repeat intro hb) <;> first|exact True.intro|refine Lf.mk ?_)))
        refine ⟨(rowE s n).length - (k + 1),by omega,⟨enK s T n (k + 1),[z,wsO s.notes.length (lonU s T n (k + 1))]⟩,?_,k + 1,by omega,by omega,rfl⟩
        rw [hg3,hTb',show putA v (U n) [] = U n from rfl,show updT U n (U n) = U from funext fun k => by unfold updT;split <;> simp_all]
        ((try simp only [List.length_append,List.length_cons,List.length_nil,Nat.zero_add]);refine Wk.intro [0,1] (by decide) (by decide) (by intro o ho;simp at ho ⊢ <;> omega) ?_ ?_ <;> repeat' (first|(exact WkO.live hz)|(refine WkV.imm ?_;congr 1;omega)|exact WkVL.nil|refine WkVL.cons ?_ ?_|exact WkV.top|exact WkV.imm rfl|exact WkV.imm (by simp)|exact WkV.optr rfl|exact WkV.own rfl (by simp)|exact WkV.nil_own (.inl rfl)|exact WkV.map rfl|(refine WkV.free ?_;simp [Free,FreeL] <;> assumption)|(refine WkV.free (fun _ _=>FreeL_nth ?_ _);simp [Free,FreeL];done)|refine WkV.agg ?_|refine WkV.tup ?_|refine WkV.fn ?_ ?_|exact WkO.dead|exact WkO.raw|refine WkO.ghost ?_|exact WkO.mpE rfl trivial|refine WkO.box ?_ rfl|refine WkO.arr ?_|refine And.intro ?_ (And.intro (by first|exact fun h=>h|exact fun _=>rfl|exact nofun) ?_)|exact trivial|(intro i j hi hj)))
      | [x], _, hTb =>
        have c1 := rplus_tc v x hvb ((hTb x (by simp)).mono (by omega))
        have c2 := rwith_peek (U n) (v.add x) hU0
        have hg : gv [x] 0 = x := rfl
        (simp only [go_sem,↓reduceIte,Nat.reduceAdd,Nat.reduceSub,Nat.reduceMul,Nat.reduceLT,Nat.reduceLeDiff,Nat.reduceEqDiff,Nat.reduceGT,Int.reduceToNat,Int.reduceBEq,Int.reduceBNe];try simp (disch := omega) only [wrapI,wrapU,half_sum,toNat_sub1,toNat_add1,Int.toNat_natCast])
        (have cl1 := c1;have cq1 := c2;have sx1 := (And.intro g1 (And.intro hTb' hg));repeat' (first|with_reducible refine T_seq_drawT (id := 13) Γ_ok drawsAny pl57_13 (by kernel_rfl) (fun K hK=>?_)|with_reducible refine T_last_drawT (id := 13) Γ_ok drawsAny pl57_13 (by kernel_rfl) (fun K hK=>?_)|((refine goU1 _ _ _ _ _ _ _ _ _ _ _ _ ?_ ?_ ?_ ?_ ?_ ?_ ?_ ?_ ?_ ?_ ?_ ?_) <;> (repeat intro hb) <;> first|exact True.intro|refine Lf.mk ?_)))
        refine T_rounds 3 ?_
        (have cl1 := c1;have cq1 := c2;have sx1 := (And.intro g1 (And.intro hTb' hg));repeat' (first|with_reducible refine T_seq_drawT (id := 13) Γ_ok drawsAny pl57_13 (by kernel_rfl) (fun K hK=>?_)|with_reducible refine T_last_drawT (id := 13) Γ_ok drawsAny pl57_13 (by kernel_rfl) (fun K hK=>?_)|((refine goU1 _ _ _ _ _ _ _ _ _ _ _ _ ?_ ?_ ?_ ?_ ?_ ?_ ?_ ?_ ?_ ?_ ?_ ?_) <;> (repeat intro hb) <;> first|exact True.intro|refine Lf.mk ?_)))
        refine ⟨(rowE s n).length - (k + 1),by omega,⟨enK s T n (k + 1),[z,wsO s.notes.length (lonU s T n (k + 1))]⟩,?_,k + 1,by omega,by omega,rfl⟩
        rw [hg3, hTb', show putA v (U n) [x] = putR (U n) (v.add x) from rfl]
        ((try simp only [List.length_append,List.length_cons,List.length_nil,Nat.zero_add]);refine Wk.intro [0,1] (by decide) (by decide) (by intro o ho;simp at ho ⊢ <;> omega) ?_ ?_ <;> repeat' (first|(exact WkO.live hz)|(refine WkV.imm ?_;congr 1;omega)|(exact WkV.eqF (ws_upd _ _ _ hj) (wsE_free _ _ _))|exact WkVL.nil|refine WkVL.cons ?_ ?_|exact WkV.top|exact WkV.imm rfl|exact WkV.imm (by simp)|exact WkV.optr rfl|exact WkV.own rfl (by simp)|exact WkV.nil_own (.inl rfl)|exact WkV.map rfl|(refine WkV.free ?_;simp [Free,FreeL] <;> assumption)|(refine WkV.free (fun _ _=>FreeL_nth ?_ _);simp [Free,FreeL];done)|refine WkV.agg ?_|refine WkV.tup ?_|refine WkV.fn ?_ ?_|exact WkO.dead|exact WkO.raw|refine WkO.ghost ?_|exact WkO.mpE rfl trivial|refine WkO.box ?_ rfl|refine WkO.arr ?_|refine And.intro ?_ (And.intro (by first|exact fun h=>h|exact fun _=>rfl|exact nofun) ?_)|exact trivial|(intro i j hi hj)))
      | [x, y], _, hTb =>
        have c1 := rplus_tc v x hvb ((hTb x (by simp)).mono (by omega))
        have c2 := rwith_peek (U n) (v.add x) hU0
        have c3 := rplus_tc v y hvb ((hTb y (by simp)).mono (by omega))
        have c4 := rwith_peek (putR (U n) (v.add x)) (v.add y) (putR_len hU0 _)
        have hg : gv [x, y] 0 = x := rfl
        have hg' : gv [x, y] 1 = y := rfl
        have hu : ∀ a : AV, updE (wsE U) n 0 [a] n 0 = a := fun a => by simp [updE, nth]
        (simp only [go_sem,↓reduceIte,Nat.reduceAdd,Nat.reduceSub,Nat.reduceMul,Nat.reduceLT,Nat.reduceLeDiff,Nat.reduceEqDiff,Nat.reduceGT,Int.reduceToNat,Int.reduceBEq,Int.reduceBNe];try simp (disch := omega) only [wrapI,wrapU,half_sum,toNat_sub1,toNat_add1,Int.toNat_natCast])
        (have dl1 := c1;have dl2 := c3;have cq1 := c2;have cq2 := c4;have sx1 := (And.intro g1 (And.intro hTb' (And.intro hg (And.intro hg' hu))));repeat' (first|with_reducible refine T_seq_drawT (id := 13) Γ_ok drawsAny pl57_13 (by kernel_rfl) (fun K hK=>?_)|with_reducible refine T_last_drawT (id := 13) Γ_ok drawsAny pl57_13 (by kernel_rfl) (fun K hK=>?_)|((refine goU1 _ _ _ _ _ _ _ _ _ _ _ _ ?_ ?_ ?_ ?_ ?_ ?_ ?_ ?_ ?_ ?_ ?_ ?_) <;> (repeat intro hb) <;> first|exact True.intro|refine Lf.mk ?_)))
        refine T_rounds 3 ?_
        (have dl1 := c1;have dl2 := c3;have cq1 := c2;have cq2 := c4;have sx1 := (And.intro g1 (And.intro hTb' (And.intro hg (And.intro hg' hu))));repeat' (first|with_reducible refine T_seq_drawT (id := 13) Γ_ok drawsAny pl57_13 (by kernel_rfl) (fun K hK=>?_)|with_reducible refine T_last_drawT (id := 13) Γ_ok drawsAny pl57_13 (by kernel_rfl) (fun K hK=>?_)|((refine goU1 _ _ _ _ _ _ _ _ _ _ _ _ ?_ ?_ ?_ ?_ ?_ ?_ ?_ ?_ ?_ ?_ ?_ ?_) <;> (repeat intro hb) <;> first|exact True.intro|refine Lf.mk ?_)))
        refine ⟨(rowE s n).length - (k + 1),by omega,⟨enK s T n (k + 1),[z,wsO s.notes.length (lonU s T n (k + 1))]⟩,?_,k + 1,by omega,by omega,rfl⟩
        rw [hg3, hTb', show putA v (U n) [x, y] = putR (putR (U n) (v.add x)) (v.add y) from rfl]
        ((try simp only [List.length_append,List.length_cons,List.length_nil,Nat.zero_add]);refine Wk.intro [0,1] (by decide) (by decide) (by intro o ho;simp at ho ⊢ <;> omega) ?_ ?_ <;> repeat' (first|(exact WkO.live hz)|(refine WkV.imm ?_;congr 1;omega)|(exact WkV.eqF (ws_upd2 _ _ _ _ hj) (wsE_free _ _ _))|exact WkVL.nil|refine WkVL.cons ?_ ?_|exact WkV.top|exact WkV.imm rfl|exact WkV.imm (by simp)|exact WkV.optr rfl|exact WkV.own rfl (by simp)|exact WkV.nil_own (.inl rfl)|exact WkV.map rfl|(refine WkV.free ?_;simp [Free,FreeL] <;> assumption)|(refine WkV.free (fun _ _=>FreeL_nth ?_ _);simp [Free,FreeL];done)|refine WkV.agg ?_|refine WkV.tup ?_|refine WkV.fn ?_ ?_|exact WkO.dead|exact WkO.raw|refine WkO.ghost ?_|exact WkO.mpE rfl trivial|refine WkO.box ?_ rfl|refine WkO.arr ?_|refine And.intro ?_ (And.intro (by first|exact fun h=>h|exact fun _=>rfl|exact nofun) ?_)|exact trivial|(intro i j hi hj)))
    · obtain rfl : k = (rowE s n).length := by omega
      (simp only [go_sem,↓reduceIte,Nat.reduceAdd,Nat.reduceSub,Nat.reduceMul,Nat.reduceLT,Nat.reduceLeDiff,Nat.reduceEqDiff,Nat.reduceGT,Int.reduceToNat,Int.reduceBEq,Int.reduceBNe];try simp (disch := omega) only [wrapI,wrapU,half_sum,toNat_sub1,toNat_add1,Int.toNat_natCast])
      (have sx1 : (0 : Nat) + 0 = 0 := rfl;repeat' (first|with_reducible refine T_seq_drawT (id := 13) Γ_ok drawsAny pl57_13 (by kernel_rfl) (fun K hK=>?_)|with_reducible refine T_last_drawT (id := 13) Γ_ok drawsAny pl57_13 (by kernel_rfl) (fun K hK=>?_)|((refine goU1 _ _ _ _ _ _ _ _ _ _ _ _ ?_ ?_ ?_ ?_ ?_ ?_ ?_ ?_ ?_ ?_ ?_ ?_) <;> (repeat intro hb) <;> first|exact True.intro|refine Lf.mk ?_)))
      rw [lonU_end]
      refine ⟨s.notes.length - (n + 1), by omega, _, ?_, n + 1, by omega, by omega, rfl⟩
      ((try simp only [List.length_append,List.length_cons,List.length_nil,Nat.zero_add]);refine Wk.intro [0,1] (by decide) (by decide) (by intro o ho;simp at ho ⊢ <;> omega) ?_ ?_ <;> repeat' (first|(exact WkO.live hz)|(refine WkV.imm ?_;congr 1;omega)|exact WkVL.nil|refine WkVL.cons ?_ ?_|exact WkV.top|exact WkV.imm rfl|exact WkV.imm (by simp)|exact WkV.optr rfl|exact WkV.own rfl (by simp)|exact WkV.nil_own (.inl rfl)|exact WkV.map rfl|(refine WkV.free ?_;simp [Free,FreeL] <;> assumption)|(refine WkV.free (fun _ _=>FreeL_nth ?_ _);simp [Free,FreeL];done)|refine WkV.agg ?_|refine WkV.tup ?_|refine WkV.fn ?_ ?_|exact WkO.dead|exact WkO.raw|refine WkO.ghost ?_|exact WkO.mpE rfl trivial|refine WkO.box ?_ rfl|refine WkO.arr ?_|refine And.intro ?_ (And.intro (by first|exact fun h=>h|exact fun _=>rfl|exact nofun) ?_)|exact trivial|(intro i j hi hj)))
  · (simp only [go_sem,↓reduceIte,Nat.reduceAdd,Nat.reduceSub,Nat.reduceMul,Nat.reduceLT,Nat.reduceLeDiff,Nat.reduceEqDiff,Nat.reduceGT,Int.reduceToNat,Int.reduceBEq,Int.reduceBNe];try simp (disch := omega) only [wrapI,wrapU,half_sum,toNat_sub1,toNat_add1,Int.toNat_natCast])
    (have sx1 : (0 : Nat) + 0 = 0 := rfl;repeat' (first|with_reducible refine T_seq_drawT (id := 13) Γ_ok drawsAny pl57_13 (by kernel_rfl) (fun K hK=>?_)|with_reducible refine T_last_drawT (id := 13) Γ_ok drawsAny pl57_13 (by kernel_rfl) (fun K hK=>?_)|((refine goU1 _ _ _ _ _ _ _ _ _ _ _ _ ?_ ?_ ?_ ?_ ?_ ?_ ?_ ?_ ?_ ?_ ?_ ?_) <;> (repeat intro hb) <;> first|exact True.intro|refine Lf.mk ?_)))
    obtain rfl : n = s.notes.length := by omega
    rw [← hQ]
    exact ⟨rfl, rfl, _, rfl⟩
theorem rback_peek (s : Sc) (hs : ScOk s) (g l : Nat) (hl : l ≤ 400) : PeekL Try.prog 1 57 [graphV s,wsV s.notes.length (rets (stepR s) s.notes.length g l)] (wsV s.notes.length (rets (stepR s) s.notes.length g (l + 1))) := by
  refine ⟨fun σ0 h0 hal => ?_, by simp [Free]⟩
  obtain ⟨z, rfl⟩ : ∃ z, σ0 = [z] := by
    match σ0, h0 with
    | [z], _ => exact ⟨z, rfl⟩
  have hz := hal z (by simp)
  have hE := stepR_ok hs
  refine (rback_raw s hs (rets (stepR s) s.notes.length g l) (fun i=>⟨(rets_ok hE g l i).le,fun p hp=>(rets_bd hE p hp).mono (by omega)⟩) z hz).weak fun u σ' ⟨hu,h1,t,ht⟩=>⟨[0],wsV s.notes.length (rets (stepR s) s.notes.length g (l + 1)),[z],rfl,by simp,by simp [ht],?_,?_,rfl,⟨[],rfl⟩⟩
  · rw [hu]
    refine WkV.freeze (o := 1) h1 (by omega) (fun o ho => ?_) (fun i j hi hj => ?_)
    · rw [List.mem_singleton] at ho; subst ho; exact ⟨by omega, by rw [ht]; exact hz.alive⟩
    · refine WkV.eqF ?_ (wsE_free _ _ _)
      rw [Nat.zero_add]
      unfold wsE
      rw [show lonT s (rets (stepR s) s.notes.length g l) s.notes.length i = rets (stepR s) s.notes.length g (l + 1) i by unfold lonT;rw [if_pos hi];rfl]
  · rw [ht]
    exact ⟨WkO.live hz, fun h => h, trivial⟩
end Go.Proofs.Ytmglcamgpgkblaa
