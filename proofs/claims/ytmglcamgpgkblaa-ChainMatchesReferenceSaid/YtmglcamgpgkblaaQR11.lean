/-
  The reference's Through, Shortest.
-/
import Derived.Test.YtmglcamgpgkblaaQGo
import Derived.Test.YtmglcamgpgkblaaQS5
import Derived.Test.YtmglcamgpgkblaaQR7
import Derived.Test.YtmglcamgpgkblaaQR4
import Derived.Test.YtmglcamgpgkblaaQB13
set_option linter.unusedSimpArgs false
set_option linter.unusedVariables false
namespace Go.Proofs.Ytmglcamgpgkblaa
open Go.Ab
theorem pr_res {s : Sc} (hs : ScOk s) {n : Nat} {w : List Nat} (h : Opn (stepR s) n w) (hl : w.length ≤ 400) : resR (stepR s) n w = (stps (stepR s) n w,(prR s (stps (stepR s) n w)).1,(prR s (stps (stepR s) n w)).2) := by
  obtain ⟨p, h1, h2, h3⟩ := res_ok h
  have hne := List.length_pos_iff.2 h.ne
  unfold prR
  rw [if_pos ⟨tf_t hs, by rw [stps_len]; omega, by rw [stps_len]; omega⟩, h3, prodS_stps (stepR_ok hs) h.ne h.1 h1]
set_option maxRecDepth 100000 in
set_option maxHeartbeats 4000000 in
theorem rThrough_fresh (s : Sc) (hl : ScL s) (n : Int) : Fresh Try.prog 17 [scA s,.imm (.int .i64 n)] (resA (thR s n)) := by
  have c1 := rvalid_tc s hl
  unfold Fresh
  generalize hQ : (fun (u : AV) (σ1 : List AObj) => Fz σ1 u (resA (thR s n))) = Q
  by_cases hs : ScOk s
  · rw [tf_t hs] at c1
    have hsz := hs.sz
    unfold SzOk at hsz
    have c2 := redges_peek s hl hs
    by_cases hn : 0 ≤ n ∧ n < s.notes.length
    · obtain ⟨k, rfl⟩ := Int.eq_ofNat_of_zero_le hn.1
      have hk : k < s.notes.length := by omega
      have hres : thR s (k : Int) = resR (stepR s) k (thr (stepR s) s.notes.length k (2 * s.notes.length)) := by
        unfold thR; rw [if_pos ⟨tf_t hs, hn.1, hn.2⟩, Int.toNat_natCast]
      have e2 : ((2 * s.notes.length : Nat) : Int) = 2 * (s.notes.length : Int) := by omega
      by_cases ht : thr (stepR s) s.notes.length k (2 * s.notes.length) = []
      · have c3 := rthrough_nil s hs k hk (2 * s.notes.length) (by omega) ht
        rw [e2] at c3
        rw [ht, res_nil] at hres
        (refine TC_of_T Γ_ok Try.func17 rfl (by kernel_rfl) ?_;simp only [Try.ntmps17,Try.results17,List.length_cons,List.length_nil,Nat.reduceSub,Nat.reduceAdd,List.replicate,List.cons_append,List.nil_append])
        (have cl1 := c1;have cl2 := c3;have cq1 := c2;have sx1 := Nat.add_zero 0;repeat' (first|with_reducible refine T_seq_drawT (id := 4) Γ_ok drawsAny pl17_4 (by kernel_rfl) (fun K hK=>?_)|with_reducible refine T_last_drawT (id := 4) Γ_ok drawsAny pl17_4 (by kernel_rfl) (fun K hK=>?_)|with_reducible refine T_seq_drawT (id := 8) Γ_ok drawsAny pl17_8 (by kernel_rfl) (fun K hK=>?_)|with_reducible refine T_last_drawT (id := 8) Γ_ok drawsAny pl17_8 (by kernel_rfl) (fun K hK=>?_)|((refine goU1 _ _ _ _ _ _ _ _ _ _ _ _ ?_ ?_ ?_ ?_ ?_ ?_ ?_ ?_ ?_ ?_ ?_ ?_) <;> (repeat intro hb) <;> first|exact True.intro|refine Lf.mk ?_)))
        rw [← hQ]; exact resA_nil hres
      · have c3 := rthrough_own s hs k hk (2 * s.notes.length) (by omega) ht
        rw [e2] at c3
        obtain ⟨t1, t2⟩ := thr_get (stepR_ok hs) ht
        have hres2 := pr_res hs t1 (by omega)
        rw [← hres] at hres2
        have hne := stps_ne (E := stepR s) (n := k) ht
        have hlen := stps_len (stepR s) k (thr (stepR s) s.notes.length k (2 * s.notes.length))
        generalize stps (stepR s) k (thr (stepR s) s.notes.length k (2 * s.notes.length)) = st at c3 hres2 hne hlen
        have c4 := rproduct_tc s hl st (by omega)
        have hp := List.length_pos_iff.2 hne
        (refine TC_of_T Γ_ok Try.func17 rfl (by kernel_rfl) ?_;simp only [Try.ntmps17,Try.results17,List.length_cons,List.length_nil,Nat.reduceSub,Nat.reduceAdd,List.replicate,List.cons_append,List.nil_append])
        (have cl1 := c1;have cl2 := c4;have cm1 := c3;have cq1 := c2;have sx1 := Nat.add_zero 0;repeat' (first|with_reducible refine T_seq_drawT (id := 4) Γ_ok drawsAny pl17_4 (by kernel_rfl) (fun K hK=>?_)|with_reducible refine T_last_drawT (id := 4) Γ_ok drawsAny pl17_4 (by kernel_rfl) (fun K hK=>?_)|with_reducible refine T_seq_drawT (id := 8) Γ_ok drawsAny pl17_8 (by kernel_rfl) (fun K hK=>?_)|with_reducible refine T_last_drawT (id := 8) Γ_ok drawsAny pl17_8 (by kernel_rfl) (fun K hK=>?_)|((refine goU1 _ _ _ _ _ _ _ _ _ _ _ _ ?_ ?_ ?_ ?_ ?_ ?_ ?_ ?_ ?_ ?_ ?_ ?_) <;> (repeat intro hb) <;> first|exact True.intro|refine Lf.mk ?_)))
        rw [← hQ]; exact resA_own (v := (prR s st).1) hres2 rfl
    · have hres : thR s n = ([], z6, 1) := by unfold thR; rw [if_neg (by intro h; exact hn h.2)]
      (refine TC_of_T Γ_ok Try.func17 rfl (by kernel_rfl) ?_;simp only [Try.ntmps17,Try.results17,List.length_cons,List.length_nil,Nat.reduceSub,Nat.reduceAdd,List.replicate,List.cons_append,List.nil_append])
      (have cl1 := c1;have sx1 := Nat.add_zero 0;repeat' (first|with_reducible refine T_seq_drawT (id := 4) Γ_ok drawsAny pl17_4 (by kernel_rfl) (fun K hK=>?_)|with_reducible refine T_last_drawT (id := 4) Γ_ok drawsAny pl17_4 (by kernel_rfl) (fun K hK=>?_)|with_reducible refine T_seq_drawT (id := 8) Γ_ok drawsAny pl17_8 (by kernel_rfl) (fun K hK=>?_)|with_reducible refine T_last_drawT (id := 8) Γ_ok drawsAny pl17_8 (by kernel_rfl) (fun K hK=>?_)|((refine goU1 _ _ _ _ _ _ _ _ _ _ _ _ ?_ ?_ ?_ ?_ ?_ ?_ ?_ ?_ ?_ ?_ ?_ ?_) <;> (repeat intro hb) <;> first|exact True.intro|refine Lf.mk ?_)))
      rw [← hQ]; exact resA_nil hres
  · rw [tf_f hs] at c1
    have hres : thR s n = ([], z6, 1) := by unfold thR; rw [if_neg (by rw [tf_f hs]; simp)]
    (refine TC_of_T Γ_ok Try.func17 rfl (by kernel_rfl) ?_;simp only [Try.ntmps17,Try.results17,List.length_cons,List.length_nil,Nat.reduceSub,Nat.reduceAdd,List.replicate,List.cons_append,List.nil_append])
    (have cl1 := c1;have sx1 := Nat.add_zero 0;repeat' (first|with_reducible refine T_seq_drawT (id := 4) Γ_ok drawsAny pl17_4 (by kernel_rfl) (fun K hK=>?_)|with_reducible refine T_last_drawT (id := 4) Γ_ok drawsAny pl17_4 (by kernel_rfl) (fun K hK=>?_)|with_reducible refine T_seq_drawT (id := 8) Γ_ok drawsAny pl17_8 (by kernel_rfl) (fun K hK=>?_)|with_reducible refine T_last_drawT (id := 8) Γ_ok drawsAny pl17_8 (by kernel_rfl) (fun K hK=>?_)|((refine goU1 _ _ _ _ _ _ _ _ _ _ _ _ ?_ ?_ ?_ ?_ ?_ ?_ ?_ ?_ ?_ ?_ ?_ ?_) <;> (repeat intro hb) <;> first|exact True.intro|refine Lf.mk ?_)))
    rw [← hQ]; exact resA_nil hres
@[go_sem,reducible] def enQ (s : Sc) (k : Nat) : List AV := [.top,.optr 0 0 0,.imm (.slice none 0 0),.optr 1 0 0,.imm (.int .i64 0),.top,graphV s,.imm (.int .i64 (bmo s k)),.own 2 0 (bst s k).length none,.imm (.int .i64 k)] ++ List.replicate 43 .top
set_option maxRecDepth 100000 in
set_option maxHeartbeats 4000000 in
theorem rShortest_fresh (s : Sc) (hl : ScL s) : Fresh Try.prog 20 [scA s] (resA (shR s)) := by
  have c1 := rvalid_tc s hl
  unfold Fresh
  generalize hQ : (fun (u : AV) (σ1 : List AObj) => Fz σ1 u (resA (shR s))) = Q
  by_cases hs : ScOk s
  · rw [tf_t hs] at c1
    have hsz := hs.sz
    unfold SzOk at hsz
    have hE := stepR_ok hs
    have c2 := redges_peek s hl hs
    have hres : shR s = resR (stepR s) (srt (stepR s) s.notes.length s.notes.length).1.1 (srt (stepR s) s.notes.length s.notes.length).1.2 := by
      unfold shR; rw [if_pos (tf_t hs)]
    (refine TC_of_T Γ_ok Try.func20 rfl (by kernel_rfl) ?_;simp only [Try.ntmps20,Try.results20,List.length_cons,List.length_nil,Nat.reduceSub,Nat.reduceAdd,List.replicate,List.cons_append,List.nil_append])
    (have cl1 := c1;have cq1 := c2;have sx1 := Nat.add_zero 0;repeat' (first|with_reducible refine T_seq_drawT (id := 17) Γ_ok drawsAny pl20_17 (by kernel_rfl) (fun K hK=>?_)|with_reducible refine T_last_drawT (id := 17) Γ_ok drawsAny pl20_17 (by kernel_rfl) (fun K hK=>?_)|((refine goU1 _ _ _ _ _ _ _ _ _ _ _ _ ?_ ?_ ?_ ?_ ?_ ?_ ?_ ?_ ?_ ?_ ?_ ?_) <;> (repeat intro hb) <;> first|exact True.intro|refine Lf.mk ?_)))
    refine T_loopW (fun m st => ∃ k : Nat, k ≤ s.notes.length ∧ m + k = s.notes.length ∧ st = ⟨enQ s k, fxS s k⟩)
      s.notes.length ⟨_, Wk.trans (Wk.push 41 3 (spE [])) ?_, 0, by omega, rfl, rfl⟩ ?_
    · ((try simp only [List.length_append,List.length_cons,List.length_nil,Nat.zero_add]);refine Wk.intro [0,1,2] (by decide) (by decide) (by intro o ho;simp at ho ⊢ <;> omega) ?_ ?_ <;> repeat' (first|exact WkVL.nil|refine WkVL.cons ?_ ?_|exact WkV.top|exact WkV.imm rfl|exact WkV.imm (by simp)|exact WkV.optr rfl|exact WkV.own rfl (by simp)|exact WkV.nil_own (.inl rfl)|exact WkV.map rfl|(refine WkV.free ?_;simp [Free,FreeL] <;> assumption)|(refine WkV.free (fun _ _=>FreeL_nth ?_ _);simp [Free,FreeL];done)|refine WkV.agg ?_|refine WkV.tup ?_|refine WkV.fn ?_ ?_|exact WkO.dead|exact WkO.raw|refine WkO.ghost ?_|exact WkO.mpE rfl trivial|refine WkO.box ?_ rfl|refine WkO.arr ?_|refine And.intro ?_ (And.intro (by first|exact fun h=>h|exact fun _=>rfl|exact nofun) ?_)|exact trivial|(intro i j hi hj)))
    rintro m st ⟨k, h0, h1, rfl⟩
    have hmo := (srt_spec hE k).1
    by_cases hk : k < s.notes.length
    · by_cases ht : thr (stepR s) s.notes.length k (bmo s k) = []
      · have c3 := rthrough_nil s hs k hk (bmo s k) (by unfold bmo; omega) ht
        obtain ⟨b1, b2⟩ := bst_no ht
        (simp only [go_sem,↓reduceIte,Nat.reduceAdd,Nat.reduceSub,Nat.reduceMul,Nat.reduceLT,Nat.reduceLeDiff,Nat.reduceEqDiff,Nat.reduceGT,Int.reduceToNat,Int.reduceBEq,Int.reduceBNe];try simp (disch := omega) only [wrapI,wrapU,half_sum,toNat_sub1,toNat_add1,Int.toNat_natCast])
        (have cl1 := c3;have sx1 := Nat.add_zero 0;repeat' (first|with_reducible refine T_seq_drawT (id := 17) Γ_ok drawsAny pl20_17 (by kernel_rfl) (fun K hK=>?_)|with_reducible refine T_last_drawT (id := 17) Γ_ok drawsAny pl20_17 (by kernel_rfl) (fun K hK=>?_)|((refine goU1 _ _ _ _ _ _ _ _ _ _ _ _ ?_ ?_ ?_ ?_ ?_ ?_ ?_ ?_ ?_ ?_ ?_ ?_) <;> (repeat intro hb) <;> first|exact True.intro|refine Lf.mk ?_)))
        refine ⟨s.notes.length - (k + 1), by omega, ⟨enQ s (k + 1), fxS s (k + 1)⟩, ?_, k + 1, by omega, by omega, rfl⟩
        simp only [enQ, fxS, b1, b2]
        ((try simp only [List.length_append,List.length_cons,List.length_nil,Nat.zero_add]);refine Wk.intro [0,1,2] (by decide) (by decide) (by intro o ho;simp at ho ⊢ <;> omega) ?_ ?_ <;> repeat' (first|(refine WkV.imm ?_;congr 1;omega)|exact WkVL.nil|refine WkVL.cons ?_ ?_|exact WkV.top|exact WkV.imm rfl|exact WkV.imm (by simp)|exact WkV.optr rfl|exact WkV.own rfl (by simp)|exact WkV.nil_own (.inl rfl)|exact WkV.map rfl|(refine WkV.free ?_;simp [Free,FreeL] <;> assumption)|(refine WkV.free (fun _ _=>FreeL_nth ?_ _);simp [Free,FreeL];done)|refine WkV.agg ?_|refine WkV.tup ?_|refine WkV.fn ?_ ?_|exact WkO.dead|exact WkO.raw|refine WkO.ghost ?_|exact WkO.mpE rfl trivial|refine WkO.box ?_ rfl|refine WkO.arr ?_|refine And.intro ?_ (And.intro (by first|exact fun h=>h|exact fun _=>rfl|exact nofun) ?_)|exact trivial|(intro i j hi hj)))
      · have c3 := rthrough_own s hs k hk (bmo s k) (by unfold bmo; omega) ht
        obtain ⟨b1, b2⟩ := bst_yes ht
        have hwl : (stps (stepR s) k (thr (stepR s) s.notes.length k (bmo s k))).length ≤ 200 := by rw [stps_len];have := (thr_get hE ht).2;unfold bmo at *;omega
        have hne := stps_ne (E := stepR s) (n := k) ht
        generalize stps (stepR s) k (thr (stepR s) s.notes.length k (bmo s k)) = w at c3 b1 b2 hne hwl
        have hp := List.length_pos_iff.2 hne
        (simp only [go_sem,↓reduceIte,Nat.reduceAdd,Nat.reduceSub,Nat.reduceMul,Nat.reduceLT,Nat.reduceLeDiff,Nat.reduceEqDiff,Nat.reduceGT,Int.reduceToNat,Int.reduceBEq,Int.reduceBNe];try simp (disch := omega) only [wrapI,wrapU,half_sum,toNat_sub1,toNat_add1,Int.toNat_natCast])
        (have cm1 := c3;have sx1 := Nat.add_zero 0;repeat' (first|with_reducible refine T_seq_drawT (id := 17) Γ_ok drawsAny pl20_17 (by kernel_rfl) (fun K hK=>?_)|with_reducible refine T_last_drawT (id := 17) Γ_ok drawsAny pl20_17 (by kernel_rfl) (fun K hK=>?_)|((refine goU1 _ _ _ _ _ _ _ _ _ _ _ _ ?_ ?_ ?_ ?_ ?_ ?_ ?_ ?_ ?_ ?_ ?_ ?_) <;> (repeat intro hb) <;> first|exact True.intro|refine Lf.mk ?_)))
        refine ⟨s.notes.length - (k + 1), by omega, ⟨enQ s (k + 1), fxS s (k + 1)⟩, ?_, k + 1, by omega, by omega, rfl⟩
        simp only [enQ, fxS, b1, b2]
        ((try simp only [List.length_append,List.length_cons,List.length_nil,Nat.zero_add]);refine Wk.intro [0,1,3] (by decide) (by decide) (by intro o ho;simp at ho ⊢ <;> omega) ?_ ?_ <;> repeat' (first|(refine WkV.imm ?_;congr 1;omega)|exact WkVL.nil|refine WkVL.cons ?_ ?_|exact WkV.top|exact WkV.imm rfl|exact WkV.imm (by simp)|exact WkV.optr rfl|exact WkV.own rfl (by simp)|exact WkV.nil_own (.inl rfl)|exact WkV.map rfl|(refine WkV.free ?_;simp [Free,FreeL] <;> assumption)|(refine WkV.free (fun _ _=>FreeL_nth ?_ _);simp [Free,FreeL];done)|refine WkV.agg ?_|refine WkV.tup ?_|refine WkV.fn ?_ ?_|exact WkO.dead|exact WkO.raw|refine WkO.ghost ?_|exact WkO.mpE rfl trivial|refine WkO.box ?_ rfl|refine WkO.arr ?_|refine And.intro ?_ (And.intro (by first|exact fun h=>h|exact fun _=>rfl|exact nofun) ?_)|exact trivial|(intro i j hi hj)))
    · obtain rfl : k = s.notes.length := by omega
      by_cases hw : (srt (stepR s) s.notes.length s.notes.length).1.2 = []
      · have hb : bst s s.notes.length = [] := by unfold bst; rw [hw]; rfl
        rw [hw, res_nil] at hres
        rw [enQ, fxS, hb]
        (simp only [go_sem,↓reduceIte,Nat.reduceAdd,Nat.reduceSub,Nat.reduceMul,Nat.reduceLT,Nat.reduceLeDiff,Nat.reduceEqDiff,Nat.reduceGT,Int.reduceToNat,Int.reduceBEq,Int.reduceBNe];try simp (disch := omega) only [wrapI,wrapU,half_sum,toNat_sub1,toNat_add1,Int.toNat_natCast])
        (have sx1 := Nat.add_zero 0;repeat' (first|with_reducible refine T_seq_drawT (id := 17) Γ_ok drawsAny pl20_17 (by kernel_rfl) (fun K hK=>?_)|with_reducible refine T_last_drawT (id := 17) Γ_ok drawsAny pl20_17 (by kernel_rfl) (fun K hK=>?_)|((refine goU1 _ _ _ _ _ _ _ _ _ _ _ _ ?_ ?_ ?_ ?_ ?_ ?_ ?_ ?_ ?_ ?_ ?_ ?_) <;> (repeat intro hb) <;> first|exact True.intro|refine Lf.mk ?_)))
        rw [← hQ]; exact resA_nil hres
      · have ho : Opn (stepR s) (srt (stepR s) s.notes.length s.notes.length).1.1 (srt (stepR s) s.notes.length s.notes.length).1.2 := by
          rcases srt_best hE with ⟨h1, _⟩ | h1
          · exact absurd h1 hw
          · exact h1.o
        have hbl : (srt (stepR s) s.notes.length s.notes.length).1.2.length ≤ s.notes.length := by
          rcases srt_best hE with ⟨h1, _⟩ | h1
          · exact absurd h1 hw
          · exact h1.le
        have hres2 := pr_res hs ho (by omega)
        rw [← hres] at hres2
        change shR s = (bst s s.notes.length, _, _) at hres2
        have hbe : bst s s.notes.length = stps (stepR s) (srt (stepR s) s.notes.length s.notes.length).1.1 (srt (stepR s) s.notes.length s.notes.length).1.2 := rfl
        have hne := stps_ne (E := stepR s) (n := (srt (stepR s) s.notes.length s.notes.length).1.1) hw
        have hlen := stps_len (stepR s) (srt (stepR s) s.notes.length s.notes.length).1.1 (srt (stepR s) s.notes.length s.notes.length).1.2
        rw [← hbe] at hne hlen hres2
        generalize hbw : bst s s.notes.length = w at hne hlen hres2
        have c4 := rproduct_tc s hl w (by omega)
        have hp := List.length_pos_iff.2 hne
        rw [enQ, fxS, hbw]
        (simp only [go_sem,↓reduceIte,Nat.reduceAdd,Nat.reduceSub,Nat.reduceMul,Nat.reduceLT,Nat.reduceLeDiff,Nat.reduceEqDiff,Nat.reduceGT,Int.reduceToNat,Int.reduceBEq,Int.reduceBNe];try simp (disch := omega) only [wrapI,wrapU,half_sum,toNat_sub1,toNat_add1,Int.toNat_natCast])
        (have cl1 := c4;have sx1 := Nat.add_zero 0;repeat' (first|with_reducible refine T_seq_drawT (id := 17) Γ_ok drawsAny pl20_17 (by kernel_rfl) (fun K hK=>?_)|with_reducible refine T_last_drawT (id := 17) Γ_ok drawsAny pl20_17 (by kernel_rfl) (fun K hK=>?_)|((refine goU1 _ _ _ _ _ _ _ _ _ _ _ _ ?_ ?_ ?_ ?_ ?_ ?_ ?_ ?_ ?_ ?_ ?_ ?_) <;> (repeat intro hb) <;> first|exact True.intro|refine Lf.mk ?_)))
        rw [← hQ]; exact resA_own (v := (prR s w).1) hres2 rfl
  · rw [tf_f hs] at c1
    have hres : shR s = ([], z6, 1) := by unfold shR; rw [if_neg (by rw [tf_f hs]; simp)]
    (refine TC_of_T Γ_ok Try.func20 rfl (by kernel_rfl) ?_;simp only [Try.ntmps20,Try.results20,List.length_cons,List.length_nil,Nat.reduceSub,Nat.reduceAdd,List.replicate,List.cons_append,List.nil_append])
    (have cl1 := c1;have sx1 := Nat.add_zero 0;repeat' (first|with_reducible refine T_seq_drawT (id := 17) Γ_ok drawsAny pl20_17 (by kernel_rfl) (fun K hK=>?_)|with_reducible refine T_last_drawT (id := 17) Γ_ok drawsAny pl20_17 (by kernel_rfl) (fun K hK=>?_)|((refine goU1 _ _ _ _ _ _ _ _ _ _ _ _ ?_ ?_ ?_ ?_ ?_ ?_ ?_ ?_ ?_ ?_ ?_ ?_) <;> (repeat intro hb) <;> first|exact True.intro|refine Lf.mk ?_)))
    rw [← hQ]; exact resA_nil hres
end Go.Proofs.Ytmglcamgpgkblaa
