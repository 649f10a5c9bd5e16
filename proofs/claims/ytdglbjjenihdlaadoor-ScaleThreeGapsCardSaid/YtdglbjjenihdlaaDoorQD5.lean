/-
  ScaleThreeGaps.
-/
import Derived.Test.YtdglbjjenihdlaaDoorQGo
import Derived.Test.YtdglbjjenihdlaaDoorQGo2
import Derived.Test.YtdglbjjenihdlaaDoorQP6
import Derived.Test.YtdglbjjenihdlaaDoorQN24
import Derived.Test.YtdglbjjenihdlaaDoorQC1
set_option linter.unusedSimpArgs false
set_option linter.unusedVariables false
namespace Go.Proofs.YtdglbjjenihdlaaDoor
open Go.Ab
theorem ch_len (g : P6) (n : Int) : (chR g n).1.length ≤ 64 := by
  unfold chR
  split
  · rename_i h
    split
    · simp
    · rename_i l hl
      split
      · simp
      · rename_i m hm
        have h1 := (srtP_some hm).2.length_eq
        have h2 := (chL_len hl).1
        simp only []
        omega
  · simp
theorem ch_pos {g : P6} {n : Int} (h : (chR g n).2 = 0) : 1 ≤ n ∧ n ≤ 64 := by
  unfold chR at h
  split at h
  · rename_i k; exact k.2
  · simp at h
theorem st_scl {s : List P6} (h : (stepsR s).2 = 0) : SclOk s := by
  by_cases k : SclOk s
  · exact k
  · unfold stepsR at h
    rw [tf_f k, if_neg (by simp)] at h
    simp at h
theorem gP_mem {l : List P6} {i : Nat} (h : i < l.length) : gP l i ∈ l := by rw [gP_at h]; exact List.getElem_mem h
theorem mem_gP {l : List P6} {x : P6} (h : x ∈ l) : ∃ i, i < l.length ∧ gP l i = x := by
  obtain ⟨i, i1, i2⟩ := List.getElem_of_mem h
  exact ⟨i, i1, by rw [gP_at i1, i2]⟩
theorem take_mem {l : List P6} {x : P6} {k : Nat} (h : k < l.length) : x ∈ l.take (k + 1) ↔ x ∈ l.take k ∨ x = gP l k := by
  rw [List.take_succ_eq_append_getElem h, List.mem_append, List.mem_singleton, gP_at h]
theorem dst_take {l : List P6} {i : Nat} (h : i < l.length) : dstP (l.take (i + 1)) = addD (dstP (l.take i)) (gP l i) := by
  rw [List.take_succ_eq_append_getElem h, dst_snoc, gP_at h]
@[go_sem,reducible] def enT (N n1 dn i : Nat) : List AV := [.top,.imm (.int .i64 N),.top,.top,.top,.imm (.bool true),.top,.top,.own 2 0 n1 none,.top,.own 3 0 dn none] ++ List.replicate 31 .top ++ [.own 2 0 n1 none,.imm (.int .i64 n1),.imm (.int .i64 i)] ++ List.replicate 68 .top
@[go_sem,reducible] def enU (N n1 dn i k : Nat) (b : Bool) : List AV := [.top,.imm (.int .i64 N),.top,.top,.top,.imm (.bool true),.top,.top,.own 2 0 n1 none,.top,.own 3 0 dn none,.top,.optr 4 0 0,.imm (.bool b)] ++ List.replicate 28 .top ++ [.own 2 0 n1 none,.imm (.int .i64 n1),.imm (.int .i64 i)] ++ List.replicate 3 .top ++ [.own 3 0 dn none,.imm (.int .i64 dn),.imm (.int .i64 k)] ++ List.replicate 62 .top
@[go_sem,reducible] def enX (dn i : Nat) : List AV := [.top,.top,.top,.top,.top,.imm (.bool true),.top,.top,.top,.top,.own 0 0 dn none] ++ List.replicate 70 .top ++ [.own 0 0 dn none,.imm (.int .i64 dn),.imm (.int .i64 i)] ++ List.replicate 29 .top
set_option maxRecDepth 100000 in
set_option maxHeartbeats 8000000 in
theorem gaps_law (g : P6) (n : Int) : Look Tryd.prog 8 [p6A g, .imm (.int .i64 n)] (.imm (.bool true)) := by
  refine Look.mk trivial ?_
  have c0 := head_tc
  by_cases hn : n ≤ 24
  · have e1 : decide (n > 24) = false := decide_eq_false (by omega)
    have c1 := chain_mk g n
    have hcl := ch_len g n
    have c2 := steps_mk (chR g n).1 (by omega)
    by_cases he : (chR g n).2 = 0
    · by_cases hf : (stepsR (chR g n).1).2 = 0
      · obtain ⟨n1, n2⟩ := ch_pos he
        obtain ⟨N, rfl⟩ := Int.eq_ofNat_of_zero_le (show 0 ≤ n by omega)
        have hs := st_scl hf
        obtain ⟨g1, u, v, g2⟩ := ch_gaps (by omega) (by omega) he hs
        obtain ⟨g3, g4⟩ := steps_ok hs hf
        have hlN : (stepsR (chR g (N : Int)).1).1.length = N := by rw [g3, g1]
        have hmem : ∀ x ∈ (stepsR (chR g (N : Int)).1).1, (x = u ∨ x = v ∨ x = u.add v) ∧ Bd6 576 x := fun x hx => by
          obtain ⟨i, i1, rfl⟩ := mem_gP hx
          have h5 := g4 i (by omega)
          exact ⟨by rw [h5.1]; exact g2 i (by omega), h5.2⟩
        clear g2 g4 hs
        generalize stepsR (chR g (N : Int)).1 = T at *
        generalize chR g (N : Int) = R at *
        obtain ⟨s, e⟩ := R
        obtain ⟨l, f⟩ := T
        simp only [] at c1 c2 he hf hlN hmem g1 g3
        subst he
        subst hf
        simp only [] at g1 hcl
        have hdl : ∀ i,(dstP (l.take i)).length ≤ l.length := fun i => nd_sub (dst_nd _) fun x hx => List.mem_of_mem_take (dst_mem hx)
        have h3 := three (dst_nd l) (fun x hx => (hmem x (dst_mem hx)).1)
        have hdb : ∀ x ∈ dstP l, Bd6 576 x := fun x hx => (hmem x (dst_mem hx)).2
        clear hmem
        obtain ⟨h3, h4⟩ := h3
        (refine TC_of_T Γ_ok Tryd.func8 rfl (by kernel_rfl) ?_;simp only [Tryd.ntmps8,Tryd.results8,List.length_cons,List.length_nil,Nat.reduceSub,Nat.reduceAdd,List.replicate,List.cons_append,List.nil_append])
        (have cl1 := c0;have cm1 := c1;have cm2 := c2;have sx1 := e1;have sx2 : (0 : Nat) + 0 = 0 := rfl;repeat' (first|with_reducible refine T_seq_drawT (id := 28) Γ_ok drawsAny pl8_28 (by kernel_rfl) (fun K hK=>?_)|with_reducible refine T_last_drawT (id := 28) Γ_ok drawsAny pl8_28 (by kernel_rfl) (fun K hK=>?_)|((have sx3 : (0 : Nat) + 0 = 0 := rfl;have sx4 : (0 : Nat) + 0 = 0 := rfl;have sx5 : (0 : Nat) + 0 = 0 := rfl;have sx6 : (0 : Nat) + 0 = 0 := rfl;have sx7 : (0 : Nat) + 0 = 0 := rfl;have sx8 : (0 : Nat) + 0 = 0 := rfl;have sx9 : (0 : Nat) + 0 = 0 := rfl;refine goR9 _ _ _ _ _ _ _ _ ?_ ?_ ?_ ?_ ?_ ?_ ?_ ?_) <;> (repeat intro hb) <;> first|exact True.intro|refine Lf.mk ?_)))
        refine T_loopW (fun m st => ∃ i : Nat,i ≤ N ∧ m + i = N ∧ st = ⟨enT N l.length (dstP (l.take i)).length i,[.box 24 (p6L g),ptO s,ptO l,ptO (dstP (l.take i))]⟩)
          N ⟨_, Wk.trans (Wk.push 24 6 (ptE [])) ?_, 0, by omega, rfl, rfl⟩ ?_
        · rw [List.take_zero]
          ((try simp only [List.length_append,List.length_cons,List.length_nil,Nat.zero_add]);refine Wk.intro [0,1,2,3] (by decide) (by decide) (by intro o ho;simp at ho ⊢ <;> omega) ?_ ?_ <;> repeat' (first|exact WkVL.nil|refine WkVL.cons ?_ ?_|exact WkV.top|exact WkV.imm rfl|exact WkV.imm (by simp)|exact WkV.optr rfl|exact WkV.own rfl (by simp)|exact WkV.nil_own (.inl rfl)|exact WkV.map rfl|(refine WkV.free ?_;simp [Free,FreeL] <;> assumption)|(refine WkV.free (fun _ _=>FreeL_nth ?_ _);simp [Free,FreeL];done)|refine WkV.agg ?_|refine WkV.tup ?_|refine WkV.fn ?_ ?_|exact WkO.dead|exact WkO.raw|refine WkO.ghost ?_|exact WkO.mpE rfl trivial|refine WkO.box ?_ rfl|refine WkO.arr ?_|refine And.intro ?_ (And.intro (by first|exact fun h=>h|exact fun _=>rfl|exact nofun) ?_)|exact trivial|(intro i j hi hj)))
        rintro m st ⟨i, k0, k1, rfl⟩
        by_cases hi : i < N
        · have hst := dst_take (l := l) (i := i) (by omega)
          have hD := hdl i
          generalize dstP (l.take i) = D at *
          (simp only [go_sem,↓reduceIte,Nat.reduceAdd,Nat.reduceSub,Nat.reduceMul,Nat.reduceLT,Nat.reduceLeDiff,Nat.reduceEqDiff,Nat.reduceGT,Int.reduceToNat,Int.reduceBEq,Int.reduceBNe];try simp (disch := omega) only [wrapI,wrapU,half_sum,toNat_sub1,toNat_add1,Int.toNat_natCast])
          (repeat' (first|with_reducible refine T_seq_drawT (id := 28) Γ_ok drawsAny pl8_28 (by kernel_rfl) (fun K hK=>?_)|with_reducible refine T_last_drawT (id := 28) Γ_ok drawsAny pl8_28 (by kernel_rfl) (fun K hK=>?_)|((refine goR0 _ _ _ _ _ _ _ _ ?_ ?_ ?_ ?_ ?_ ?_ ?_ ?_) <;> (repeat intro hb) <;> first|exact True.intro|refine Lf.mk ?_)))
          refine T_loopW (fun m st=>∃ k : Nat,k ≤ D.length ∧ m + k = D.length ∧ st = ⟨enU N l.length D.length i k (decide (gP l i ∈ D.take k)),[.box 24 (p6L g),ptO s,ptO l,ptO D,.box 24 (p6L (gP l i))]⟩)
            D.length ⟨_, ?_, 0, by omega, rfl, rfl⟩ ?_
          · ((try simp only [List.length_append,List.length_cons,List.length_nil,Nat.zero_add]);refine Wk.intro [0,1,2,3,4] (by decide) (by decide) (by intro o ho;simp at ho ⊢ <;> omega) ?_ ?_ <;> repeat' (first|exact WkVL.nil|refine WkVL.cons ?_ ?_|exact WkV.top|exact WkV.imm rfl|exact WkV.imm (by simp)|exact WkV.optr rfl|exact WkV.own rfl (by simp)|exact WkV.nil_own (.inl rfl)|exact WkV.map rfl|(refine WkV.free ?_;simp [Free,FreeL] <;> assumption)|(refine WkV.free (fun _ _=>FreeL_nth ?_ _);simp [Free,FreeL];done)|refine WkV.agg ?_|refine WkV.tup ?_|refine WkV.fn ?_ ?_|exact WkO.dead|exact WkO.raw|refine WkO.ghost ?_|exact WkO.mpE rfl trivial|refine WkO.box ?_ rfl|refine WkO.arr ?_|refine And.intro ?_ (And.intro (by first|exact fun h=>h|exact fun _=>rfl|exact nofun) ?_)|exact trivial|(intro i j hi hj)))
          rintro m2 st ⟨k, q0, q1, rfl⟩
          by_cases hk : k < D.length
          · have hmk := take_mem (x := gP l i) hk
            obtain ⟨E, hE⟩ : ∃ E, E = D.take (k + 1) := ⟨_, rfl⟩
            rw [← hE] at hmk
            generalize D.take k = F at *
            by_cases hF : gP l i ∈ F
            · have e2 : decide (gP l i ∈ F) = true := decide_eq_true hF
              have e3 : decide (gP l i ∈ E) = true := decide_eq_true (hmk.2 (.inl hF))
              rw [e2]
              (simp only [go_sem,↓reduceIte,Nat.reduceAdd,Nat.reduceSub,Nat.reduceMul,Nat.reduceLT,Nat.reduceLeDiff,Nat.reduceEqDiff,Nat.reduceGT,Int.reduceToNat,Int.reduceBEq,Int.reduceBNe];try simp (disch := omega) only [wrapI,wrapU,half_sum,toNat_sub1,toNat_add1,Int.toNat_natCast])
              (repeat' (first|with_reducible refine T_seq_drawT (id := 28) Γ_ok drawsAny pl8_28 (by kernel_rfl) (fun K hK=>?_)|with_reducible refine T_last_drawT (id := 28) Γ_ok drawsAny pl8_28 (by kernel_rfl) (fun K hK=>?_)|((have sx1 : (0 : Nat) + 0 = 0 := rfl;have sx2 : (0 : Nat) + 0 = 0 := rfl;refine goB2 _ _ _ _ _ _ _ _ ?_ ?_ ?_ ?_ ?_ ?_ ?_ ?_) <;> (repeat intro hb) <;> first|exact True.intro|refine Lf.mk ?_)))
              refine ⟨D.length - (k + 1), by omega, _, ?_, k + 1, by omega, by omega, rfl⟩
              rw [← hE, e3]
              ((try simp only [List.length_append,List.length_cons,List.length_nil,Nat.zero_add]);refine Wk.intro [0,1,2,3,4] (by decide) (by decide) (by intro o ho;simp at ho ⊢ <;> omega) ?_ ?_ <;> repeat' (first|(refine WkV.imm ?_;congr 1;omega)|exact WkVL.nil|refine WkVL.cons ?_ ?_|exact WkV.top|exact WkV.imm rfl|exact WkV.imm (by simp)|exact WkV.optr rfl|exact WkV.own rfl (by simp)|exact WkV.nil_own (.inl rfl)|exact WkV.map rfl|(refine WkV.free ?_;simp [Free,FreeL] <;> assumption)|(refine WkV.free (fun _ _=>FreeL_nth ?_ _);simp [Free,FreeL];done)|refine WkV.agg ?_|refine WkV.tup ?_|refine WkV.fn ?_ ?_|exact WkO.dead|exact WkO.raw|refine WkO.ghost ?_|exact WkO.mpE rfl trivial|refine WkO.box ?_ rfl|refine WkO.arr ?_|refine And.intro ?_ (And.intro (by first|exact fun h=>h|exact fun _=>rfl|exact nofun) ?_)|exact trivial|(intro i j hi hj)))
            · have e2 : decide (gP l i ∈ F) = false := decide_eq_false hF
              rw [e2]
              by_cases hx : gP l i = gP D k
              · have e3 : decide (gP l i ∈ E) = true := decide_eq_true (hmk.2 (.inr hx))
                (simp only [go_sem,↓reduceIte,Nat.reduceAdd,Nat.reduceSub,Nat.reduceMul,Nat.reduceLT,Nat.reduceLeDiff,Nat.reduceEqDiff,Nat.reduceGT,Int.reduceToNat,Int.reduceBEq,Int.reduceBNe];try simp (disch := omega) only [wrapI,wrapU,half_sum,toNat_sub1,toNat_add1,Int.toNat_natCast])
                (repeat' (first|with_reducible refine T_seq_drawT (id := 28) Γ_ok drawsAny pl8_28 (by kernel_rfl) (fun K hK=>?_)|with_reducible refine T_last_drawT (id := 28) Γ_ok drawsAny pl8_28 (by kernel_rfl) (fun K hK=>?_)|((refine goR0 _ _ _ _ _ _ _ _ ?_ ?_ ?_ ?_ ?_ ?_ ?_ ?_) <;> (repeat intro hb) <;> first|exact True.intro|refine Lf.mk ?_)))
                refine ⟨D.length - (k + 1), by omega, _, ?_, k + 1, by omega, by omega, rfl⟩
                rw [← hE, e3, hx]
                simp only [beq_self_eq_true, Bool.and_self]
                ((try simp only [List.length_append,List.length_cons,List.length_nil,Nat.zero_add]);refine Wk.intro [0,1,2,3,4] (by decide) (by decide) (by intro o ho;simp at ho ⊢ <;> omega) ?_ ?_ <;> repeat' (first|(refine WkV.imm ?_;congr 1;omega)|exact WkVL.nil|refine WkVL.cons ?_ ?_|exact WkV.top|exact WkV.imm rfl|exact WkV.imm (by simp)|exact WkV.optr rfl|exact WkV.own rfl (by simp)|exact WkV.nil_own (.inl rfl)|exact WkV.map rfl|(refine WkV.free ?_;simp [Free,FreeL] <;> assumption)|(refine WkV.free (fun _ _=>FreeL_nth ?_ _);simp [Free,FreeL];done)|refine WkV.agg ?_|refine WkV.tup ?_|refine WkV.fn ?_ ?_|exact WkO.dead|exact WkO.raw|refine WkO.ghost ?_|exact WkO.mpE rfl trivial|refine WkO.box ?_ rfl|refine WkO.arr ?_|refine And.intro ?_ (And.intro (by first|exact fun h=>h|exact fun _=>rfl|exact nofun) ?_)|exact trivial|(intro i j hi hj)))
              · have e3 : decide (gP l i ∈ E) = false := decide_eq_false fun k9 => by
                  rcases hmk.1 k9 with k9 | k9
                  · exact hF k9
                  · exact hx k9
                have e4 : ((gP l i).a == (gP D k).a && ((gP l i).b == (gP D k).b && ((gP l i).c == (gP D k).c && ((gP l i).d == (gP D k).d && ((gP l i).e == (gP D k).e && (gP l i).f == (gP D k).f))))) = false := by
                  rw [Bool.eq_false_iff]
                  intro k9
                  simp only [Bool.and_eq_true, beq_iff_eq] at k9
                  exact hx ((p6_eq _ _).1 k9)
                (simp only [go_sem,↓reduceIte,Nat.reduceAdd,Nat.reduceSub,Nat.reduceMul,Nat.reduceLT,Nat.reduceLeDiff,Nat.reduceEqDiff,Nat.reduceGT,Int.reduceToNat,Int.reduceBEq,Int.reduceBNe];try simp (disch := omega) only [wrapI,wrapU,half_sum,toNat_sub1,toNat_add1,Int.toNat_natCast])
                (repeat' (first|with_reducible refine T_seq_drawT (id := 28) Γ_ok drawsAny pl8_28 (by kernel_rfl) (fun K hK=>?_)|with_reducible refine T_last_drawT (id := 28) Γ_ok drawsAny pl8_28 (by kernel_rfl) (fun K hK=>?_)|((refine goR0 _ _ _ _ _ _ _ _ ?_ ?_ ?_ ?_ ?_ ?_ ?_ ?_) <;> (repeat intro hb) <;> first|exact True.intro|refine Lf.mk ?_)))
                refine ⟨D.length - (k + 1), by omega, _, ?_, k + 1, by omega, by omega, rfl⟩
                rw [← hE, e3, e4]
                ((try simp only [List.length_append,List.length_cons,List.length_nil,Nat.zero_add]);refine Wk.intro [0,1,2,3,4] (by decide) (by decide) (by intro o ho;simp at ho ⊢ <;> omega) ?_ ?_ <;> repeat' (first|(refine WkV.imm ?_;congr 1;omega)|exact WkVL.nil|refine WkVL.cons ?_ ?_|exact WkV.top|exact WkV.imm rfl|exact WkV.imm (by simp)|exact WkV.optr rfl|exact WkV.own rfl (by simp)|exact WkV.nil_own (.inl rfl)|exact WkV.map rfl|(refine WkV.free ?_;simp [Free,FreeL] <;> assumption)|(refine WkV.free (fun _ _=>FreeL_nth ?_ _);simp [Free,FreeL];done)|refine WkV.agg ?_|refine WkV.tup ?_|refine WkV.fn ?_ ?_|exact WkO.dead|exact WkO.raw|refine WkO.ghost ?_|exact WkO.mpE rfl trivial|refine WkO.box ?_ rfl|refine WkO.arr ?_|refine And.intro ?_ (And.intro (by first|exact fun h=>h|exact fun _=>rfl|exact nofun) ?_)|exact trivial|(intro i j hi hj)))
          · obtain rfl : k = D.length := by omega
            rw [List.take_length]
            by_cases hF : gP l i ∈ D
            · rw [decide_eq_true hF]
              (simp only [go_sem,↓reduceIte,Nat.reduceAdd,Nat.reduceSub,Nat.reduceMul,Nat.reduceLT,Nat.reduceLeDiff,Nat.reduceEqDiff,Nat.reduceGT,Int.reduceToNat,Int.reduceBEq,Int.reduceBNe];try simp (disch := omega) only [wrapI,wrapU,half_sum,toNat_sub1,toNat_add1,Int.toNat_natCast])
              (repeat' (first|with_reducible refine T_seq_drawT (id := 28) Γ_ok drawsAny pl8_28 (by kernel_rfl) (fun K hK=>?_)|with_reducible refine T_last_drawT (id := 28) Γ_ok drawsAny pl8_28 (by kernel_rfl) (fun K hK=>?_)|((refine goR0 _ _ _ _ _ _ _ _ ?_ ?_ ?_ ?_ ?_ ?_ ?_ ?_) <;> (repeat intro hb) <;> first|exact True.intro|refine Lf.mk ?_)))
              refine ⟨N - (i + 1), by omega, _, ?_, i + 1, by omega, by omega, rfl⟩
              rw [hst]
              unfold addD
              rw [if_pos hF]
              ((try simp only [List.length_append,List.length_cons,List.length_nil,Nat.zero_add]);refine Wk.intro [0,1,2,3] (by decide) (by decide) (by intro o ho;simp at ho ⊢ <;> omega) ?_ ?_ <;> repeat' (first|(refine WkV.imm ?_;congr 1;omega)|exact WkVL.nil|refine WkVL.cons ?_ ?_|exact WkV.top|exact WkV.imm rfl|exact WkV.imm (by simp)|exact WkV.optr rfl|exact WkV.own rfl (by simp)|exact WkV.nil_own (.inl rfl)|exact WkV.map rfl|(refine WkV.free ?_;simp [Free,FreeL] <;> assumption)|(refine WkV.free (fun _ _=>FreeL_nth ?_ _);simp [Free,FreeL];done)|refine WkV.agg ?_|refine WkV.tup ?_|refine WkV.fn ?_ ?_|exact WkO.dead|exact WkO.raw|refine WkO.ghost ?_|exact WkO.mpE rfl trivial|refine WkO.box ?_ rfl|refine WkO.arr ?_|refine And.intro ?_ (And.intro (by first|exact fun h=>h|exact fun _=>rfl|exact nofun) ?_)|exact trivial|(intro i j hi hj)))
            · rw [decide_eq_false hF]
              have hsn := fun p q => pt_snoc D (gP l i) (i := p) (j := q)
              (simp only [go_sem,↓reduceIte,Nat.reduceAdd,Nat.reduceSub,Nat.reduceMul,Nat.reduceLT,Nat.reduceLeDiff,Nat.reduceEqDiff,Nat.reduceGT,Int.reduceToNat,Int.reduceBEq,Int.reduceBNe];try simp (disch := omega) only [wrapI,wrapU,half_sum,toNat_sub1,toNat_add1,Int.toNat_natCast])
              (repeat' (first|with_reducible refine T_seq_drawT (id := 28) Γ_ok drawsAny pl8_28 (by kernel_rfl) (fun K hK=>?_)|with_reducible refine T_last_drawT (id := 28) Γ_ok drawsAny pl8_28 (by kernel_rfl) (fun K hK=>?_)|((refine goR0 _ _ _ _ _ _ _ _ ?_ ?_ ?_ ?_ ?_ ?_ ?_ ?_) <;> (repeat intro hb) <;> first|exact True.intro|refine Lf.mk ?_)))
              refine ⟨N - (i + 1),by omega,⟨enT N l.length (D ++ [gP l i]).length (i + 1),[.box 24 (p6L g),ptO s,ptO l,ptO (D ++ [gP l i])]⟩,?_,i + 1,by omega,by omega,?_⟩
              · simp only [ptO]
                ((try simp only [List.length_append,List.length_cons,List.length_nil,Nat.zero_add]);refine Wk.intro [0,1,2,6] (by decide) (by decide) (by intro o ho;simp at ho ⊢ <;> omega) ?_ ?_ <;> repeat' (first|(exact WkV.eqF (hsn _ _ hi hj) (ptE_free _ _ _))|(refine WkV.imm ?_;congr 1;omega)|exact WkVL.nil|refine WkVL.cons ?_ ?_|exact WkV.top|exact WkV.imm rfl|exact WkV.imm (by simp)|exact WkV.optr rfl|exact WkV.own rfl (by simp)|exact WkV.nil_own (.inl rfl)|exact WkV.map rfl|(refine WkV.free ?_;simp [Free,FreeL] <;> assumption)|(refine WkV.free (fun _ _=>FreeL_nth ?_ _);simp [Free,FreeL];done)|refine WkV.agg ?_|refine WkV.tup ?_|refine WkV.fn ?_ ?_|exact WkO.dead|exact WkO.raw|refine WkO.ghost ?_|exact WkO.mpE rfl trivial|refine WkO.box ?_ rfl|refine WkO.arr ?_|refine And.intro ?_ (And.intro (by first|exact fun h=>h|exact fun _=>rfl|exact nofun) ?_)|exact trivial|(intro i j hi hj)))
              · rw [hst]
                unfold addD
                rw [if_neg hF]
                rfl
        · obtain rfl : i = N := by omega
          rw [show l.take i = l by rw [← hlN, List.take_length]]
          generalize dstP l = D at *
          have f1 : ((l.length : Int) != (i : Int)) = false := by simp; omega
          have f2 : decide ((D.length : Int) > 3) = false := decide_eq_false (by omega)
          by_cases h5 : D.length < 3
          · have f3 : decide ((D.length : Int) < 3) = true := decide_eq_true (by omega)
            (simp only [go_sem,↓reduceIte,Nat.reduceAdd,Nat.reduceSub,Nat.reduceMul,Nat.reduceLT,Nat.reduceLeDiff,Nat.reduceEqDiff,Nat.reduceGT,Int.reduceToNat,Int.reduceBEq,Int.reduceBNe];try simp (disch := omega) only [wrapI,wrapU,half_sum,toNat_sub1,toNat_add1,Int.toNat_natCast])
            (have sx1 := f1;have sx2 := f2;have sx3 := f3;have sx4 : (0 : Nat) + 0 = 0 := rfl;repeat' (first|with_reducible refine T_seq_drawT (id := 28) Γ_ok drawsAny pl8_28 (by kernel_rfl) (fun K hK=>?_)|with_reducible refine T_last_drawT (id := 28) Γ_ok drawsAny pl8_28 (by kernel_rfl) (fun K hK=>?_)|((have sx5 : (0 : Nat) + 0 = 0 := rfl;have sx6 : (0 : Nat) + 0 = 0 := rfl;have sx7 : (0 : Nat) + 0 = 0 := rfl;have sx8 : (0 : Nat) + 0 = 0 := rfl;have sx9 : (0 : Nat) + 0 = 0 := rfl;refine goR9 _ _ _ _ _ _ _ _ ?_ ?_ ?_ ?_ ?_ ?_ ?_ ?_) <;> (repeat intro hb) <;> first|exact True.intro|refine Lf.mk ?_)))
          · have f3 : decide ((D.length : Int) < 3) = false := decide_eq_false (by omega)
            obtain ⟨w, w1, w2⟩ := h4 (by omega)
            have hD3 : D.length = 3 := by omega
            (simp only [go_sem,↓reduceIte,Nat.reduceAdd,Nat.reduceSub,Nat.reduceMul,Nat.reduceLT,Nat.reduceLeDiff,Nat.reduceEqDiff,Nat.reduceGT,Int.reduceToNat,Int.reduceBEq,Int.reduceBNe];try simp (disch := omega) only [wrapI,wrapU,half_sum,toNat_sub1,toNat_add1,Int.toNat_natCast])
            (have sx1 := f1;have sx2 := f2;have sx3 := f3;have sx4 : (0 : Nat) + 0 = 0 := rfl;repeat' (first|with_reducible refine T_seq_drawT (id := 28) Γ_ok drawsAny pl8_28 (by kernel_rfl) (fun K hK=>?_)|with_reducible refine T_last_drawT (id := 28) Γ_ok drawsAny pl8_28 (by kernel_rfl) (fun K hK=>?_)|((have sx5 : (0 : Nat) + 0 = 0 := rfl;have sx6 : (0 : Nat) + 0 = 0 := rfl;have sx7 : (0 : Nat) + 0 = 0 := rfl;have sx8 : (0 : Nat) + 0 = 0 := rfl;have sx9 : (0 : Nat) + 0 = 0 := rfl;refine goR9 _ _ _ _ _ _ _ _ ?_ ?_ ?_ ?_ ?_ ?_ ?_ ?_) <;> (repeat intro hb) <;> first|exact True.intro|refine Lf.mk ?_)))
            refine T_loopW (fun m st => ∃ r : Nat, r ≤ w ∧ m + r = w ∧ st = ⟨enX D.length r, [ptO D]⟩)
              w ⟨_, ?_, 0, by omega, by omega, rfl⟩ ?_
            · ((try simp only [List.length_append,List.length_cons,List.length_nil,Nat.zero_add]);refine Wk.intro [3] (by decide) (by decide) (by intro o ho;simp at ho ⊢ <;> omega) ?_ ?_ <;> repeat' (first|exact WkVL.nil|refine WkVL.cons ?_ ?_|exact WkV.top|exact WkV.imm rfl|exact WkV.imm (by simp)|exact WkV.optr rfl|exact WkV.own rfl (by simp)|exact WkV.nil_own (.inl rfl)|exact WkV.map rfl|(refine WkV.free ?_;simp [Free,FreeL] <;> assumption)|(refine WkV.free (fun _ _=>FreeL_nth ?_ _);simp [Free,FreeL];done)|refine WkV.agg ?_|refine WkV.tup ?_|refine WkV.fn ?_ ?_|exact WkO.dead|exact WkO.raw|refine WkO.ghost ?_|exact WkO.mpE rfl trivial|refine WkO.box ?_ rfl|refine WkO.arr ?_|refine And.intro ?_ (And.intro (by first|exact fun h=>h|exact fun _=>rfl|exact nofun) ?_)|exact trivial|(intro i j hi hj)))
            rintro m3 st ⟨r, r0, r1, rfl⟩
            have c3 := mul_tc (gP D ((r + 1) % 3)) (gP D ((r + 2) % 3))
            have e5 : ((r : Int) + 1).tmod 3 = (((r + 1) % 3 : Nat) : Int) := rfl
            have e6 : ((r : Int) + 2).tmod 3 = (((r + 2) % 3 : Nat) : Int) := rfl
            have x1 := hdb _ (gP_mem (l := D) (i := (r + 1) % 3) (by omega))
            have x2 := hdb _ (gP_mem (l := D) (i := (r + 2) % 3) (by omega))
            have x3 := hdb _ (gP_mem (l := D) (i := r) (by omega))
            by_cases hx : (gP D ((r + 1) % 3)).add (gP D ((r + 2) % 3)) = gP D r
            · have hm : mulR (gP D ((r + 1) % 3)) (gP D ((r + 2) % 3)) = (gP D r, 0) := by
                unfold mulR
                rw [if_pos ⟨x1, x2⟩, hx, if_pos x3]
              rw [hm] at c3
              clear hm hx x1 x2 x3
              (simp only [go_sem,↓reduceIte,Nat.reduceAdd,Nat.reduceSub,Nat.reduceMul,Nat.reduceLT,Nat.reduceLeDiff,Nat.reduceEqDiff,Nat.reduceGT,Int.reduceToNat,Int.reduceBEq,Int.reduceBNe];try simp (disch := omega) only [wrapI,wrapU,half_sum,toNat_sub1,toNat_add1,Int.toNat_natCast])
              (have dl1 := c3;have sx1 := e5;have sx2 := e6;repeat' (first|with_reducible refine T_seq_drawT (id := 28) Γ_ok drawsAny pl8_28 (by kernel_rfl) (fun K hK=>?_)|with_reducible refine T_last_drawT (id := 28) Γ_ok drawsAny pl8_28 (by kernel_rfl) (fun K hK=>?_)|((have sx3 : (0 : Nat) + 0 = 0 := rfl;have sx4 : (0 : Nat) + 0 = 0 := rfl;have sx5 : (0 : Nat) + 0 = 0 := rfl;have sx6 : (0 : Nat) + 0 = 0 := rfl;have sx7 : (0 : Nat) + 0 = 0 := rfl;have sx8 : (0 : Nat) + 0 = 0 := rfl;have sx9 : (0 : Nat) + 0 = 0 := rfl;refine goR9 _ _ _ _ _ _ _ _ ?_ ?_ ?_ ?_ ?_ ?_ ?_ ?_) <;> (repeat intro hb) <;> first|exact True.intro|refine Lf.mk ?_)))
              simp at hb
            · have hm : (mulR (gP D ((r + 1) % 3)) (gP D ((r + 2) % 3))).2 = 0 → (mulR (gP D ((r + 1) % 3)) (gP D ((r + 2) % 3))).1 ≠ gP D r := by
                intro q
                unfold mulR at q ⊢
                rw [if_pos ⟨x1, x2⟩] at q ⊢
                by_cases q2 : Bd6 576 ((gP D ((r + 1) % 3)).add (gP D ((r + 2) % 3)))
                · rw [if_pos q2]; exact hx
                · rw [if_neg q2] at q; simp at q
              have hrw : r ≠ w := fun q => hx (by rw [q]; exact w2)
              clear hx x1 x2 x3 w2
              generalize mulR (gP D ((r + 1) % 3)) (gP D ((r + 2) % 3)) = M at c3 hm
              (simp only [go_sem,↓reduceIte,Nat.reduceAdd,Nat.reduceSub,Nat.reduceMul,Nat.reduceLT,Nat.reduceLeDiff,Nat.reduceEqDiff,Nat.reduceGT,Int.reduceToNat,Int.reduceBEq,Int.reduceBNe];try simp (disch := omega) only [wrapI,wrapU,half_sum,toNat_sub1,toNat_add1,Int.toNat_natCast])
              (have dl1 := c3;have sx1 := e5;have sx2 := e6;repeat' (first|with_reducible refine T_seq_drawT (id := 28) Γ_ok drawsAny pl8_28 (by kernel_rfl) (fun K hK=>?_)|with_reducible refine T_last_drawT (id := 28) Γ_ok drawsAny pl8_28 (by kernel_rfl) (fun K hK=>?_)|((have sx3 : (0 : Nat) + 0 = 0 := rfl;have sx4 : (0 : Nat) + 0 = 0 := rfl;have sx5 : (0 : Nat) + 0 = 0 := rfl;have sx6 : (0 : Nat) + 0 = 0 := rfl;have sx7 : (0 : Nat) + 0 = 0 := rfl;have sx8 : (0 : Nat) + 0 = 0 := rfl;have sx9 : (0 : Nat) + 0 = 0 := rfl;refine goR9 _ _ _ _ _ _ _ _ ?_ ?_ ?_ ?_ ?_ ?_ ?_ ?_) <;> (repeat intro hb) <;> first|exact True.intro|refine Lf.mk ?_)))
              refine ⟨w - (r + 1), by omega, _, ?_, r + 1, by omega, by omega, rfl⟩
              ((try simp only [List.length_append,List.length_cons,List.length_nil,Nat.zero_add]);refine Wk.intro [0] (by decide) (by decide) (by intro o ho;simp at ho ⊢ <;> omega) ?_ ?_ <;> repeat' (first|(refine WkV.imm ?_;congr 1;omega)|exact WkVL.nil|refine WkVL.cons ?_ ?_|exact WkV.top|exact WkV.imm rfl|exact WkV.imm (by simp)|exact WkV.optr rfl|exact WkV.own rfl (by simp)|exact WkV.nil_own (.inl rfl)|exact WkV.map rfl|(refine WkV.free ?_;simp [Free,FreeL] <;> assumption)|(refine WkV.free (fun _ _=>FreeL_nth ?_ _);simp [Free,FreeL];done)|refine WkV.agg ?_|refine WkV.tup ?_|refine WkV.fn ?_ ?_|exact WkO.dead|exact WkO.raw|refine WkO.ghost ?_|exact WkO.mpE rfl trivial|refine WkO.box ?_ rfl|refine WkO.arr ?_|refine And.intro ?_ (And.intro (by first|exact fun h=>h|exact fun _=>rfl|exact nofun) ?_)|exact trivial|(intro i j hi hj)))
      · generalize stepsR (chR g n).1 = T at *
        have e3 : (T.2 != 0) = true := by rw [bne_iff_ne]; exact hf
        generalize chR g n = R at *
        have e2 : (R.2 != 0) = false := by rw [he]; rfl
        (refine TC_of_T Γ_ok Tryd.func8 rfl (by kernel_rfl) ?_;simp only [Tryd.ntmps8,Tryd.results8,List.length_cons,List.length_nil,Nat.reduceSub,Nat.reduceAdd,List.replicate,List.cons_append,List.nil_append])
        (have cl1 := c0;have cm1 := c1;have cm2 := c2;have sx1 := e1;have sx2 := e2;have sx3 := e3;have sx4 : (0 : Nat) + 0 = 0 := rfl;repeat' (first|with_reducible refine T_seq_drawT (id := 28) Γ_ok drawsAny pl8_28 (by kernel_rfl) (fun K hK=>?_)|with_reducible refine T_last_drawT (id := 28) Γ_ok drawsAny pl8_28 (by kernel_rfl) (fun K hK=>?_)|((have sx5 : (0 : Nat) + 0 = 0 := rfl;have sx6 : (0 : Nat) + 0 = 0 := rfl;have sx7 : (0 : Nat) + 0 = 0 := rfl;have sx8 : (0 : Nat) + 0 = 0 := rfl;have sx9 : (0 : Nat) + 0 = 0 := rfl;refine goR9 _ _ _ _ _ _ _ _ ?_ ?_ ?_ ?_ ?_ ?_ ?_ ?_) <;> (repeat intro hb) <;> first|exact True.intro|refine Lf.mk ?_)))
    · generalize stepsR (chR g n).1 = T at *
      generalize chR g n = R at *
      have e2 : (R.2 != 0) = true := by rw [bne_iff_ne]; exact he
      (refine TC_of_T Γ_ok Tryd.func8 rfl (by kernel_rfl) ?_;simp only [Tryd.ntmps8,Tryd.results8,List.length_cons,List.length_nil,Nat.reduceSub,Nat.reduceAdd,List.replicate,List.cons_append,List.nil_append])
      (have cl1 := c0;have cm1 := c1;have cm2 := c2;have sx1 := e1;have sx2 := e2;repeat' (first|with_reducible refine T_seq_drawT (id := 28) Γ_ok drawsAny pl8_28 (by kernel_rfl) (fun K hK=>?_)|with_reducible refine T_last_drawT (id := 28) Γ_ok drawsAny pl8_28 (by kernel_rfl) (fun K hK=>?_)|((have sx3 : (0 : Nat) + 0 = 0 := rfl;have sx4 : (0 : Nat) + 0 = 0 := rfl;have sx5 : (0 : Nat) + 0 = 0 := rfl;have sx6 : (0 : Nat) + 0 = 0 := rfl;have sx7 : (0 : Nat) + 0 = 0 := rfl;have sx8 : (0 : Nat) + 0 = 0 := rfl;have sx9 : (0 : Nat) + 0 = 0 := rfl;refine goR9 _ _ _ _ _ _ _ _ ?_ ?_ ?_ ?_ ?_ ?_ ?_ ?_) <;> (repeat intro hb) <;> first|exact True.intro|refine Lf.mk ?_)))
  · have e1 : decide (n > 24) = true := decide_eq_true (by omega)
    (refine TC_of_T Γ_ok Tryd.func8 rfl (by kernel_rfl) ?_;simp only [Tryd.ntmps8,Tryd.results8,List.length_cons,List.length_nil,Nat.reduceSub,Nat.reduceAdd,List.replicate,List.cons_append,List.nil_append])
    (have cl1 := c0;have sx1 := e1;have sx2 : (0 : Nat) + 0 = 0 := rfl;repeat' (first|with_reducible refine T_seq_drawT (id := 28) Γ_ok drawsAny pl8_28 (by kernel_rfl) (fun K hK=>?_)|with_reducible refine T_last_drawT (id := 28) Γ_ok drawsAny pl8_28 (by kernel_rfl) (fun K hK=>?_)|((have sx3 : (0 : Nat) + 0 = 0 := rfl;have sx4 : (0 : Nat) + 0 = 0 := rfl;have sx5 : (0 : Nat) + 0 = 0 := rfl;have sx6 : (0 : Nat) + 0 = 0 := rfl;have sx7 : (0 : Nat) + 0 = 0 := rfl;have sx8 : (0 : Nat) + 0 = 0 := rfl;have sx9 : (0 : Nat) + 0 = 0 := rfl;refine goR9 _ _ _ _ _ _ _ _ ?_ ?_ ?_ ?_ ?_ ?_ ?_ ?_) <;> (repeat intro hb) <;> first|exact True.intro|refine Lf.mk ?_)))
end Go.Proofs.YtdglbjjenihdlaaDoor
