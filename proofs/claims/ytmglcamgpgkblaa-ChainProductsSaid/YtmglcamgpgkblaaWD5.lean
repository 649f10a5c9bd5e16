/-
  ChainProducts.
-/
import Derived.Test.YtmglcamgpgkblaaWGo3
import Derived.Test.YtmglcamgpgkblaaWD5a
import Derived.Test.YtmglcamgpgkblaaWAb30
set_option linter.unusedSimpArgs false
set_option linter.unusedVariables false
namespace Go.Proofs.Ytmglcamgpgkblaa
open Go.Ab
theorem sp_turn (l : List Sp) {i : Nat} (hi : i < l.length) : ∀ p q,p < l.length - i + i → q < 3 → catE (l.length - i) (fun p q=>catE 0 (fun _ _=>AV.top) (fun p q=>spE l (i + p) q) p q) (fun p q=>spE l p q) p q = spE (l.drop i ++ l.take i) p q := fun p q hp hq=>by
  unfold catE spE gs
  simp only [Nat.not_lt_zero, if_false, Nat.sub_zero, List.getD_eq_getElem?_getD]
  split
  · rename_i h1
    rw [List.getElem?_append_left (by rw [List.length_drop]; omega), List.getElem?_drop]
  · rename_i h1
    rw [List.getElem?_append_right (by rw [List.length_drop];omega),List.length_drop,List.getElem?_take_of_lt (by omega)]
theorem sp_twice (l : List Sp) : ∀ p q,p < l.length + l.length → q < 3 → catE l.length (fun p q=>catE 0 (fun _ _=>AV.top) (fun p q=>spE l p q) p q) (fun p q=>spE l p q) p q = spE (l ++ l) p q := fun p q hp hq=>by
  unfold catE spE gs
  simp only [Nat.not_lt_zero, if_false, Nat.sub_zero, List.getD_eq_getElem?_getD]
  split
  · rename_i h1
    rw [List.getElem?_append_left h1]
  · rename_i h1
    rw [List.getElem?_append_right (by omega)]
theorem flip_take (l : List Sp) {k : Nat} (hk : k < l.length) : (l.reverse.map flipS).take (k + 1) = (l.reverse.map flipS).take k ++ [flipS (gs l (l.length - 1 - k))] := by
  have h' : k < (l.reverse.map flipS).length := by simpa using hk
  rw [List.take_add_one, List.getElem?_eq_getElem h']
  simp [gs, show l.length - 1 - k < l.length by omega]
@[go_sem,reducible] def enQ (s : Sc) (l : List Sp) (at_ : Nat) (n k : Nat) : List AV := [.top,sps l,.imm (.int .u8 at_),.optr 0 0 0,.top,.top,.imm (.bool false),.imm (.bool true),.optr 1 0 0,.imm (.int .i64 0),.top,.top,.optr 2 0 0,.imm (.int .i64 0),.own 3 0 n none] ++ List.replicate 55 .top ++ [.imm (.int .i64 l.length),.imm (.int .i64 k)] ++ List.replicate 86 .top
@[go_sem,reducible] def fxQ (s : Sc) (v : P6) (o : List Sp) : List AObj := [.box 26 (scL s),.box 31 (p6L v),.box 31 (p6L v),spO o]
set_option maxRecDepth 100000 in
set_option maxHeartbeats 4000000 in
theorem products_law (s : Sc) (hl : ScL s) (l : List Sp) (h0 : l.length ≤ 9223372036854775807) (at_ : Nat) (ha : at_ < 256) : Look Try.prog 4 [scA s,sps l,.imm (.int .u8 at_)] (.imm (.bool true)) := by
  have hbs : ∀ x : Int, (x == x) = true := fun x => beq_self_eq_true x
  have c0 := head_tc
  have c1 := few_tc s hl
  have c2 := prod_tc s hl l h0
  have F1 := pr_len (s := s) (l := l)
  have F2 := fun i h => pr_turn (s := s) (l := l) h i
  have F3 := pr_other (s := s) (l := l)
  have F4 := pr_twice (s := s) (l := l)
  have F5 := pr_bd (s := s) (l := l)
  have F6 := fun h => (pr_ok (s := s) (l := l) h).2.1
  refine Look.mk trivial ?_
  rcases pr_cases s l with hf | hf
  · have hne := F1 hf
    have hp := List.length_pos_iff.2 hne
    have hl4 := F6 hf
    cases hfew : decide (s.notes.length ≤ 24) && decide (s.pairs.length ≤ 40) with
    | false =>
      rw [hfew] at c1
      rw [hf] at c2
      (refine TC_of_T Γ_ok Try.func4 rfl (by kernel_rfl) ?_;simp only [Try.ntmps4,Try.results4,List.length_cons,List.length_nil,Nat.reduceSub,Nat.reduceAdd,List.replicate,List.cons_append,List.nil_append])
      (have cl1 := c0;have cl2 := c1;have cl3 := c2;have sx1 : (0 : Nat) + 0 = 0 := rfl;repeat' (first|with_reducible refine T_seq_drawT (id := 6) Γ_ok drawsAny pl4_6 (by kernel_rfl) (fun K hK=>?_)|with_reducible refine T_last_drawT (id := 6) Γ_ok drawsAny pl4_6 (by kernel_rfl) (fun K hK=>?_)|with_reducible refine T_seq_drawT (id := 21) Γ_ok drawsAny pl4_21 (by kernel_rfl) (fun K hK=>?_)|with_reducible refine T_last_drawT (id := 21) Γ_ok drawsAny pl4_21 (by kernel_rfl) (fun K hK=>?_)|with_reducible refine T_seq_drawT (id := 23) Γ_ok drawsAny pl4_23 (by kernel_rfl) (fun K hK=>?_)|with_reducible refine T_last_drawT (id := 23) Γ_ok drawsAny pl4_23 (by kernel_rfl) (fun K hK=>?_)|with_reducible refine T_seq_drawT (id := 29) Γ_ok drawsAny pl4_29 (by kernel_rfl) (fun K hK=>?_)|with_reducible refine T_last_drawT (id := 29) Γ_ok drawsAny pl4_29 (by kernel_rfl) (fun K hK=>?_)|((refine goU1 _ _ _ _ _ _ _ _ _ _ _ _ ?_ ?_ ?_ ?_ ?_ ?_ ?_ ?_ ?_ ?_ ?_ ?_) <;> (repeat intro hb) <;> first|exact True.intro|refine Lf.mk ?_)))
    | true =>
      rw [hfew] at c1
      have hi : at_ % l.length < l.length := Nat.mod_lt _ (by omega)
      have e2 : ((at_ : Int)).tmod (l.length : Int) = ((at_ % l.length : Nat) : Int) := rfl
      generalize at_ % l.length = i at hi e2
      have hlen : (l.drop i ++ l.take i).length = l.length - i + i := by rw [List.length_append,List.length_drop,List.length_take];omega
      have c3 := prod_tc s hl (l.drop i ++ l.take i) (by omega)
      have c4 := prod_tc s hl (l.reverse.map flipS) (by simpa using h0)
      have c5 := prod_tc s hl (l ++ l) (by rw [List.length_append]; omega)
      rw [F2 i hf] at c3
      rw [F3 hf] at c4
      rw [F4 hf] at c5
      have hbd := (F5 hf).mono (show (16 * (l.length : Int)) ≤ 6400 by omega)
      generalize prR s l = pr at c2 c3 c4 c5 hbd hf
      obtain ⟨v, f⟩ := pr
      simp only [] at hf c3 c4 c5 hbd
      subst hf
      have hbn := hbd.neg
      have n1 : (v.a == 0 - v.neg.a) = true := by rw [beq_iff_eq]; simp [P6.neg]
      have n2 : (v.b == 0 - v.neg.b) = true := by rw [beq_iff_eq]; simp [P6.neg]
      have n3 : (v.c == 0 - v.neg.c) = true := by rw [beq_iff_eq]; simp [P6.neg]
      have n4 : (v.d == 0 - v.neg.d) = true := by rw [beq_iff_eq]; simp [P6.neg]
      have n5 : (v.e == 0 - v.neg.e) = true := by rw [beq_iff_eq]; simp [P6.neg]
      have n6 : (v.f == 0 - v.neg.f) = true := by rw [beq_iff_eq]; simp [P6.neg]
      generalize v.neg = u at n1 n2 n3 n4 n5 n6 hbn c4
      unfold Bd6 at hbd hbn
      simp only [sps, hlen] at c3
      have hv5 := sp_turn l hi
      (refine TC_of_T Γ_ok Try.func4 rfl (by kernel_rfl) ?_;simp only [Try.ntmps4,Try.results4,List.length_cons,List.length_nil,Nat.reduceSub,Nat.reduceAdd,List.replicate,List.cons_append,List.nil_append])
      (have dl1 := c0;have dl2 := c1;have dl3 := c2;have dl4 := c3;have sx1 := (And.intro e2 hbs);repeat' (first|with_reducible refine T_seq_drawT (id := 6) Γ_ok drawsAny pl4_6 (by kernel_rfl) (fun K hK=>?_)|with_reducible refine T_last_drawT (id := 6) Γ_ok drawsAny pl4_6 (by kernel_rfl) (fun K hK=>?_)|with_reducible refine T_seq_drawT (id := 21) Γ_ok drawsAny pl4_21 (by kernel_rfl) (fun K hK=>?_)|with_reducible refine T_last_drawT (id := 21) Γ_ok drawsAny pl4_21 (by kernel_rfl) (fun K hK=>?_)|with_reducible refine T_seq_drawT (id := 23) Γ_ok drawsAny pl4_23 (by kernel_rfl) (fun K hK=>?_)|with_reducible refine T_last_drawT (id := 23) Γ_ok drawsAny pl4_23 (by kernel_rfl) (fun K hK=>?_)|with_reducible refine T_seq_drawT (id := 29) Γ_ok drawsAny pl4_29 (by kernel_rfl) (fun K hK=>?_)|with_reducible refine T_last_drawT (id := 29) Γ_ok drawsAny pl4_29 (by kernel_rfl) (fun K hK=>?_)|((refine goU1 _ _ _ _ _ _ _ _ _ _ _ _ ?_ ?_ ?_ ?_ ?_ ?_ ?_ ?_ ?_ ?_ ?_ ?_) <;> (repeat intro hb) <;> first|exact True.intro|refine Lf.mk ?_)))
      refine T_loopW (fun m st => ∃ (k : Nat) (o : List Sp),k ≤ l.length ∧ m + k = l.length ∧ o = (l.reverse.map flipS).take k ∧ st = ⟨enQ s l at_ o.length k,fxQ s v o⟩)
        l.length ⟨_, Wk.trans (Wk.push 41 3 (spE [])) ?_, 0, [], by omega, by omega, rfl, rfl⟩ ?_
      · ((try simp only [List.length_append,List.length_cons,List.length_nil,Nat.zero_add]);refine Wk.intro [0,1,4,5] (by decide) (by decide) (by intro o ho;simp at ho ⊢ <;> omega) ?_ ?_ <;> repeat' (first|exact WkVL.nil|refine WkVL.cons ?_ ?_|exact WkV.top|exact WkV.imm rfl|exact WkV.imm (by simp)|exact WkV.optr rfl|exact WkV.own rfl (by simp)|exact WkV.nil_own (.inl rfl)|exact WkV.map rfl|(refine WkV.free ?_;simp [Free,FreeL] <;> assumption)|(refine WkV.free (fun _ _=>FreeL_nth ?_ _);simp [Free,FreeL];done)|refine WkV.agg ?_|refine WkV.tup ?_|refine WkV.fn ?_ ?_|exact WkO.dead|exact WkO.raw|refine WkO.ghost ?_|exact WkO.mpE rfl trivial|refine WkO.box ?_ rfl|refine WkO.arr ?_|refine And.intro ?_ (And.intro (by first|exact fun h=>h|exact fun _=>rfl|exact nofun) ?_)|exact trivial|(intro i j hi hj)))
      clear hv5
      rintro m st ⟨k, o, h1, h2, h3, rfl⟩
      have hol : o.length = k := by rw [h3]; simp; omega
      by_cases hk : k < l.length
      · have ek : ((l.length : Int) - 1 - (k : Int)).toNat = l.length - 1 - k := by omega
        have hsn := fun p q => sp_snoc o (flipS (gs l (l.length - 1 - k))) (i := p) (j := q)
        have hft := flip_take l hk
        rw [← h3] at hft
        (simp only [go_sem,↓reduceIte,Nat.reduceAdd,Nat.reduceSub,Nat.reduceMul,Nat.reduceLT,Nat.reduceLeDiff,Nat.reduceEqDiff,Nat.reduceGT,Int.reduceToNat,Int.reduceBEq,Int.reduceBNe];try simp (disch := omega) only [wrapI,wrapU,half_sum,toNat_sub1,toNat_add1,Int.toNat_natCast])
        (have sx1 := ek;repeat' (first|with_reducible refine T_seq_drawT (id := 6) Γ_ok drawsAny pl4_6 (by kernel_rfl) (fun K hK=>?_)|with_reducible refine T_last_drawT (id := 6) Γ_ok drawsAny pl4_6 (by kernel_rfl) (fun K hK=>?_)|with_reducible refine T_seq_drawT (id := 21) Γ_ok drawsAny pl4_21 (by kernel_rfl) (fun K hK=>?_)|with_reducible refine T_last_drawT (id := 21) Γ_ok drawsAny pl4_21 (by kernel_rfl) (fun K hK=>?_)|with_reducible refine T_seq_drawT (id := 23) Γ_ok drawsAny pl4_23 (by kernel_rfl) (fun K hK=>?_)|with_reducible refine T_last_drawT (id := 23) Γ_ok drawsAny pl4_23 (by kernel_rfl) (fun K hK=>?_)|with_reducible refine T_seq_drawT (id := 29) Γ_ok drawsAny pl4_29 (by kernel_rfl) (fun K hK=>?_)|with_reducible refine T_last_drawT (id := 29) Γ_ok drawsAny pl4_29 (by kernel_rfl) (fun K hK=>?_)|((refine goU1 _ _ _ _ _ _ _ _ _ _ _ _ ?_ ?_ ?_ ?_ ?_ ?_ ?_ ?_ ?_ ?_ ?_ ?_) <;> (repeat intro hb) <;> first|exact True.intro|refine Lf.mk ?_)))
        refine ⟨l.length - (k + 1),by omega,⟨enQ s l at_ (o.length + 1) (k + 1),[.box 26 (scL s),.box 31 (p6L v),.box 31 (p6L v),.arr 41 3 (o.length + 1) (spE (o ++ [flipS (gs l (l.length - 1 - k))]))]⟩,?_,k + 1,o ++ [flipS (gs l (l.length - 1 - k))],by omega,by omega,hft.symm,by rw [List.length_append] <;> rfl⟩
        ((try simp only [List.length_append,List.length_cons,List.length_nil,Nat.zero_add]);refine Wk.intro [0,1,2,6] (by decide) (by decide) (by intro o ho;simp at ho ⊢ <;> omega) ?_ ?_ <;> repeat' (first|(refine WkV.imm ?_;congr 1;omega)|(exact WkV.eqF (hsn _ _ hi hj) (spE_free _ _ _))|exact WkVL.nil|refine WkVL.cons ?_ ?_|exact WkV.top|exact WkV.imm rfl|exact WkV.imm (by simp)|exact WkV.optr rfl|exact WkV.own rfl (by simp)|exact WkV.nil_own (.inl rfl)|exact WkV.map rfl|(refine WkV.free ?_;simp [Free,FreeL] <;> assumption)|(refine WkV.free (fun _ _=>FreeL_nth ?_ _);simp [Free,FreeL];done)|refine WkV.agg ?_|refine WkV.tup ?_|refine WkV.fn ?_ ?_|exact WkO.dead|exact WkO.raw|refine WkO.ghost ?_|exact WkO.mpE rfl trivial|refine WkO.box ?_ rfl|refine WkO.arr ?_|refine And.intro ?_ (And.intro (by first|exact fun h=>h|exact fun _=>rfl|exact nofun) ?_)|exact trivial|(intro i j hi hj)))
      · have hoe : o = l.reverse.map flipS := by rw [h3, List.take_of_length_le (by simp; omega)]
        subst hoe
        clear h3 hol
        generalize l.reverse.map flipS = o at c4
        by_cases hbig : 2 * l.length > 400
        · rw [if_pos hbig] at c5
          simp only [sps, List.length_append] at c5
          have hv5 := sp_twice l
          (simp only [go_sem,↓reduceIte,Nat.reduceAdd,Nat.reduceSub,Nat.reduceMul,Nat.reduceLT,Nat.reduceLeDiff,Nat.reduceEqDiff,Nat.reduceGT,Int.reduceToNat,Int.reduceBEq,Int.reduceBNe];try simp (disch := omega) only [wrapI,wrapU,half_sum,toNat_sub1,toNat_add1,Int.toNat_natCast])
          (have dl1 := c4;have sx1 : (0 : Nat) + 0 = 0 := rfl;repeat' (first|with_reducible refine T_seq_drawT (id := 6) Γ_ok drawsAny pl4_6 (by kernel_rfl) (fun K hK=>?_)|with_reducible refine T_last_drawT (id := 6) Γ_ok drawsAny pl4_6 (by kernel_rfl) (fun K hK=>?_)|with_reducible refine T_seq_drawT (id := 21) Γ_ok drawsAny pl4_21 (by kernel_rfl) (fun K hK=>?_)|with_reducible refine T_last_drawT (id := 21) Γ_ok drawsAny pl4_21 (by kernel_rfl) (fun K hK=>?_)|with_reducible refine T_seq_drawT (id := 23) Γ_ok drawsAny pl4_23 (by kernel_rfl) (fun K hK=>?_)|with_reducible refine T_last_drawT (id := 23) Γ_ok drawsAny pl4_23 (by kernel_rfl) (fun K hK=>?_)|with_reducible refine T_seq_drawT (id := 29) Γ_ok drawsAny pl4_29 (by kernel_rfl) (fun K hK=>?_)|with_reducible refine T_last_drawT (id := 29) Γ_ok drawsAny pl4_29 (by kernel_rfl) (fun K hK=>?_)|((refine goU1 _ _ _ _ _ _ _ _ _ _ _ _ ?_ ?_ ?_ ?_ ?_ ?_ ?_ ?_ ?_ ?_ ?_ ?_) <;> (repeat intro hb) <;> first|exact True.intro|refine Lf.mk ?_)))
          refine T_rounds 7 ?_
          (have dl1 := c5;have sx1 := (And.intro hbs (And.intro n1 (And.intro n2 (And.intro n3 (And.intro n4 (And.intro n5 n6))))));repeat' (first|with_reducible refine T_seq_drawT (id := 6) Γ_ok drawsAny pl4_6 (by kernel_rfl) (fun K hK=>?_)|with_reducible refine T_last_drawT (id := 6) Γ_ok drawsAny pl4_6 (by kernel_rfl) (fun K hK=>?_)|with_reducible refine T_seq_drawT (id := 21) Γ_ok drawsAny pl4_21 (by kernel_rfl) (fun K hK=>?_)|with_reducible refine T_last_drawT (id := 21) Γ_ok drawsAny pl4_21 (by kernel_rfl) (fun K hK=>?_)|with_reducible refine T_seq_drawT (id := 23) Γ_ok drawsAny pl4_23 (by kernel_rfl) (fun K hK=>?_)|with_reducible refine T_last_drawT (id := 23) Γ_ok drawsAny pl4_23 (by kernel_rfl) (fun K hK=>?_)|with_reducible refine T_seq_drawT (id := 29) Γ_ok drawsAny pl4_29 (by kernel_rfl) (fun K hK=>?_)|with_reducible refine T_last_drawT (id := 29) Γ_ok drawsAny pl4_29 (by kernel_rfl) (fun K hK=>?_)|((refine goU1 _ _ _ _ _ _ _ _ _ _ _ _ ?_ ?_ ?_ ?_ ?_ ?_ ?_ ?_ ?_ ?_ ?_ ?_) <;> (repeat intro hb) <;> first|exact True.intro|refine Lf.mk ?_)))
        · rw [if_neg hbig] at c5
          simp only [sps, List.length_append] at c5
          have t1 : ((v.add v).a == 2 * v.a) = true := by rw [beq_iff_eq]; simp [P6.add]; omega
          have t2 : ((v.add v).b == 2 * v.b) = true := by rw [beq_iff_eq]; simp [P6.add]; omega
          have t3 : ((v.add v).c == 2 * v.c) = true := by rw [beq_iff_eq]; simp [P6.add]; omega
          have t4 : ((v.add v).d == 2 * v.d) = true := by rw [beq_iff_eq]; simp [P6.add]; omega
          have t5 : ((v.add v).e == 2 * v.e) = true := by rw [beq_iff_eq]; simp [P6.add]; omega
          have t6 : ((v.add v).f == 2 * v.f) = true := by rw [beq_iff_eq]; simp [P6.add]; omega
          generalize v.add v = w at t1 t2 t3 t4 t5 t6 c5
          have hv5 := sp_twice l
          (simp only [go_sem,↓reduceIte,Nat.reduceAdd,Nat.reduceSub,Nat.reduceMul,Nat.reduceLT,Nat.reduceLeDiff,Nat.reduceEqDiff,Nat.reduceGT,Int.reduceToNat,Int.reduceBEq,Int.reduceBNe];try simp (disch := omega) only [wrapI,wrapU,half_sum,toNat_sub1,toNat_add1,Int.toNat_natCast])
          (have dl1 := c4;have sx1 : (0 : Nat) + 0 = 0 := rfl;repeat' (first|with_reducible refine T_seq_drawT (id := 6) Γ_ok drawsAny pl4_6 (by kernel_rfl) (fun K hK=>?_)|with_reducible refine T_last_drawT (id := 6) Γ_ok drawsAny pl4_6 (by kernel_rfl) (fun K hK=>?_)|with_reducible refine T_seq_drawT (id := 21) Γ_ok drawsAny pl4_21 (by kernel_rfl) (fun K hK=>?_)|with_reducible refine T_last_drawT (id := 21) Γ_ok drawsAny pl4_21 (by kernel_rfl) (fun K hK=>?_)|with_reducible refine T_seq_drawT (id := 23) Γ_ok drawsAny pl4_23 (by kernel_rfl) (fun K hK=>?_)|with_reducible refine T_last_drawT (id := 23) Γ_ok drawsAny pl4_23 (by kernel_rfl) (fun K hK=>?_)|with_reducible refine T_seq_drawT (id := 29) Γ_ok drawsAny pl4_29 (by kernel_rfl) (fun K hK=>?_)|with_reducible refine T_last_drawT (id := 29) Γ_ok drawsAny pl4_29 (by kernel_rfl) (fun K hK=>?_)|((refine goU1 _ _ _ _ _ _ _ _ _ _ _ _ ?_ ?_ ?_ ?_ ?_ ?_ ?_ ?_ ?_ ?_ ?_ ?_) <;> (repeat intro hb) <;> first|exact True.intro|refine Lf.mk ?_)))
          refine T_rounds 7 ?_
          (have dl1 := c5;have sx1 := (And.intro hbs (And.intro n1 (And.intro n2 (And.intro n3 (And.intro n4 (And.intro n5 n6))))));repeat' (first|with_reducible refine T_seq_drawT (id := 6) Γ_ok drawsAny pl4_6 (by kernel_rfl) (fun K hK=>?_)|with_reducible refine T_last_drawT (id := 6) Γ_ok drawsAny pl4_6 (by kernel_rfl) (fun K hK=>?_)|with_reducible refine T_seq_drawT (id := 21) Γ_ok drawsAny pl4_21 (by kernel_rfl) (fun K hK=>?_)|with_reducible refine T_last_drawT (id := 21) Γ_ok drawsAny pl4_21 (by kernel_rfl) (fun K hK=>?_)|with_reducible refine T_seq_drawT (id := 23) Γ_ok drawsAny pl4_23 (by kernel_rfl) (fun K hK=>?_)|with_reducible refine T_last_drawT (id := 23) Γ_ok drawsAny pl4_23 (by kernel_rfl) (fun K hK=>?_)|with_reducible refine T_seq_drawT (id := 29) Γ_ok drawsAny pl4_29 (by kernel_rfl) (fun K hK=>?_)|with_reducible refine T_last_drawT (id := 29) Γ_ok drawsAny pl4_29 (by kernel_rfl) (fun K hK=>?_)|((refine goU1 _ _ _ _ _ _ _ _ _ _ _ _ ?_ ?_ ?_ ?_ ?_ ?_ ?_ ?_ ?_ ?_ ?_ ?_) <;> (repeat intro hb) <;> first|exact True.intro|refine Lf.mk ?_)))
          refine T_rounds 7 ?_
          (have sx1 := (And.intro hbs (And.intro t1 (And.intro t2 (And.intro t3 (And.intro t4 (And.intro t5 t6))))));repeat' (first|with_reducible refine T_seq_drawT (id := 6) Γ_ok drawsAny pl4_6 (by kernel_rfl) (fun K hK=>?_)|with_reducible refine T_last_drawT (id := 6) Γ_ok drawsAny pl4_6 (by kernel_rfl) (fun K hK=>?_)|with_reducible refine T_seq_drawT (id := 21) Γ_ok drawsAny pl4_21 (by kernel_rfl) (fun K hK=>?_)|with_reducible refine T_last_drawT (id := 21) Γ_ok drawsAny pl4_21 (by kernel_rfl) (fun K hK=>?_)|with_reducible refine T_seq_drawT (id := 23) Γ_ok drawsAny pl4_23 (by kernel_rfl) (fun K hK=>?_)|with_reducible refine T_last_drawT (id := 23) Γ_ok drawsAny pl4_23 (by kernel_rfl) (fun K hK=>?_)|with_reducible refine T_seq_drawT (id := 29) Γ_ok drawsAny pl4_29 (by kernel_rfl) (fun K hK=>?_)|with_reducible refine T_last_drawT (id := 29) Γ_ok drawsAny pl4_29 (by kernel_rfl) (fun K hK=>?_)|((refine goU1 _ _ _ _ _ _ _ _ _ _ _ _ ?_ ?_ ?_ ?_ ?_ ?_ ?_ ?_ ?_ ?_ ?_ ?_) <;> (repeat intro hb) <;> first|exact True.intro|refine Lf.mk ?_)))
  · exact (products_bad s hl l h0 at_ ha hf).1
end Go.Proofs.Ytmglcamgpgkblaa
