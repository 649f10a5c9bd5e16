/-
  ChainConsistent.
-/
import Derived.Test.YtmglcamgpgkblaaXGo
import Derived.Test.YtmglcamgpgkblaaXGo2
import Derived.Test.YtmglcamgpgkblaaXD1
import Derived.Test.YtmglcamgpgkblaaXD6b
import Derived.Test.YtmglcamgpgkblaaXD6c
import Derived.Test.YtmglcamgpgkblaaXD6e
set_option linter.unusedSimpArgs false
set_option linter.unusedVariables false
namespace Go.Proofs.Ytmglcamgpgkblaa
open Go.Ab
def wsL (s : Sc) (i : Nat) : List Pr := (s.pairs.take i).filter (offP s)
def wr (W : List Pr) : Pr := W.getLast?.getD pr0
theorem wr_snoc (W : List Pr) (p : Pr) : wr (W ++ [p]) = p := by simp [wr]
theorem wsL_step {s : Sc} {i : Nat} (h : i < s.pairs.length) : wsL s (i + 1) = if offP s (gp s.pairs i) = true then wsL s i ++ [gp s.pairs i] else wsL s i := by
  have e : s.pairs.take (i + 1) = s.pairs.take i ++ [gp s.pairs i] := by rw [List.take_add_one]; simp [gp, h]
  unfold wsL
  rw [e, List.filter_append]
  cases ho : offP s (gp s.pairs i) <;> simp [ho]
theorem wsL_yes {s : Sc} {i : Nat} (h : i < s.pairs.length) (ho : offP s (gp s.pairs i) = true) : wsL s (i + 1) = wsL s i ++ [gp s.pairs i] := by rw [wsL_step h,if_pos ho]
theorem wsL_no {s : Sc} {i : Nat} (h : i < s.pairs.length) (ho : offP s (gp s.pairs i) = false) : wsL s (i + 1) = wsL s i := by rw [wsL_step h,if_neg (by rw [ho];simp)]
theorem off_yes {s : Sc} {p : Pr} (hb : p.bound = 0) (h : p.want ≠ dif s p) : offP s p = true := by unfold offP;simp [hb,h]
theorem off_no {s : Sc} {p : Pr} (h : p.bound ≠ 0 ∨ p.want = dif s p) : offP s p = false := by
  unfold offP
  rcases h with h | h <;> simp [h]
theorem wsL_len (s : Sc) (i : Nat) : (wsL s i).length ≤ s.pairs.length := by
  unfold wsL
  exact Nat.le_trans (List.length_filter_le _ _) (by rw [List.length_take]; omega)
theorem wsL_mem {s : Sc} {p : Pr} : p ∈ wsL s s.pairs.length ↔ p ∈ s.pairs ∧ offP s p = true := by unfold wsL;rw [List.take_length,List.mem_filter]
theorem at_bd {s : Sc} (h : NsOk s) {i : Nat} (hi : i < s.notes.length) : Bd6 24 (gn s.notes i).pl := by
  have := h.one i hi
  unfold NtOk at this
  have := this.2.2.2.2.2
  unfold P6.all inB at this
  simp only [Bool.and_eq_true, decide_eq_true_eq] at this
  unfold Bd6; omega
theorem pair_step (rd : Rd) {s : Sc} (hs : ScOk s) {i : Nat} (hi : i < s.pairs.length) (KF : St → Prop) (hKF : CK KF s (wsL s (i + 1)).length (i + 1) (wr (wsL s (i + 1)))) (Q : Exit → St → Prop) :
    T Try.prog 0 (rd := rd) (cAt cb7 [true,true,true,true,false,true,true,true]) (thenQ KF Q) ⟨enC s (wsL s i).length i,fxC s (wr (wsL s i))⟩ := by
  have hsz := hs.sz
  unfold SzOk at hsz
  have hc := wsL_len s i
  have hpb := (hs.ps.one i hi).1
  have hpb2 := hpb
  unfold PrB at hpb2
  have hA := at_bd hs.ns (i := (gp s.pairs i).a.toNat) (by omega)
  have hB := at_bd hs.ns (i := (gp s.pairs i).b.toNat) (by omega)
  by_cases hbd : (gp s.pairs i).bound = 0
  · have yes : (gp s.pairs i).want ≠ dif s (gp s.pairs i) → CK KF s ((wsL s i).length + 1) (i + 1) (gp s.pairs i) := fun h => by
      rw [wsL_yes hi (off_yes hbd h), List.length_append, wr_snoc] at hKF
      exact hKF
    have no : (gp s.pairs i).want = dif s (gp s.pairs i) → CK KF s (wsL s i).length (i + 1) (wr (wsL s i)) := fun h => by
      rw [wsL_no hi (off_no (.inr h))] at hKF
      exact hKF
    have hd : dif s (gp s.pairs i) = ⟨(gn s.notes (gp s.pairs i).b.toNat).pl.a - (gn s.notes (gp s.pairs i).a.toNat).pl.a,(gn s.notes (gp s.pairs i).b.toNat).pl.b - (gn s.notes (gp s.pairs i).a.toNat).pl.b,(gn s.notes (gp s.pairs i).b.toNat).pl.c - (gn s.notes (gp s.pairs i).a.toNat).pl.c,(gn s.notes (gp s.pairs i).b.toNat).pl.d - (gn s.notes (gp s.pairs i).a.toNat).pl.d,(gn s.notes (gp s.pairs i).b.toNat).pl.e - (gn s.notes (gp s.pairs i).a.toNat).pl.e,(gn s.notes (gp s.pairs i).b.toNat).pl.f - (gn s.notes (gp s.pairs i).a.toNat).pl.f⟩ := by
      unfold dif plN P6.add P6.neg
      rfl
    rw [hd] at yes no
    by_cases h0 : (gp s.pairs i).want.a = (gn s.notes (gp s.pairs i).b.toNat).pl.a - (gn s.notes (gp s.pairs i).a.toNat).pl.a
    rotate_left
    · exact pair_0 rd s (by omega) (by omega) _ i (by omega) _ hi hbd hpb hA hB  h0 KF (yes fun e => h0 (by rw [e])) Q
    by_cases h1 : (gp s.pairs i).want.b = (gn s.notes (gp s.pairs i).b.toNat).pl.b - (gn s.notes (gp s.pairs i).a.toNat).pl.b
    rotate_left
    · exact pair_1 rd s (by omega) (by omega) _ i (by omega) _ hi hbd hpb hA hB h0 h1 KF (yes fun e => h1 (by rw [e])) Q
    by_cases h2 : (gp s.pairs i).want.c = (gn s.notes (gp s.pairs i).b.toNat).pl.c - (gn s.notes (gp s.pairs i).a.toNat).pl.c
    rotate_left
    · exact pair_2 rd s (by omega) (by omega) _ i (by omega) _ hi hbd hpb hA hB h0 h1 h2 KF (yes fun e => h2 (by rw [e])) Q
    by_cases h3 : (gp s.pairs i).want.d = (gn s.notes (gp s.pairs i).b.toNat).pl.d - (gn s.notes (gp s.pairs i).a.toNat).pl.d
    rotate_left
    · exact pair_3 rd s (by omega) (by omega) _ i (by omega) _ hi hbd hpb hA hB h0 h1 h2 h3 KF (yes fun e => h3 (by rw [e])) Q
    by_cases h4 : (gp s.pairs i).want.e = (gn s.notes (gp s.pairs i).b.toNat).pl.e - (gn s.notes (gp s.pairs i).a.toNat).pl.e
    rotate_left
    · exact pair_4 rd s (by omega) (by omega) _ i (by omega) _ hi hbd hpb hA hB h0 h1 h2 h3 h4 KF (yes fun e => h4 (by rw [e])) Q
    by_cases h5 : (gp s.pairs i).want.f = (gn s.notes (gp s.pairs i).b.toNat).pl.f - (gn s.notes (gp s.pairs i).a.toNat).pl.f
    rotate_left
    · exact pair_5 rd s (by omega) (by omega) _ i (by omega) _ hi hbd hpb hA hB h0 h1 h2 h3 h4 h5 KF (yes fun e => h5 (by rw [e])) Q
    exact pair_6 rd s (by omega) (by omega) _ i (by omega) _ hi hbd hpb hA hB h0 h1 h2 h3 h4 h5 KF (no (P6.ext' h0 h1 h2 h3 h4 h5)) Q
  · rw [wsL_no hi (off_no (.inl hbd))] at hKF
    exact pair_bd rd s (by omega) _ i _ hi hbd KF hKF Q
set_option maxRecDepth 100000 in
set_option maxHeartbeats 4000000 in
theorem consistent_law (s : Sc) (hl : ScL s) : Look Try.prog 7 [scA s] (.imm (.bool true)) := by
  have c0 := head_tc
  have c1 := few_tc s hl
  have c2 := rvalid_tc s hl
  have c3 := Shortest_fresh s hl
  refine Look.mk trivial ?_
  cases hfew : decide (s.notes.length ≤ 24) && decide (s.pairs.length ≤ 40) with
  | false =>
    rw [hfew] at c1
    (refine TC_of_T Γ_ok Try.func7 rfl (by kernel_rfl) ?_;simp only [Try.ntmps7,Try.results7,List.length_cons,List.length_nil,Nat.reduceSub,Nat.reduceAdd,List.replicate,List.cons_append,List.nil_append])
    (have cl1 := c0;have cl2 := c1;repeat' (first|with_reducible refine T_seq_drawT (id := 11) Γ_ok drawsAny pl7_11 (by kernel_rfl) (fun K hK=>?_)|with_reducible refine T_last_drawT (id := 11) Γ_ok drawsAny pl7_11 (by kernel_rfl) (fun K hK=>?_)|with_reducible refine T_seq_drawT (id := 12) Γ_ok drawsAny pl7_12 (by kernel_rfl) (fun K hK=>?_)|with_reducible refine T_last_drawT (id := 12) Γ_ok drawsAny pl7_12 (by kernel_rfl) (fun K hK=>?_)|((refine goB0 _ _ _ _ _ _ _ _ ?_ ?_ ?_ ?_ ?_ ?_ ?_ ?_) <;> (repeat intro hb) <;> first|exact True.intro|refine Lf.mk ?_)))
  | true =>
    rw [hfew] at c1
    by_cases hs : ScOk s
    · rw [tf_t hs] at c2
      have hsz := hs.sz
      unfold SzOk at hsz
      (refine TC_of_T Γ_ok Try.func7 rfl (by kernel_rfl) ?_;simp only [Try.ntmps7,Try.results7,List.length_cons,List.length_nil,Nat.reduceSub,Nat.reduceAdd,List.replicate,List.cons_append,List.nil_append])
      (have cl1 := c0;have cl2 := c1;have cl3 := c2;repeat' (first|with_reducible refine T_seq_drawT (id := 11) Γ_ok drawsAny pl7_11 (by kernel_rfl) (fun K hK=>?_)|with_reducible refine T_last_drawT (id := 11) Γ_ok drawsAny pl7_11 (by kernel_rfl) (fun K hK=>?_)|with_reducible refine T_seq_drawT (id := 12) Γ_ok drawsAny pl7_12 (by kernel_rfl) (fun K hK=>?_)|with_reducible refine T_last_drawT (id := 12) Γ_ok drawsAny pl7_12 (by kernel_rfl) (fun K hK=>?_)|((refine goR0 _ _ _ _ _ _ _ _ ?_ ?_ ?_ ?_ ?_ ?_ ?_ ?_) <;> (repeat intro hb) <;> first|exact True.intro|refine Lf.mk ?_)))
      refine T_loopW (fun m st => ∃ i : Nat,i ≤ s.pairs.length ∧ m + i = s.pairs.length ∧ st = ⟨enC s (wsL s i).length i,fxC s (wr (wsL s i))⟩)
        s.pairs.length ⟨_, ?_, 0, by omega, by omega, rfl⟩ ?_
      · ((try simp only [List.length_append,List.length_cons,List.length_nil,Nat.zero_add]);refine Wk.intro [0,1] (by decide) (by decide) (by intro o ho;simp at ho ⊢ <;> omega) ?_ ?_ <;> repeat' (first|exact WkVL.nil|refine WkVL.cons ?_ ?_|exact WkV.top|exact WkV.imm rfl|exact WkV.imm (by simp)|exact WkV.optr rfl|exact WkV.own rfl (by simp)|exact WkV.nil_own (.inl rfl)|exact WkV.map rfl|(refine WkV.free ?_;simp [Free,FreeL] <;> assumption)|(refine WkV.free (fun _ _=>FreeL_nth ?_ _);simp [Free,FreeL];done)|refine WkV.agg ?_|refine WkV.tup ?_|refine WkV.fn ?_ ?_|exact WkO.dead|exact WkO.raw|refine WkO.ghost ?_|exact WkO.mpE rfl trivial|refine WkO.box ?_ rfl|refine WkO.arr ?_|refine And.intro ?_ (And.intro (by first|exact fun h=>h|exact fun _=>rfl|exact nofun) ?_)|exact trivial|(intro i j hi hj)))
      rintro m st ⟨i, h0, h1, rfl⟩
      by_cases hi : i < s.pairs.length
      · exact pair_step _ hs hi _ (fun st' hw => ⟨s.pairs.length - (i + 1),by omega,_,hw,i + 1,by omega,by omega,rfl⟩) _
      · obtain rfl : i = s.pairs.length := by omega
        have hlen := wsL_len s s.pairs.length
        have hz : (wsL s s.pairs.length).length = 0 → ∀ n w, ¬ Opn (stepR s) n w := fun h => cons_none hs fun p hp => by
          cases ho : offP s p
          · rfl
          · have := wsL_mem.2 ⟨hp, ho⟩
            rw [List.length_eq_zero_iff.1 h] at this
            cases this
        have h1' : (wsL s s.pairs.length).length = 1 → ∀ n w,Best (stepR s) s.notes.length n w → (stps (stepR s) n w).countP (crossB (wr (wsL s s.pairs.length)).a (wr (wsL s s.pairs.length)).b) = 1 := fun h n w hb=>by
          obtain ⟨p0, he⟩ := List.length_eq_one_iff.1 h
          have hm : p0 ∈ wsL s s.pairs.length := by rw [he]; simp
          have hw : wr (wsL s s.pairs.length) = p0 := by rw [he]; rfl
          rw [hw]
          refine cons_one hs (wsL_mem.1 hm).1 (wsL_mem.1 hm).2 (fun p hp hne => ?_) hb
          cases ho : offP s p
          · rfl
          · have := wsL_mem.2 ⟨hp, ho⟩
            rw [he] at this
            exact (hne (by simpa using this)).elim
        generalize (wsL s s.pairs.length).length = c at hlen hz h1'
        generalize wr (wsL s s.pairs.length) = w0 at h1'
        rcases sh_cases s with ⟨h, _⟩ | ⟨_, hno, k⟩ | ⟨_, n, w, p, k1, k2, k3, k4⟩
        · exact (h hs).elim
        · rw [k] at c3
          clear hz h1'
          by_cases hc : c = 0
          · subst hc
            (simp only [go_sem,↓reduceIte,Nat.reduceAdd,Nat.reduceSub,Nat.reduceMul,Nat.reduceLT,Nat.reduceLeDiff,Nat.reduceEqDiff,Nat.reduceGT,Int.reduceToNat,Int.reduceBEq,Int.reduceBNe];try simp (disch := omega) only [wrapI,wrapU,half_sum,toNat_sub1,toNat_add1,Int.toNat_natCast])
            (have cf1 := c3;repeat' (first|with_reducible refine T_seq_drawT (id := 11) Γ_ok drawsAny pl7_11 (by kernel_rfl) (fun K hK=>?_)|with_reducible refine T_last_drawT (id := 11) Γ_ok drawsAny pl7_11 (by kernel_rfl) (fun K hK=>?_)|with_reducible refine T_seq_drawT (id := 12) Γ_ok drawsAny pl7_12 (by kernel_rfl) (fun K hK=>?_)|with_reducible refine T_last_drawT (id := 12) Γ_ok drawsAny pl7_12 (by kernel_rfl) (fun K hK=>?_)|((refine goR0 _ _ _ _ _ _ _ _ ?_ ?_ ?_ ?_ ?_ ?_ ?_ ?_) <;> (repeat intro hb) <;> first|exact True.intro|refine Lf.mk ?_)))
          · have e1 : ((c : Int) == 0) = false := by rw [beq_eq_false_iff_ne]; omega
            (simp only [go_sem,↓reduceIte,Nat.reduceAdd,Nat.reduceSub,Nat.reduceMul,Nat.reduceLT,Nat.reduceLeDiff,Nat.reduceEqDiff,Nat.reduceGT,Int.reduceToNat,Int.reduceBEq,Int.reduceBNe];try simp (disch := omega) only [wrapI,wrapU,half_sum,toNat_sub1,toNat_add1,Int.toNat_natCast])
            (have cf1 := c3;have sx1 := e1;have sx2 : (0 : Nat) + 0 = 0 := rfl;repeat' (first|with_reducible refine T_seq_drawT (id := 11) Γ_ok drawsAny pl7_11 (by kernel_rfl) (fun K hK=>?_)|with_reducible refine T_last_drawT (id := 11) Γ_ok drawsAny pl7_11 (by kernel_rfl) (fun K hK=>?_)|with_reducible refine T_seq_drawT (id := 12) Γ_ok drawsAny pl7_12 (by kernel_rfl) (fun K hK=>?_)|with_reducible refine T_last_drawT (id := 12) Γ_ok drawsAny pl7_12 (by kernel_rfl) (fun K hK=>?_)|((have sx3 : (0 : Nat) + 0 = 0 := rfl;have sx4 : (0 : Nat) + 0 = 0 := rfl;have sx5 : (0 : Nat) + 0 = 0 := rfl;have sx6 : (0 : Nat) + 0 = 0 := rfl;have sx7 : (0 : Nat) + 0 = 0 := rfl;have sx8 : (0 : Nat) + 0 = 0 := rfl;have sx9 : (0 : Nat) + 0 = 0 := rfl;refine goR9 _ _ _ _ _ _ _ _ ?_ ?_ ?_ ?_ ?_ ?_ ?_ ?_) <;> (repeat intro hb) <;> first|exact True.intro|refine Lf.mk ?_)))
        · rw [k4] at c3
          have hlw : (stps (stepR s) n w).length ≤ 400 := by rw [stps_len]; have := k1.le; omega
          have hc : c ≠ 0 := fun h => hz h n w k1.o
          have hx := fun h => h1' h n w k1
          clear hz h1' k1 k2 k3 k4
          generalize stps (stepR s) n w = l at c3 hlw hx
          have e1 : ((c : Int) == 0) = false := by rw [beq_eq_false_iff_ne]; omega
          by_cases hc1 : c = 1
          · have hx := hx hc1
            subst hc1
            (simp only [go_sem,↓reduceIte,Nat.reduceAdd,Nat.reduceSub,Nat.reduceMul,Nat.reduceLT,Nat.reduceLeDiff,Nat.reduceEqDiff,Nat.reduceGT,Int.reduceToNat,Int.reduceBEq,Int.reduceBNe];try simp (disch := omega) only [wrapI,wrapU,half_sum,toNat_sub1,toNat_add1,Int.toNat_natCast])
            (have cf1 := c3;have sx1 := e1;have sx2 : (0 : Nat) + 0 = 0 := rfl;repeat' (first|with_reducible refine T_seq_drawT (id := 11) Γ_ok drawsAny pl7_11 (by kernel_rfl) (fun K hK=>?_)|with_reducible refine T_last_drawT (id := 11) Γ_ok drawsAny pl7_11 (by kernel_rfl) (fun K hK=>?_)|with_reducible refine T_seq_drawT (id := 12) Γ_ok drawsAny pl7_12 (by kernel_rfl) (fun K hK=>?_)|with_reducible refine T_last_drawT (id := 12) Γ_ok drawsAny pl7_12 (by kernel_rfl) (fun K hK=>?_)|((have sx3 : (0 : Nat) + 0 = 0 := rfl;have sx4 : (0 : Nat) + 0 = 0 := rfl;have sx5 : (0 : Nat) + 0 = 0 := rfl;have sx6 : (0 : Nat) + 0 = 0 := rfl;have sx7 : (0 : Nat) + 0 = 0 := rfl;have sx8 : (0 : Nat) + 0 = 0 := rfl;have sx9 : (0 : Nat) + 0 = 0 := rfl;refine goR9 _ _ _ _ _ _ _ _ ?_ ?_ ?_ ?_ ?_ ?_ ?_ ?_) <;> (repeat intro hb) <;> first|exact True.intro|refine Lf.mk ?_)))
            refine T_wk (st2 := ⟨enD l 0 0 .top, fxC s w0⟩) ?_ (cross_loop _ s w0 l hlw _ fun b => ?_)
            · ((try simp only [List.length_append,List.length_cons,List.length_nil,Nat.zero_add]);refine Wk.intro [0,1] (by decide) (by decide) (by intro o ho;simp at ho ⊢ <;> omega) ?_ ?_ <;> repeat' (first|exact WkVL.nil|refine WkVL.cons ?_ ?_|exact WkV.top|exact WkV.imm rfl|exact WkV.imm (by simp)|exact WkV.optr rfl|exact WkV.own rfl (by simp)|exact WkV.nil_own (.inl rfl)|exact WkV.map rfl|(refine WkV.free ?_;simp [Free,FreeL] <;> assumption)|(refine WkV.free (fun _ _=>FreeL_nth ?_ _);simp [Free,FreeL];done)|refine WkV.agg ?_|refine WkV.tup ?_|refine WkV.fn ?_ ?_|exact WkO.dead|exact WkO.raw|refine WkO.ghost ?_|exact WkO.mpE rfl trivial|refine WkO.box ?_ rfl|refine WkO.arr ?_|refine And.intro ?_ (And.intro (by first|exact fun h=>h|exact fun _=>rfl|exact nofun) ?_)|exact trivial|(intro i j hi hj)))
            rw [hx]
            (simp only [go_sem,↓reduceIte,Nat.reduceAdd,Nat.reduceSub,Nat.reduceMul,Nat.reduceLT,Nat.reduceLeDiff,Nat.reduceEqDiff,Nat.reduceGT,Int.reduceToNat,Int.reduceBEq,Int.reduceBNe];try simp (disch := omega) only [wrapI,wrapU,half_sum,toNat_sub1,toNat_add1,Int.toNat_natCast])
            (repeat' (first|with_reducible refine T_seq_drawT (id := 11) Γ_ok drawsAny pl7_11 (by kernel_rfl) (fun K hK=>?_)|with_reducible refine T_last_drawT (id := 11) Γ_ok drawsAny pl7_11 (by kernel_rfl) (fun K hK=>?_)|with_reducible refine T_seq_drawT (id := 12) Γ_ok drawsAny pl7_12 (by kernel_rfl) (fun K hK=>?_)|with_reducible refine T_last_drawT (id := 12) Γ_ok drawsAny pl7_12 (by kernel_rfl) (fun K hK=>?_)|((refine goR0 _ _ _ _ _ _ _ _ ?_ ?_ ?_ ?_ ?_ ?_ ?_ ?_) <;> (repeat intro hb) <;> first|exact True.intro|refine Lf.mk ?_)))
          · have e2 : decide ((1 : Int) < (c : Int)) = true := decide_eq_true (by omega)
            (simp only [go_sem,↓reduceIte,Nat.reduceAdd,Nat.reduceSub,Nat.reduceMul,Nat.reduceLT,Nat.reduceLeDiff,Nat.reduceEqDiff,Nat.reduceGT,Int.reduceToNat,Int.reduceBEq,Int.reduceBNe];try simp (disch := omega) only [wrapI,wrapU,half_sum,toNat_sub1,toNat_add1,Int.toNat_natCast])
            (have cf1 := c3;have sx1 := e1;have sx2 := e2;repeat' (first|with_reducible refine T_seq_drawT (id := 11) Γ_ok drawsAny pl7_11 (by kernel_rfl) (fun K hK=>?_)|with_reducible refine T_last_drawT (id := 11) Γ_ok drawsAny pl7_11 (by kernel_rfl) (fun K hK=>?_)|with_reducible refine T_seq_drawT (id := 12) Γ_ok drawsAny pl7_12 (by kernel_rfl) (fun K hK=>?_)|with_reducible refine T_last_drawT (id := 12) Γ_ok drawsAny pl7_12 (by kernel_rfl) (fun K hK=>?_)|((have sx3 : (0 : Nat) + 0 = 0 := rfl;have sx4 : (0 : Nat) + 0 = 0 := rfl;have sx5 : (0 : Nat) + 0 = 0 := rfl;have sx6 : (0 : Nat) + 0 = 0 := rfl;have sx7 : (0 : Nat) + 0 = 0 := rfl;have sx8 : (0 : Nat) + 0 = 0 := rfl;have sx9 : (0 : Nat) + 0 = 0 := rfl;refine goR9 _ _ _ _ _ _ _ _ ?_ ?_ ?_ ?_ ?_ ?_ ?_ ?_) <;> (repeat intro hb) <;> first|exact True.intro|refine Lf.mk ?_)))
    · rw [tf_f hs] at c2
      (refine TC_of_T Γ_ok Try.func7 rfl (by kernel_rfl) ?_;simp only [Try.ntmps7,Try.results7,List.length_cons,List.length_nil,Nat.reduceSub,Nat.reduceAdd,List.replicate,List.cons_append,List.nil_append])
      (have cl1 := c0;have cl2 := c1;have cl3 := c2;repeat' (first|with_reducible refine T_seq_drawT (id := 11) Γ_ok drawsAny pl7_11 (by kernel_rfl) (fun K hK=>?_)|with_reducible refine T_last_drawT (id := 11) Γ_ok drawsAny pl7_11 (by kernel_rfl) (fun K hK=>?_)|with_reducible refine T_seq_drawT (id := 12) Γ_ok drawsAny pl7_12 (by kernel_rfl) (fun K hK=>?_)|with_reducible refine T_last_drawT (id := 12) Γ_ok drawsAny pl7_12 (by kernel_rfl) (fun K hK=>?_)|((refine goR0 _ _ _ _ _ _ _ _ ?_ ?_ ?_ ?_ ?_ ?_ ?_ ?_) <;> (repeat intro hb) <;> first|exact True.intro|refine Lf.mk ?_)))
end Go.Proofs.Ytmglcamgpgkblaa
