/-
  Parts joined: H6 H7.
-/
import Derived.Test.YtonmienclploaaaGreatDoorQGo
import Derived.Test.YtonmienclploaaaGreatDoorQH5
set_option linter.unusedSimpArgs false
set_option linter.unusedVariables false
namespace Go.Proofs.YtonmienclploaaaGreatDoor
open Go.Ab
def dsR (a b : P6) : P6 × Int := if (cmR a b).2 = 0 ∧ 0 ≤ (cmR a b).1 then divP a b else divP b a
set_option maxRecDepth 100000 in
set_option maxHeartbeats 4000000 in
theorem dist_tc (a b : P6) : Look Tryz.prog 184 [p6A a,p6A b] (.tup [p6A (dsR a b).1,.imm (.int .i64 (dsR a b).2)]) := by
  have c1 := pcmp_v a b
  have c2 := pdiv_tc a b
  have c3 := pdiv_tc b a
  refine Look.mk (by simp [Pl, PlL]) ?_
  unfold dsR
  generalize (cmR a b).1 = n at c1 ⊢
  generalize (cmR a b).2 = e at c1 ⊢
  by_cases h : e = 0 ∧ 0 ≤ n
  · rw [if_pos h]
    generalize divP a b = R at c2 ⊢
    have h0 := h.1
    subst h0
    have e1 : decide (n < 0) = false := decide_eq_false (by omega)
    (refine TC_of_T Γ_ok Tryz.func184 rfl (by kernel_rfl) ?_;simp only [Tryz.ntmps184,Tryz.results184,List.length_cons,List.length_nil,Nat.reduceSub,Nat.reduceAdd,List.replicate,List.cons_append,List.nil_append])
    (have cl1 := c1;have dl1 := c2;have sx1 := e1;have sx2:=sx0;((obtain ⟨sx3,sx4,sx5,sx6,sx7,sx8,sx9⟩:=sx0_7;refine goR9 _ _ _ _ _ _ _ _ ?_ ?_ ?_ ?_ ?_ ?_ ?_ ?_)<;>(repeat intro hb)<;>first|exact True.intro|refine Lf.mk ?_))
  · rw [if_neg h]
    generalize divP b a = R at c3 ⊢
    (refine TC_of_T Γ_ok Tryz.func184 rfl (by kernel_rfl) ?_;simp only [Tryz.ntmps184,Tryz.results184,List.length_cons,List.length_nil,Nat.reduceSub,Nat.reduceAdd,List.replicate,List.cons_append,List.nil_append])
    (have cl1 := c1;have dl1 := c3;((refine goR0 _ _ _ _ _ _ _ _ ?_ ?_ ?_ ?_ ?_ ?_ ?_ ?_)<;>(repeat intro hb)<;>first|exact True.intro|refine Lf.mk ?_))
    all_goals exact absurd (by omega) h
def tryR (h : Hn) (q : P6) (s : Bw × P6) (b : Bw) : (Bw × P6) × Int :=
  if (dsR (sndB h b) q).2 ≠ 0 then (s,3) else if (s.1.h = 0 ∧ s.1.v = 0) ∨ (cmR (dsR (sndB h b) q).1 s.2).1 < 0 then ((b,(dsR (sndB h b) q).1),0) else (s,0)
def bsF (h : Hn) (q : P6) : List Bw → Bw × P6 → Bw × Int
  | [], s => (s.1, 0)
  | b :: l, s => if (tryR h q s b).2 ≠ 0 then (bw0, 3) else bsF h q l (tryR h q s b).1
def bestR (h : Hn) (v : P6) : Bw × Int := if bwH h v h.most.toNat = [] then (bw0,4) else bsF h (ofR v).1 (bwH h v h.most.toNat) (bw0,zP)
theorem bwS_mem {h : Hn} {v : P6} {n : Nat} : ∀ {s : Nat} {b : Bw},b ∈ bwS h v n s → b.h = (n : Int) + 1 ∧ (∃ k : Nat,k < s ∧ b.v = k) ∧ okBw h v b = true
  | 0, b, hb => by cases hb
  | s + 1, b, hb => by
    unfold bwS at hb
    rcases List.mem_append.1 hb with hb | hb
    · obtain ⟨h1, ⟨k, hk, h2⟩, h3⟩ := bwS_mem hb
      exact ⟨h1, ⟨k, by omega, h2⟩, h3⟩
    · split at hb
      · rename_i h1
        rw [List.mem_singleton] at hb; subst hb
        exact ⟨rfl, ⟨s, by omega, rfl⟩, h1⟩
      · cases hb
theorem bwH_mem {h : Hn} {v : P6} : ∀ {n : Nat} {b : Bw},b ∈ bwH h v n → (1 ≤ b.h ∧ b.h ≤ n) ∧ (0 ≤ b.v ∧ b.v < ((2 ^ h.vl.length : Nat) : Int)) ∧ okBw h v b = true
  | 0, b, hb => by cases hb
  | n + 1, b, hb => by
    unfold bwH at hb
    rcases List.mem_append.1 hb with hb | hb
    · have := bwH_mem hb
      exact ⟨by omega, this.2⟩
    · obtain ⟨h1, ⟨k, hk, h2⟩, h3⟩ := bwS_mem hb
      exact ⟨by omega, by omega, h3⟩
theorem bsF_mem {h : Hn} {q : P6} {L : List Bw} : ∀ (l : List Bw) (s : Bw × P6),(∀ b ∈ l,b ∈ L) → (s.1 ∈ L ∨ (s.1 = bw0 ∧ l ≠ [])) → (bsF h q l s).2 = 0 → (bsF h q l s).1 ∈ L
  | [], s, _, hs, _ => by
    rcases hs with hs | hs
    · exact hs
    · exact absurd rfl hs.2
  | b :: l, s, hl, hs, he => by
    rw [bsF] at he ⊢
    split at he
    · cases he
    · rename_i h1
      rw [if_neg h1]
      refine bsF_mem l _ (fun b hb => hl b (List.mem_cons_of_mem _ hb)) (.inl ?_) he
      unfold tryR
      split
      · rename_i h2; unfold tryR at h1; rw [if_pos h2] at h1; simp at h1
      · split
        · exact hl b (by simp)
        · rename_i h3
          rcases hs with hs | hs
          · exact hs
          · exact absurd (.inl (by rw [hs.1]; exact ⟨rfl, rfl⟩)) h3
theorem bestR_mem {h : Hn} {v : P6} (he : (bestR h v).2 = 0) : (bestR h v).1 ∈ bwH h v h.most.toNat := by
  unfold bestR at he ⊢
  split at he
  · cases he
  · rename_i h1
    rw [if_neg h1]
    exact bsF_mem _ _ (fun b hb => hb) (.inr ⟨rfl, h1⟩) he
theorem drop_gB {l : List Bw} {i : Nat} (h : i < l.length) : l.drop i = gB l i :: l.drop (i + 1) := by
  rw [List.drop_eq_getElem_cons h]
  simp [gB, h]
set_option maxRecDepth 100000 in
set_option maxHeartbeats 8000000 in
theorem bbest_tc (h : Hn) (v : P6) (hh : hnB h = true) (hv : vOk v = true) : Look Tryz.prog 181 [hnA h,p6A v] (.tup [bwA (bestR h v).1,.imm (.int .i64 (bestR h v).2)]) := by
  have hs := hnS_iff.1 (hnB_s hh)
  have hvl := VlOk_of hh
  have c0 := of_tc v
  have c1 := bfind_tc h v hh hv
  have hmem := fun b => @bwH_mem h v h.most.toNat b
  have hlen := bwH_len h v hs.2.1 h.most.toNat
  refine Look.mk (by simp [Pl, PlL]) ?_
  unfold bestR
  generalize (ofR v).1 = q at c0 ⊢
  generalize (ofR v).2 = qe at c0
  have hp := pow_le16 hs.2.1
  generalize bwH h v h.most.toNat = l at *
  by_cases hl : l = []
  · subst hl
    rw [if_pos rfl]
    simp only [bw0]
    have e1 : ((([] : List Bw).length : Int) == 0) = true := rfl
    (refine TC_of_T Γ_ok Tryz.func181 rfl (by kernel_rfl) ?_;simp only [Tryz.ntmps181,Tryz.results181,List.length_cons,List.length_nil,Nat.reduceSub,Nat.reduceAdd,List.replicate,List.cons_append,List.nil_append])
    (have cm1 := c1;have sx1 := e1;have sx2:=sx0;((obtain ⟨sx3,sx4,sx5,sx6,sx7,sx8,sx9⟩:=sx0_7;refine goR9 _ _ _ _ _ _ _ _ ?_ ?_ ?_ ?_ ?_ ?_ ?_ ?_)<;>(repeat intro hb)<;>first|exact True.intro|refine Lf.mk ?_))
  · rw [if_neg hl]
    have hl0 : 0 < l.length := List.length_pos_iff.2 hl
    have e1 : ((l.length : Int) == 0) = false := beq_eq_false_iff_ne.2 (by omega)
    generalize hR : bsF h q l (bw0, zP) = R
    (refine TC_of_T Γ_ok Tryz.func181 rfl (by kernel_rfl) ?_;simp only [Tryz.ntmps181,Tryz.results181,List.length_cons,List.length_nil,Nat.reduceSub,Nat.reduceAdd,List.replicate,List.cons_append,List.nil_append])
    (have cm1 := c1;have cl1 := c0;have sx1 := e1;have sx2:=sx0;((obtain ⟨sx3,sx4,sx5,sx6,sx7,sx8,sx9⟩:=sx0_7;refine goR9 _ _ _ _ _ _ _ _ ?_ ?_ ?_ ?_ ?_ ?_ ?_ ?_)<;>(repeat intro hb)<;>first|exact True.intro|refine Lf.mk ?_))
    refine T_loopW (fun m st=>∃ (i : Nat) (s : Bw) (d : P6),i ≤ l.length ∧ m + i = l.length ∧ bsF h q (l.drop i) (s,d) = R ∧ st = ⟨[.top,.top,.optr 0 0 0,.top,.optr 2 0 0,.imm (.int .i64 0),.top,.top,.optr 4 0 0,.top,.optr 5 0 0,.optr 6 0 0,.fn (.func 183) [] [.optr 0 0 0,.optr 4 0 0,.optr 6 0 0,.optr 5 0 0]] ++ List.replicate 23 .top ++ [.own 3 0 l.length none,.imm (.int .i64 l.length),.imm (.int .i64 i)] ++ List.replicate 12 .top,
        [.box 54 (hnL h),.box 34 (p6L v),.box 69 (bwL bw0),bwO l,.box 23 (p6L q),.box 69 (bwL s),.box 23 (p6L d)]⟩)
      l.length ⟨_, ?_, 0, bw0, zP, by omega, rfl, hR, rfl⟩ ?_
    · ((try refine sgl ?_);exact wkI [0,1,2,3,4,5,6])
    rintro m st ⟨i, s, d, g0, g1, g2, rfl⟩
    by_cases hi : i < l.length
    · have hb2 := hmem (gB l i) (by simp [gB, hi])
      have c2 := bsound_tc h (gB l i) (hnB_s hh) hvl hb2.1.1 (by omega) (by omega)
      have c3 := dist_tc (sndB h (gB l i)) q
      have c4 := pcmp_v (dsR (sndB h (gB l i)) q).1 d
      have htr : tryR h q (s,d) (gB l i) = if (dsR (sndB h (gB l i)) q).2 ≠ 0 then ((s,d),3) else if (s.h = 0 ∧ s.v = 0) ∨ (cmR (dsR (sndB h (gB l i)) q).1 d).1 < 0 then ((gB l i,(dsR (sndB h (gB l i)) q).1),0) else ((s,d),0) := rfl
      rw [drop_gB hi, bsF] at g2
      generalize sndB h (gB l i) = x at c2 c3 c4 htr
      generalize (dsR x q).1 = y at c3 c4 htr
      generalize (dsR x q).2 = ye at c3 htr
      generalize (cmR y d).1 = ca at c4 htr
      generalize (cmR y d).2 = ce at c4
      refine sgo ?_
      repeat' (first
    | (with_reducible refine hK _ ?_; clear hK K)
    | ((with_reducible refine callGoal_inline Γ_ok Tryz.func183 rfl (by kernel_rfl) (by exact hC2) ?_);simp only [Tryz.ntmps183,Tryz.results183,List.length_cons,List.length_nil,Nat.reduceSub,Nat.reduceAdd,List.replicate,List.cons_append,List.nil_append])
    | ((with_reducible first|apply gC_lookA (fun hg=>(c2))|apply dCall_lookGA (fun hg=>(c2)));(case hC=>exact hC1);(case hc=>(intro hg;exact cvl)))
    | ((with_reducible first|apply callGoal_lookA (c2)|apply dCall_lookA (c2));(case hC=>exact hC2);(case hc=>exact cvl))
    | ((with_reducible first|apply gC_lookA (fun hg=>(c3))|apply dCall_lookGA (fun hg=>(c3)));(case hC=>exact hC1);(case hc=>(intro hg;exact cvl)))
    | ((with_reducible first|apply callGoal_lookA (c3)|apply dCall_lookA (c3));(case hC=>exact hC2);(case hc=>exact cvl))
    | ((with_reducible first|apply gC_lookA (fun hg=>(c4))|apply dCall_lookGA (fun hg=>(c4)));(case hC=>exact hC1);(case hc=>(intro hg;exact cvl)))
    | ((with_reducible first|apply callGoal_lookA (c4)|apply dCall_lookA (c4));(case hC=>exact hC2);(case hc=>exact cvl))
    | with_reducible refine T_seq_drawT (id := 1) Γ_ok drawsAny (.fork [(0,[],[]),(1,[],[]),(3,[],[])] (.fork [(2,[0,1],[3])] (.last [(4,[0,1,2,3],[]),(5,[0,1,2,3,4],[]),(6,[0,1,2,3,4,5],[]),(7,[0,1,2,3,4,5],[]),(8,[],[0,1,3,5,6,7]),(9,[0,1,2,3,4,5,6,8],[7]),(10,[0,1,2,3,4,5,6,7,8,9],[])]) (.last [(8,[],[0,1,3]),(4,[0,1,2,3],[]),(5,[0,1,2,3,4],[]),(6,[0,1,2,3,4,5],[]),(7,[0,1,2,3,4,5],[]),(9,[0,1,2,3,4,5,6,8],[7]),(10,[0,1,2,3,4,5,6,7,8,9],[])])) (.last [(8,[],[0,1,3]),(2,[0,1],[3]),(4,[0,1,2,3],[]),(5,[0,1,2,3,4],[]),(6,[0,1,2,3,4,5],[]),(7,[0,1,2,3,4,5],[]),(9,[0,1,2,3,4,5,6,8],[7]),(10,[0,1,2,3,4,5,6,7,8,9],[])])) (by kernel_rfl) (fun K hK=>?_)
    | with_reducible refine T_last_drawT (id := 1) Γ_ok drawsAny (.fork [(0,[],[]),(1,[],[]),(3,[],[])] (.fork [(2,[0,1],[3])] (.last [(4,[0,1,2,3],[]),(5,[0,1,2,3,4],[]),(6,[0,1,2,3,4,5],[]),(7,[0,1,2,3,4,5],[]),(8,[],[0,1,3,5,6,7]),(9,[0,1,2,3,4,5,6,8],[7]),(10,[0,1,2,3,4,5,6,7,8,9],[])]) (.last [(8,[],[0,1,3]),(4,[0,1,2,3],[]),(5,[0,1,2,3,4],[]),(6,[0,1,2,3,4,5],[]),(7,[0,1,2,3,4,5],[]),(9,[0,1,2,3,4,5,6,8],[7]),(10,[0,1,2,3,4,5,6,7,8,9],[])])) (.last [(8,[],[0,1,3]),(2,[0,1],[3]),(4,[0,1,2,3],[]),(5,[0,1,2,3,4],[]),(6,[0,1,2,3,4,5],[]),(7,[0,1,2,3,4,5],[]),(9,[0,1,2,3,4,5,6,8],[7]),(10,[0,1,2,3,4,5,6,7,8,9],[])])) (by kernel_rfl) (fun K hK=>?_)
    | ((with_reducible apply DC_call);(focus exact rfl);(focus exact rfl);(focus exact rfl);intro N hN;refine sgo ?_)
    | ((with_reducible first|refine T_seq_region Γ_ok (fun K hK=>?_)|refine T_last_region Γ_ok (fun K hK=>?_)|refine T_seq_draw (id := 6) Γ_ok drawsAny [(0,[],[]),(1,[],[]),(2,[0],[1]),(3,[0,1,2],[])] (by kernel_rfl) (fun K hK=>?_)|refine T_last_draw (id := 6) Γ_ok drawsAny [(0,[],[]),(1,[],[]),(2,[0],[1]),(3,[0,1,2],[])] (by kernel_rfl) (fun K hK=>?_)|refine TO_callN rfl (fun N hN=>?_)|refine DCT_fork Γ_ok (fun K2 hK2=>?_)|refine DCT_last Γ_ok ?_|refine DC_ev Γ_ok ?_|refine TO_ev Γ_ok ?_|refine retQ_r ?_|refine retQ_n ?_);refine sgo ?_)
    | (with_reducible refine hK2 _ ?_ ?_ <;> clear hK2 K2)
    | with_reducible first|refine gC_false ?_|refine gC_true ?_|refine dCall_true ?_
    | (with_reducible refine hN _ _ ?_; clear hN N)
    | (with_reducible refine hN _ _ (dInl rfl) ?_; clear hN N)
    | ((with_reducible refine hN _ _ (.inr ?_) ?_);(focus (refine sgo ?_;try exact True.intro));all_goals (try clear hN N))
    | with_reducible first|refine T_seq ?_|refine T_block ?_|refine T_ret ?_|refine T_exit ?_|refine T_skip ?_|refine T_label ?_
    | with_reducible first|refine thenQ_n ?_|refine thenQ_e ?_|refine thenQ_r ?_|refine blockQ_n ?_|refine blockQ_e ?_|refine blockQ_r ?_
    | with_reducible refine blockQ_o (by decide) ?_
    | ((with_reducible refine T_cond _ rfl (fun hb=>?_) (fun hb=>?_)) <;> first|(cases hb;done)|replace hb:=sgh hb|skip)
    | (with_reducible refine And.intro aG ?_)
    | assumption | omega | exact True.intro)
      all_goals first
        | (have hq : ¬ ye = 0 := by assumption
           have e9 : tryR h q (s, d) (gB l i) = ((s, d), 3) := by rw [htr, if_pos hq]
           rw [e9, if_pos (by simp)] at g2
           subst g2
           rfl)
        | (have hq : s.h = 0 ∧ s.v = 0 ∨ ca < 0 := by assumption
           have hy : ye = 0 := by assumption
           have e9 : tryR h q (s, d) (gB l i) = ((gB l i, y), 0) := by rw [htr, if_neg (by simpa using hy), if_pos hq]
           rw [e9, if_neg (by simp)] at g2
           refine ⟨l.length - (i + 1), by omega, _, ?_, i + 1, gB l i, y, by omega, by omega, g2, rfl⟩
           ((try refine sgl ?_);exact wkI [0,1,2,3,4,5,6]))
        | (have hq : (s.h = 0 → ¬ s.v = 0) ∧ 0 ≤ ca := by assumption
           have hy : ye = 0 := by assumption
           have hz : ¬ ((s.h = 0 ∧ s.v = 0) ∨ ca < 0) := fun h9 => by
             rcases h9 with h9 | h9
             · exact hq.1 h9.1 h9.2
             · omega
           have e9 : tryR h q (s, d) (gB l i) = ((s, d), 0) := by rw [htr, if_neg (by simpa using hy), if_neg hz]
           rw [e9, if_neg (by simp)] at g2
           refine ⟨l.length - (i + 1), by omega, _, ?_, i + 1, s, d, by omega, by omega, g2, rfl⟩
           ((try refine sgl ?_);exact wkI [0,1,2,3,4,5,6]))
    · obtain rfl : i = l.length := by omega
      rw [List.drop_length, bsF] at g2
      rw [← g2]
      refine sgo ?_
      (((refine goR0 _ _ _ _ _ _ _ _ ?_ ?_ ?_ ?_ ?_ ?_ ?_ ?_)<;>(repeat intro hb)<;>first|exact True.intro|refine Lf.mk ?_))
end Go.Proofs.YtonmienclploaaaGreatDoor
namespace Go.Proofs.YtonmienclploaaaGreatDoor
open Go.Ab
set_option maxRecDepth 100000 in
set_option maxHeartbeats 4000000 in
theorem hvalid_tc (h : Hn) (h1 : h.vl.length ≤ 1000000) : Look Tryz.prog 180 [hnA h] (.imm (.bool (hnB h))) := by
  refine Look.mk trivial ?_
  (refine TC_of_T Γ_ok Tryz.func180 rfl (by kernel_rfl) ?_;simp only [Tryz.ntmps180,Tryz.results180,List.length_cons,List.length_nil,Nat.reduceSub,Nat.reduceAdd,List.replicate,List.cons_append,List.nil_append])
  (have cl1 := bvalid_tc h h1;((refine goR0 _ _ _ _ _ _ _ _ ?_ ?_ ?_ ?_ ?_ ?_ ?_ ?_)<;>(repeat intro hb)<;>first|exact True.intro|refine Lf.mk ?_))
def hbR (h : Hn) (vs : List P6) : List Int × Int :=
  if vs.length = 0 then ([],0) else if vs.length = 1 then (if (bestR h (gV vs 0)).2 = 0 then ([100 * (bestR h (gV vs 0)).1.h + (bestR h (gV vs 0)).1.v],0) else ([],(bestR h (gV vs 0)).2)) else ([],20)
theorem bestR_bd {h : Hn} {v : P6} (hh : hnB h = true) (he : (bestR h v).2 = 0) : (1 ≤ (bestR h v).1.h ∧ (bestR h v).1.h ≤ h.most) ∧ (0 ≤ (bestR h v).1.v ∧ (bestR h v).1.v < ((2 ^ h.vl.length : Nat) : Int)) ∧ okBw h v (bestR h v).1 = true := by
  have hs := hnS_iff.1 (hnB_s hh)
  have := bwH_mem (bestR_mem he)
  exact ⟨by omega, this.2⟩
theorem lstC {P : Program} {f : FuncId} {args : List AV} {ety : TypeId} {esz n : Nat} {E : Nat → Nat → AV} {e : AV} (hE : ∀ i j,Pl (E i j)) (he : Pl e)
    (h : TC P f args [] (fun v σ'=>(v = .tup [.imm (.slice none 0 0),e] ∧ n = 0) ∨ ∃ k t E',v = .tup [.own k 0 n t,e] ∧ nthO σ' k = .arr ety esz n E' ∧ ∀ i j,i < n → j < esz → E' i j = E i j)) : Makes P f args (.tup [.own 0 0 n none,e]) [.arr ety esz n E] := by
  refine Makes.lstJ hE he (h.weak fun v σ' hq => ?_)
  rcases hq with ⟨hv, h0⟩ | ⟨k, t, E', hv, hk, hEE⟩
  · exact ⟨[],v,[],rfl,List.nodup_nil,(fun o ho => by cases ho),by rw [hv];exact WkV.tup (WkVL.cons (WkV.imm rfl) (WkVL.cons (WkV.free (Pl.free _ he)) WkVL.nil)),trivial,.inl ⟨hv,h0⟩⟩
  · refine ⟨[k],.tup [.own 0 0 n none,e],[.arr ety esz n E],rfl,by simp,fun o ho => ?_,?_,⟨?_,fun _ => by rw [hk];rfl,trivial⟩,.inr ⟨0,E,rfl,rfl,fun _ _ _ _ => rfl⟩⟩
    · simp only [List.mem_singleton] at ho
      subst ho
      simpa using (List.getElem?_eq_some_iff.1 (nthO_eq hk rfl)).1
    · rw [hv]
      exact WkV.tup (WkVL.cons (WkV.own rfl (by simp)) (WkVL.cons (WkV.free (Pl.free _ he)) WkVL.nil))
    · rw [hk]
      exact WkO.arr fun i j hi hj => WkV.eqF (hEE i j hi hj) (Pl.free _ (hE i j))
set_option maxRecDepth 100000 in
set_option maxHeartbeats 4000000 in
theorem hbest_tc (h : Hn) (vs : List P6) (hh : hnB h = true) (hv : vs.length ≤ 12) (ha : ∀ i,i < vs.length → vOk (gV vs i) = true) : Makes Tryz.prog 178 [hnA h,vts vs] (.tup [.own 0 0 (hbR h vs).1.length none,.imm (.int .i64 (hbR h vs).2)]) [itO (hbR h vs).1] := by
  have hs := hnS_iff.1 (hnB_s hh)
  have hp := pow_le16 hs.2.1
  refine lstC (itE_pl _) trivial ?_
  unfold hbR
  by_cases h0 : vs.length = 0
  · rw [if_pos h0]
    have e1 : ((vs.length : Int) == 0) = true := beq_iff_eq.2 (by omega)
    (refine TC_of_T Γ_ok Tryz.func178 rfl (by kernel_rfl) ?_;simp only [Tryz.ntmps178,Tryz.results178,List.length_cons,List.length_nil,Nat.reduceSub,Nat.reduceAdd,List.replicate,List.cons_append,List.nil_append])
    (have sx1 := e1;have sx2:=sx0;repeat' (first|with_reducible refine T_seq_drawT (id := 5) Γ_ok drawsAny pl178_5 (by kernel_rfl) (fun K hK=>?_)|with_reducible refine T_last_drawT (id := 5) Γ_ok drawsAny pl178_5 (by kernel_rfl) (fun K hK=>?_)|((obtain ⟨sx3,sx4,sx5,sx6,sx7,sx8,sx9⟩:=sx0_7;refine goR9 _ _ _ _ _ _ _ _ ?_ ?_ ?_ ?_ ?_ ?_ ?_ ?_)<;>(repeat intro hb)<;>first|exact True.intro|refine Lf.mk ?_)))
    exact .inl trivial
  · rw [if_neg h0]
    have e1 : ((vs.length : Int) == 0) = false := beq_eq_false_iff_ne.2 (by omega)
    by_cases h1 : vs.length = 1
    · rw [if_pos h1]
      have e2 : ((vs.length : Int) == 1) = true := beq_iff_eq.2 (by omega)
      have c := bbest_tc h (gV vs 0) hh (ha 0 (by omega))
      have hbd := bestR_bd (h := h) (v := gV vs 0) hh
      generalize bestR h (gV vs 0) = R at *
      obtain ⟨b, e⟩ := R
      simp only [] at c hbd ⊢
      by_cases he : e = 0
      · rw [if_pos he]
        have hb9 := hbd he
        subst he
        (refine TC_of_T Γ_ok Tryz.func178 rfl (by kernel_rfl) ?_;simp only [Tryz.ntmps178,Tryz.results178,List.length_cons,List.length_nil,Nat.reduceSub,Nat.reduceAdd,List.replicate,List.cons_append,List.nil_append])
        (have cl1 := c;have sx1 := e1;have sx2 := e2;repeat' (first|with_reducible refine T_seq_drawT (id := 5) Γ_ok drawsAny pl178_5 (by kernel_rfl) (fun K hK=>?_)|with_reducible refine T_last_drawT (id := 5) Γ_ok drawsAny pl178_5 (by kernel_rfl) (fun K hK=>?_)|((obtain ⟨sx3,sx4,sx5,sx6,sx7,sx8,sx9⟩:=sx0_7;refine goR9 _ _ _ _ _ _ _ _ ?_ ?_ ?_ ?_ ?_ ?_ ?_ ?_)<;>(repeat intro hb)<;>first|exact True.intro|refine Lf.mk ?_)))
        all_goals exact .inr ⟨2, _, _, rfl, rfl, fun i j hi hj => by
          obtain rfl : i = 0 := by simpa using hi
          obtain rfl : j = 0 := by omega
          rfl⟩
      · rw [if_neg he]
        (refine TC_of_T Γ_ok Tryz.func178 rfl (by kernel_rfl) ?_;simp only [Tryz.ntmps178,Tryz.results178,List.length_cons,List.length_nil,Nat.reduceSub,Nat.reduceAdd,List.replicate,List.cons_append,List.nil_append])
        (have cl1 := c;have sx1 := e1;have sx2 := e2;repeat' (first|with_reducible refine T_seq_drawT (id := 5) Γ_ok drawsAny pl178_5 (by kernel_rfl) (fun K hK=>?_)|with_reducible refine T_last_drawT (id := 5) Γ_ok drawsAny pl178_5 (by kernel_rfl) (fun K hK=>?_)|((obtain ⟨sx3,sx4,sx5,sx6,sx7,sx8,sx9⟩:=sx0_7;refine goR9 _ _ _ _ _ _ _ _ ?_ ?_ ?_ ?_ ?_ ?_ ?_ ?_)<;>(repeat intro hb)<;>first|exact True.intro|refine Lf.mk ?_)))
        all_goals exact .inl trivial
    · rw [if_neg h1]
      have e2 : ((vs.length : Int) == 1) = false := beq_eq_false_iff_ne.2 (by omega)
      (refine TC_of_T Γ_ok Tryz.func178 rfl (by kernel_rfl) ?_;simp only [Tryz.ntmps178,Tryz.results178,List.length_cons,List.length_nil,Nat.reduceSub,Nat.reduceAdd,List.replicate,List.cons_append,List.nil_append])
      (have sx1 := e1;have sx2 := e2;repeat' (first|with_reducible refine T_seq_drawT (id := 5) Γ_ok drawsAny pl178_5 (by kernel_rfl) (fun K hK=>?_)|with_reducible refine T_last_drawT (id := 5) Γ_ok drawsAny pl178_5 (by kernel_rfl) (fun K hK=>?_)|((obtain ⟨sx3,sx4,sx5,sx6,sx7,sx8,sx9⟩:=sx0_7;refine goR9 _ _ _ _ _ _ _ _ ?_ ?_ ?_ ?_ ?_ ?_ ?_ ?_)<;>(repeat intro hb)<;>first|exact True.intro|refine Lf.mk ?_)))
      exact .inl trivial
end Go.Proofs.YtonmienclploaaaGreatDoor
