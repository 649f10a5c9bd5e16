/-
  Parts joined: C1 C2.
-/
import Derived.Test.YtmglcamgpgkblaaQGo
import Derived.Test.YtmglcamgpgkblaaQB13
import Derived.Test.YtmglcamgpgkblaaQR1
set_option linter.unusedSimpArgs false
set_option linter.unusedVariables false
namespace Go.Proofs.Ytmglcamgpgkblaa
open Go.Ab
theorem sp_ext {l m : List Sp} (h : l.length = m.length) (he : ∀ i, i < l.length → gs l i = gs m i) : l = m := by
  refine List.ext_getElem h fun i h1 h2 => ?_
  have := he i h1
  simpa [gs, h1, h2] using this
set_option maxRecDepth 100000 in
set_option maxHeartbeats 4000000 in
theorem same_tc (a b : List Sp) (ha : a.length ≤ 9223372036854775807) (hb : b.length ≤ 9223372036854775807) : Look Try.prog 18 [sps a,sps b] (.imm (.bool (decide (a = b)))) := by
  refine Look.mk trivial ?_
  generalize hR : decide (a = b) = R
  by_cases hl : a.length = b.length
  · (refine TC_of_T Γ_ok Try.func18 rfl (by kernel_rfl) ?_;simp only [Try.ntmps18,Try.results18,List.length_cons,List.length_nil,Nat.reduceSub,Nat.reduceAdd,List.replicate,List.cons_append,List.nil_append])
    (have sx1 := Nat.add_zero 0;repeat' (first|with_reducible refine T_seq_drawT (id := 6) Γ_ok drawsAny pl18_6 (by kernel_rfl) (fun K hK=>?_)|with_reducible refine T_last_drawT (id := 6) Γ_ok drawsAny pl18_6 (by kernel_rfl) (fun K hK=>?_)|((refine goU1 _ _ _ _ _ _ _ _ _ _ _ _ ?_ ?_ ?_ ?_ ?_ ?_ ?_ ?_ ?_ ?_ ?_ ?_) <;> (repeat intro hb) <;> first|exact True.intro|refine Lf.mk ?_)))
    refine T_loopW (fun m st=>∃ i : Nat,i ≤ a.length ∧ m + i = a.length ∧ (∀ j,j < i → gs a j = gs b j) ∧ st = ⟨[sps a,sps b,.top,.top,.imm (.bool false),.imm (.int .i64 i)] ++ List.replicate 20 .top,[]⟩)
      a.length ⟨_, ?_, 0, by omega, rfl, by omega, rfl⟩ ?_
    · ((try simp only [List.length_append,List.length_cons,List.length_nil,Nat.zero_add]);refine Wk.intro [] (by decide) (by decide) (by intro o ho;simp at ho ⊢ <;> omega) ?_ ?_ <;> repeat' (first|exact WkVL.nil|refine WkVL.cons ?_ ?_|exact WkV.top|exact WkV.imm rfl|exact WkV.imm (by simp)|exact WkV.optr rfl|exact WkV.own rfl (by simp)|exact WkV.nil_own (.inl rfl)|exact WkV.map rfl|(refine WkV.free ?_;simp [Free,FreeL] <;> assumption)|(refine WkV.free (fun _ _=>FreeL_nth ?_ _);simp [Free,FreeL];done)|refine WkV.agg ?_|refine WkV.tup ?_|refine WkV.fn ?_ ?_|exact WkO.dead|exact WkO.raw|refine WkO.ghost ?_|exact WkO.mpE rfl trivial|refine WkO.box ?_ rfl|refine WkO.arr ?_|refine And.intro ?_ (And.intro (by first|exact fun h=>h|exact fun _=>rfl|exact nofun) ?_)|exact trivial|(intro i j hi hj)))
    rintro m st ⟨i, h0, h1, h2, rfl⟩
    by_cases hi : i < a.length
    · (simp only [go_sem,↓reduceIte,Nat.reduceAdd,Nat.reduceSub,Nat.reduceMul,Nat.reduceLT,Nat.reduceLeDiff,Nat.reduceEqDiff,Nat.reduceGT,Int.reduceToNat,Int.reduceBEq,Int.reduceBNe];try simp (disch := omega) only [wrapI,wrapU,half_sum,toNat_sub1,toNat_add1,Int.toNat_natCast])
      (have sx1 := Nat.add_zero 0;repeat' (first|with_reducible refine T_seq_drawT (id := 6) Γ_ok drawsAny pl18_6 (by kernel_rfl) (fun K hK=>?_)|with_reducible refine T_last_drawT (id := 6) Γ_ok drawsAny pl18_6 (by kernel_rfl) (fun K hK=>?_)|((refine goU1 _ _ _ _ _ _ _ _ _ _ _ _ ?_ ?_ ?_ ?_ ?_ ?_ ?_ ?_ ?_ ?_ ?_ ?_) <;> (repeat intro hb) <;> first|exact True.intro|refine Lf.mk ?_)))
      · rw [← hR, decide_eq_false fun e => ?_]
        subst e
        exact hb rfl rfl rfl
      · refine ⟨a.length - (i + 1), by omega, _, ?_, i + 1, by omega, by omega, fun j hj => ?_, rfl⟩
        · ((try simp only [List.length_append,List.length_cons,List.length_nil,Nat.zero_add]);refine Wk.intro [] (by decide) (by decide) (by intro o ho;simp at ho ⊢ <;> omega) ?_ ?_ <;> repeat' (first|(refine WkV.imm ?_;congr 1;omega)|exact WkVL.nil|refine WkVL.cons ?_ ?_|exact WkV.top|exact WkV.imm rfl|exact WkV.imm (by simp)|exact WkV.optr rfl|exact WkV.own rfl (by simp)|exact WkV.nil_own (.inl rfl)|exact WkV.map rfl|(refine WkV.free ?_;simp [Free,FreeL] <;> assumption)|(refine WkV.free (fun _ _=>FreeL_nth ?_ _);simp [Free,FreeL];done)|refine WkV.agg ?_|refine WkV.tup ?_|refine WkV.fn ?_ ?_|exact WkO.dead|exact WkO.raw|refine WkO.ghost ?_|exact WkO.mpE rfl trivial|refine WkO.box ?_ rfl|refine WkO.arr ?_|refine And.intro ?_ (And.intro (by first|exact fun h=>h|exact fun _=>rfl|exact nofun) ?_)|exact trivial|(intro i j hi hj)))
        · by_cases e : j = i
          · subst e
            obtain ⟨e1, e2, e3⟩ := hb
            generalize gs a j = x at e1 e2 e3
            generalize gs b j = y at e1 e2 e3
            cases x; cases y
            simp only [] at e1 e2 e3
            subst e1; subst e2; subst e3; rfl
          · exact h2 j (by omega)
    · (simp only [go_sem,↓reduceIte,Nat.reduceAdd,Nat.reduceSub,Nat.reduceMul,Nat.reduceLT,Nat.reduceLeDiff,Nat.reduceEqDiff,Nat.reduceGT,Int.reduceToNat,Int.reduceBEq,Int.reduceBNe];try simp (disch := omega) only [wrapI,wrapU,half_sum,toNat_sub1,toNat_add1,Int.toNat_natCast])
      (have sx1 := Nat.add_zero 0;repeat' (first|with_reducible refine T_seq_drawT (id := 6) Γ_ok drawsAny pl18_6 (by kernel_rfl) (fun K hK=>?_)|with_reducible refine T_last_drawT (id := 6) Γ_ok drawsAny pl18_6 (by kernel_rfl) (fun K hK=>?_)|((refine goU1 _ _ _ _ _ _ _ _ _ _ _ _ ?_ ?_ ?_ ?_ ?_ ?_ ?_ ?_ ?_ ?_ ?_ ?_) <;> (repeat intro hb) <;> first|exact True.intro|refine Lf.mk ?_)))
      rw [← hR, decide_eq_true (sp_ext hl fun i hi => h2 i (by omega))]
  · (refine TC_of_T Γ_ok Try.func18 rfl (by kernel_rfl) ?_;simp only [Try.ntmps18,Try.results18,List.length_cons,List.length_nil,Nat.reduceSub,Nat.reduceAdd,List.replicate,List.cons_append,List.nil_append])
    (have sx1 := Nat.add_zero 0;repeat' (first|with_reducible refine T_seq_drawT (id := 6) Γ_ok drawsAny pl18_6 (by kernel_rfl) (fun K hK=>?_)|with_reducible refine T_last_drawT (id := 6) Γ_ok drawsAny pl18_6 (by kernel_rfl) (fun K hK=>?_)|((refine goU1 _ _ _ _ _ _ _ _ _ _ _ _ ?_ ?_ ?_ ?_ ?_ ?_ ?_ ?_ ?_ ?_ ?_ ?_) <;> (repeat intro hb) <;> first|exact True.intro|refine Lf.mk ?_)))
    rw [← hR, decide_eq_false fun e => hl (by rw [e])]
set_option maxRecDepth 100000 in
set_option maxHeartbeats 4000000 in
theorem few_tc (s : Sc) (hl : ScL s) : Look Try.prog 12 [scA s] (.imm (.bool (decide (s.notes.length ≤ 24) && decide (s.pairs.length ≤ 40)))) := by
  unfold ScL at hl
  refine Look.mk trivial ?_
  (refine TC_of_T Γ_ok Try.func12 rfl (by kernel_rfl) ?_;simp only [Try.ntmps12,Try.results12,List.length_cons,List.length_nil,Nat.reduceSub,Nat.reduceAdd,List.replicate,List.cons_append,List.nil_append])
  (((have sx1 := Nat.add_zero 0;refine goU1 _ _ _ _ _ _ _ _ _ _ _ _ ?_ ?_ ?_ ?_ ?_ ?_ ?_ ?_ ?_ ?_ ?_ ?_) <;> (repeat intro hb) <;> first | exact True.intro | refine Lf.mk ?_))
  refine congrArg (fun b => AV.imm (.bool b)) ?_
  rw [Bool.eq_iff_iff]
  simp only [Bool.and_eq_true, decide_eq_true_eq]
  omega
def pstp (l : List Int) : List Sp := (List.range (l.length - 1)).map fun i => ⟨gi l i, gi l (i + 1), 2⟩
theorem pstp_take (l : List Int) {i : Nat} : ((List.range (i + 1)).map fun i=>(⟨gi l i,gi l (i + 1),2⟩ : Sp)) = ((List.range i).map fun i=>(⟨gi l i,gi l (i + 1),2⟩ : Sp)) ++ [⟨gi l i,gi l (i + 1),2⟩] := by
  rw [List.range_succ, List.map_append]; rfl
set_option maxRecDepth 100000 in
set_option maxHeartbeats 4000000 in
theorem pairs_fresh (l : List Int) (hl : l.length ≤ 1000) : Fresh Try.prog 23 [ints l] (sps (pstp l)) := by
  unfold Fresh
  generalize hQ : (fun (u : AV) (σ1 : List AObj) => Fz σ1 u (sps (pstp l))) = Q
  (refine TC_of_T Γ_ok Try.func23 rfl (by kernel_rfl) ?_;simp only [Try.ntmps23,Try.results23,List.length_cons,List.length_nil,Nat.reduceSub,Nat.reduceAdd,List.replicate,List.cons_append,List.nil_append])
  (have sx1 := Nat.add_zero 0;repeat' (first|with_reducible refine T_seq_drawT (id := 5) Γ_ok drawsAny pl23_5 (by kernel_rfl) (fun K hK=>?_)|with_reducible refine T_last_drawT (id := 5) Γ_ok drawsAny pl23_5 (by kernel_rfl) (fun K hK=>?_)|((refine goU1 _ _ _ _ _ _ _ _ _ _ _ _ ?_ ?_ ?_ ?_ ?_ ?_ ?_ ?_ ?_ ?_ ?_ ?_) <;> (repeat intro hb) <;> first|exact True.intro|refine Lf.mk ?_)))
  refine T_loopW (fun m st=>∃ (i : Nat) (o : List Sp),i ≤ l.length - 1 ∧ m + i = l.length - 1 ∧ o = (List.range i).map (fun i=>(⟨gi l i,gi l (i + 1),2⟩ : Sp)) ∧ st = ⟨[ints l,.top,.imm (.slice none 0 0),.own 0 0 o.length none,.imm (.int .i64 ((i : Int) + 1))] ++ List.replicate 20 .top,[spO o]⟩)
    (l.length - 1) ⟨_, Wk.trans (Wk.push 41 3 (spE [])) ?_, 0, [], by omega, by omega, rfl, rfl⟩ ?_
  · ((try simp only [List.length_append,List.length_cons,List.length_nil,Nat.zero_add]);refine Wk.intro [0] (by decide) (by decide) (by intro o ho;simp at ho ⊢ <;> omega) ?_ ?_ <;> repeat' (first|exact WkVL.nil|refine WkVL.cons ?_ ?_|exact WkV.top|exact WkV.imm rfl|exact WkV.imm (by simp)|exact WkV.optr rfl|exact WkV.own rfl (by simp)|exact WkV.nil_own (.inl rfl)|exact WkV.map rfl|(refine WkV.free ?_;simp [Free,FreeL] <;> assumption)|(refine WkV.free (fun _ _=>FreeL_nth ?_ _);simp [Free,FreeL];done)|refine WkV.agg ?_|refine WkV.tup ?_|refine WkV.fn ?_ ?_|exact WkO.dead|exact WkO.raw|refine WkO.ghost ?_|exact WkO.mpE rfl trivial|refine WkO.box ?_ rfl|refine WkO.arr ?_|refine And.intro ?_ (And.intro (by first|exact fun h=>h|exact fun _=>rfl|exact nofun) ?_)|exact trivial|(intro i j hi hj)))
  rintro m st ⟨i, o, h1, h2, h3, rfl⟩
  have hol : o.length = i := by rw [h3]; simp
  have hsn := fun p q => sp_snoc o ⟨gi l i, gi l (i + 1), 2⟩ (i := p) (j := q)
  by_cases hi : i < l.length - 1
  · have ei : ((i : Int) + 1 - 1).toNat = i := by omega
    (simp only [go_sem,↓reduceIte,Nat.reduceAdd,Nat.reduceSub,Nat.reduceMul,Nat.reduceLT,Nat.reduceLeDiff,Nat.reduceEqDiff,Nat.reduceGT,Int.reduceToNat,Int.reduceBEq,Int.reduceBNe];try simp (disch := omega) only [wrapI,wrapU,half_sum,toNat_sub1,toNat_add1,Int.toNat_natCast])
    (have sx1 := ei;repeat' (first|with_reducible refine T_seq_drawT (id := 5) Γ_ok drawsAny pl23_5 (by kernel_rfl) (fun K hK=>?_)|with_reducible refine T_last_drawT (id := 5) Γ_ok drawsAny pl23_5 (by kernel_rfl) (fun K hK=>?_)|((refine goU1 _ _ _ _ _ _ _ _ _ _ _ _ ?_ ?_ ?_ ?_ ?_ ?_ ?_ ?_ ?_ ?_ ?_ ?_) <;> (repeat intro hb) <;> first|exact True.intro|refine Lf.mk ?_)))
    refine ⟨l.length - 1 - (i + 1),by omega,⟨[ints l,.top,.imm (.slice none 0 0),.own 0 0 (o.length + 1) none,.imm (.int .i64 ((i + 1 : Nat) + 1))] ++ List.replicate 20 .top,[.arr 41 3 (o.length + 1) (spE (o ++ [⟨gi l i,gi l (i + 1),2⟩]))]⟩,?_,i + 1,o ++ [⟨gi l i,gi l (i + 1),2⟩],by omega,by omega,by rw [pstp_take,h3],by rw [List.length_append] <;> rfl⟩
    ((try simp only [List.length_append,List.length_cons,List.length_nil,Nat.zero_add]);refine Wk.intro [1] (by decide) (by decide) (by intro o ho;simp at ho ⊢ <;> omega) ?_ ?_ <;> repeat' (first|(refine WkV.imm ?_;congr 1;omega)|(exact WkV.eqF (hsn _ _ hi hj) (spE_free _ _ _))|exact WkVL.nil|refine WkVL.cons ?_ ?_|exact WkV.top|exact WkV.imm rfl|exact WkV.imm (by simp)|exact WkV.optr rfl|exact WkV.own rfl (by simp)|exact WkV.nil_own (.inl rfl)|exact WkV.map rfl|(refine WkV.free ?_;simp [Free,FreeL] <;> assumption)|(refine WkV.free (fun _ _=>FreeL_nth ?_ _);simp [Free,FreeL];done)|refine WkV.agg ?_|refine WkV.tup ?_|refine WkV.fn ?_ ?_|exact WkO.dead|exact WkO.raw|refine WkO.ghost ?_|exact WkO.mpE rfl trivial|refine WkO.box ?_ rfl|refine WkO.arr ?_|refine And.intro ?_ (And.intro (by first|exact fun h=>h|exact fun _=>rfl|exact nofun) ?_)|exact trivial|(intro i j hi hj)))
  · have e : o = pstp l := by rw [h3]; unfold pstp; rw [show i = l.length - 1 by omega]
    (simp only [go_sem,↓reduceIte,Nat.reduceAdd,Nat.reduceSub,Nat.reduceMul,Nat.reduceLT,Nat.reduceLeDiff,Nat.reduceEqDiff,Nat.reduceGT,Int.reduceToNat,Int.reduceBEq,Int.reduceBNe];try simp (disch := omega) only [wrapI,wrapU,half_sum,toNat_sub1,toNat_add1,Int.toNat_natCast])
    (have sx1 := Nat.add_zero 0;repeat' (first|with_reducible refine T_seq_drawT (id := 5) Γ_ok drawsAny pl23_5 (by kernel_rfl) (fun K hK=>?_)|with_reducible refine T_last_drawT (id := 5) Γ_ok drawsAny pl23_5 (by kernel_rfl) (fun K hK=>?_)|((refine goU1 _ _ _ _ _ _ _ _ _ _ _ _ ?_ ?_ ?_ ?_ ?_ ?_ ?_ ?_ ?_ ?_ ?_ ?_) <;> (repeat intro hb) <;> first|exact True.intro|refine Lf.mk ?_)))
    rw [← hQ]
    subst e
    exact Fz.own (o := 0) rfl (by omega) fun p q _ _ => by rw [Nat.zero_add]; exact Fz.pl (spE_pl _ _ _)
end Go.Proofs.Ytmglcamgpgkblaa
namespace Go.Proofs.Ytmglcamgpgkblaa
open Go.Ab
theorem fz_eqp {σ1 : List AObj} {v v2 : AV} (h : v = v2) (hp : Pl v2) : Fz σ1 v v2 := by subst h; exact Fz.pl hp
def th3 (w : P6) : Sc := ⟨3,[⟨0,0,10,z6,false⟩,⟨1,0,10,z6,false⟩,⟨2,0,10,z6,false⟩],[⟨0,1,⟨-2,0,1,0,0,0⟩,0⟩,⟨0,2,w,0⟩,⟨1,2,⟨1,1,-1,0,0,0⟩,0⟩],[]⟩
set_option maxRecDepth 100000 in
set_option maxHeartbeats 4000000 in
theorem three_fresh (w : P6) : Fresh Try.prog 22 [p6A w] (scA (th3 w)) := by
  unfold Fresh
  generalize hQ : (fun (u : AV) (σ1 : List AObj) => Fz σ1 u (scA (th3 w))) = Q
  (refine TC_of_T Γ_ok Try.func22 rfl (by kernel_rfl) ?_;simp only [Try.ntmps22,Try.results22,List.length_cons,List.length_nil,Nat.reduceSub,Nat.reduceAdd,List.replicate,List.cons_append,List.nil_append])
  (have sx1 : (0 : Nat) + 0 = 0 := rfl;((refine goU1 _ _ _ _ _ _ _ _ _ _ _ _ ?_ ?_ ?_ ?_ ?_ ?_ ?_ ?_ ?_ ?_ ?_ ?_) <;> (repeat intro hb) <;> first | exact True.intro | refine Lf.mk ?_))
  refine T_rounds 4 ?_
  (have sx1 : (0 : Nat) + 0 = 0 := rfl;((refine goU1 _ _ _ _ _ _ _ _ _ _ _ _ ?_ ?_ ?_ ?_ ?_ ?_ ?_ ?_ ?_ ?_ ?_ ?_) <;> (repeat intro hb) <;> first | exact True.intro | refine Lf.mk ?_))
  rw [← hQ]
  refine Fz.agg (FzL.cons (Fz.imm rfl) (FzL.cons (Fz.own (o := 8) rfl (by omega) fun p q hp hq => ?_) (FzL.cons (Fz.own (o := 9) rfl (by omega) fun p q hp hq => ?_) (FzL.cons Fz.nil FzL.nil))))
  · refine fz_eqp ?_ (ntE_pl _ _ _)
    rcases p with _ | _ | _ | p
    case succ.succ.succ => have hp : p + 1 + 1 + 1 < 3 := hp; omega
    all_goals (rcases q with _ | _ | _ | _ | _ | _ | _ | _ | _ | _ | q <;> first | rfl | omega)
  · refine fz_eqp ?_ (prE_pl _ _ _)
    rcases p with _ | _ | _ | p
    case succ.succ.succ => have hp : p + 1 + 1 + 1 < 3 := hp; omega
    all_goals (rcases q with _ | _ | _ | _ | _ | _ | _ | _ | _ | q <;> first | rfl | omega)
theorem th3_ok (w : P6) (hw : w.all (inB 16) = true) : ScOk (th3 w) := by
  have n0 : gn (th3 w).notes 0 = ⟨0, 0, 10, z6, false⟩ := rfl
  have n1 : gn (th3 w).notes 1 = ⟨1, 0, 10, z6, false⟩ := rfl
  have n2 : gn (th3 w).notes 2 = ⟨2, 0, 10, z6, false⟩ := rfl
  have p0 : gp (th3 w).pairs 0 = ⟨0, 1, ⟨-2, 0, 1, 0, 0, 0⟩, 0⟩ := rfl
  have p1 : gp (th3 w).pairs 1 = ⟨0, 2, w, 0⟩ := rfl
  have p2 : gp (th3 w).pairs 2 = ⟨1, 2, ⟨1, 1, -1, 0, 0, 0⟩, 0⟩ := rfl
  have hc3 : ∀ i, i < 3 → i = 0 ∨ i = 1 ∨ i = 2 := fun i hi => by omega
  refine ⟨⟨by show (1 : Int) ≤ 3;omega,by show (3 : Int) ≤ 8;omega,by show 3 ≤ 200;omega,by show 3 ≤ 400;omega,by show 0 ≤ 15;omega⟩,⟨fun i hi=>?_,fun i h1 hi=>?_⟩,⟨fun i k hk hi hv=>?_,fun i hi ht=>?_⟩,⟨fun i hi=>?_,fun i h1 hi=>?_⟩,⟨fun i hi=>absurd hi (Nat.not_lt_zero i),fun i _ hi=>absurd hi (Nat.not_lt_zero i)⟩⟩
  · rcases hc3 i hi with rfl | rfl | rfl
    · rw [n0]; exact ⟨by decide, by show (0 : Int) < 3; omega, by decide, by decide, by decide, by decide⟩
    · rw [n1]; exact ⟨by decide, by show (1 : Int) < 3; omega, by decide, by decide, by decide, by decide⟩
    · rw [n2]; exact ⟨by decide, by show (2 : Int) < 3; omega, by decide, by decide, by decide, by decide⟩
  · rcases hc3 i hi with rfl | rfl | rfl
    · omega
    · rw [show 1 - 1 = 0 from rfl, n0, n1]; exact .inr ⟨rfl, by decide⟩
    · rw [show 2 - 1 = 1 from rfl, n1, n2]; exact .inr ⟨rfl, by decide⟩
  · have hi' : i < 3 := hi
    exfalso
    rcases hc3 i hi with rfl | rfl | rfl <;> rcases hc3 k (by omega) with rfl | rfl | rfl <;> first | omega | (simp only [n0,n1,n2] at hv;omega)
  · rcases hc3 i hi with rfl | rfl | rfl
    · rw [n0] at ht; cases ht
    · rw [n1] at ht; cases ht
    · rw [n2] at ht; cases ht
  · rcases hc3 i hi with rfl | rfl | rfl
    · rw [p0]
      refine ⟨⟨by decide, by decide, by show (1 : Int) < (3 : Nat); omega, by decide, by decide, by decide⟩, ?_⟩
      exact ⟨by show (0 : Int) ≠ 1; omega, by show (0 : Int) < 10; omega⟩
    · rw [p1]
      refine ⟨⟨by show (0 : Int) ≤ 0;omega,by show (0 : Int) < 2;omega,by show (2 : Int) < (3 : Nat);omega,hw,by show (0 : Int) ≤ 0;omega,by show (0 : Int) ≤ 100000;omega⟩,?_⟩
      exact ⟨by show (0 : Int) ≠ 2; omega, by show (0 : Int) < 10; omega⟩
    · rw [p2]
      refine ⟨⟨by decide, by decide, by show (2 : Int) < (3 : Nat); omega, by decide, by decide, by decide⟩, ?_⟩
      exact ⟨by show (1 : Int) ≠ 2; omega, by show (0 : Int) < 10; omega⟩
  · rcases hc3 i hi with rfl | rfl | rfl
    · omega
    · rw [show 1 - 1 = 0 from rfl, p0, p1]; exact .inr ⟨rfl, by show (1 : Int) < 2; omega⟩
    · rw [show 2 - 1 = 1 from rfl, p1, p2]; exact .inl (by show (0 : Int) < 1; omega)
theorem th3_l (w : P6) : ScL (th3 w) := by
  refine ⟨?_, ?_, ?_⟩
  · show 3 ≤ 9223372036854775807; omega
  · show 3 ≤ 9223372036854775807; omega
  · show 0 ≤ 9223372036854775807; omega
def exA : P6 := ⟨3, -3, 1, 0, 0, 0⟩
def exB : P6 := ⟨-1, 1, 0, 0, 0, 0⟩
theorem ex_ok : ScOk (th3 exA) := th3_ok _ (by decide)
theorem ex_ok2 : ScOk (th3 exB) := th3_ok _ (by decide)
theorem ex_p1 : prR (th3 exA) (pstp [0, 1, 2, 0]) = (⟨-4, 4, -1, 0, 0, 0⟩, 0) := by
  unfold prR; rw [if_pos ⟨tf_t ex_ok, by decide, by decide⟩]; decide +kernel
theorem ex_p2 : prR (th3 exA) (pstp [0, 1, 0]) = (⟨0, 0, 0, 0, 0, 0⟩, 0) := by
  unfold prR; rw [if_pos ⟨tf_t ex_ok, by decide, by decide⟩]; decide +kernel
theorem ex_p3 : prR (th3 exA) (pstp [0, 1, 2]) = (⟨0, 0, 0, 0, 0, 0⟩, 1) := by
  unfold prR; rw [if_pos ⟨tf_t ex_ok, by decide, by decide⟩]; decide +kernel
theorem ex_s1 : shR (th3 exA) = (pstp [0, 1, 2, 0], ⟨-4, 4, -1, 0, 0, 0⟩, 0) := by
  unfold shR; rw [if_pos (tf_t ex_ok)]; decide +kernel
theorem ex_t1 : thR (th3 exA) 1 = (pstp [1, 0, 2, 1], ⟨4, -4, 1, 0, 0, 0⟩, 0) := by
  unfold thR; rw [if_pos ⟨tf_t ex_ok, by decide, by decide⟩]; decide +kernel
theorem ex_s2 : shR (th3 exB) = ([], ⟨0, 0, 0, 0, 0, 0⟩, 4) := by
  unfold shR; rw [if_pos (tf_t ex_ok2)]; decide +kernel
end Go.Proofs.Ytmglcamgpgkblaa
