/-
  Parts joined: Q11 Q12.
-/
import Derived.Test.YtdglbjjenihdlaaDoorWGo
import Derived.Test.YtdglbjjenihdlaaDoorWQ6
import Derived.Test.YtdglbjjenihdlaaDoorWQ10
import Derived.Test.YtdglbjjenihdlaaDoorWP4
import Derived.Test.YtdglbjjenihdlaaDoorWS12
import Derived.Test.YtdglbjjenihdlaaDoorWN23
set_option linter.unusedSimpArgs false
set_option linter.unusedVariables false
namespace Go.Proofs.YtdglbjjenihdlaaDoor
open Go.Ab
theorem insP_scan : ∀ {l : List P6} {x : P6} {k : Nat},Ris l → k ≤ l.length → (∀ i,i < k → Lo (gP l i) x) → (k < l.length → ¬ Lo (gP l k) x) → insP l x = if k < l.length ∧ gP l k = x then none else some (l.take k ++ x :: l.drop k)
  | [], x, k, _, h1, _, _ => by
    obtain rfl : k = 0 := by simpa using h1
    rw [if_neg (by simp)]
    rfl
  | y :: r, x, 0, hr, h1, h2, h3 => by
    have h4 : ¬ Lo y x := h3 (by simp)
    rw [insP, if_neg h4]
    by_cases e : y = x
    · rw [if_pos e, if_pos ⟨by simp, e⟩]
    · rw [if_neg e, if_neg (fun q => e q.2)]
      rfl
  | y :: r, x, k + 1, hr, h1, h2, h3 => by
    have h4 : Lo y x := h2 0 (by omega)
    have ih := insP_scan (l := r) (x := x) (k := k) (List.pairwise_cons.1 hr).2 (by simpa using h1) (fun i hi => h2 (i + 1) (by omega)) (fun hk => h3 (by simpa using hk))
    rw [insP, if_pos h4, ih]
    by_cases e : k < r.length ∧ gP r k = x
    · rw [if_pos e, if_pos ⟨by simpa using e.1, e.2⟩]
      rfl
    · rw [if_neg e, if_neg (fun q => e ⟨by simpa using q.1, q.2⟩)]
      rfl
theorem srtP_take {l : List P6} {i : Nat} (h : i < l.length) : srtP (l.take (i + 1)) = (srtP (l.take i)).bind (insP · (gP l i)) := by
  rw [List.take_succ_eq_append_getElem h, gP_at h]
  unfold srtP
  rw [srtF_app]
  rfl
theorem srtP_stop {l : List P6} {i : Nat} (h : srtP (l.take i) = none) : srtP l = none := by
  have : l = l.take i ++ l.drop i := (List.take_append_drop i l).symm
  rw [this]
  unfold srtP at h ⊢
  rw [srtF_app, h, srtF_none]
def srtR (l : List P6) : List P6 × Int := match srtP l with
  | none => ([], 5)
  | some m => (m, 0)
theorem put_take {o : List P6} {x : P6} {k : Nat} (hk : k ≤ o.length) : (o.take k ++ x :: o.drop k).take (k + 1) = o.take k ++ [x] := by
  rw [List.take_append,List.length_take,Nat.min_eq_left hk,List.take_of_length_le (by rw [List.length_take];omega),show k + 1 - k = 1 by omega]
  rfl
theorem put_len {o : List P6} {x : P6} {k : Nat} (hk : k ≤ o.length) : (o.take k ++ x :: o.drop k).length = o.length + 1 := by
  rw [List.length_append, List.length_take, List.length_cons, List.length_drop]
  omega
theorem pt_take (l : List P6) {k : Nat} (hk : k < l.length) {i j : Nat} (h : i < k + 1) (hj : j < 6) : catE k (ptE (l.take k)) (fun i j=>nth (p6L (gP l k)) (i * 6 + j)) i j = ptE (l.take (k + 1)) i j := by
  have e : (l.take k).length = k := by rw [List.length_take]; omega
  have := pt_snoc (l.take k) (gP l k) (i := i) (j := j) (by rw [e]; exact h) hj
  rw [e] at this
  rw [this, List.take_succ_eq_append_getElem hk, gP_at hk]
@[go_sem,reducible] def enS0 (l : List P6) (n i : Nat) : List AV := [pts l,.top,.top,.top,.own 0 0 n none,.imm (.int .i64 i)] ++ List.replicate 70 .top
@[go_sem,reducible] def enS1 (l : List P6) (n i m k : Nat) : List AV := [pts l,.top,.top,.top,.own 0 0 n none,.imm (.int .i64 i),.own 1 0 m none,.imm (.int .i64 k)] ++ List.replicate 68 .top
set_option maxRecDepth 100000 in
set_option maxHeartbeats 8000000 in
theorem rsorted_mk (l : List P6) (h0 : l.length ≤ 1000) (hb9 : ∀ p ∈ l,Bd6 576 p) : Makes Tryd.prog 43 [pts l] (.tup [.own 0 0 (srtR l).1.length none,.imm (.int .i64 (srtR l).2)]) [ptO (srtR l).1] := by
  refine ptMk ?_
  generalize hR : srtR l = R
  unfold srtR at hR
  generalize hQ : (fun (v : AV) (σ' : List AObj)=>(v = .tup [.imm (.slice none 0 0),.imm (.int .i64 R.2)] ∧ R.1.length = 0) ∨ ∃ k E',v = .tup [.own k 0 R.1.length none,.imm (.int .i64 R.2)] ∧ nthO σ' k = .arr 24 6 R.1.length E' ∧ ∀ i j,i < R.1.length → j < 6 → E' i j = ptE R.1 i j) = Q
  (refine TC_of_T Γ_ok Tryd.func43 rfl (by kernel_rfl) ?_;simp only [Tryd.ntmps43,Tryd.results43,List.length_cons,List.length_nil,Nat.reduceSub,Nat.reduceAdd,List.replicate,List.cons_append,List.nil_append])
  (repeat' (first|with_reducible refine T_seq_drawT (id := 7) Γ_ok drawsAny pl43_7 (by kernel_rfl) (fun K hK=>?_)|with_reducible refine T_last_drawT (id := 7) Γ_ok drawsAny pl43_7 (by kernel_rfl) (fun K hK=>?_)|with_reducible refine T_seq_drawT (id := 10) Γ_ok drawsAny pl43_10 (by kernel_rfl) (fun K hK=>?_)|with_reducible refine T_last_drawT (id := 10) Γ_ok drawsAny pl43_10 (by kernel_rfl) (fun K hK=>?_)|((refine goR0 _ _ _ _ _ _ _ _ ?_ ?_ ?_ ?_ ?_ ?_ ?_ ?_) <;> (repeat intro hb) <;> first|exact True.intro|refine Lf.mk ?_)))
  refine T_loopW (fun m st => ∃ (i : Nat) (o : List P6),i ≤ l.length ∧ m + i = l.length ∧ srtP (l.take i) = some o ∧ st = ⟨enS0 l o.length i,[ptO o]⟩)
    l.length ⟨_, Wk.trans (Wk.push 24 6 (ptE [])) ?_, 0, [], by omega, rfl, rfl, rfl⟩ ?_
  · ((try simp only [List.length_append,List.length_cons,List.length_nil,Nat.zero_add]);refine Wk.intro [0] (by decide) (by decide) (by intro o ho;simp at ho ⊢ <;> omega) ?_ ?_ <;> repeat' (first|exact WkVL.nil|refine WkVL.cons ?_ ?_|exact WkV.top|exact WkV.imm rfl|exact WkV.imm (by simp)|exact WkV.optr rfl|exact WkV.own rfl (by simp)|exact WkV.nil_own (.inl rfl)|exact WkV.map rfl|(refine WkV.free ?_;simp [Free,FreeL] <;> assumption)|(refine WkV.free (fun _ _=>FreeL_nth ?_ _);simp [Free,FreeL];done)|refine WkV.agg ?_|refine WkV.tup ?_|refine WkV.fn ?_ ?_|exact WkO.dead|exact WkO.raw|refine WkO.ghost ?_|exact WkO.mpE rfl trivial|refine WkO.box ?_ rfl|refine WkO.arr ?_|refine And.intro ?_ (And.intro (by first|exact fun h=>h|exact fun _=>rfl|exact nofun) ?_)|exact trivial|(intro i j hi hj)))
  rintro m st ⟨i, o, k0, k1, k2, rfl⟩
  obtain ⟨hr, hp⟩ := srtP_some k2
  have hol : o.length ≤ 1000 := by rw [hp.length_eq, List.length_take]; omega
  have hob : ∀ k, k < o.length → Bd6 576 (gP o k) := fun k hk => by
    rw [gP_at hk]
    exact hb9 _ (List.mem_of_mem_take (hp.mem_iff.1 (List.getElem_mem hk)))
  by_cases hi : i < l.length
  · have hxb : Bd6 576 (gP l i) := by rw [gP_at hi]; exact hb9 _ (List.getElem_mem hi)
    have hst := srtP_take hi
    rw [k2] at hst
    simp only [Option.bind_some] at hst
    (simp only [go_sem,↓reduceIte,Nat.reduceAdd,Nat.reduceSub,Nat.reduceMul,Nat.reduceLT,Nat.reduceLeDiff,Nat.reduceEqDiff,Nat.reduceGT,Int.reduceToNat,Int.reduceBEq,Int.reduceBNe];try simp (disch := omega) only [wrapI,wrapU,half_sum,toNat_sub1,toNat_add1,Int.toNat_natCast])
    (repeat' (first|with_reducible refine T_seq_drawT (id := 7) Γ_ok drawsAny pl43_7 (by kernel_rfl) (fun K hK=>?_)|with_reducible refine T_last_drawT (id := 7) Γ_ok drawsAny pl43_7 (by kernel_rfl) (fun K hK=>?_)|with_reducible refine T_seq_drawT (id := 10) Γ_ok drawsAny pl43_10 (by kernel_rfl) (fun K hK=>?_)|with_reducible refine T_last_drawT (id := 10) Γ_ok drawsAny pl43_10 (by kernel_rfl) (fun K hK=>?_)|((refine goR0 _ _ _ _ _ _ _ _ ?_ ?_ ?_ ?_ ?_ ?_ ?_ ?_) <;> (repeat intro hb) <;> first|exact True.intro|refine Lf.mk ?_)))
    refine T_loopW (fun m st => ∃ k : Nat,k ≤ o.length ∧ m + k = o.length ∧ (∀ j,j < k → Lo (gP o j) (gP l i)) ∧ st = ⟨enS1 l o.length i k k,[ptO o,.arr 24 6 k (ptE (o.take k))]⟩)
      o.length ⟨_, Wk.trans (Wk.push 24 6 (ptE [])) ?_, 0, by omega, rfl, fun j hj => by omega, rfl⟩ ?_
    · ((try simp only [List.length_append,List.length_cons,List.length_nil,Nat.zero_add]);refine Wk.intro [0,1] (by decide) (by decide) (by intro o ho;simp at ho ⊢ <;> omega) ?_ ?_ <;> repeat' (first|exact WkVL.nil|refine WkVL.cons ?_ ?_|exact WkV.top|exact WkV.imm rfl|exact WkV.imm (by simp)|exact WkV.optr rfl|exact WkV.own rfl (by simp)|exact WkV.nil_own (.inl rfl)|exact WkV.map rfl|(refine WkV.free ?_;simp [Free,FreeL] <;> assumption)|(refine WkV.free (fun _ _=>FreeL_nth ?_ _);simp [Free,FreeL];done)|refine WkV.agg ?_|refine WkV.tup ?_|refine WkV.fn ?_ ?_|exact WkO.dead|exact WkO.raw|refine WkO.ghost ?_|exact WkO.mpE rfl trivial|refine WkO.box ?_ rfl|refine WkO.arr ?_|refine And.intro ?_ (And.intro (by first|exact fun h=>h|exact fun _=>rfl|exact nofun) ?_)|exact trivial|(intro i j hi hj)))
    rintro m2 st ⟨k, r0, r1, r2, rfl⟩
    have c1 := rcmp9_tc (gP o k) (gP l i)
    by_cases hk : k < o.length ∧ Lo (gP o k) (gP l i)
    · have hlt := (cmT_lo (hob k hk.1) hxb).2 hk.2
      have hk1 := hk.1
      have hsn := fun p q => pt_take o hk.1 (i := p) (j := q)
      generalize cmT (gP o k) (gP l i) = x at *
      (simp only [go_sem,↓reduceIte,Nat.reduceAdd,Nat.reduceSub,Nat.reduceMul,Nat.reduceLT,Nat.reduceLeDiff,Nat.reduceEqDiff,Nat.reduceGT,Int.reduceToNat,Int.reduceBEq,Int.reduceBNe];try simp (disch := omega) only [wrapI,wrapU,half_sum,toNat_sub1,toNat_add1,Int.toNat_natCast])
      (have dl1 := c1;repeat' (first|with_reducible refine T_seq_drawT (id := 7) Γ_ok drawsAny pl43_7 (by kernel_rfl) (fun K hK=>?_)|with_reducible refine T_last_drawT (id := 7) Γ_ok drawsAny pl43_7 (by kernel_rfl) (fun K hK=>?_)|with_reducible refine T_seq_drawT (id := 10) Γ_ok drawsAny pl43_10 (by kernel_rfl) (fun K hK=>?_)|with_reducible refine T_last_drawT (id := 10) Γ_ok drawsAny pl43_10 (by kernel_rfl) (fun K hK=>?_)|((refine goR0 _ _ _ _ _ _ _ _ ?_ ?_ ?_ ?_ ?_ ?_ ?_ ?_) <;> (repeat intro hb) <;> first|exact True.intro|refine Lf.mk ?_)))
      refine ⟨o.length - (k + 1), by omega, _, ?_, k + 1, by omega, by omega, fun j hj => ?_, rfl⟩
      · ((try simp only [List.length_append,List.length_cons,List.length_nil,Nat.zero_add]);refine Wk.intro [0,3] (by decide) (by decide) (by intro o ho;simp at ho ⊢ <;> omega) ?_ ?_ <;> repeat' (first|(exact WkV.eqF (hsn _ _ hi hj) (ptE_free _ _ _))|(refine WkV.imm ?_;congr 1;omega)|exact WkVL.nil|refine WkVL.cons ?_ ?_|exact WkV.top|exact WkV.imm rfl|exact WkV.imm (by simp)|exact WkV.optr rfl|exact WkV.own rfl (by simp)|exact WkV.nil_own (.inl rfl)|exact WkV.map rfl|(refine WkV.free ?_;simp [Free,FreeL] <;> assumption)|(refine WkV.free (fun _ _=>FreeL_nth ?_ _);simp [Free,FreeL];done)|refine WkV.agg ?_|refine WkV.tup ?_|refine WkV.fn ?_ ?_|exact WkO.dead|exact WkO.raw|refine WkO.ghost ?_|exact WkO.mpE rfl trivial|refine WkO.box ?_ rfl|refine WkO.arr ?_|refine And.intro ?_ (And.intro (by first|exact fun h=>h|exact fun _=>rfl|exact nofun) ?_)|exact trivial|(intro i j hi hj)))
      · by_cases e : j = k
        · subst e; exact hk.2
        · exact r2 j (by omega)
    · have hins := insP_scan (x := gP l i) hr r0 r2 (fun q1 q2 => hk ⟨q1, q2⟩)
      have hnl : ¬ (k < o.length) ∨ ¬ cmT (gP o k) (gP l i) < 0 := by
        by_cases g : k < o.length
        · exact .inr fun q => hk ⟨g, (cmT_lo (hob k g) hxb).1 q⟩
        · exact .inl g
      generalize cmT (gP o k) (gP l i) = x at *
      by_cases hx : k < o.length ∧ gP o k = gP l i
      · rw [if_pos hx] at hins
        rw [hins] at hst
        rw [srtP_stop hst] at hR
        have hx1 := hx.1
        have hx2 := hx.2
        clear hx hk
        simp only [] at hR
        (simp only [go_sem,↓reduceIte,Nat.reduceAdd,Nat.reduceSub,Nat.reduceMul,Nat.reduceLT,Nat.reduceLeDiff,Nat.reduceEqDiff,Nat.reduceGT,Int.reduceToNat,Int.reduceBEq,Int.reduceBNe];try simp (disch := omega) only [wrapI,wrapU,half_sum,toNat_sub1,toNat_add1,Int.toNat_natCast])
        (have dl1 := c1;repeat' (first|with_reducible refine T_seq_drawT (id := 7) Γ_ok drawsAny pl43_7 (by kernel_rfl) (fun K hK=>?_)|with_reducible refine T_last_drawT (id := 7) Γ_ok drawsAny pl43_7 (by kernel_rfl) (fun K hK=>?_)|with_reducible refine T_seq_drawT (id := 10) Γ_ok drawsAny pl43_10 (by kernel_rfl) (fun K hK=>?_)|with_reducible refine T_last_drawT (id := 10) Γ_ok drawsAny pl43_10 (by kernel_rfl) (fun K hK=>?_)|((refine goR0 _ _ _ _ _ _ _ _ ?_ ?_ ?_ ?_ ?_ ?_ ?_ ?_) <;> (repeat intro hb) <;> first|exact True.intro|refine Lf.mk ?_)))
        · rw [← hQ, ← hR]
          exact .inl ⟨rfl, rfl⟩
        · obtain ⟨q1, q2, q3, q4, q5, q6⟩ := (p6_eq _ _).2 hx2
          exact absurd q6 (hb (by omega) q1 q2 q3 q4 q5)
      · rw [if_neg hx] at hins
        rw [hins] at hst
        have hml := put_len (x := gP l i) r0
        have hmt := put_take (x := gP l i) r0
        have hmg := fun q hq => put_at (x := gP l i) r0 q hq
        have hsn := fun p q => pt_snoc (o.take k) (gP l i) (i := p) (j := q)
        rw [← hmt] at hsn
        rw [List.length_take, Nat.min_eq_left r0] at hsn
        generalize o.take k ++ gP l i :: o.drop k = M at *
        clear hk
        (simp only [go_sem,↓reduceIte,Nat.reduceAdd,Nat.reduceSub,Nat.reduceMul,Nat.reduceLT,Nat.reduceLeDiff,Nat.reduceEqDiff,Nat.reduceGT,Int.reduceToNat,Int.reduceBEq,Int.reduceBNe];try simp (disch := omega) only [wrapI,wrapU,half_sum,toNat_sub1,toNat_add1,Int.toNat_natCast])
        (have dl1 := c1;repeat' (first|with_reducible refine T_seq_drawT (id := 7) Γ_ok drawsAny pl43_7 (by kernel_rfl) (fun K hK=>?_)|with_reducible refine T_last_drawT (id := 7) Γ_ok drawsAny pl43_7 (by kernel_rfl) (fun K hK=>?_)|with_reducible refine T_seq_drawT (id := 10) Γ_ok drawsAny pl43_10 (by kernel_rfl) (fun K hK=>?_)|with_reducible refine T_last_drawT (id := 10) Γ_ok drawsAny pl43_10 (by kernel_rfl) (fun K hK=>?_)|((refine goR0 _ _ _ _ _ _ _ _ ?_ ?_ ?_ ?_ ?_ ?_ ?_ ?_) <;> (repeat intro hb) <;> first|exact True.intro|refine Lf.mk ?_)))
        · exact absurd ⟨by omega, (p6_eq _ _).1 hb.2⟩ hx
        · clear hb c1
          refine T_loopW (fun m st => ∃ q : Nat,k ≤ q ∧ q ≤ o.length ∧ m + q = o.length ∧ st = ⟨enS1 l o.length i (q + 1) q,[ptO o,.arr 24 6 (q + 1) (ptE (M.take (q + 1)))]⟩)
            (o.length - k) ⟨_, ?_, k, by omega, r0, by omega, rfl⟩ ?_
          · ((try simp only [List.length_append,List.length_cons,List.length_nil,Nat.zero_add]);refine Wk.intro [0,3] (by decide) (by decide) (by intro o ho;simp at ho ⊢ <;> omega) ?_ ?_ <;> repeat' (first|(exact WkV.eqF (hsn _ _ hi hj) (ptE_free _ _ _))|(refine WkV.imm ?_;congr 1;omega)|exact WkVL.nil|refine WkVL.cons ?_ ?_|exact WkV.top|exact WkV.imm rfl|exact WkV.imm (by simp)|exact WkV.optr rfl|exact WkV.own rfl (by simp)|exact WkV.nil_own (.inl rfl)|exact WkV.map rfl|(refine WkV.free ?_;simp [Free,FreeL] <;> assumption)|(refine WkV.free (fun _ _=>FreeL_nth ?_ _);simp [Free,FreeL];done)|refine WkV.agg ?_|refine WkV.tup ?_|refine WkV.fn ?_ ?_|exact WkO.dead|exact WkO.raw|refine WkO.ghost ?_|exact WkO.mpE rfl trivial|refine WkO.box ?_ rfl|refine WkO.arr ?_|refine And.intro ?_ (And.intro (by first|exact fun h=>h|exact fun _=>rfl|exact nofun) ?_)|exact trivial|(intro i j hi hj)))
          rintro m3 st ⟨q, s0, s1, s2, rfl⟩
          by_cases hq : q < o.length
          · have hg := hmg (q + 1) (by omega)
            rw [if_neg (by omega), if_neg (by omega), Nat.add_sub_cancel] at hg
            have hsn := fun a b => pt_take M (k := q + 1) (by omega) (i := a) (j := b)
            rw [hg] at hsn
            (simp only [go_sem,↓reduceIte,Nat.reduceAdd,Nat.reduceSub,Nat.reduceMul,Nat.reduceLT,Nat.reduceLeDiff,Nat.reduceEqDiff,Nat.reduceGT,Int.reduceToNat,Int.reduceBEq,Int.reduceBNe];try simp (disch := omega) only [wrapI,wrapU,half_sum,toNat_sub1,toNat_add1,Int.toNat_natCast])
            (repeat' (first|with_reducible refine T_seq_drawT (id := 7) Γ_ok drawsAny pl43_7 (by kernel_rfl) (fun K hK=>?_)|with_reducible refine T_last_drawT (id := 7) Γ_ok drawsAny pl43_7 (by kernel_rfl) (fun K hK=>?_)|with_reducible refine T_seq_drawT (id := 10) Γ_ok drawsAny pl43_10 (by kernel_rfl) (fun K hK=>?_)|with_reducible refine T_last_drawT (id := 10) Γ_ok drawsAny pl43_10 (by kernel_rfl) (fun K hK=>?_)|((refine goR0 _ _ _ _ _ _ _ _ ?_ ?_ ?_ ?_ ?_ ?_ ?_ ?_) <;> (repeat intro hb) <;> first|exact True.intro|refine Lf.mk ?_)))
            refine ⟨o.length - (q + 1), by omega, _, ?_, q + 1, by omega, by omega, by omega, rfl⟩
            ((try simp only [List.length_append,List.length_cons,List.length_nil,Nat.zero_add]);refine Wk.intro [0,3] (by decide) (by decide) (by intro o ho;simp at ho ⊢ <;> omega) ?_ ?_ <;> repeat' (first|(exact WkV.eqF (hsn _ _ hi hj) (ptE_free _ _ _))|(refine WkV.imm ?_;congr 1;omega)|exact WkVL.nil|refine WkVL.cons ?_ ?_|exact WkV.top|exact WkV.imm rfl|exact WkV.imm (by simp)|exact WkV.optr rfl|exact WkV.own rfl (by simp)|exact WkV.nil_own (.inl rfl)|exact WkV.map rfl|(refine WkV.free ?_;simp [Free,FreeL] <;> assumption)|(refine WkV.free (fun _ _=>FreeL_nth ?_ _);simp [Free,FreeL];done)|refine WkV.agg ?_|refine WkV.tup ?_|refine WkV.fn ?_ ?_|exact WkO.dead|exact WkO.raw|refine WkO.ghost ?_|exact WkO.mpE rfl trivial|refine WkO.box ?_ rfl|refine WkO.arr ?_|refine And.intro ?_ (And.intro (by first|exact fun h=>h|exact fun _=>rfl|exact nofun) ?_)|exact trivial|(intro i j hi hj)))
          · obtain rfl : q = o.length := by omega
            rw [List.take_of_length_le (by omega), ← hml]
            (simp only [go_sem,↓reduceIte,Nat.reduceAdd,Nat.reduceSub,Nat.reduceMul,Nat.reduceLT,Nat.reduceLeDiff,Nat.reduceEqDiff,Nat.reduceGT,Int.reduceToNat,Int.reduceBEq,Int.reduceBNe];try simp (disch := omega) only [wrapI,wrapU,half_sum,toNat_sub1,toNat_add1,Int.toNat_natCast])
            (repeat' (first|with_reducible refine T_seq_drawT (id := 7) Γ_ok drawsAny pl43_7 (by kernel_rfl) (fun K hK=>?_)|with_reducible refine T_last_drawT (id := 7) Γ_ok drawsAny pl43_7 (by kernel_rfl) (fun K hK=>?_)|with_reducible refine T_seq_drawT (id := 10) Γ_ok drawsAny pl43_10 (by kernel_rfl) (fun K hK=>?_)|with_reducible refine T_last_drawT (id := 10) Γ_ok drawsAny pl43_10 (by kernel_rfl) (fun K hK=>?_)|((refine goR0 _ _ _ _ _ _ _ _ ?_ ?_ ?_ ?_ ?_ ?_ ?_ ?_) <;> (repeat intro hb) <;> first|exact True.intro|refine Lf.mk ?_)))
            refine ⟨l.length - (i + 1), by omega, _, ?_, i + 1, M, by omega, by omega, hst, rfl⟩
            ((try simp only [List.length_append,List.length_cons,List.length_nil,Nat.zero_add]);refine Wk.intro [1] (by decide) (by decide) (by intro o ho;simp at ho ⊢ <;> omega) ?_ ?_ <;> repeat' (first|(refine WkV.imm ?_;congr 1;omega)|exact WkVL.nil|refine WkVL.cons ?_ ?_|exact WkV.top|exact WkV.imm rfl|exact WkV.imm (by simp)|exact WkV.optr rfl|exact WkV.own rfl (by simp)|exact WkV.nil_own (.inl rfl)|exact WkV.map rfl|(refine WkV.free ?_;simp [Free,FreeL] <;> assumption)|(refine WkV.free (fun _ _=>FreeL_nth ?_ _);simp [Free,FreeL];done)|refine WkV.agg ?_|refine WkV.tup ?_|refine WkV.fn ?_ ?_|exact WkO.dead|exact WkO.raw|refine WkO.ghost ?_|exact WkO.mpE rfl trivial|refine WkO.box ?_ rfl|refine WkO.arr ?_|refine And.intro ?_ (And.intro (by first|exact fun h=>h|exact fun _=>rfl|exact nofun) ?_)|exact trivial|(intro i j hi hj)))
  · obtain rfl : i = l.length := by omega
    rw [List.take_length] at k2
    rw [k2] at hR
    (simp only [go_sem,↓reduceIte,Nat.reduceAdd,Nat.reduceSub,Nat.reduceMul,Nat.reduceLT,Nat.reduceLeDiff,Nat.reduceEqDiff,Nat.reduceGT,Int.reduceToNat,Int.reduceBEq,Int.reduceBNe];try simp (disch := omega) only [wrapI,wrapU,half_sum,toNat_sub1,toNat_add1,Int.toNat_natCast])
    (repeat' (first|with_reducible refine T_seq_drawT (id := 7) Γ_ok drawsAny pl43_7 (by kernel_rfl) (fun K hK=>?_)|with_reducible refine T_last_drawT (id := 7) Γ_ok drawsAny pl43_7 (by kernel_rfl) (fun K hK=>?_)|with_reducible refine T_seq_drawT (id := 10) Γ_ok drawsAny pl43_10 (by kernel_rfl) (fun K hK=>?_)|with_reducible refine T_last_drawT (id := 10) Γ_ok drawsAny pl43_10 (by kernel_rfl) (fun K hK=>?_)|((refine goR0 _ _ _ _ _ _ _ _ ?_ ?_ ?_ ?_ ?_ ?_ ?_ ?_) <;> (repeat intro hb) <;> first|exact True.intro|refine Lf.mk ?_)))
    rw [← hQ, ← hR]
    exact .inr ⟨0, _, rfl, rfl, fun _ _ _ _ => rfl⟩
end Go.Proofs.YtdglbjjenihdlaaDoor
namespace Go.Proofs.YtdglbjjenihdlaaDoor
open Go.Ab
@[go_sem,reducible] def enRC (N m i : Nat) : List AV := [.top,.imm (.int .i64 N),.optr 0 0 0,.top,.top,.top,.top,.own 1 0 m none,.imm (.int .i64 i)] ++ List.replicate 45 .top
set_option maxRecDepth 100000 in
set_option maxHeartbeats 8000000 in
theorem rchain_mk (g : P6) (n : Int) : Makes Tryd.prog 15 [p6A g,.imm (.int .i64 n)] (.tup [.own 0 0 (chR g n).1.length none,.imm (.int .i64 (chR g n).2)]) [ptO (chR g n).1] := by
  refine ptMk ?_
  have c1 := rvalid_p g
  generalize hR : chR g n = R
  unfold chR at hR
  generalize hQ : (fun (v : AV) (σ' : List AObj)=>(v = .tup [.imm (.slice none 0 0),.imm (.int .i64 R.2)] ∧ R.1.length = 0) ∨ ∃ k E',v = .tup [.own k 0 R.1.length none,.imm (.int .i64 R.2)] ∧ nthO σ' k = .arr 24 6 R.1.length E' ∧ ∀ i j,i < R.1.length → j < 6 → E' i j = ptE R.1 i j) = Q
  by_cases h : Bd6 576 g ∧ 1 ≤ n ∧ n ≤ 64
  · rw [if_pos h] at hR
    rw [decide_eq_true h.1] at c1
    obtain ⟨h1, h2, h3⟩ := h
    obtain ⟨N, rfl⟩ := Int.eq_ofNat_of_zero_le (show 0 ≤ n by omega)
    rw [Int.toNat_natCast] at hR
    have e1 : decide ((N : Int) < 1) = false := decide_eq_false (by omega)
    have e2 : decide ((N : Int) > 64) = false := decide_eq_false (by omega)
    (refine TC_of_T Γ_ok Tryd.func15 rfl (by kernel_rfl) ?_;simp only [Tryd.ntmps15,Tryd.results15,List.length_cons,List.length_nil,Nat.reduceSub,Nat.reduceAdd,List.replicate,List.cons_append,List.nil_append])
    (have dl1 := c1;have sx1 := e1;have sx2 := e2;((have sx3 : (0 : Nat) + 0 = 0 := rfl;have sx4 : (0 : Nat) + 0 = 0 := rfl;have sx5 : (0 : Nat) + 0 = 0 := rfl;have sx6 : (0 : Nat) + 0 = 0 := rfl;have sx7 : (0 : Nat) + 0 = 0 := rfl;have sx8 : (0 : Nat) + 0 = 0 := rfl;have sx9 : (0 : Nat) + 0 = 0 := rfl;refine goR9 _ _ _ _ _ _ _ _ ?_ ?_ ?_ ?_ ?_ ?_ ?_ ?_) <;> (repeat intro hb) <;> first|exact True.intro|refine Lf.mk ?_))
    clear c1 e1 e2
    refine T_loopW (fun m st => ∃ (i : Nat) (l : List P6),i ≤ N ∧ m + i = N ∧ chL g i = some l ∧ st = ⟨enRC N l.length i,[.box 24 (p6L g),ptO l]⟩)
      N ⟨_, Wk.trans (Wk.push 24 6 (ptE [])) ?_, 0, [], by omega, rfl, rfl, rfl⟩ ?_
    · ((try simp only [List.length_append,List.length_cons,List.length_nil,Nat.zero_add]);refine Wk.intro [0,1] (by decide) (by decide) (by intro o ho;simp at ho ⊢ <;> omega) ?_ ?_ <;> repeat' (first|exact WkVL.nil|refine WkVL.cons ?_ ?_|exact WkV.top|exact WkV.imm rfl|exact WkV.imm (by simp)|exact WkV.optr rfl|exact WkV.own rfl (by simp)|exact WkV.nil_own (.inl rfl)|exact WkV.map rfl|(refine WkV.free ?_;simp [Free,FreeL] <;> assumption)|(refine WkV.free (fun _ _=>FreeL_nth ?_ _);simp [Free,FreeL];done)|refine WkV.agg ?_|refine WkV.tup ?_|refine WkV.fn ?_ ?_|exact WkO.dead|exact WkO.raw|refine WkO.ghost ?_|exact WkO.mpE rfl trivial|refine WkO.box ?_ rfl|refine WkO.arr ?_|refine And.intro ?_ (And.intro (by first|exact fun h=>h|exact fun _=>rfl|exact nofun) ?_)|exact trivial|(intro i j hi hj)))
    rintro m st ⟨i, l, k0, k1, k2, rfl⟩
    obtain ⟨hll, hlb⟩ := chL_len k2
    by_cases hi : i < N
    · have c2 := rpower_tc g h1 i (by omega)
      have c3 := roctave_tc (powR g i).1
      have hst : chL g (i + 1) = (chE g i).map fun p => l ++ [p] := by rw [chL, k2]; rfl
      have hce : chE g i = if (powR g i).2 = 0 ∧ (octR (powR g i).1).2.2 = 0 then some (octR (powR g i).1).1 else none := rfl
      generalize powR g i = w at c2 c3 hce
      obtain ⟨w, e⟩ := w
      simp only [] at c2 c3 hce
      generalize octR w = o at c3 hce
      obtain ⟨p, o, f⟩ := o
      simp only [] at c3 hce
      by_cases he : e = 0
      · subst he
        by_cases hf : f = 0
        · subst hf
          rw [if_pos ⟨rfl, rfl⟩] at hce
          rw [hce] at hst
          simp only [Option.map_some] at hst
          have hsn := fun a b => pt_snoc l p (i := a) (j := b)
          (simp only [go_sem,↓reduceIte,Nat.reduceAdd,Nat.reduceSub,Nat.reduceMul,Nat.reduceLT,Nat.reduceLeDiff,Nat.reduceEqDiff,Nat.reduceGT,Int.reduceToNat,Int.reduceBEq,Int.reduceBNe];try simp (disch := omega) only [wrapI,wrapU,half_sum,toNat_sub1,toNat_add1,Int.toNat_natCast])
          (have dl1 := c2;have dl2 := c3;((refine goR0 _ _ _ _ _ _ _ _ ?_ ?_ ?_ ?_ ?_ ?_ ?_ ?_) <;> (repeat intro hb) <;> first | exact True.intro | refine Lf.mk ?_))
          refine ⟨N - (i + 1),by omega,⟨enRC N (l ++ [p]).length (i + 1),[.box 24 (p6L g),ptO (l ++ [p])]⟩,?_,i + 1,l ++ [p],by omega,by omega,hst,rfl⟩
          simp only [ptO]
          ((try simp only [List.length_append,List.length_cons,List.length_nil,Nat.zero_add]);refine Wk.intro [0,5] (by decide) (by decide) (by intro o ho;simp at ho ⊢ <;> omega) ?_ ?_ <;> repeat' (first|(exact WkV.eqF (hsn _ _ hi hj) (ptE_free _ _ _))|(refine WkV.imm ?_;congr 1;omega)|exact WkVL.nil|refine WkVL.cons ?_ ?_|exact WkV.top|exact WkV.imm rfl|exact WkV.imm (by simp)|exact WkV.optr rfl|exact WkV.own rfl (by simp)|exact WkV.nil_own (.inl rfl)|exact WkV.map rfl|(refine WkV.free ?_;simp [Free,FreeL] <;> assumption)|(refine WkV.free (fun _ _=>FreeL_nth ?_ _);simp [Free,FreeL];done)|refine WkV.agg ?_|refine WkV.tup ?_|refine WkV.fn ?_ ?_|exact WkO.dead|exact WkO.raw|refine WkO.ghost ?_|exact WkO.mpE rfl trivial|refine WkO.box ?_ rfl|refine WkO.arr ?_|refine And.intro ?_ (And.intro (by first|exact fun h=>h|exact fun _=>rfl|exact nofun) ?_)|exact trivial|(intro i j hi hj)))
        · have e3 : (f != 0) = true := by rw [bne_iff_ne]; exact hf
          rw [if_neg (fun k => hf k.2)] at hce
          rw [hce] at hst
          have hno : chL g N = none := by
            have := chL_none hst (N - (i + 1))
            rwa [show i + 1 + (N - (i + 1)) = N by omega] at this
          rw [hno] at hR
          (simp only [go_sem,↓reduceIte,Nat.reduceAdd,Nat.reduceSub,Nat.reduceMul,Nat.reduceLT,Nat.reduceLeDiff,Nat.reduceEqDiff,Nat.reduceGT,Int.reduceToNat,Int.reduceBEq,Int.reduceBNe];try simp (disch := omega) only [wrapI,wrapU,half_sum,toNat_sub1,toNat_add1,Int.toNat_natCast])
          (have dl1 := c2;have dl2 := c3;have sx1 := e3;have sx2 : (0 : Nat) + 0 = 0 := rfl;((have sx3 : (0 : Nat) + 0 = 0 := rfl;have sx4 : (0 : Nat) + 0 = 0 := rfl;have sx5 : (0 : Nat) + 0 = 0 := rfl;have sx6 : (0 : Nat) + 0 = 0 := rfl;have sx7 : (0 : Nat) + 0 = 0 := rfl;have sx8 : (0 : Nat) + 0 = 0 := rfl;have sx9 : (0 : Nat) + 0 = 0 := rfl;refine goR9 _ _ _ _ _ _ _ _ ?_ ?_ ?_ ?_ ?_ ?_ ?_ ?_) <;> (repeat intro hb) <;> first|exact True.intro|refine Lf.mk ?_))
          rw [← hQ, ← hR]
          exact .inl ⟨rfl, rfl⟩
      · have e3 : (e != 0) = true := by rw [bne_iff_ne]; exact he
        rw [if_neg (fun k => he k.1)] at hce
        rw [hce] at hst
        have hno : chL g N = none := by
          have := chL_none hst (N - (i + 1))
          rwa [show i + 1 + (N - (i + 1)) = N by omega] at this
        rw [hno] at hR
        (simp only [go_sem,↓reduceIte,Nat.reduceAdd,Nat.reduceSub,Nat.reduceMul,Nat.reduceLT,Nat.reduceLeDiff,Nat.reduceEqDiff,Nat.reduceGT,Int.reduceToNat,Int.reduceBEq,Int.reduceBNe];try simp (disch := omega) only [wrapI,wrapU,half_sum,toNat_sub1,toNat_add1,Int.toNat_natCast])
        (have dl1 := c2;have sx1 := e3;have sx2 : (0 : Nat) + 0 = 0 := rfl;((have sx3 : (0 : Nat) + 0 = 0 := rfl;have sx4 : (0 : Nat) + 0 = 0 := rfl;have sx5 : (0 : Nat) + 0 = 0 := rfl;have sx6 : (0 : Nat) + 0 = 0 := rfl;have sx7 : (0 : Nat) + 0 = 0 := rfl;have sx8 : (0 : Nat) + 0 = 0 := rfl;have sx9 : (0 : Nat) + 0 = 0 := rfl;refine goR9 _ _ _ _ _ _ _ _ ?_ ?_ ?_ ?_ ?_ ?_ ?_ ?_) <;> (repeat intro hb) <;> first|exact True.intro|refine Lf.mk ?_))
        rw [← hQ, ← hR]
        exact .inl ⟨rfl, rfl⟩
    · obtain rfl : i = N := by omega
      rw [k2] at hR
      change srtR l = R at hR
      have c4 := rsorted_mk l (by omega) hlb
      rw [hR] at c4
      (simp only [go_sem,↓reduceIte,Nat.reduceAdd,Nat.reduceSub,Nat.reduceMul,Nat.reduceLT,Nat.reduceLeDiff,Nat.reduceEqDiff,Nat.reduceGT,Int.reduceToNat,Int.reduceBEq,Int.reduceBNe];try simp (disch := omega) only [wrapI,wrapU,half_sum,toNat_sub1,toNat_add1,Int.toNat_natCast])
      (have cm1 := c4;((refine goR0 _ _ _ _ _ _ _ _ ?_ ?_ ?_ ?_ ?_ ?_ ?_ ?_) <;> (repeat intro hb) <;> first | exact True.intro | refine Lf.mk ?_))
      rw [← hQ]
      exact .inr ⟨2, _, rfl, rfl, fun _ _ _ _ => rfl⟩
  · rw [if_neg h] at hR
    (refine TC_of_T Γ_ok Tryd.func15 rfl (by kernel_rfl) ?_;simp only [Tryd.ntmps15,Tryd.results15,List.length_cons,List.length_nil,Nat.reduceSub,Nat.reduceAdd,List.replicate,List.cons_append,List.nil_append])
    (have dl1 := c1;((refine goR0 _ _ _ _ _ _ _ _ ?_ ?_ ?_ ?_ ?_ ?_ ?_ ?_) <;> (repeat intro hb) <;> first | exact True.intro | refine Lf.mk ?_))
    · rw [← hQ, ← hR]
      exact .inl ⟨rfl, rfl⟩
    · exact absurd ⟨hb.1.1, hb.1.2, hb.2⟩ h
end Go.Proofs.YtdglbjjenihdlaaDoor
