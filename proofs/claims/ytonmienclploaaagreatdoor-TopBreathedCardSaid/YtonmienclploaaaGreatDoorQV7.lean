/-
  The law TopBreathed (its head's contract is a hypothesis here).
-/
import Derived.Test.YtonmienclploaaaGreatDoorQGo
import Derived.Test.YtonmienclploaaaGreatDoorQGo2
import Derived.Test.YtonmienclploaaaGreatDoorQV6
set_option linter.unusedSimpArgs false
set_option linter.unusedVariables false
namespace Go.Proofs.YtonmienclploaaaGreatDoor
open Go.Ab
def myE (k : Nat) (i _j : Nat) : AV := .imm (.bool (decide (i < k)))
@[simp] theorem myE_free (k i j : Nat) : Free (myE k i j) := trivial
theorem myE_upd (k i j : Nat) (hj : j < 1) : updE (myE k) k 0 [.imm (.bool true)] i j = myE (k + 1) i j := by
  obtain rfl : j = 0 := by omega
  unfold updE myE
  by_cases h : i = k
  · subst h
    rw [if_pos ⟨rfl, by omega, by simp⟩, decide_eq_true (by omega)]
    rfl
  · rw [if_neg (fun hh => h hh.1)]
    by_cases h2 : i < k
    · rw [decide_eq_true h2, decide_eq_true (by omega)]
    · rw [decide_eq_false h2, decide_eq_false (by omega)]
def lgK (ls : List Int) (b : Int) (k : Nat) : Bool := (List.range k).any fun i => decide (gL ls i > b)
theorem lgK_s (ls : List Int) (b : Int) (k : Nat) : lgK ls b (k + 1) = (lgK ls b k || decide (gL ls k > b)) := by
  unfold lgK
  rw [List.range_succ, List.any_append]
  simp
theorem lgK_no {ls : List Int} {b : Int} {k : Nat} (h : ∀ i, i < k → gL ls i ≤ b) : lgK ls b k = false := by
  unfold lgK
  rw [List.any_eq_false]
  intro i hi
  have := h i (List.mem_range.1 hi)
  simp; omega
theorem lgK_yes {ls : List Int} {b : Int} {k i : Nat} (h : i < k) (hx : b < gL ls i) : lgK ls b k = true := by
  unfold lgK
  rw [List.any_eq_true]
  exact ⟨i, List.mem_range.2 h, decide_eq_true hx⟩
set_option maxRecDepth 100000 in
set_option maxHeartbeats 8000000 in
theorem law_few (hh : Look Tryz.prog 5 [] (.imm (.bool true))) (v : Vc) (ls : List Int) (ats : List P6) (h : ¬ (ls.length ≤ 24 ∧ ls.length ≤ ats.length)) : Look Tryz.prog 3 [vcA v,its ls,vts ats] (.imm (.bool true)) := by
  refine Look.mk trivial ?_
  by_cases h1 : ls.length ≤ 24
  · have e1 : decide ((ls.length : Int) > 24) = false := decide_eq_false (by omega)
    have e2 : decide ((ats.length : Int) < ls.length) = true := decide_eq_true (by omega)
    (refine TC_of_T Γ_ok Tryz.func3 rfl (by kernel_rfl) ?_;simp only [Tryz.ntmps3,Tryz.results3,List.length_cons,List.length_nil,Nat.reduceSub,Nat.reduceAdd,List.replicate,List.cons_append,List.nil_append])
    (have cl1 := hh;have sx1 := e1;have sx2 := e2;((have sx3 : (0 : Nat) + 0 = 0 := rfl;have sx4 : (0 : Nat) + 0 = 0 := rfl;have sx5 : (0 : Nat) + 0 = 0 := rfl;have sx6 : (0 : Nat) + 0 = 0 := rfl;refine goR6 _ _ _ _ _ _ _ _ ?_ ?_ ?_ ?_ ?_ ?_ ?_ ?_) <;> (repeat intro hb) <;> first|exact True.intro|refine Lf.mk ?_))
  · have e1 : decide ((ls.length : Int) > 24) = true := decide_eq_true (by omega)
    (refine TC_of_T Γ_ok Tryz.func3 rfl (by kernel_rfl) ?_;simp only [Tryz.ntmps3,Tryz.results3,List.length_cons,List.length_nil,Nat.reduceSub,Nat.reduceAdd,List.replicate,List.cons_append,List.nil_append])
    (have cl1 := hh;have sx1 := e1;have sx2 : (0 : Nat) + 0 = 0 := rfl;((have sx3 : (0 : Nat) + 0 = 0 := rfl;have sx4 : (0 : Nat) + 0 = 0 := rfl;have sx5 : (0 : Nat) + 0 = 0 := rfl;have sx6 : (0 : Nat) + 0 = 0 := rfl;refine goR6 _ _ _ _ _ _ _ _ ?_ ?_ ?_ ?_ ?_ ?_ ?_ ?_) <;> (repeat intro hb) <;> first|exact True.intro|refine Lf.mk ?_))
theorem brk_len {l : List Int} {b : Int} : ∀ {f i : Nat}, l.length - i ≤ f → (brk l b i).1.length ≤ f
  | f, i, h => by
    by_cases h1 : l.length ≤ i + fitN (l.drop i) b
    · rw [brk_end h1]; simp
    · by_cases h2 : fitN (l.drop i) b = 0
      · rw [brk_long (by omega) h2]; simp
      · rw [brk_step (by omega) h2]
        match f, h with
        | 0, h => omega
        | f + 1, h =>
          have := brk_len (l := l) (b := b) (f := f) (i := i + fitN (l.drop i) b) (by omega)
          simp; omega
theorem breR_len (l : List Int) (b : Int) : (breR b l).1.length ≤ l.length := by
  unfold breR
  split
  · exact brk_len (f := l.length) (i := 0) (by omega)
  · simp
theorem atT_bd {ls bs : List Int} (h : ∀ i,i < ls.length → 1 ≤ gL ls i ∧ gL ls i ≤ 100000) : ∀ i : Nat,i ≤ ls.length → 0 ≤ atT ls bs i ∧ atT ls bs i ≤ 100001 * i
  | 0, _ => by simp [atT]
  | i + 1, hi => by
    have h1 := atT_bd (bs := bs) h i (by omega)
    have h2 := h i (by omega)
    rw [atT]
    split <;> omega
theorem lnL_s (ls bs : List Int) (ats : List P6) (n : Nat) : lnL ls bs ats (n + 1) = lnL ls bs ats n ++ [⟨atT ls bs n,atT ls bs n + gL ls n,gV ats n⟩] := by
  unfold lnL
  rw [List.range_succ, List.map_append]
  rfl
theorem sg_snoc (l : List Sg) (x : Sg) {i j : Nat} (h : i < l.length + 1) (hj : j < 8) : catE l.length (sgE l) (fun i j => nth (sgL x) (i * 8 + j)) i j = sgE (l ++ [x]) i j := by
  unfold catE sgE gS
  split
  · rename_i h1; simp [List.getElem?_append_left h1]
  · obtain rfl : i = l.length := by omega
    simp
set_option maxRecDepth 100000 in
set_option maxHeartbeats 8000000 in
theorem law_breathed (hh : Look Tryz.prog 5 [] (.imm (.bool true))) (v : Vc) (ls : List Int) (ats : List P6) (h : ls.length ≤ 24 ∧ ls.length ≤ ats.length) : Look Tryz.prog 3 [vcA v,its ls,vts ats] (.imm (.bool true)) := by
  refine Look.mk trivial ?_
  have e1 : decide ((ls.length : Int) > 24) = false := decide_eq_false (by omega)
  have e2 : decide ((ats.length : Int) < ls.length) = false := decide_eq_false (by omega)
  (refine TC_of_T Γ_ok Tryz.func3 rfl (by kernel_rfl) ?_;simp only [Tryz.ntmps3,Tryz.results3,List.length_cons,List.length_nil,Nat.reduceSub,Nat.reduceAdd,List.replicate,List.cons_append,List.nil_append])
  (have cl1 := hh;have sx1 := e1;have sx2 := e2;((have sx3 : (0 : Nat) + 0 = 0 := rfl;have sx4 : (0 : Nat) + 0 = 0 := rfl;have sx5 : (0 : Nat) + 0 = 0 := rfl;have sx6 : (0 : Nat) + 0 = 0 := rfl;refine goR6 _ _ _ _ _ _ _ _ ?_ ?_ ?_ ?_ ?_ ?_ ?_ ?_) <;> (repeat intro hb) <;> first|exact True.intro|refine Lf.mk ?_))
  have hz : ∀ i j, j < 1 → nth [AV.imm (.bool false)] j = myE 0 i j := fun i j hj => by
    obtain rfl : j = 0 := by omega
    rfl
  refine T_loopW (fun m st=>∃ i : Nat,i ≤ ls.length ∧ m + i = ls.length ∧ st = ⟨[.top,its ls,vts ats,.optr 0 0 0,.top,.top,.top,.imm (.bool true),.own 1 0 ls.length (some ls.length),.imm (.bool (lgK ls v.br i))] ++ List.replicate 34 .top ++ [its ls,.imm (.int .i64 ls.length),.imm (.int .i64 i)] ++ List.replicate 171 .top,
      [.box 25 (vcL v), .arr 4 1 ls.length (myE i)]⟩)
    ls.length ⟨_, ?_, 0, by omega, rfl, rfl⟩ ?_
  · ((try simp only [List.length_append,List.length_cons,List.length_nil,Nat.zero_add]);refine Wk.intro [0,1] (by decide) (by decide) (by intro o ho;simp at ho ⊢ <;> omega) ?_ ?_ <;> repeat' (first|(exact WkV.eqF (hz _ _ hj) trivial)|exact WkVL.nil|refine WkVL.cons ?_ ?_|exact WkV.top|exact WkV.imm rfl|exact WkV.imm (by simp)|exact WkV.optr rfl|exact WkV.own rfl (by simp)|exact WkV.nil_own (.inl rfl)|exact WkV.map rfl|(refine WkV.free ?_;simp [Free,FreeL] <;> assumption)|(refine WkV.free (fun _ _=>FreeL_nth ?_ _);simp [Free,FreeL];done)|refine WkV.agg ?_|refine WkV.tup ?_|refine WkV.fn ?_ ?_|exact WkO.dead|exact WkO.raw|refine WkO.ghost ?_|exact WkO.mpE rfl trivial|refine WkO.box ?_ rfl|refine WkO.arr ?_|refine And.intro ?_ (And.intro (by first|exact fun h=>h|exact fun _=>rfl|exact nofun) ?_)|exact trivial|(intro i j hi hj)))
  rintro m st ⟨i, g0, g1, rfl⟩
  have hup := fun p q => myE_upd i p q
  have hlg := lgK_s ls v.br i
  by_cases hi : i < ls.length
  · generalize lgK ls v.br i = lg at hlg
    (simp only [go_sem,↓reduceIte,Nat.reduceAdd,Nat.reduceSub,Nat.reduceMul,Nat.reduceLT,Nat.reduceLeDiff,Nat.reduceEqDiff,Nat.reduceGT,Int.reduceToNat,Int.reduceBEq,Int.reduceBNe];try simp (disch := omega) only [wrapI,wrapU,half_sum,toNat_sub1,toNat_add1,Int.toNat_natCast])
    (((refine goR0 _ _ _ _ _ _ _ _ ?_ ?_ ?_ ?_ ?_ ?_ ?_ ?_) <;> (repeat intro hb) <;> first | exact True.intro | refine Lf.mk ?_))
    refine ⟨ls.length - (i + 1), by omega, _, ?_, i + 1, by omega, by omega, rfl⟩
    rw [hlg]
    ((try simp only [List.length_append,List.length_cons,List.length_nil,Nat.zero_add]);refine Wk.intro [0,1] (by decide) (by decide) (by intro o ho;simp at ho ⊢ <;> omega) ?_ ?_ <;> repeat' (first|(exact WkV.eqF (hup _ _ hj) trivial)|exact WkVL.nil|refine WkVL.cons ?_ ?_|exact WkV.top|exact WkV.imm rfl|exact WkV.imm (by simp)|exact WkV.optr rfl|exact WkV.own rfl (by simp)|exact WkV.nil_own (.inl rfl)|exact WkV.map rfl|(refine WkV.free ?_;simp [Free,FreeL] <;> assumption)|(refine WkV.free (fun _ _=>FreeL_nth ?_ _);simp [Free,FreeL];done)|refine WkV.agg ?_|refine WkV.tup ?_|refine WkV.fn ?_ ?_|exact WkO.dead|exact WkO.raw|refine WkO.ghost ?_|exact WkO.mpE rfl trivial|refine WkO.box ?_ rfl|refine WkO.arr ?_|refine And.intro ?_ (And.intro (by first|exact fun h=>h|exact fun _=>rfl|exact nofun) ?_)|exact trivial|(intro i j hi hj)))
  · obtain rfl : i = ls.length := by omega
    have hv1 : ∀ i j,i < ls.length → j < 1 → myE ls.length i j = .imm (.bool true) := fun i j hi hj => by unfold myE;rw [decide_eq_true hi]
    have hv5 := hv1
    by_cases hv : vcB v = true ∧ anyB (fun x => !okLen x) ls = false
    · have c1 : Makes Tryz.prog 6 [vcA v,its ls,.view ls.length 1 (myE ls.length)] _ _ := (breaths_tc v ls h.1 hv).conv fun w xs hx => by
        match xs, hx with
        | [x, y, z], hx => simp only [RvL, and_true] at hx ⊢; exact ⟨hx.1, hx.2.1, Rv_view_ext hv1 hx.2.2⟩
      have hbr := vcB_br hv.1
      have hok : ∀ i, i < ls.length → 1 ≤ gL ls i ∧ gL ls i ≤ 100000 := fun i hi => by
        have := anyB_no.1 hv.2 _ (gL_mem hi)
        unfold okLen at this
        simp only [Bool.not_eq_false', Bool.and_eq_true, decide_eq_true_eq] at this
        exact this
      have hp : ∀ x ∈ ls, 1 ≤ x := fun x hx => by
        obtain ⟨k, hk, rfl⟩ := List.getElem_of_mem hx
        have := (hok k hk).1
        simpa [gL, hk] using this
      by_cases he : (breR v.br ls).2 = 0
      · have hone := fun k hk => one_breath (ls := ls) (b := v.br) (ats := ats) (by omega) hp he (k := k) hk
        have hlf : lgK ls v.br ls.length = false := lgK_no fun i hi => (hone i hi).2
        have hbl := breR_len ls v.br
        rw [he] at c1
        rw [hlf]
        generalize (breR v.br ls).1 = bs at *
        (simp only [go_sem,↓reduceIte,Nat.reduceAdd,Nat.reduceSub,Nat.reduceMul,Nat.reduceLT,Nat.reduceLeDiff,Nat.reduceEqDiff,Nat.reduceGT,Int.reduceToNat,Int.reduceBEq,Int.reduceBNe];try simp (disch := omega) only [wrapI,wrapU,half_sum,toNat_sub1,toNat_add1,Int.toNat_natCast])
        (have cm1 := c1;((refine goR0 _ _ _ _ _ _ _ _ ?_ ?_ ?_ ?_ ?_ ?_ ?_ ?_) <;> (repeat intro hb) <;> first | exact True.intro | refine Lf.mk ?_))
        refine T_loopW (fun m2 st=>∃ i : Nat,i ≤ ls.length ∧ m2 + i = ls.length ∧ st = ⟨[.top,its ls,vts ats,.optr 0 0 0,.top,.top,.top,.imm (.bool true),.top,.imm (.bool false),.top,.top,.own 1 0 bs.length none,.top,.own 2 0 i none,.imm (.int .i64 (atT ls bs i))] ++ List.replicate 67 .top ++ [its ls,.imm (.int .i64 ls.length),.imm (.int .i64 i)] ++ List.replicate 132 .top,
            [.box 25 (vcL v), itO bs, .arr 36 8 i (sgE (lnL ls bs ats i))]⟩)
          ls.length ⟨_, Wk.trans (Wk.push 36 8 (sgE [])) ?_, 0, by omega, rfl, rfl⟩ ?_
        · ((try simp only [List.length_append,List.length_cons,List.length_nil,Nat.zero_add]);refine Wk.intro [0,2,3] (by decide) (by decide) (by intro o ho;simp at ho ⊢ <;> omega) ?_ ?_ <;> repeat' (first|exact WkVL.nil|refine WkVL.cons ?_ ?_|exact WkV.top|exact WkV.imm rfl|exact WkV.imm (by simp)|exact WkV.optr rfl|exact WkV.own rfl (by simp)|exact WkV.nil_own (.inl rfl)|exact WkV.map rfl|(refine WkV.free ?_;simp [Free,FreeL] <;> assumption)|(refine WkV.free (fun _ _=>FreeL_nth ?_ _);simp [Free,FreeL];done)|refine WkV.agg ?_|refine WkV.tup ?_|refine WkV.fn ?_ ?_|exact WkO.dead|exact WkO.raw|refine WkO.ghost ?_|exact WkO.mpE rfl trivial|refine WkO.box ?_ rfl|refine WkO.arr ?_|refine And.intro ?_ (And.intro (by first|exact fun h=>h|exact fun _=>rfl|exact nofun) ?_)|exact trivial|(intro i j hi hj)))
        rintro m2 st ⟨i, f0, f1, rfl⟩
        by_cases hi2 : i < ls.length
        · have hll := lnL_len ls bs ats i
          have hsn := fun p q => sg_snoc (lnL ls bs ats i) ⟨atT ls bs i,atT ls bs i + gL ls i,gV ats i⟩ (i := p) (j := q)
          rw [← lnL_s, hll] at hsn
          have hb1 := atT_bd (bs := bs) hok i (by omega)
          have hb2 := hok i hi2
          have c2 := contains_tc (i : Int) bs (by omega)
          have hat : atT ls bs (i + 1) = atT ls bs i + gL ls i + (if isB bs i = true then 1 else 0) := rfl
          have hib : isB bs i = bs.contains (i : Int) := rfl
          generalize atT ls bs i = tt at *
          cases hcb : bs.contains (i : Int) with
          | true =>
            rw [hcb] at c2
            rw [hib, hcb, if_pos rfl] at hat
            (simp only [go_sem,↓reduceIte,Nat.reduceAdd,Nat.reduceSub,Nat.reduceMul,Nat.reduceLT,Nat.reduceLeDiff,Nat.reduceEqDiff,Nat.reduceGT,Int.reduceToNat,Int.reduceBEq,Int.reduceBNe];try simp (disch := omega) only [wrapI,wrapU,half_sum,toNat_sub1,toNat_add1,Int.toNat_natCast])
            (have cl1 := c2;((refine goR0 _ _ _ _ _ _ _ _ ?_ ?_ ?_ ?_ ?_ ?_ ?_ ?_) <;> (repeat intro hb) <;> first | exact True.intro | refine Lf.mk ?_))
            refine ⟨ls.length - (i + 1), by omega, _, ?_, i + 1, by omega, by omega, rfl⟩
            rw [hat]
            ((try simp only [List.length_append,List.length_cons,List.length_nil,Nat.zero_add]);refine Wk.intro [0,1,4] (by decide) (by decide) (by intro o ho;simp at ho ⊢ <;> omega) ?_ ?_ <;> repeat' (first|(exact WkV.eqF (hsn _ _ hi hj) (by simp))|exact WkVL.nil|refine WkVL.cons ?_ ?_|exact WkV.top|exact WkV.imm rfl|exact WkV.imm (by simp)|exact WkV.optr rfl|exact WkV.own rfl (by simp)|exact WkV.nil_own (.inl rfl)|exact WkV.map rfl|(refine WkV.free ?_;simp [Free,FreeL] <;> assumption)|(refine WkV.free (fun _ _=>FreeL_nth ?_ _);simp [Free,FreeL];done)|refine WkV.agg ?_|refine WkV.tup ?_|refine WkV.fn ?_ ?_|exact WkO.dead|exact WkO.raw|refine WkO.ghost ?_|exact WkO.mpE rfl trivial|refine WkO.box ?_ rfl|refine WkO.arr ?_|refine And.intro ?_ (And.intro (by first|exact fun h=>h|exact fun _=>rfl|exact nofun) ?_)|exact trivial|(intro i j hi hj)))
          | false =>
            rw [hcb] at c2
            rw [hib, hcb, if_neg (by simp), Int.add_zero] at hat
            (simp only [go_sem,↓reduceIte,Nat.reduceAdd,Nat.reduceSub,Nat.reduceMul,Nat.reduceLT,Nat.reduceLeDiff,Nat.reduceEqDiff,Nat.reduceGT,Int.reduceToNat,Int.reduceBEq,Int.reduceBNe];try simp (disch := omega) only [wrapI,wrapU,half_sum,toNat_sub1,toNat_add1,Int.toNat_natCast])
            (have cl1 := c2;((refine goR0 _ _ _ _ _ _ _ _ ?_ ?_ ?_ ?_ ?_ ?_ ?_ ?_) <;> (repeat intro hb) <;> first | exact True.intro | refine Lf.mk ?_))
            refine ⟨ls.length - (i + 1), by omega, _, ?_, i + 1, by omega, by omega, rfl⟩
            rw [hat]
            ((try simp only [List.length_append,List.length_cons,List.length_nil,Nat.zero_add]);refine Wk.intro [0,1,4] (by decide) (by decide) (by intro o ho;simp at ho ⊢ <;> omega) ?_ ?_ <;> repeat' (first|(exact WkV.eqF (hsn _ _ hi hj) (by simp))|exact WkVL.nil|refine WkVL.cons ?_ ?_|exact WkV.top|exact WkV.imm rfl|exact WkV.imm (by simp)|exact WkV.optr rfl|exact WkV.own rfl (by simp)|exact WkV.nil_own (.inl rfl)|exact WkV.map rfl|(refine WkV.free ?_;simp [Free,FreeL] <;> assumption)|(refine WkV.free (fun _ _=>FreeL_nth ?_ _);simp [Free,FreeL];done)|refine WkV.agg ?_|refine WkV.tup ?_|refine WkV.fn ?_ ?_|exact WkO.dead|exact WkO.raw|refine WkO.ghost ?_|exact WkO.mpE rfl trivial|refine WkO.box ?_ rfl|refine WkO.arr ?_|refine And.intro ?_ (And.intro (by first|exact fun h=>h|exact fun _=>rfl|exact nofun) ?_)|exact trivial|(intro i j hi hj)))
        · obtain rfl : i = ls.length := by omega
          have hll := lnL_len ls bs ats ls.length
          cases hlo : lokB (lnL ls bs ats ls.length) with
          | false =>
            have c2 := line_no v (lnL ls bs ats ls.length) (by omega) (by rw [hlo]; simp)
            unfold sgs at c2
            rw [hll] at c2
            (simp only [go_sem,↓reduceIte,Nat.reduceAdd,Nat.reduceSub,Nat.reduceMul,Nat.reduceLT,Nat.reduceLeDiff,Nat.reduceEqDiff,Nat.reduceGT,Int.reduceToNat,Int.reduceBEq,Int.reduceBNe];try simp (disch := omega) only [wrapI,wrapU,half_sum,toNat_sub1,toNat_add1,Int.toNat_natCast])
            (have cl1 := c2;((refine goR0 _ _ _ _ _ _ _ _ ?_ ?_ ?_ ?_ ?_ ?_ ?_ ?_) <;> (repeat intro hb) <;> first | exact True.intro | refine Lf.mk ?_))
          | true =>
            have c2 := line_tc v (lnL ls bs ats ls.length) (by omega) hv.1 hlo
            unfold sgs at c2
            rw [hll] at c2
            have hfs := fstF_spec (f := badS v (lnL ls bs ats ls.length)) (d := ls.length) (i := 0)
            generalize fstF (badS v (lnL ls bs ats ls.length)) 0 ls.length = r at c2 hfs
            generalize hk : (if r < ls.length then (r : Int) else -1) = k at c2
            have e3 : decide (k < -1) = false := by rw [← hk]; split <;> simp <;> omega
            have e4 : decide (k ≥ (ls.length : Int)) = false := by rw [← hk]; split <;> simp <;> omega
            (simp only [go_sem,↓reduceIte,Nat.reduceAdd,Nat.reduceSub,Nat.reduceMul,Nat.reduceLT,Nat.reduceLeDiff,Nat.reduceEqDiff,Nat.reduceGT,Int.reduceToNat,Int.reduceBEq,Int.reduceBNe];try simp (disch := omega) only [wrapI,wrapU,half_sum,toNat_sub1,toNat_add1,Int.toNat_natCast])
            (have cl1 := c2;have sx1 := e3;have sx2 := e4;((have sx3 : (0 : Nat) + 0 = 0 := rfl;have sx4 : (0 : Nat) + 0 = 0 := rfl;have sx5 : (0 : Nat) + 0 = 0 := rfl;have sx6 : (0 : Nat) + 0 = 0 := rfl;refine goR6 _ _ _ _ _ _ _ _ ?_ ?_ ?_ ?_ ?_ ?_ ?_ ?_) <;> (repeat intro hb) <;> first|exact True.intro|refine Lf.mk ?_))
            have hlk := lokB_iff.1 hlo
            rw [hll] at hlk
            have hbd : ∀ i,i < ls.length → badS v (lnL ls bs ats ls.length) i = (!(hsB v (gS (lnL ls bs ats ls.length) i).p) || (decide (0 < i) && !(fdB v (gS (lnL ls bs ats ls.length) (i - 1)).p (gS (lnL ls bs ats ls.length) i).p))) := fun i hi=>by
              unfold badS
              rw [decide_eq_false (by have := (hone i hi).1; omega), Bool.false_or]
            generalize lnL ls bs ats ls.length = L at *
            refine T_loopW (fun m3 st=>∃ i : Nat,i ≤ ls.length ∧ m3 + i = ls.length ∧ i ≤ r ∧ st = ⟨[.top,.top,.top,.optr 0 0 0,.top,.top,.top,.imm (.bool true),.top,.imm (.bool false),.top,.top,.top,.top,.own 1 0 ls.length none,.top,.top,.top,.imm (.int .i64 k)] ++ List.replicate 113 .top ++ [.own 1 0 ls.length none,.imm (.int .i64 ls.length),.imm (.int .i64 i)] ++ List.replicate 83 .top,
                [.box 25 (vcL v), .arr 36 8 ls.length (sgE L)]⟩)
              ls.length ⟨_, ?_, 0, by omega, rfl, by omega, rfl⟩ ?_
            · ((try simp only [List.length_append,List.length_cons,List.length_nil,Nat.zero_add]);refine Wk.intro [0,2] (by decide) (by decide) (by intro o ho;simp at ho ⊢ <;> omega) ?_ ?_ <;> repeat' (first|exact WkVL.nil|refine WkVL.cons ?_ ?_|exact WkV.top|exact WkV.imm rfl|exact WkV.imm (by simp)|exact WkV.optr rfl|exact WkV.own rfl (by simp)|exact WkV.nil_own (.inl rfl)|exact WkV.map rfl|(refine WkV.free ?_;simp [Free,FreeL] <;> assumption)|(refine WkV.free (fun _ _=>FreeL_nth ?_ _);simp [Free,FreeL];done)|refine WkV.agg ?_|refine WkV.tup ?_|refine WkV.fn ?_ ?_|exact WkO.dead|exact WkO.raw|refine WkO.ghost ?_|exact WkO.mpE rfl trivial|refine WkO.box ?_ rfl|refine WkO.arr ?_|refine And.intro ?_ (And.intro (by first|exact fun h=>h|exact fun _=>rfl|exact nofun) ?_)|exact trivial|(intro i j hi hj)))
            rintro m3 st ⟨i, d0, d1, d2, rfl⟩
            by_cases hi3 : i < ls.length
            · have hok3 := (sgB_iff.1 (hlk i hi3)).2.2.2
              have hh1 : hasR v (gS L i).p = (hsB v (gS L i).p, 0) := if_pos ⟨hv.1, hok3⟩
              have c3 := vhas_tc v (gS L i).p
              have c4 := rcan_tc v (gS L i).p
              rw [hh1] at c3 c4
              have hb3 := hbd i hi3
              have hv5 : ∀ p q,p < 1 → q < 6 → nth [AV.imm (.int .i64 (gS L i).p.a),.imm (.int .i64 (gS L i).p.b),.imm (.int .i64 (gS L i).p.c),.imm (.int .i64 (gS L i).p.d),.imm (.int .i64 (gS L i).p.e),.imm (.int .i64 (gS L i).p.f)] (p * 6 + q) = vtE [(gS L i).p] p q := fun p q hp hq=>by
                obtain rfl : p = 0 := by omega
                rw [Nat.zero_mul, Nat.zero_add]
                rfl
              by_cases h0 : i = 0
              · have e5 : decide ((i : Int) > 0) = false := decide_eq_false (by omega)
                rw [decide_eq_false (show ¬ 0 < i by omega), Bool.false_and, Bool.or_false] at hb3
                generalize hsB v (gS L i).p = b1 at *
                by_cases hir : i = r
                · have hbr2 := hfs.2.2.2 (by omega)
                  rw [← hir, hb3] at hbr2
                  have e6 : ((i : Int) == k) = true := by rw [← hk, if_pos (by omega)]; simp; omega
                  obtain rfl : b1 = false := by simpa using hbr2
                  (simp only [go_sem,↓reduceIte,Nat.reduceAdd,Nat.reduceSub,Nat.reduceMul,Nat.reduceLT,Nat.reduceLeDiff,Nat.reduceEqDiff,Nat.reduceGT,Int.reduceToNat,Int.reduceBEq,Int.reduceBNe];try simp (disch := omega) only [wrapI,wrapU,half_sum,toNat_sub1,toNat_add1,Int.toNat_natCast])
                  (have dl1 := c3;have dl2 := c4;have sx1 := e5;have sx2 := e6;((have sx3 : (0 : Nat) + 0 = 0 := rfl;have sx4 : (0 : Nat) + 0 = 0 := rfl;have sx5 : (0 : Nat) + 0 = 0 := rfl;have sx6 : (0 : Nat) + 0 = 0 := rfl;refine goR6 _ _ _ _ _ _ _ _ ?_ ?_ ?_ ?_ ?_ ?_ ?_ ?_) <;> (repeat intro hb) <;> first|exact True.intro|refine Lf.mk ?_))
                · have hbr2 := hfs.2.2.1 i (by omega) (by omega)
                  rw [hb3] at hbr2
                  have e6 : ((i : Int) == k) = false := by rw [← hk]; split <;> simp <;> omega
                  obtain rfl : b1 = true := by simpa using hbr2
                  (simp only [go_sem,↓reduceIte,Nat.reduceAdd,Nat.reduceSub,Nat.reduceMul,Nat.reduceLT,Nat.reduceLeDiff,Nat.reduceEqDiff,Nat.reduceGT,Int.reduceToNat,Int.reduceBEq,Int.reduceBNe];try simp (disch := omega) only [wrapI,wrapU,half_sum,toNat_sub1,toNat_add1,Int.toNat_natCast])
                  (have dl1 := c3;have dl2 := c4;have sx1 := e5;have sx2 := e6;((have sx3 : (0 : Nat) + 0 = 0 := rfl;have sx4 : (0 : Nat) + 0 = 0 := rfl;have sx5 : (0 : Nat) + 0 = 0 := rfl;have sx6 : (0 : Nat) + 0 = 0 := rfl;refine goR6 _ _ _ _ _ _ _ _ ?_ ?_ ?_ ?_ ?_ ?_ ?_ ?_) <;> (repeat intro hb) <;> first|exact True.intro|refine Lf.mk ?_))
                  refine ⟨ls.length - (i + 1), by omega, _, ?_, i + 1, by omega, by omega, by omega, rfl⟩
                  ((try simp only [List.length_append,List.length_cons,List.length_nil,Nat.zero_add]);refine Wk.intro [0,1] (by decide) (by decide) (by intro o ho;simp at ho ⊢ <;> omega) ?_ ?_ <;> repeat' (first|exact WkVL.nil|refine WkVL.cons ?_ ?_|exact WkV.top|exact WkV.imm rfl|exact WkV.imm (by simp)|exact WkV.optr rfl|exact WkV.own rfl (by simp)|exact WkV.nil_own (.inl rfl)|exact WkV.map rfl|(refine WkV.free ?_;simp [Free,FreeL] <;> assumption)|(refine WkV.free (fun _ _=>FreeL_nth ?_ _);simp [Free,FreeL];done)|refine WkV.agg ?_|refine WkV.tup ?_|refine WkV.fn ?_ ?_|exact WkO.dead|exact WkO.raw|refine WkO.ghost ?_|exact WkO.mpE rfl trivial|refine WkO.box ?_ rfl|refine WkO.arr ?_|refine And.intro ?_ (And.intro (by first|exact fun h=>h|exact fun _=>rfl|exact nofun) ?_)|exact trivial|(intro i j hi hj)))
              · have e5 : decide ((i : Int) > 0) = true := decide_eq_true (by omega)
                rw [decide_eq_true (show 0 < i by omega), Bool.true_and] at hb3
                have hok4 := (sgB_iff.1 (hlk (i - 1) (by omega))).2.2.2
                have hf1 : fndR v (gS L (i - 1)).p (gS L i).p = (fdB v (gS L (i - 1)).p (gS L i).p,0) := if_pos ⟨hv.1,hok4,hok3⟩
                have c5 := vfinds_tc v (gS L (i - 1)).p (gS L i).p
                rw [hf1] at c5
                generalize hsB v (gS L i).p = b1 at *
                generalize fdB v (gS L (i - 1)).p (gS L i).p = b2 at *
                by_cases hir : i = r
                · have hbr2 := hfs.2.2.2 (by omega)
                  rw [← hir, hb3] at hbr2
                  have e6 : ((i : Int) == k) = true := by rw [← hk, if_pos (by omega)]; simp; omega
                  cases b1 with
                  | false =>
                    (simp only [go_sem,↓reduceIte,Nat.reduceAdd,Nat.reduceSub,Nat.reduceMul,Nat.reduceLT,Nat.reduceLeDiff,Nat.reduceEqDiff,Nat.reduceGT,Int.reduceToNat,Int.reduceBEq,Int.reduceBNe];try simp (disch := omega) only [wrapI,wrapU,half_sum,toNat_sub1,toNat_add1,Int.toNat_natCast])
                    (have dl1 := c3;have dl2 := c4;have dl3 := c5;have sx1 := e5;have sx2 := e6;repeat' (first|with_reducible refine T_seq_drawT (id := 36) Γ_ok drawsAny pl3_36 (by kernel_rfl) (fun K hK=>?_)|with_reducible refine T_last_drawT (id := 36) Γ_ok drawsAny pl3_36 (by kernel_rfl) (fun K hK=>?_)|((have sx3 : (0 : Nat) + 0 = 0 := rfl;have sx4 : (0 : Nat) + 0 = 0 := rfl;have sx5 : (0 : Nat) + 0 = 0 := rfl;have sx6 : (0 : Nat) + 0 = 0 := rfl;refine goR6 _ _ _ _ _ _ _ _ ?_ ?_ ?_ ?_ ?_ ?_ ?_ ?_) <;> (repeat intro hb) <;> first|exact True.intro|refine Lf.mk ?_)))
                  | true =>
                    obtain rfl : b2 = false := by simpa using hbr2
                    (simp only [go_sem,↓reduceIte,Nat.reduceAdd,Nat.reduceSub,Nat.reduceMul,Nat.reduceLT,Nat.reduceLeDiff,Nat.reduceEqDiff,Nat.reduceGT,Int.reduceToNat,Int.reduceBEq,Int.reduceBNe];try simp (disch := omega) only [wrapI,wrapU,half_sum,toNat_sub1,toNat_add1,Int.toNat_natCast])
                    (have dl1 := c3;have dl2 := c4;have dl3 := c5;have sx1 := e5;have sx2 := e6;repeat' (first|with_reducible refine T_seq_drawT (id := 36) Γ_ok drawsAny pl3_36 (by kernel_rfl) (fun K hK=>?_)|with_reducible refine T_last_drawT (id := 36) Γ_ok drawsAny pl3_36 (by kernel_rfl) (fun K hK=>?_)|((have sx3 : (0 : Nat) + 0 = 0 := rfl;have sx4 : (0 : Nat) + 0 = 0 := rfl;have sx5 : (0 : Nat) + 0 = 0 := rfl;have sx6 : (0 : Nat) + 0 = 0 := rfl;refine goR6 _ _ _ _ _ _ _ _ ?_ ?_ ?_ ?_ ?_ ?_ ?_ ?_) <;> (repeat intro hb) <;> first|exact True.intro|refine Lf.mk ?_)))
                · have hbr2 := hfs.2.2.1 i (by omega) (by omega)
                  rw [hb3] at hbr2
                  have e6 : ((i : Int) == k) = false := by rw [← hk]; split <;> simp <;> omega
                  simp only [Bool.or_eq_false_iff, Bool.not_eq_false'] at hbr2
                  obtain ⟨rfl, rfl⟩ := hbr2
                  (simp only [go_sem,↓reduceIte,Nat.reduceAdd,Nat.reduceSub,Nat.reduceMul,Nat.reduceLT,Nat.reduceLeDiff,Nat.reduceEqDiff,Nat.reduceGT,Int.reduceToNat,Int.reduceBEq,Int.reduceBNe];try simp (disch := omega) only [wrapI,wrapU,half_sum,toNat_sub1,toNat_add1,Int.toNat_natCast])
                  (have dl1 := c3;have dl2 := c4;have dl3 := c5;have sx1 := e5;have sx2 := e6;repeat' (first|with_reducible refine T_seq_drawT (id := 36) Γ_ok drawsAny pl3_36 (by kernel_rfl) (fun K hK=>?_)|with_reducible refine T_last_drawT (id := 36) Γ_ok drawsAny pl3_36 (by kernel_rfl) (fun K hK=>?_)|((have sx3 : (0 : Nat) + 0 = 0 := rfl;have sx4 : (0 : Nat) + 0 = 0 := rfl;have sx5 : (0 : Nat) + 0 = 0 := rfl;have sx6 : (0 : Nat) + 0 = 0 := rfl;refine goR6 _ _ _ _ _ _ _ _ ?_ ?_ ?_ ?_ ?_ ?_ ?_ ?_) <;> (repeat intro hb) <;> first|exact True.intro|refine Lf.mk ?_)))
                  refine ⟨ls.length - (i + 1), by omega, _, ?_, i + 1, by omega, by omega, by omega, rfl⟩
                  ((try simp only [List.length_append,List.length_cons,List.length_nil,Nat.zero_add]);refine Wk.intro [0,1] (by decide) (by decide) (by intro o ho;simp at ho ⊢ <;> omega) ?_ ?_ <;> repeat' (first|exact WkVL.nil|refine WkVL.cons ?_ ?_|exact WkV.top|exact WkV.imm rfl|exact WkV.imm (by simp)|exact WkV.optr rfl|exact WkV.own rfl (by simp)|exact WkV.nil_own (.inl rfl)|exact WkV.map rfl|(refine WkV.free ?_;simp [Free,FreeL] <;> assumption)|(refine WkV.free (fun _ _=>FreeL_nth ?_ _);simp [Free,FreeL];done)|refine WkV.agg ?_|refine WkV.tup ?_|refine WkV.fn ?_ ?_|exact WkO.dead|exact WkO.raw|refine WkO.ghost ?_|exact WkO.mpE rfl trivial|refine WkO.box ?_ rfl|refine WkO.arr ?_|refine And.intro ?_ (And.intro (by first|exact fun h=>h|exact fun _=>rfl|exact nofun) ?_)|exact trivial|(intro i j hi hj)))
            · have hrn : r = ls.length := by omega
              have e6 : (k == -1) = true := by rw [← hk, if_neg (by omega)]; rfl
              (simp only [go_sem,↓reduceIte,Nat.reduceAdd,Nat.reduceSub,Nat.reduceMul,Nat.reduceLT,Nat.reduceLeDiff,Nat.reduceEqDiff,Nat.reduceGT,Int.reduceToNat,Int.reduceBEq,Int.reduceBNe];try simp (disch := omega) only [wrapI,wrapU,half_sum,toNat_sub1,toNat_add1,Int.toNat_natCast])
              (have sx1 := e6;have sx2 : (0 : Nat) + 0 = 0 := rfl;((have sx3 : (0 : Nat) + 0 = 0 := rfl;have sx4 : (0 : Nat) + 0 = 0 := rfl;have sx5 : (0 : Nat) + 0 = 0 := rfl;have sx6 : (0 : Nat) + 0 = 0 := rfl;refine goR6 _ _ _ _ _ _ _ _ ?_ ?_ ?_ ?_ ?_ ?_ ?_ ?_) <;> (repeat intro hb) <;> first|exact True.intro|refine Lf.mk ?_))
      · obtain ⟨e22, k, hk, hx⟩ := too_long he
        rw [e22] at c1
        rw [lgK_yes hk hx]
        (simp only [go_sem,↓reduceIte,Nat.reduceAdd,Nat.reduceSub,Nat.reduceMul,Nat.reduceLT,Nat.reduceLeDiff,Nat.reduceEqDiff,Nat.reduceGT,Int.reduceToNat,Int.reduceBEq,Int.reduceBNe];try simp (disch := omega) only [wrapI,wrapU,half_sum,toNat_sub1,toNat_add1,Int.toNat_natCast])
        (have cm1 := c1;((refine goR0 _ _ _ _ _ _ _ _ ?_ ?_ ?_ ?_ ?_ ?_ ?_ ?_) <;> (repeat intro hb) <;> first | exact True.intro | refine Lf.mk ?_))
    · have c1 : Look Tryz.prog 6 [vcA v,its ls,.view ls.length 1 (myE ls.length)] _ := (breaths_no v ls h.1 hv).conv fun w xs hx => by
        match xs, hx with
        | [x, y, z], hx => simp only [RvL, and_true] at hx ⊢; exact ⟨hx.1, hx.2.1, Rv_view_ext hv1 hx.2.2⟩
      (simp only [go_sem,↓reduceIte,Nat.reduceAdd,Nat.reduceSub,Nat.reduceMul,Nat.reduceLT,Nat.reduceLeDiff,Nat.reduceEqDiff,Nat.reduceGT,Int.reduceToNat,Int.reduceBEq,Int.reduceBNe];try simp (disch := omega) only [wrapI,wrapU,half_sum,toNat_sub1,toNat_add1,Int.toNat_natCast])
      (have cl1 := c1;((have sx1 : (0 : Nat) + 0 = 0 := rfl;refine goB1 _ _ _ _ _ _ _ _ ?_ ?_ ?_ ?_ ?_ ?_ ?_ ?_) <;> (repeat intro hb) <;> first | exact True.intro | refine Lf.mk ?_))
end Go.Proofs.YtonmienclploaaaGreatDoor
