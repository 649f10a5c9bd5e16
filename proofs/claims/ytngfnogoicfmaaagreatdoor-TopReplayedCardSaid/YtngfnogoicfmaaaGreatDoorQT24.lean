/-
  The law TopReplayed.
-/
import Derived.Test.YtngfnogoicfmaaaGreatDoorQGo
import Derived.Test.YtngfnogoicfmaaaGreatDoorQGo2
import Derived.Test.YtngfnogoicfmaaaGreatDoorQVA
set_option linter.unusedSimpArgs false
set_option linter.unusedVariables false
namespace Go.Proofs.YtngfnogoicfmaaaGreatDoor
open Go.Ab
theorem tmod_nat (a n : Nat) : Int.tmod (a : Int) ((n : Int) + 1) = ((a % (n + 1) : Nat) : Int) := by
  rw [show ((n : Int) + 1) = ((n + 1 : Nat) : Int) by omega]; exact (Int.ofNat_tmod a (n + 1)).symm
set_option maxRecDepth 100000 in
set_option maxHeartbeats 8000000 in
theorem law_replayed (l : List Nm) (ts : List Tk) (sy : Nat) (keep : Int) (hs : sy < 256) : Look Tryz.prog 3 [nmV l,tks ts,.imm (.int .u8 (sy : Int)),.imm (.int .i64 keep)] (.imm (.bool true)) := by
  refine Look.mk trivial ?_
  have hw := walk_tc l ts
  by_cases he : (wkR l ts).2 = 0
  · have hin := wk_in he
    rw [hin.eq] at hw
    by_cases hk : keep < 0
    · have e1 : decide (keep < 0) = true := decide_eq_true hk
      (refine TC_of_T Γ_ok Tryz.func3 rfl (by kernel_rfl) ?_;simp only [Tryz.ntmps3,Tryz.results3,List.length_cons,List.length_nil,Nat.reduceSub,Nat.reduceAdd,List.replicate,List.cons_append,List.nil_append])
      (have cl1 := head_tc;have cm1 := hw;have sx1 := e1;((refine goB1 _ _ _ _ _ _ _ _ ?_ ?_ ?_ ?_ ?_ ?_ ?_ ?_) <;> (repeat intro hb) <;> first | exact True.intro | refine Lf.mk ?_))
    · have e1 : decide (keep < 0) = false := decide_eq_false hk
      have hrv := rvalid_c hin.cv
      cases hr : rvB l with
      | false =>
        rw [hr] at hrv
        (refine TC_of_T Γ_ok Tryz.func3 rfl (by kernel_rfl) ?_;simp only [Tryz.ntmps3,Tryz.results3,List.length_cons,List.length_nil,Nat.reduceSub,Nat.reduceAdd,List.replicate,List.cons_append,List.nil_append])
        (have cl1 := head_tc;have cm1 := hw;have dl1 := hrv;have sx1 := e1;have sx2 : (0 : Nat) + 0 = 0 := rfl;((have sx3 : (0 : Nat) + 0 = 0 := rfl;have sx4 : (0 : Nat) + 0 = 0 := rfl;have sx5 : (0 : Nat) + 0 = 0 := rfl;have sx6 : (0 : Nat) + 0 = 0 := rfl;have sx7 : (0 : Nat) + 0 = 0 := rfl;have sx8 : (0 : Nat) + 0 = 0 := rfl;have sx9 : (0 : Nat) + 0 = 0 := rfl;refine goR9 _ _ _ _ _ _ _ _ ?_ ?_ ?_ ?_ ?_ ?_ ?_ ?_) <;> (repeat intro hb) <;> first|exact True.intro|refine Lf.mk ?_))
      | true =>
        rw [hr] at hrv
        have htm := tmod_nat sy ts.length
        have hkn : sy % (ts.length + 1) ≤ ts.length := by have := Nat.mod_lt sy (show 0 < ts.length + 1 by omega); omega
        generalize sy % (ts.length + 1) = k at htm hkn
        obtain ⟨keep, rfl⟩ : ∃ q : Nat, keep = q := ⟨keep.toNat, by omega⟩
        have hlog := log_tc ts k keep hin.toWkOk.seq hkn
        have hmn := keepN_le (keep := keep) hkn
        generalize keepN ts.length k keep = m at *
        have hlen := hin.len
        have hl2 : (ts.take m).length = m := by simp; omega
        have hin2 := hin.take m
        have hac2 := hin2.ac
        have hal : (acL l (ts.take m)).length = l.length := WkOk.acc_len l _
        have hl6 := (cvB_ok hin.cv).l6
        have hsame := sameT_tc (ts.take m) (ts.take m) (by omega) (by omega)
        have hacc := daccount_tc l (ts.take m) hin2.toWkOk
        have hdis := distance_tc l (ts.take m) m hin2 (by omega)
        have hchk := check_tc l (ts.take m) hin2
        have hcnt := counts_tc l _ (acL l (ts.take m)) hac2
        have hint := ints_tc (acL l (ts.take m)) (acL l (ts.take m)) (by omega) (by omega)
        rw [decide_eq_true rfl] at hsame hint
        unfold tks at hsame hacc hdis hchk
        unfold its at hint
        simp only [hl2, hal, shfK_take l ts m m (Nat.le_refl _)] at hsame hacc hdis hchk hcnt hint
        have hv1 : ∀ i j,i < m → j < 4 → tkE ts i j = tkE (ts.take m) i j := fun i j hi _ => by unfold tkE;rw [gt_take hi]
        have hSl := shfs_len l ts ts.length
        have hSm := shfs_at l ts hmn.2
        simp only [hSl] at hw
        generalize shfs l ts ts.length = S at hw hSm hSl
        generalize shfK l ts m = w at hdis hchk hcnt hSm hac2
        obtain ⟨w1, w2, w3, w4, w5, w6⟩ := w
        generalize hA : acL l (ts.take m) = A at *
        generalize hLd : ts.take m = L at *
        have d1 : decide ((m : Int) < k) = false := decide_eq_false (by omega)
        have d2 : decide ((m : Int) > ts.length) = false := decide_eq_false (by omega)
        have d4 : ∀ x : Int, (x == x) = true := fun x => by simp
        have d3 : (((ts.length + 1 : Nat) : Int) != (ts.length : Int) + 1) = false := by simp
        (refine TC_of_T Γ_ok Tryz.func3 rfl (by kernel_rfl) ?_;simp only [Tryz.ntmps3,Tryz.results3,List.length_cons,List.length_nil,Nat.reduceSub,Nat.reduceAdd,List.replicate,List.cons_append,List.nil_append])
        (have cl1 := head_tc;have dm1 := hw;have dl1 := hrv;have dm2 := hlog;have dl2 := hsame;have dm3 := hacc;have dl3 := hdis;have dl4 := hchk;have dm4 := hcnt;have dl5 := hint;have sx1 := e1;have sx2 := htm;have sx3 := d1;have sx4 := d2;have sx5 := d3;have sx6 := hSm;have sx7 := d4;have sx8 : (0 : Nat) + 0 = 0 := rfl;have sx9 : (0 : Nat) + 0 = 0 := rfl;repeat' (first|with_reducible refine T_seq_drawT (id := 14) Γ_ok drawsAny pl3_14 (by kernel_rfl) (fun K hK=>?_)|with_reducible refine T_last_drawT (id := 14) Γ_ok drawsAny pl3_14 (by kernel_rfl) (fun K hK=>?_)|with_reducible refine T_seq_drawT (id := 25) Γ_ok drawsAny pl3_25 (by kernel_rfl) (fun K hK=>?_)|with_reducible refine T_last_drawT (id := 25) Γ_ok drawsAny pl3_25 (by kernel_rfl) (fun K hK=>?_)|with_reducible refine T_seq_drawT (id := 29) Γ_ok drawsAny pl3_29 (by kernel_rfl) (fun K hK=>?_)|with_reducible refine T_last_drawT (id := 29) Γ_ok drawsAny pl3_29 (by kernel_rfl) (fun K hK=>?_)|((refine goR9 _ _ _ _ _ _ _ _ ?_ ?_ ?_ ?_ ?_ ?_ ?_ ?_) <;> (repeat intro hb) <;> first|exact True.intro|refine Lf.mk ?_)))
        have hz : ∀ i j, j < 1 → nth [AV.imm (.int .i64 0)] j = suE l L 0 0 i j := fun i j hj => by
          obtain rfl : j = 0 := by omega
          rfl
        refine T_loopW (fun m2 st=>∃ d : Nat,d ≤ 8 ∧ m2 + d = 8 ∧ st = ⟨[nmV l,tks ts] ++ List.replicate 7 .top ++ [.imm (.bool true),.top,.top,.top,.own 0 0 m none,.top,.imm (.int .i64 m),.own 1 0 l.length none] ++ List.replicate 7 .top ++ [.own 2 0 l.length (some l.length)] ++ List.replicate 147 .top ++ [.imm (.int .i64 d)] ++ List.replicate 96 .top,
            [.arr 47 4 m (tkE L), .arr 3 1 l.length (itE A), .arr 3 1 l.length (suE l L d 0)]⟩)
          8 ⟨_, ?_, 0, by omega, rfl, rfl⟩ ?_
        · ((try simp only [List.length_append,List.length_cons,List.length_nil,Nat.zero_add]);refine Wk.intro [1,2,5] (by decide) (by decide) (by intro o ho;simp at ho ⊢ <;> omega) ?_ ?_ <;> repeat' (first|(exact WkV.eqF (hz _ _ hj) trivial)|exact WkVL.nil|refine WkVL.cons ?_ ?_|exact WkV.top|exact WkV.imm rfl|exact WkV.imm (by simp)|exact WkV.optr rfl|exact WkV.own rfl (by simp)|exact WkV.nil_own (.inl rfl)|exact WkV.map rfl|(refine WkV.free ?_;simp [Free,FreeL] <;> assumption)|(refine WkV.free (fun _ _=>FreeL_nth ?_ _);simp [Free,FreeL];done)|refine WkV.agg ?_|refine WkV.tup ?_|refine WkV.fn ?_ ?_|exact WkO.dead|exact WkO.raw|refine WkO.ghost ?_|exact WkO.mpE rfl trivial|refine WkO.box ?_ rfl|refine WkO.arr ?_|refine And.intro ?_ (And.intro (by first|exact fun h=>h|exact fun _=>rfl|exact nofun) ?_)|exact trivial|(intro i j hi hj)))
        rintro m2 st ⟨d, g0, g1, rfl⟩
        (simp only [go_sem,↓reduceIte,Nat.reduceAdd,Nat.reduceSub,Nat.reduceMul,Nat.reduceLT,Nat.reduceLeDiff,Nat.reduceEqDiff,Nat.reduceGT,Int.reduceToNat,Int.reduceBEq,Int.reduceBNe];try simp (disch := omega) only [wrapI,wrapU,half_sum,toNat_sub1,toNat_add1,Int.toNat_natCast])
        by_cases hd : d < 8
        · have hby := by_tc l L (d : Int) hin2.toWkOk (by omega)
          unfold tks at hby
          rw [hl2] at hby
          have d5 : ((l.length : Int) != l.length) = false := by simp
          (have cm1 := hby;have sx1 := d5;have sx2 : (0 : Nat) + 0 = 0 := rfl;((have sx3 : (0 : Nat) + 0 = 0 := rfl;have sx4 : (0 : Nat) + 0 = 0 := rfl;have sx5 : (0 : Nat) + 0 = 0 := rfl;have sx6 : (0 : Nat) + 0 = 0 := rfl;have sx7 : (0 : Nat) + 0 = 0 := rfl;have sx8 : (0 : Nat) + 0 = 0 := rfl;have sx9 : (0 : Nat) + 0 = 0 := rfl;refine goR9 _ _ _ _ _ _ _ _ ?_ ?_ ?_ ?_ ?_ ?_ ?_ ?_) <;> (repeat intro hb) <;> first|exact True.intro|refine Lf.mk ?_))
          refine T_loopW (fun m2 st=>∃ c : Nat,c ≤ l.length ∧ m2 + c = l.length ∧ st = ⟨[nmV l,tks ts] ++ List.replicate 7 .top ++ [.imm (.bool true),.top,.top,.top,.own 0 0 m none,.top,.imm (.int .i64 m),.own 1 0 l.length none] ++ List.replicate 7 .top ++ [.own 2 0 l.length (some l.length),.top,.own 3 0 l.length none] ++ List.replicate 145 .top ++ [.imm (.int .i64 d)] ++ List.replicate 19 .top ++ [.imm (.int .i64 l.length),.imm (.int .i64 c)] ++ List.replicate 75 .top,
              [.arr 47 4 m (tkE L),.arr 3 1 l.length (itE A),.arr 3 1 l.length (suE l L d c),.arr 3 1 l.length (itE (acL l (filD (d : Int) L)))]⟩)
            l.length ⟨_, ?_, 0, by omega, rfl, rfl⟩ ?_
          · ((try simp only [List.length_append,List.length_cons,List.length_nil,Nat.zero_add]);refine Wk.intro [0,1,2,3] (by decide) (by decide) (by intro o ho;simp at ho ⊢ <;> omega) ?_ ?_ <;> repeat' (first|exact WkVL.nil|refine WkVL.cons ?_ ?_|exact WkV.top|exact WkV.imm rfl|exact WkV.imm (by simp)|exact WkV.optr rfl|exact WkV.own rfl (by simp)|exact WkV.nil_own (.inl rfl)|exact WkV.map rfl|(refine WkV.free ?_;simp [Free,FreeL] <;> assumption)|(refine WkV.free (fun _ _=>FreeL_nth ?_ _);simp [Free,FreeL];done)|refine WkV.agg ?_|refine WkV.tup ?_|refine WkV.fn ?_ ?_|exact WkO.dead|exact WkO.raw|refine WkO.ghost ?_|exact WkO.mpE rfl trivial|refine WkO.box ?_ rfl|refine WkO.arr ?_|refine And.intro ?_ (And.intro (by first|exact fun h=>h|exact fun _=>rfl|exact nofun) ?_)|exact trivial|(intro i j hi hj)))
          rintro m2 st ⟨c, f0, f1, rfl⟩
          have hb1 := suK_bd hin2.toWkOk c d
          have hb2 := acF_bd hin2.toWkOk (d : Int) c
          have hsu : ∀ j, suE l L d c c j = .imm (.int .i64 (suK l L d c)) := fun j => by rw [suE_eq, if_neg (by omega)]
          have hup := fun i j => suE_upd l L d c i j
          have hnx := fun i j => suE_next l L d l.length i j
          (simp only [go_sem,↓reduceIte,Nat.reduceAdd,Nat.reduceSub,Nat.reduceMul,Nat.reduceLT,Nat.reduceLeDiff,Nat.reduceEqDiff,Nat.reduceGT,Int.reduceToNat,Int.reduceBEq,Int.reduceBNe];try simp (disch := omega) only [wrapI,wrapU,half_sum,toNat_sub1,toNat_add1,Int.toNat_natCast])
          by_cases hc : c < l.length
          · generalize acL l (filD (d : Int) L) = B at hb2 hup
            generalize hsk : suK l L d c = sk at hb1 hsu hup
            (have sx1 := hsu;have sx2 : (0 : Nat) + 0 = 0 := rfl;repeat' (first|with_reducible refine T_seq_drawT (id := 14) Γ_ok drawsAny pl3_14 (by kernel_rfl) (fun K hK=>?_)|with_reducible refine T_last_drawT (id := 14) Γ_ok drawsAny pl3_14 (by kernel_rfl) (fun K hK=>?_)|with_reducible refine T_seq_drawT (id := 25) Γ_ok drawsAny pl3_25 (by kernel_rfl) (fun K hK=>?_)|with_reducible refine T_last_drawT (id := 25) Γ_ok drawsAny pl3_25 (by kernel_rfl) (fun K hK=>?_)|with_reducible refine T_seq_drawT (id := 29) Γ_ok drawsAny pl3_29 (by kernel_rfl) (fun K hK=>?_)|with_reducible refine T_last_drawT (id := 29) Γ_ok drawsAny pl3_29 (by kernel_rfl) (fun K hK=>?_)|((have sx3 : (0 : Nat) + 0 = 0 := rfl;have sx4 : (0 : Nat) + 0 = 0 := rfl;have sx5 : (0 : Nat) + 0 = 0 := rfl;have sx6 : (0 : Nat) + 0 = 0 := rfl;have sx7 : (0 : Nat) + 0 = 0 := rfl;have sx8 : (0 : Nat) + 0 = 0 := rfl;have sx9 : (0 : Nat) + 0 = 0 := rfl;refine goR9 _ _ _ _ _ _ _ _ ?_ ?_ ?_ ?_ ?_ ?_ ?_ ?_) <;> (repeat intro hb) <;> first|exact True.intro|refine Lf.mk ?_)))
            refine ⟨l.length - (c + 1), by omega, _, ?_, c + 1, by omega, by omega, rfl⟩
            ((try simp only [List.length_append,List.length_cons,List.length_nil,Nat.zero_add]);refine Wk.intro [0,1,2,3] (by decide) (by decide) (by intro o ho;simp at ho ⊢ <;> omega) ?_ ?_ <;> repeat' (first|(exact WkV.eqF (hup _ _ hj) trivial)|exact WkVL.nil|refine WkVL.cons ?_ ?_|exact WkV.top|exact WkV.imm rfl|exact WkV.imm (by simp)|exact WkV.optr rfl|exact WkV.own rfl (by simp)|exact WkV.nil_own (.inl rfl)|exact WkV.map rfl|(refine WkV.free ?_;simp [Free,FreeL] <;> assumption)|(refine WkV.free (fun _ _=>FreeL_nth ?_ _);simp [Free,FreeL];done)|refine WkV.agg ?_|refine WkV.tup ?_|refine WkV.fn ?_ ?_|exact WkO.dead|exact WkO.raw|refine WkO.ghost ?_|exact WkO.mpE rfl trivial|refine WkO.box ?_ rfl|refine WkO.arr ?_|refine And.intro ?_ (And.intro (by first|exact fun h=>h|exact fun _=>rfl|exact nofun) ?_)|exact trivial|(intro i j hi hj)))
          · obtain rfl : c = l.length := by omega
            (((refine goR0 _ _ _ _ _ _ _ _ ?_ ?_ ?_ ?_ ?_ ?_ ?_ ?_) <;> (repeat intro hb) <;> first | exact True.intro | refine Lf.mk ?_))
            refine ⟨8 - (d + 1), by omega, _, ?_, d + 1, by omega, by omega, rfl⟩
            ((try simp only [List.length_append,List.length_cons,List.length_nil,Nat.zero_add]);refine Wk.intro [0,1,2] (by decide) (by decide) (by intro o ho;simp at ho ⊢ <;> omega) ?_ ?_ <;> repeat' (first|(exact WkV.eqF (hnx _ _ hi) trivial)|exact WkVL.nil|refine WkVL.cons ?_ ?_|exact WkV.top|exact WkV.imm rfl|exact WkV.imm (by simp)|exact WkV.optr rfl|exact WkV.own rfl (by simp)|exact WkV.nil_own (.inl rfl)|exact WkV.map rfl|(refine WkV.free ?_;simp [Free,FreeL] <;> assumption)|(refine WkV.free (fun _ _=>FreeL_nth ?_ _);simp [Free,FreeL];done)|refine WkV.agg ?_|refine WkV.tup ?_|refine WkV.fn ?_ ?_|exact WkO.dead|exact WkO.raw|refine WkO.ghost ?_|exact WkO.mpE rfl trivial|refine WkO.box ?_ rfl|refine WkO.arr ?_|refine And.intro ?_ (And.intro (by first|exact fun h=>h|exact fun _=>rfl|exact nofun) ?_)|exact trivial|(intro i j hi hj)))
        · obtain rfl : d = 8 := by omega
          have hmt : m + (ts.length - m) = ts.length := by omega
          have hce : ∀ i j,i < ts.length → j < 4 → catE m (fun i j => catE 0 (fun _ _ => AV.top) (fun i j => tkE L i j) i j) (fun i j => tkE ts (m + i) j) i j = tkE ts i j := fun i j hi hj => by
            unfold catE
            by_cases h : i < m
            · rw [if_pos h]
              show (if i < 0 then AV.top else tkE L (i - 0) j) = _
              rw [if_neg (by omega), Nat.sub_zero]
              exact (hv1 i j h hj).symm
            · rw [if_neg h]
              show tkE ts (m + (i - m)) j = _
              rw [show m + (i - m) = i by omega]
          have hse : ∀ i j, i < l.length → suE l L 8 0 i j = itE A i j := fun i j hi => by
            rw [suE_eq, if_neg (by omega), suK_end hin2.toWkOk hi, hA, itE_eq]
          (repeat' (first|with_reducible refine T_seq_drawT (id := 14) Γ_ok drawsAny pl3_14 (by kernel_rfl) (fun K hK=>?_)|with_reducible refine T_last_drawT (id := 14) Γ_ok drawsAny pl3_14 (by kernel_rfl) (fun K hK=>?_)|with_reducible refine T_seq_drawT (id := 25) Γ_ok drawsAny pl3_25 (by kernel_rfl) (fun K hK=>?_)|with_reducible refine T_last_drawT (id := 25) Γ_ok drawsAny pl3_25 (by kernel_rfl) (fun K hK=>?_)|with_reducible refine T_seq_drawT (id := 29) Γ_ok drawsAny pl3_29 (by kernel_rfl) (fun K hK=>?_)|with_reducible refine T_last_drawT (id := 29) Γ_ok drawsAny pl3_29 (by kernel_rfl) (fun K hK=>?_)|((refine goR0 _ _ _ _ _ _ _ _ ?_ ?_ ?_ ?_ ?_ ?_ ?_ ?_) <;> (repeat intro hb) <;> first|exact True.intro|refine Lf.mk ?_)))
          rw [hmt]
          refine T_loopW (fun m2 st=>∃ i : Nat,i ≤ ts.length ∧ m2 + i = ts.length ∧ st = ⟨[nmV l,tks ts] ++ List.replicate 7 .top ++ [.imm (.bool true)] ++ List.replicate 6 .top ++ [.own 0 0 l.length none] ++ List.replicate 7 .top ++ [.own 1 0 l.length (some l.length)] ++ List.replicate 4 .top ++ [.own 3 0 i none] ++ List.replicate 184 .top ++ [.own 2 0 ts.length none,.imm (.int .i64 ts.length),.imm (.int .i64 i)] ++ List.replicate 52 .top,
              [.arr 3 1 l.length (itE A),.arr 3 1 l.length (itE A),.arr 47 4 ts.length (tkE ts),.arr 49 7 i (rcE (tkRs (ts.take i)))]⟩)
            ts.length ⟨_, Wk.trans (Wk.push 49 7 (rcE (tkRs []))) ?_, 0, by omega, rfl, rfl⟩ ?_
          · ((try simp only [List.length_append,List.length_cons,List.length_nil,Nat.zero_add]);refine Wk.intro [1,2,4,5] (by decide) (by decide) (by intro o ho;simp at ho ⊢ <;> omega) ?_ ?_ <;> repeat' (first|first|(exact WkV.eqF (hse _ _ hi) trivial)|(exact WkV.eqF (hce _ _ hi hj) (by simp))|exact WkVL.nil|refine WkVL.cons ?_ ?_|exact WkV.top|exact WkV.imm rfl|exact WkV.imm (by simp)|exact WkV.optr rfl|exact WkV.own rfl (by simp)|exact WkV.nil_own (.inl rfl)|exact WkV.map rfl|(refine WkV.free ?_;simp [Free,FreeL] <;> assumption)|(refine WkV.free (fun _ _=>FreeL_nth ?_ _);simp [Free,FreeL];done)|refine WkV.agg ?_|refine WkV.tup ?_|refine WkV.fn ?_ ?_|exact WkO.dead|exact WkO.raw|refine WkO.ghost ?_|exact WkO.mpE rfl trivial|refine WkO.box ?_ rfl|refine WkO.arr ?_|refine And.intro ?_ (And.intro (by first|exact fun h=>h|exact fun _=>rfl|exact nofun) ?_)|exact trivial|(intro i j hi hj)))
          rintro m2 st ⟨i, g0, g1, rfl⟩
          (simp only [go_sem,↓reduceIte,Nat.reduceAdd,Nat.reduceSub,Nat.reduceMul,Nat.reduceLT,Nat.reduceLeDiff,Nat.reduceEqDiff,Nat.reduceGT,Int.reduceToNat,Int.reduceBEq,Int.reduceBNe];try simp (disch := omega) only [wrapI,wrapU,half_sum,toNat_sub1,toNat_add1,Int.toNat_natCast])
          by_cases hi : i < ts.length
          · have hsn := fun p q => rc_snoc (tkRs (ts.take i)) (tkR (gt ts i)) (i := p) (j := q)
            have htl : (tkRs (ts.take i)).length = i := by rw [tkRs_len]; simp; omega
            have htk : tkRs (ts.take i) ++ [tkR (gt ts i)] = tkRs (ts.take (i + 1)) := by rw [take_gt hi]; simp [tkRs]
            rw [htk, htl] at hsn
            (repeat' (first|with_reducible refine T_seq_drawT (id := 14) Γ_ok drawsAny pl3_14 (by kernel_rfl) (fun K hK=>?_)|with_reducible refine T_last_drawT (id := 14) Γ_ok drawsAny pl3_14 (by kernel_rfl) (fun K hK=>?_)|with_reducible refine T_seq_drawT (id := 25) Γ_ok drawsAny pl3_25 (by kernel_rfl) (fun K hK=>?_)|with_reducible refine T_last_drawT (id := 25) Γ_ok drawsAny pl3_25 (by kernel_rfl) (fun K hK=>?_)|with_reducible refine T_seq_drawT (id := 29) Γ_ok drawsAny pl3_29 (by kernel_rfl) (fun K hK=>?_)|with_reducible refine T_last_drawT (id := 29) Γ_ok drawsAny pl3_29 (by kernel_rfl) (fun K hK=>?_)|((refine goR0 _ _ _ _ _ _ _ _ ?_ ?_ ?_ ?_ ?_ ?_ ?_ ?_) <;> (repeat intro hb) <;> first|exact True.intro|refine Lf.mk ?_)))
            refine ⟨ts.length - (i + 1), by omega, _, ?_, i + 1, by omega, by omega, rfl⟩
            ((try simp only [List.length_append,List.length_cons,List.length_nil,Nat.zero_add]);refine Wk.intro [0,1,2,6] (by decide) (by decide) (by intro o ho;simp at ho ⊢ <;> omega) ?_ ?_ <;> repeat' (first|(exact WkV.eqF (hsn _ _ hi hj) (by simp))|exact WkVL.nil|refine WkVL.cons ?_ ?_|exact WkV.top|exact WkV.imm rfl|exact WkV.imm (by simp)|exact WkV.optr rfl|exact WkV.own rfl (by simp)|exact WkV.nil_own (.inl rfl)|exact WkV.map rfl|(refine WkV.free ?_;simp [Free,FreeL] <;> assumption)|(refine WkV.free (fun _ _=>FreeL_nth ?_ _);simp [Free,FreeL];done)|refine WkV.agg ?_|refine WkV.tup ?_|refine WkV.fn ?_ ?_|exact WkO.dead|exact WkO.raw|refine WkO.ghost ?_|exact WkO.mpE rfl trivial|refine WkO.box ?_ rfl|refine WkO.arr ?_|refine And.intro ?_ (And.intro (by first|exact fun h=>h|exact fun _=>rfl|exact nofun) ?_)|exact trivial|(intro i j hi hj)))
          · obtain rfl : i = ts.length := by omega
            have hfo := fold_tc (tkRs ts) (by rw [tkRs_len]; omega)
            unfold rcs at hfo
            rw [tkRs_len, fold_tk hin.toWkOk.seq] at hfo
            have hwh := daccount_tc l ts hin.toWkOk
            have hil := WkOk.acc_len l ts
            have hint2 := ints_tc (acL l ts) (acL l ts) (by omega) (by omega)
            rw [decide_eq_true rfl] at hint2
            unfold its at hint2
            rw [hil] at hint2
            rw [List.take_length]
            (have dm1 := hfo;have cm1 := hwh;have dl1 := hint;have dl2 := hint2;repeat' (first|with_reducible refine T_seq_drawT (id := 14) Γ_ok drawsAny pl3_14 (by kernel_rfl) (fun K hK=>?_)|with_reducible refine T_last_drawT (id := 14) Γ_ok drawsAny pl3_14 (by kernel_rfl) (fun K hK=>?_)|with_reducible refine T_seq_drawT (id := 25) Γ_ok drawsAny pl3_25 (by kernel_rfl) (fun K hK=>?_)|with_reducible refine T_last_drawT (id := 25) Γ_ok drawsAny pl3_25 (by kernel_rfl) (fun K hK=>?_)|with_reducible refine T_seq_drawT (id := 29) Γ_ok drawsAny pl3_29 (by kernel_rfl) (fun K hK=>?_)|with_reducible refine T_last_drawT (id := 29) Γ_ok drawsAny pl3_29 (by kernel_rfl) (fun K hK=>?_)|((refine goR0 _ _ _ _ _ _ _ _ ?_ ?_ ?_ ?_ ?_ ?_ ?_ ?_) <;> (repeat intro hb) <;> first|exact True.intro|refine Lf.mk ?_)))
            done
  · have e1 : ((wkR l ts).2 != 0) = true := by simpa using he
    (refine TC_of_T Γ_ok Tryz.func3 rfl (by kernel_rfl) ?_;simp only [Tryz.ntmps3,Tryz.results3,List.length_cons,List.length_nil,Nat.reduceSub,Nat.reduceAdd,List.replicate,List.cons_append,List.nil_append])
    (have cl1 := head_tc;have cm1 := hw;have sx1 := e1;((refine goB1 _ _ _ _ _ _ _ _ ?_ ?_ ?_ ?_ ?_ ?_ ?_ ?_) <;> (repeat intro hb) <;> first | exact True.intro | refine Lf.mk ?_))
end Go.Proofs.YtngfnogoicfmaaaGreatDoor
