/-
  Parts joined: T16 T17.
-/
import Derived.Test.YtngfnogoicfmaaaGreatDoorQGo3
import Derived.Test.YtngfnogoicfmaaaGreatDoorQV6
import Derived.Test.YtngfnogoicfmaaaGreatDoorQGo
set_option linter.unusedSimpArgs false
set_option linter.unusedVariables false
namespace Go.Proofs.YtngfnogoicfmaaaGreatDoor
open Go.Ab
set_option maxRecDepth 100000 in
set_option maxHeartbeats 4000000 in
theorem rinterval_tc (p : P6) : Look Tryz.prog 21 [p6A p] (.imm (.bool (decide (Bd6 48 p)))) := by
  refine Look.mk trivial ?_
  (refine TC_of_T Γ_ok Tryz.func21 rfl (by kernel_rfl) ?_;simp only [Tryz.ntmps21,Tryz.results21,List.length_cons,List.length_nil,Nat.reduceSub,Nat.reduceAdd,List.replicate,List.cons_append,List.nil_append])
  (have sx1 : (0 : Nat) + 0 = 0 := rfl;((refine goU1 _ _ _ _ _ _ _ _ _ _ _ _ ?_ ?_ ?_ ?_ ?_ ?_ ?_ ?_ ?_ ?_ ?_ ?_) <;> (repeat intro hb) <;> first | exact True.intro | refine Lf.mk ?_))
  refine T_rounds 7 ?_
  (have sx1 : (0 : Nat) + 0 = 0 := rfl;((refine goU1 _ _ _ _ _ _ _ _ _ _ _ _ ?_ ?_ ?_ ?_ ?_ ?_ ?_ ?_ ?_ ?_ ?_ ?_) <;> (repeat intro hb) <;> first | exact True.intro | refine Lf.mk ?_))
  all_goals (refine congrArg (fun b => AV.imm (.bool b)) ?_; rw [Bool.eq_iff_iff, decide_eq_true_eq]; unfold Bd6; grind)
theorem maxneg (x : Int) : (if x < 0 - x then 0 - x else x) = absI x := by unfold absI; split <;> split <;> omega
set_option maxRecDepth 100000 in
set_option maxHeartbeats 4000000 in
theorem rmatValid_tc (l : List P6) (hl : l.length ≤ 8) (hbd : ∀ p ∈ l,Bd6 48 p) : Look Tryz.prog 43 [rowsV l] (.imm (.bool (volB l 1))) := by
  refine Look.mk trivial ?_
  (refine TC_of_T Γ_ok Tryz.func43 rfl (by kernel_rfl) ?_;simp only [Tryz.ntmps43,Tryz.results43,List.length_cons,List.length_nil,Nat.reduceSub,Nat.reduceAdd,List.replicate,List.cons_append,List.nil_append])
  (have sx1 : (0 : Nat) + 0 = 0 := rfl;((refine goU1 _ _ _ _ _ _ _ _ _ _ _ _ ?_ ?_ ?_ ?_ ?_ ?_ ?_ ?_ ?_ ?_ ?_ ?_) <;> (repeat intro hb) <;> first | exact True.intro | refine Lf.mk ?_))
  refine T_loopW (fun m st=>∃ (i : Nat) (v : Int),i ≤ l.length ∧ m + i = l.length ∧ volB l 1 = volB (l.drop i) v ∧ (1 ≤ v ∧ v ≤ 1000000000) ∧ st = ⟨[rowsV l,.top,.imm (.bool false),.imm (.int .i64 v),.imm (.int .i64 i)] ++ List.replicate 41 .top,[]⟩)
    l.length ⟨_, ?_, 0, 1, by omega, rfl, rfl, by omega, rfl⟩ ?_
  · ((try simp only [List.length_append,List.length_cons,List.length_nil,Nat.zero_add]);refine Wk.intro [] (by decide) (by decide) (by intro o ho;simp at ho ⊢ <;> omega) ?_ ?_ <;> repeat' (first|exact WkVL.nil|refine WkVL.cons ?_ ?_|exact WkV.top|exact WkV.imm rfl|exact WkV.imm (by simp)|exact WkV.optr rfl|exact WkV.own rfl (by simp)|exact WkV.nil_own (.inl rfl)|exact WkV.map rfl|(refine WkV.free ?_;simp [Free,FreeL] <;> assumption)|(refine WkV.free (fun _ _=>FreeL_nth ?_ _);simp [Free,FreeL];done)|refine WkV.agg ?_|refine WkV.tup ?_|refine WkV.fn ?_ ?_|exact WkO.dead|exact WkO.raw|refine WkO.ghost ?_|exact WkO.mpE rfl trivial|refine WkO.box ?_ rfl|refine WkO.arr ?_|refine And.intro ?_ (And.intro (by first|exact fun h=>h|exact fun _=>rfl|exact nofun) ?_)|exact trivial|(intro i j hi hj)))
  rintro m st ⟨i, v, h0, hm, hv, hv2, rfl⟩
  (simp only [go_sem,↓reduceIte,Nat.reduceAdd,Nat.reduceSub,Nat.reduceMul,Nat.reduceLT,Nat.reduceLeDiff,Nat.reduceEqDiff,Nat.reduceGT,Int.reduceToNat,Int.reduceBEq,Int.reduceBNe];try simp (disch := omega) only [wrapI,wrapU,half_sum,toNat_sub1,toNat_add1,Int.toNat_natCast])
  by_cases hi : i < l.length
  · have hg := hbd _ (gP_mem hi)
    have hs := P6.sum_bd hg
    rw [drop_gP hi, volB] at hv
    have hsum : (gP l i).sum = absI (gP l i).a + absI (gP l i).b + absI (gP l i).c + absI (gP l i).d + absI (gP l i).e + absI (gP l i).f := rfl
    obtain ⟨g1, g2, g3, g4, g5, g6⟩ := hg
    have k1 := absI_bd g1
    have k2 := absI_bd g2
    have k3 := absI_bd g3
    have k4 := absI_bd g4
    have k5 := absI_bd g5
    have k6 := absI_bd g6
    have hm2 : 1 ≤ max (gP l i).sum 1 ∧ max (gP l i).sum 1 ≤ 288 := by omega
    have hnl : v * 1 ≤ v * max (gP l i).sum 1 := Int.mul_le_mul_of_nonneg_left hm2.1 (by omega)
    have hnu : v * max (gP l i).sum 1 ≤ v * 288 := Int.mul_le_mul_of_nonneg_left hm2.2 (by omega)
    have hsx : 0 + absI (gP l i).a + absI (gP l i).b + absI (gP l i).c + absI (gP l i).d + absI (gP l i).e + absI (gP l i).f = (gP l i).sum := by omega
    clear hsum
    have hcase : (0 < (gP l i).sum ∧ max (gP l i).sum 1 = (gP l i).sum) ∨ ((gP l i).sum ≤ 0 ∧ max (gP l i).sum 1 = 1) := by omega
    have hvs : 0 < (gP l i).sum → v * max (gP l i).sum 1 = v * (gP l i).sum := fun h => by congr 1; omega
    have hw : 0 < (gP l i).sum → IntKind.i64.wrap (v * (gP l i).sum) = v * (gP l i).sum := fun h => by
      have := hvs h
      exact wrapI (by omega) (by omega)
    (have sx1 : (0 : Nat) + 0 = 0 := rfl;((refine goU1 _ _ _ _ _ _ _ _ _ _ _ _ ?_ ?_ ?_ ?_ ?_ ?_ ?_ ?_ ?_ ?_ ?_ ?_) <;> (repeat intro hb) <;> first | exact True.intro | refine Lf.mk ?_))
    refine T_rounds 7 ?_
    (have sx1 := (And.intro maxneg hsx);((refine goU1 _ _ _ _ _ _ _ _ _ _ _ _ ?_ ?_ ?_ ?_ ?_ ?_ ?_ ?_ ?_ ?_ ?_ ?_) <;> (repeat intro hb) <;> first | exact True.intro | refine Lf.mk ?_))
    · have h0 : 0 < (gP l i).sum := by assumption
      try rw [hw h0] at hb
      rw [hvs h0, if_pos (by omega)] at hv
      rw [hv]
    · have h0 : 0 < (gP l i).sum := by assumption
      try rw [hw h0] at hb
      rw [hvs h0, if_neg (by omega)] at hv
      refine ⟨l.length - (i + 1), by omega, _, ?_, i + 1, _, by omega, by omega, hv, by have := hvs h0; omega, rfl⟩
      try rw [hw h0]
      ((try simp only [List.length_append,List.length_cons,List.length_nil,Nat.zero_add]);refine Wk.intro [] (by decide) (by decide) (by intro o ho;simp at ho ⊢ <;> omega) ?_ ?_ <;> repeat' (first|exact WkVL.nil|refine WkVL.cons ?_ ?_|exact WkV.top|exact WkV.imm rfl|exact WkV.imm (by simp)|exact WkV.optr rfl|exact WkV.own rfl (by simp)|exact WkV.nil_own (.inl rfl)|exact WkV.map rfl|(refine WkV.free ?_;simp [Free,FreeL] <;> assumption)|(refine WkV.free (fun _ _=>FreeL_nth ?_ _);simp [Free,FreeL];done)|refine WkV.agg ?_|refine WkV.tup ?_|refine WkV.fn ?_ ?_|exact WkO.dead|exact WkO.raw|refine WkO.ghost ?_|exact WkO.mpE rfl trivial|refine WkO.box ?_ rfl|refine WkO.arr ?_|refine And.intro ?_ (And.intro (by first|exact fun h=>h|exact fun _=>rfl|exact nofun) ?_)|exact trivial|(intro i j hi hj)))
    · have h0 : (gP l i).sum ≤ 0 := by assumption
      rw [show max (gP l i).sum 1 = 1 by omega, Int.mul_one, if_neg (by omega)] at hv
      refine ⟨l.length - (i + 1), by omega, _, ?_, i + 1, _, by omega, by omega, hv, by omega, rfl⟩
      ((try simp only [List.length_append,List.length_cons,List.length_nil,Nat.zero_add]);refine Wk.intro [] (by decide) (by decide) (by intro o ho;simp at ho ⊢ <;> omega) ?_ ?_ <;> repeat' (first|exact WkVL.nil|refine WkVL.cons ?_ ?_|exact WkV.top|exact WkV.imm rfl|exact WkV.imm (by simp)|exact WkV.optr rfl|exact WkV.own rfl (by simp)|exact WkV.nil_own (.inl rfl)|exact WkV.map rfl|(refine WkV.free ?_;simp [Free,FreeL] <;> assumption)|(refine WkV.free (fun _ _=>FreeL_nth ?_ _);simp [Free,FreeL];done)|refine WkV.agg ?_|refine WkV.tup ?_|refine WkV.fn ?_ ?_|exact WkO.dead|exact WkO.raw|refine WkO.ghost ?_|exact WkO.mpE rfl trivial|refine WkO.box ?_ rfl|refine WkO.arr ?_|refine And.intro ?_ (And.intro (by first|exact fun h=>h|exact fun _=>rfl|exact nofun) ?_)|exact trivial|(intro i j hi hj)))
  · (have sx1 : (0 : Nat) + 0 = 0 := rfl;((refine goU1 _ _ _ _ _ _ _ _ _ _ _ _ ?_ ?_ ?_ ?_ ?_ ?_ ?_ ?_ ?_ ?_ ?_ ?_) <;> (repeat intro hb) <;> first | exact True.intro | refine Lf.mk ?_))
    have e : l.drop i = [] := List.drop_of_length_le (by omega)
    rw [e, volB] at hv
    rw [hv]
end Go.Proofs.YtngfnogoicfmaaaGreatDoor
namespace Go.Proofs.YtngfnogoicfmaaaGreatDoor
open Go.Ab
attribute [go_sem] or_true true_or
set_option maxRecDepth 100000 in
set_option maxHeartbeats 4000000 in
theorem rminor_tc (l : List P6) (hbd : ∀ p ∈ l,Bd6 48 p) : ∀ (is js : List Nat),(∀ i ∈ is,i < l.length) → (∀ j ∈ js,j < 6) → is.length ≤ 6 → js.length ≤ 6 →
    Look Tryz.prog 64 [rowsV l, nts is, nts js] (.imm (.int .i64 (det (rwL (rowsR l) is) js))) := by
  intro is
  induction is with
  | nil =>
    intro js _ _ _ _
    refine Look.mk trivial ?_
    (refine TC_of_T Γ_ok Tryz.func64 rfl (by kernel_rfl) ?_;simp only [Tryz.ntmps64,Tryz.results64,List.length_cons,List.length_nil,Nat.reduceSub,Nat.reduceAdd,List.replicate,List.cons_append,List.nil_append])
    (((refine goR0 _ _ _ _ _ _ _ _ ?_ ?_ ?_ ?_ ?_ ?_ ?_ ?_) <;> (repeat intro hb) <;> first | exact True.intro | refine Lf.mk ?_))
    rfl
  | cons i0 is ih =>
    intro js hi hj h6 j6
    have hgi : i0 < l.length := hi _ (by simp)
    have hi2 : ∀ i ∈ is, i < l.length := fun i h => hi i (by simp [h])
    have his : is.length ≤ 5 := by simpa using h6
    have hdr : rwL (rowsR l) (i0 :: is) = rwP (gP l i0) :: rwL (rowsR l) is := by unfold rwL;rw [List.map_cons,rowsR_at]
    have hF : ∀ cs : List Nat,cs.length ≤ 6 → -bdD 5 ≤ det (rwL (rowsR l) is) cs ∧ det (rwL (rowsR l) is) cs ≤ bdD 5 := fun cs hc => by
      have h := det_bd (rs := rwL (rowsR l) is) (fun q hq j => by
        obtain ⟨a, _, rfl⟩ := List.mem_map.1 hq
        rw [rowsR_at]
        exact rwP_bd (by decide) (gP_bd hbd a) j) hc
      have h2 : (rwL (rowsR l) is).length ≤ 5 := by unfold rwL; simp; omega
      have h3 := bdD_le h2
      omega
    have hx : ∀ j, -48 ≤ rwP (gP l i0) j ∧ rwP (gP l i0) j ≤ 48 := rwP_bd (by decide) (gP_bd hbd _)
    rw [hdr, det]
    have hpx0 : ∀ j,j < 6 → p6E l i0 (j * 1) = .imm (.int .i64 (rwP (gP l i0) j)) := fun j hj => by rw [Nat.mul_one,p6E_at l _ hj]
    have ih1 := fun js h1 h2 => ih js hi2 h1 (by omega) h2
    generalize hX : rwP (gP l i0) = X at *
    generalize det (rwL (rowsR l) is) = F at *
    have b5 : bdD 5 = 1981355655168 := by decide
    rw [b5] at hF
    have hlast : ∀ k s,(s = 1 ∨ s = -1) → -570630428688384 ≤ expS X F (js.take k) s (js.drop k) ∧ expS X F (js.take k) s (js.drop k) ≤ 570630428688384 := fun k s hs => by
      have hl : (js.take k).length + (js.drop k).length = js.length := by simp; omega
      rw [expS_iota]
      have := iota_bd6 (x := X) (F := fun q => F (js.take k ++ q)) (cs := js.drop k) (C := 1981355655168) (by decide) hx (by omega) fun q hq => hF _ (by rw [List.length_append];omega)
      rcases hs with rfl | rfl <;> omega
    have htot : -570630428688384 ≤ iota X F js ∧ iota X F js ≤ 570630428688384 := by
      have := iota_bd6 (x := X) (F := F) (cs := js) (C := 1981355655168) (by decide) hx j6 fun q hq => hF _ (by omega)
      omega
    have hg0 : gNt (i0 :: is) 0 = i0 := rfl
    have hel : (i0 :: is).length = is.length + 1 := rfl
    have hel2 : (i0 :: is).length - 1 = is.length := rfl
    have hv1 : ∀ p q,p < is.length → q < 1 → AV.imm (.int .i64 ((gNt (i0 :: is) (1 + p) : Nat) : Int)) = ntE is p q := fun p q _ _ => by unfold ntE gNt;rw [Nat.add_comm];rfl
    refine Look.mk trivial ?_
    generalize i0 :: is = I at *
    (refine TC_of_T Γ_ok Tryz.func64 rfl (by kernel_rfl) ?_;simp only [Tryz.ntmps64,Tryz.results64,List.length_cons,List.length_nil,Nat.reduceSub,Nat.reduceAdd,List.replicate,List.cons_append,List.nil_append])
    (((refine goR0 _ _ _ _ _ _ _ _ ?_ ?_ ?_ ?_ ?_ ?_ ?_ ?_) <;> (repeat intro hb) <;> first | exact True.intro | refine Lf.mk ?_))
    refine T_loopW (fun m st => ∃ (k : Nat) (S s : Int),k ≤ js.length ∧ m + k = js.length ∧ (s = 1 ∨ s = -1) ∧ S + expS X F (js.take k) s (js.drop k) = iota X F js ∧
        st = ⟨[rowsV l,nts I,nts js,.top,.top,.top,.imm (.int .i64 0),.imm (.int .i64 S),.imm (.int .i64 s),.imm (.int .i64 k)] ++ List.replicate 48 .top,[]⟩)
      js.length ⟨_, ?_, 0, 0, 1, by omega, rfl, .inl rfl, ?_, rfl⟩ ?_
    · ((try simp only [List.length_append,List.length_cons,List.length_nil,Nat.zero_add]);refine Wk.intro [] (by decide) (by decide) (by intro o ho;simp at ho ⊢ <;> omega) ?_ ?_ <;> repeat' (first|exact WkVL.nil|refine WkVL.cons ?_ ?_|exact WkV.top|exact WkV.imm rfl|exact WkV.imm (by simp)|exact WkV.optr rfl|exact WkV.own rfl (by simp)|exact WkV.nil_own (.inl rfl)|exact WkV.map rfl|(refine WkV.free ?_;simp [Free,FreeL] <;> assumption)|(refine WkV.free (fun _ _=>FreeL_nth ?_ _);simp [Free,FreeL];done)|refine WkV.agg ?_|refine WkV.tup ?_|refine WkV.fn ?_ ?_|exact WkO.dead|exact WkO.raw|refine WkO.ghost ?_|exact WkO.mpE rfl trivial|refine WkO.box ?_ rfl|refine WkO.arr ?_|refine And.intro ?_ (And.intro (by first|exact fun h=>h|exact fun _=>rfl|exact nofun) ?_)|exact trivial|(intro i j hi hj)))
    · rw [List.take_zero, List.drop_zero, expS_iota]; simp
    rintro m st ⟨k, S, s, h0, h1, hs, hinv, rfl⟩
    (simp only [go_sem,↓reduceIte,Nat.reduceAdd,Nat.reduceSub,Nat.reduceMul,Nat.reduceLT,Nat.reduceLeDiff,Nat.reduceEqDiff,Nat.reduceGT,Int.reduceToNat,Int.reduceBEq,Int.reduceBNe];try simp (disch := omega) only [wrapI,wrapU,half_sum,toNat_sub1,toNat_add1,Int.toNat_natCast])
    by_cases hk : k < js.length
    · have hjk : gNt js k < 6 := hj _ (by unfold gNt; simp [hk])
      have hpx := hpx0 _ hjk
      have hbS := hlast k s hs
      have hxk := hx (gNt js k)
      have hdk := drop_gNt hk
      have htk := take_gNt hk
      rw [hdk, expS, ← htk] at hinv
      have hb1 := hlast (k + 1) (-s) (by omega)
      have hrl : (js.take k ++ js.drop (k + 1)).length = k + (js.length - (k + 1)) := by simp; omega
      have hbF := hF (js.take k ++ js.drop (k + 1)) (by omega)
      have ihh := ih1 (js.take k ++ js.drop (k + 1)) (fun j h => hj j (by
        rcases List.mem_append.1 h with h | h
        · exact List.mem_of_mem_take h
        · exact List.mem_of_mem_drop h)) (by omega)
      unfold nts at ihh
      rw [hrl] at ihh
      have hv5 : ∀ p q,p < k + (js.length - (k + 1)) → q < 1 → catE k (fun i j=>catE 0 (fun _ _=>AV.top) (fun i _=>.imm (.int .i64 ((gNt js i : Nat) : Int))) i j) (fun i _=>.imm (.int .i64 ((gNt js (k + 1 + i) : Nat) : Int))) p q = ntE (js.take k ++ js.drop (k + 1)) p q := fun p q hp hq=>by
        have ec : ∀ i j,catE 0 (fun _ _ => AV.top) (fun i _ => .imm (.int .i64 ((gNt js i : Nat) : Int))) i j = ntE js i j := fun i j => by unfold catE ntE;rw [if_neg (by omega)];rfl
        simp only [ec]
        unfold catE ntE gNt
        split
        · rename_i h1; simp [List.getElem?_append_left (l₁ := js.take k) (i := p) (by simp; omega), h1]
        · rename_i h1
          have e : (js.take k).length = k := by simp; omega
          simp [List.getElem?_append_right (l₁ := js.take k) (i := p) (by omega), e]
      generalize js.take k ++ js.drop (k + 1) = J at *
      have hmb := mul_bd hxk hbF (by decide) (by decide)
      clear ih ih1
      rcases hs with rfl | rfl
      · rw [Int.one_mul] at hinv
        (have cl1 := ihh;have sx1 := hg0;have sx2 := hpx;have sx3 := hel2;have sx4 := Int.one_mul;repeat' (first|with_reducible refine T_seq_drawT (id := 8) Γ_ok drawsAny pl64_8 (by kernel_rfl) (fun K hK=>?_)|with_reducible refine T_last_drawT (id := 8) Γ_ok drawsAny pl64_8 (by kernel_rfl) (fun K hK=>?_)|with_reducible refine T_seq_drawT (id := 10) Γ_ok drawsAny pl64_10 (by kernel_rfl) (fun K hK=>?_)|with_reducible refine T_last_drawT (id := 10) Γ_ok drawsAny pl64_10 (by kernel_rfl) (fun K hK=>?_)|((have sx5 : (0 : Nat) + 0 = 0 := rfl;have sx6 : (0 : Nat) + 0 = 0 := rfl;have sx7 : (0 : Nat) + 0 = 0 := rfl;have sx8 : (0 : Nat) + 0 = 0 := rfl;have sx9 : (0 : Nat) + 0 = 0 := rfl;refine goR9 _ _ _ _ _ _ _ _ ?_ ?_ ?_ ?_ ?_ ?_ ?_ ?_) <;> (repeat intro hb) <;> first|exact True.intro|refine Lf.mk ?_)))
        · refine ⟨js.length - (k + 1),by omega,_,?_,k + 1,S + X (gNt js k) * F J,(-1),by omega,by omega,.inr rfl,?_,rfl⟩
          · ((try simp only [List.length_append,List.length_cons,List.length_nil,Nat.zero_add]);refine Wk.intro [] (by decide) (by decide) (by intro o ho;simp at ho ⊢ <;> omega) ?_ ?_ <;> repeat' (first|exact WkVL.nil|refine WkVL.cons ?_ ?_|exact WkV.top|exact WkV.imm rfl|exact WkV.imm (by simp)|exact WkV.optr rfl|exact WkV.own rfl (by simp)|exact WkV.nil_own (.inl rfl)|exact WkV.map rfl|(refine WkV.free ?_;simp [Free,FreeL] <;> assumption)|(refine WkV.free (fun _ _=>FreeL_nth ?_ _);simp [Free,FreeL];done)|refine WkV.agg ?_|refine WkV.tup ?_|refine WkV.fn ?_ ?_|exact WkO.dead|exact WkO.raw|refine WkO.ghost ?_|exact WkO.mpE rfl trivial|refine WkO.box ?_ rfl|refine WkO.arr ?_|refine And.intro ?_ (And.intro (by first|exact fun h=>h|exact fun _=>rfl|exact nofun) ?_)|exact trivial|(intro i j hi hj)))
          · omega
        · refine ⟨js.length - (k + 1), by omega, _, ?_, k + 1, S, (-1), by omega, by omega, .inr rfl, ?_, rfl⟩
          · ((try simp only [List.length_append,List.length_cons,List.length_nil,Nat.zero_add]);refine Wk.intro [] (by decide) (by decide) (by intro o ho;simp at ho ⊢ <;> omega) ?_ ?_ <;> repeat' (first|exact WkVL.nil|refine WkVL.cons ?_ ?_|exact WkV.top|exact WkV.imm rfl|exact WkV.imm (by simp)|exact WkV.optr rfl|exact WkV.own rfl (by simp)|exact WkV.nil_own (.inl rfl)|exact WkV.map rfl|(refine WkV.free ?_;simp [Free,FreeL] <;> assumption)|(refine WkV.free (fun _ _=>FreeL_nth ?_ _);simp [Free,FreeL];done)|refine WkV.agg ?_|refine WkV.tup ?_|refine WkV.fn ?_ ?_|exact WkO.dead|exact WkO.raw|refine WkO.ghost ?_|exact WkO.mpE rfl trivial|refine WkO.box ?_ rfl|refine WkO.arr ?_|refine And.intro ?_ (And.intro (by first|exact fun h=>h|exact fun _=>rfl|exact nofun) ?_)|exact trivial|(intro i j hi hj)))
          · have hz : X (gNt js k) = 0 := by assumption
            rw [hz] at hinv
            simp only [Int.mul_zero, Int.zero_mul, Int.zero_add, Int.neg_zero] at hinv
            exact hinv
      · rw [Int.neg_mul, Int.neg_mul, Int.one_mul] at hinv
        (have cl1 := ihh;have sx1 := hg0;have sx2 := hpx;have sx3 := hel2;have sx4 := Int.neg_mul;have sx5 := Int.one_mul;have sx6 : (0 : Nat) + 0 = 0 := rfl;repeat' (first|with_reducible refine T_seq_drawT (id := 8) Γ_ok drawsAny pl64_8 (by kernel_rfl) (fun K hK=>?_)|with_reducible refine T_last_drawT (id := 8) Γ_ok drawsAny pl64_8 (by kernel_rfl) (fun K hK=>?_)|with_reducible refine T_seq_drawT (id := 10) Γ_ok drawsAny pl64_10 (by kernel_rfl) (fun K hK=>?_)|with_reducible refine T_last_drawT (id := 10) Γ_ok drawsAny pl64_10 (by kernel_rfl) (fun K hK=>?_)|((have sx7 : (0 : Nat) + 0 = 0 := rfl;have sx8 : (0 : Nat) + 0 = 0 := rfl;have sx9 : (0 : Nat) + 0 = 0 := rfl;refine goR9 _ _ _ _ _ _ _ _ ?_ ?_ ?_ ?_ ?_ ?_ ?_ ?_) <;> (repeat intro hb) <;> first|exact True.intro|refine Lf.mk ?_)))
        · refine ⟨js.length - (k + 1),by omega,_,?_,k + 1,S + -(X (gNt js k) * F J),1,by omega,by omega,.inl rfl,?_,rfl⟩
          · ((try simp only [List.length_append,List.length_cons,List.length_nil,Nat.zero_add]);refine Wk.intro [] (by decide) (by decide) (by intro o ho;simp at ho ⊢ <;> omega) ?_ ?_ <;> repeat' (first|exact WkVL.nil|refine WkVL.cons ?_ ?_|exact WkV.top|exact WkV.imm rfl|exact WkV.imm (by simp)|exact WkV.optr rfl|exact WkV.own rfl (by simp)|exact WkV.nil_own (.inl rfl)|exact WkV.map rfl|(refine WkV.free ?_;simp [Free,FreeL] <;> assumption)|(refine WkV.free (fun _ _=>FreeL_nth ?_ _);simp [Free,FreeL];done)|refine WkV.agg ?_|refine WkV.tup ?_|refine WkV.fn ?_ ?_|exact WkO.dead|exact WkO.raw|refine WkO.ghost ?_|exact WkO.mpE rfl trivial|refine WkO.box ?_ rfl|refine WkO.arr ?_|refine And.intro ?_ (And.intro (by first|exact fun h=>h|exact fun _=>rfl|exact nofun) ?_)|exact trivial|(intro i j hi hj)))
          · rw [show (1 : Int) = - -1 from rfl]; omega
        · refine ⟨js.length - (k + 1), by omega, _, ?_, k + 1, S, 1, by omega, by omega, .inl rfl, ?_, rfl⟩
          · ((try simp only [List.length_append,List.length_cons,List.length_nil,Nat.zero_add]);refine Wk.intro [] (by decide) (by decide) (by intro o ho;simp at ho ⊢ <;> omega) ?_ ?_ <;> repeat' (first|exact WkVL.nil|refine WkVL.cons ?_ ?_|exact WkV.top|exact WkV.imm rfl|exact WkV.imm (by simp)|exact WkV.optr rfl|exact WkV.own rfl (by simp)|exact WkV.nil_own (.inl rfl)|exact WkV.map rfl|(refine WkV.free ?_;simp [Free,FreeL] <;> assumption)|(refine WkV.free (fun _ _=>FreeL_nth ?_ _);simp [Free,FreeL];done)|refine WkV.agg ?_|refine WkV.tup ?_|refine WkV.fn ?_ ?_|exact WkO.dead|exact WkO.raw|refine WkO.ghost ?_|exact WkO.mpE rfl trivial|refine WkO.box ?_ rfl|refine WkO.arr ?_|refine And.intro ?_ (And.intro (by first|exact fun h=>h|exact fun _=>rfl|exact nofun) ?_)|exact trivial|(intro i j hi hj)))
          · have hz : X (gNt js k) = 0 := by assumption
            rw [hz] at hinv
            simp only [Int.mul_zero, Int.zero_mul, Int.zero_add, Int.neg_zero] at hinv
            exact hinv
    · have hke : k = js.length := by omega
      rw [List.drop_of_length_le (by omega), expS] at hinv
      rw [← hinv, Int.add_zero]
      (((refine goR0 _ _ _ _ _ _ _ _ ?_ ?_ ?_ ?_ ?_ ?_ ?_ ?_) <;> (repeat intro hb) <;> first | exact True.intro | refine Lf.mk ?_))
end Go.Proofs.YtngfnogoicfmaaaGreatDoor
