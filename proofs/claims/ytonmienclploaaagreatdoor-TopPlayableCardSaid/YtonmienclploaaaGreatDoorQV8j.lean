/-
 organ.Chord.
-/
import Derived.Test.YtonmienclploaaaGreatDoorQGo
import Derived.Test.YtonmienclploaaaGreatDoorQGo2
import Derived.Test.YtonmienclploaaaGreatDoorQV8i
set_option linter.unusedSimpArgs false
set_option linter.unusedVariables false
namespace Go.Proofs.YtonmienclploaaaGreatDoor
open Go.Ab
theorem T_wkR {P : Program} {n : Nat} {rd : Rd} (id : Nat) {ops : Array Oper} {dr : Bool} {y : Code} {Q : Exit → St → Prop} {st : St} (st2 : St) (h : Wk n st st2) (k : T P n (rd := rd) (.seq (.region id ops dr) y) Q st2) : T P n (rd := rd) (.seq (.region id ops dr) y) Q st := T_wk h k
set_option maxRecDepth 100000 in
set_option maxHeartbeats 4000000 in
theorem choices_tc (o : Og) (v : P6) (hl : o.ps.length ≤ 1000000) (h1 : ogB o = true) (h2 : vOk v = true) : Makes Tryz.prog 165 [ogA o,p6A v] (.own 0 0 (ofdL o v o.ps.length).length none) [itO (ofdL o v o.ps.length)] := by
 have c := ofind_tc o v hl h1 h2
 refine Makes.lst1J (itE_pl _) ?_
 (refine TC_of_T Γ_ok Tryz.func165 rfl (by kernel_rfl) ?_;simp only [Tryz.ntmps165,Tryz.results165,List.length_cons,List.length_nil,Nat.reduceSub,Nat.reduceAdd,List.replicate,List.cons_append,List.nil_append])
 (have cm1 := c;((refine goR0 _ _ _ _ _ _ _ _ ?_ ?_ ?_ ?_ ?_ ?_ ?_ ?_)<;>(repeat intro hb)<;>first|exact True.intro|refine Lf.mk ?_))
 exact .inr ⟨2, _, rfl, rfl, fun _ _ _ _ => rfl⟩
set_option maxRecDepth 100000 in
set_option maxHeartbeats 4000000 in
theorem obad_tc (x : P6) : Look Tryz.prog 164 [p6A x] (.imm (.bool (!(vOk x)))) := by
 refine Look.mk trivial ?_
 (refine TC_of_T Γ_ok Tryz.func164 rfl (by kernel_rfl) ?_;simp only [Tryz.ntmps164,Tryz.results164,List.length_cons,List.length_nil,Nat.reduceSub,Nat.reduceAdd,List.replicate,List.cons_append,List.nil_append])
 (have cl1 := valid_v x;((refine goR0 _ _ _ _ _ _ _ _ ?_ ?_ ?_ ?_ ?_ ?_ ?_ ?_)<;>(repeat intro hb)<;>first|exact True.intro|refine Lf.mk ?_))
def ofdA (o : Og) (v : P6) : List Int := ofdL o v o.ps.length
def olL (o : Og) (vs : List P6) : List (List Int) := vs.map (ofdA o)
def prdI (n : Int) (l : List Int) : Int := if n ≤ 10000 then n * (l.length : Int) else n
def prdL (L : List (List Int)) : Int := L.foldl prdI 1
def ochR (o : Og) (vs : List P6) (w : Int) : List Int × Int :=
 if ogB o = true ∧ (-100 ≤ w ∧ w ≤ 100) ∧ vs.length ≤ 12 ∧ anyV (fun v => !vOk v) vs = false then
  (if (olL o vs).any (fun l => l.isEmpty) = true then ([], 4) else if 10000 < prdL (olL o vs) then ([], 2)
   else match oSr (fun c => plB o c vs w) (olL o vs) [] with | some l => (l, 0) | none => ([], 21))
 else ([], 1)
theorem prdL_bd {L : List (List Int)} (h : ∀ l ∈ L,l.length ≤ 120) : ∀ n : Int,0 ≤ n → n ≤ 1200000 → 0 ≤ L.foldl prdI n ∧ L.foldl prdI n ≤ 1200000 := by
 induction L with
 | nil => intro n h0 h1; exact ⟨h0, h1⟩
 | cons l L ih =>
  intro n h0 h1
  rw [List.foldl_cons]
  have hl := h l (by simp)
  refine ih (fun l hl => h l (List.mem_cons_of_mem _ hl)) _ ?_ ?_
  ·unfold prdI; split
   ·exact Int.mul_nonneg h0 (by omega)
   ·exact h0
  ·unfold prdI; split
   ·rename_i h2
    have := Int.mul_le_mul h2 (show (l.length : Int) ≤ 120 by omega) (by omega) (by omega)
    omega
   ·exact h1
theorem take_gV {l : List P6} {i : Nat} (h : i < l.length) : l.take (i + 1) = l.take i ++ [gV l i] := by
 rw [List.take_add_one, List.getElem?_eq_getElem h]
 simp [gV, h]
theorem anyV_no {g : P6 → Bool} {l : List P6} (h : anyV g l = false) {i : Nat} (hi : i < l.length) : g (gV l i) = false := by
 have q := fstF_spec (f := fun i => g (gV l i)) (d := l.length) (i := 0)
 unfold anyV at h
 rw [decide_eq_false_iff_not] at h
 exact q.2.2.1 i (by omega) (by omega)
@[go_sem, reducible] def chC : List AV := [.optr 6 0 0, .optr 1 0 0, .optr 0 0 0, .optr 2 0 0, .optr 3 0 0, .optr 7 0 0]
def chO (o : Og) (vs : List P6) (w : Int) (L : List (List Int)) (E : Nat → Nat → AV) : List AObj := [.box 49 (ogL o),.box 27 [vts vs],.box 3 [.imm (.int .i64 w)],.box 250 [.own 4 0 L.length none],olO L,.arr 3 1 0 E,.box 26 [.own 5 0 0 (some vs.length)],.box 28 [.fn (.func 166) [] chC]]
section
variable (o : Og) (vs : List P6) (w : Int) (L : List (List Int)) (E : Nat → Nat → AV)
theorem ch_al {k : Nat} (h5 : k ≠ 6) (h7 : k ≠ 5) : ∀ q ∈ [6, 5], q ≠ k ∧ (nthO (chO o vs w L E) q).alive = true := by
 intro q hq
 simp only [List.mem_cons, List.not_mem_nil, or_false] at hq
 rcases hq with rfl | rfl
 ·exact ⟨Ne.symm h5, rfl⟩
 ·exact ⟨Ne.symm h7, rfl⟩
theorem ch_i : WkV [6, 5] (chO o vs w L E) (.optr 6 0 0) (.optr 0 0 0) := WkV.optr rfl
theorem ch_v : WkV [6,5] (chO o vs w L E) (.optr 1 0 0) (oV vs) := WkV.freezeB (o := 1) (cells := [vts vs]) rfl (Nat.le_refl _) (ch_al o vs w L E (by decide) (by decide)) fun j hj=>WkV.free (FreeL_nth (by simp [FreeL,Free]) _)
theorem ch_o : WkV [6,5] (chO o vs w L E) (.optr 0 0 0) (oO o) := WkV.freezeB (o := 0) (cells := ogL o) rfl (Nat.le_refl _) (ch_al o vs w L E (by decide) (by decide)) fun j hj=>WkV.free (oO_free o j)
theorem ch_w : WkV [6,5] (chO o vs w L E) (.optr 2 0 0) (oW w) := WkV.freezeB (o := 2) (cells := [.imm (.int .i64 w)]) rfl (Nat.le_refl _) (ch_al o vs w L E (by decide) (by decide)) fun j hj=>WkV.free (FreeL_nth (by simp [FreeL,Free]) _)
theorem ch_l : WkV [6, 5] (chO o vs w L E) (.optr 3 0 0) (oL L) :=
 WkV.freezeB (o := 3) (cells := [.own 4 0 L.length none]) rfl (Nat.le_refl _) (ch_al o vs w L E (by decide) (by decide)) fun j hj => by
  obtain rfl : j = 0 := by omega
  exact WkV.freeze (o := 4) (ety := 26) (n := L.length) (e := olE L) rfl (by omega) (ch_al o vs w L E (by decide) (by decide)) fun i j hi hj => by rw [Nat.zero_add];exact WkV.free (olE_free _ _ _)
theorem ch_s : ∀ r, WkV [6, 5] (chO o vs w L E) (.optr 7 0 0) (oS o vs w L r)
 | 0 => WkV.freezeB (o := 7) (ety := 28) (cells := [.fn (.func 166) [] chC]) rfl (Nat.le_refl _) (ch_al o vs w L E (by decide) (by decide)) fun j hj => WkV.top
 | r + 1 => WkV.freezeB (o := 7) (ety := 28) (cells := [.fn (.func 166) [] chC]) rfl (Nat.le_refl _) (ch_al o vs w L E (by decide) (by decide)) fun j hj => by
  obtain rfl : j = 0 := by omega
  exact WkV.fn WkVL.nil (WkVL.cons (ch_i o vs w L E) (WkVL.cons (ch_v o vs w L E) (WkVL.cons (ch_o o vs w L E) (WkVL.cons (ch_w o vs w L E) (WkVL.cons (ch_l o vs w L E) (WkVL.cons (ch_s r) WkVL.nil))))))
theorem ch_args (r : Nat) : WkVL [6, 5] (chO o vs w L E) chC [.optr 0 0 0, oV vs, oO o, oW w, oL L, oS o vs w L r] :=
 WkVL.cons (ch_i o vs w L E) (WkVL.cons (ch_v o vs w L E) (WkVL.cons (ch_o o vs w L E) (WkVL.cons (ch_w o vs w L E) (WkVL.cons (ch_l o vs w L E) (WkVL.cons (ch_s o vs w L E r) WkVL.nil)))))
theorem ch_objs : WkOL [6, 5] (chO o vs w L E) [6, 5] (srO []) :=
 ⟨WkO.box (WkVL.cons (WkV.own rfl (by simp)) WkVL.nil) rfl,fun _ => rfl,WkO.arr fun i j hi => by omega,fun _ => rfl,trivial⟩
end
set_option maxRecDepth 100000 in
set_option maxHeartbeats 8000000 in
theorem ochord_raw (o : Og) (vs : List P6) (w : Int) (hl : o.ps.length ≤ 1000000) (hv : vs.length ≤ 1000000) : TC Tryz.prog 163 [ogA o,vts vs,.imm (.int .i64 w)] [] (fun v σ' =>
  (v = .tup [.imm (.slice none 0 0), .imm (.int .i64 (ochR o vs w).2)] ∧ (ochR o vs w).1.length = 0) ∨
  ∃ k E',v = .tup [.own k 0 (ochR o vs w).1.length none,.imm (.int .i64 (ochR o vs w).2)] ∧ nthO σ' k = .arr 3 1 (ochR o vs w).1.length E' ∧ ∀ i j,i < (ochR o vs w).1.length → j < 1 → E' i j = itE (ochR o vs w).1 i j) := by
 have c1 := ovalid_tc o (by omega)
 have c2 := warmth_tc w
 have c3 := anyV_tc _ _ vs hv obad_tc
 unfold ochR
 by_cases h : ogB o = true ∧ (-100 ≤ w ∧ w ≤ 100) ∧ vs.length ≤ 12 ∧ anyV (fun v => !vOk v) vs = false
 ·obtain ⟨h1, h2, h3, h4⟩ := h
  rw [if_pos ⟨h1, h2, h3, h4⟩]
  have hps := (ogB_iff.1 h1).2.1
  rw [h1] at c1
  rw [decide_eq_true h2.1, decide_eq_true h2.2] at c2
  rw [h4] at c3
  have e1 : decide ((vs.length : Int) > 12) = false := decide_eq_false (by omega)
  (refine TC_of_T Γ_ok Tryz.func163 rfl (by kernel_rfl) ?_;simp only [Tryz.ntmps163,Tryz.results163,List.length_cons,List.length_nil,Nat.reduceSub,Nat.reduceAdd,List.replicate,List.cons_append,List.nil_append])
  (have cl1 := c1;have cl2 := c2;have cl3 := c3;have sx1 := e1;have sx2:=sx0;((obtain ⟨sx3,sx4,sx5,sx6,sx7,sx8,sx9⟩:=sx0_7;refine goR9 _ _ _ _ _ _ _ _ ?_ ?_ ?_ ?_ ?_ ?_ ?_ ?_)<;>(repeat intro hb)<;>first|exact True.intro|refine Lf.mk ?_))
  refine T_loopW (fun m st => ∃ (i : Nat) (L : List (List Int)),i ≤ vs.length ∧ m + i = vs.length ∧ L = (vs.take i).map (ofdA o) ∧ L.length = i ∧
    st = ⟨[.top,.top,.top,.optr 0 0 0,.optr 1 0 0,.optr 2 0 0,.imm (.slice none 0 0),.imm (.int .i64 0),.fn (.func 165) [ogA o] [],.imm (.int .i64 (prdL L)),.imm (.bool (L.any (fun l=>l.isEmpty))),.optr 3 0 0] ++ List.replicate 25 .top ++ [vts vs,.imm (.int .i64 vs.length),.imm (.int .i64 i)] ++ List.replicate 36 .top,
     [.box 49 (ogL o), .box 27 [vts vs], .box 3 [.imm (.int .i64 w)], .box 250 [.own 4 0 L.length none], olO L]⟩)
   vs.length ⟨_, Wk.trans (Wk.push 26 1 (olE [])) ?_, 0, [], by omega, rfl, rfl, rfl, rfl⟩ ?_
  ·((try refine sgl ?_);exact wkI [0,1,2,3,4])
  rintro m st ⟨i, L, f0, f1, hL, hLi, rfl⟩
  have hlen : ∀ l ∈ L, l.length ≤ 120 := fun l hl => by
   rw [hL] at hl
   obtain ⟨v, _, rfl⟩ := List.mem_map.1 hl
   exact Nat.le_trans (ofdL_len o v _) hps
  have hpb := prdL_bd hlen 1 (by omega) (by omega)
  have hpe : prdL L = L.foldl prdI 1 := rfl
  rw [← hpe] at hpb
  by_cases hi : i < vs.length
  ·have hvi : vOk (gV vs i) = true := by
    have := anyV_no h4 hi
    simpa using this
   have hf := choices_tc o (gV vs i) hl h1 hvi
   have hfl := ofdL_len o (gV vs i) o.ps.length
   have hL2 : L ++ [ofdL o (gV vs i) o.ps.length] = (vs.take (i + 1)).map (ofdA o) := by rw [take_gV hi,List.map_append,hL];rfl
   generalize ofdL o (gV vs i) o.ps.length = l at hf hfl hL2
   have hpn : prdL (L ++ [l]) = if prdL L ≤ 10000 then prdL L * (l.length : Int) else prdL L := by unfold prdL;rw [List.foldl_append];rfl
   have hany : (L ++ [l]).any (fun l => l.isEmpty) = (L.any (fun l => l.isEmpty) || l.isEmpty) := by rw [List.any_append];simp
   have hle : ((l.length : Int) == 0) = l.isEmpty := by cases l <;> simp; omega
   have hmw : prdL L ≤ 10000 → IntKind.i64.wrap (prdL L * (l.length : Int)) = prdL L * (l.length : Int) := fun h => by
    have a1 := Int.mul_nonneg hpb.1 (show (0 : Int) ≤ l.length by omega)
    have a2 := Int.mul_le_mul h (show (l.length : Int) ≤ 120 by omega) (by omega) (by omega)
    exact wrapI (by omega) (by omega)
   have hlL : (L ++ [l]).length = L.length + 1 := by simp
   generalize hA : L.any (fun l => l.isEmpty) = A at hany
   generalize hP : prdL L = p at hpn hpb hmw
   refine sgo ?_
   (have cm1 := hf;have sx1 := hle;have sx2:=sx0;((obtain ⟨sx3,sx4,sx5,sx6,sx7,sx8,sx9⟩:=sx0_7;refine goR9 _ _ _ _ _ _ _ _ ?_ ?_ ?_ ?_ ?_ ?_ ?_ ?_)<;>(repeat intro hb)<;>first|exact True.intro|refine Lf.mk ?_))
   ·refine ⟨vs.length - (i + 1), by omega, _, ?_, i + 1, L ++ [l], by omega, by omega, hL2, by rw [hlL, hLi], rfl⟩
    rw [hpn, if_pos hb, hany]
    ((try refine sgl ?_);refine Wk.intro [0,1,2,3,8] (by decide) (by decide) wkH ?_ ?_ <;> repeat' (first|(exact wkOl (o := 6) rfl (by intro p hp;simp only [List.mem_cons,List.not_mem_nil,or_false] at hp;rcases hp with rfl|rfl|rfl|rfl|rfl <;> exact ⟨by decide,rfl⟩) (by simpa using hi) hj)|(refine WkV.imm ?_;congr 1;first|omega|exact hmw hb)|refine WkVL.cons ?_ ?_|exact wkT|refine WkV.agg ?_|refine WkV.tup ?_|refine WkV.fn ?_ ?_|exact WkO.dead|exact WkO.raw|refine WkO.ghost ?_|exact WkO.mpE rfl trivial|refine WkO.box ?_ rfl|refine WkO.arr ?_|refine And.intro ?_ (And.intro aF ?_)|exact trivial|(intro i j hi hj)))
   ·refine ⟨vs.length - (i + 1), by omega, _, ?_, i + 1, L ++ [l], by omega, by omega, hL2, by rw [hlL, hLi], rfl⟩
    rw [hpn, if_neg (by omega), hany]
    ((try refine sgl ?_);refine Wk.intro [0,1,2,3,8] (by decide) (by decide) wkH ?_ ?_ <;> repeat' (first|(exact wkOl (o := 6) rfl (by intro p hp;simp only [List.mem_cons,List.not_mem_nil,or_false] at hp;rcases hp with rfl|rfl|rfl|rfl|rfl <;> exact ⟨by decide,rfl⟩) (by simpa using hi) hj)|(refine WkV.imm ?_;congr 1;first|omega|exact hmw hb)|refine WkVL.cons ?_ ?_|exact wkT|refine WkV.agg ?_|refine WkV.tup ?_|refine WkV.fn ?_ ?_|exact WkO.dead|exact WkO.raw|refine WkO.ghost ?_|exact WkO.mpE rfl trivial|refine WkO.box ?_ rfl|refine WkO.arr ?_|refine And.intro ?_ (And.intro aF ?_)|exact trivial|(intro i j hi hj)))
  ·obtain rfl : i = vs.length := by omega
   rw [List.take_length] at hL
   have hLo : olL o vs = L := hL.symm
   rw [hLo]
   cases hA : L.any (fun l => l.isEmpty) with
   | true =>
    rw [if_pos rfl]
    refine sgo ?_
    (((refine goR0 _ _ _ _ _ _ _ _ ?_ ?_ ?_ ?_ ?_ ?_ ?_ ?_)<;>(repeat intro hb)<;>first|exact True.intro|refine Lf.mk ?_))
    exact .inl trivial
   | false =>
    rw [if_neg (by simp)]
    by_cases hP : 10000 < prdL L
    ·rw [if_pos hP]
     have e2 : decide (prdL L > 10000) = true := decide_eq_true hP
     refine sgo ?_
     (have sx1 := e2;have sx2:=sx0;((obtain ⟨sx3,sx4,sx5,sx6,sx7,sx8,sx9⟩:=sx0_7;refine goR9 _ _ _ _ _ _ _ _ ?_ ?_ ?_ ?_ ?_ ?_ ?_ ?_)<;>(repeat intro hb)<;>first|exact True.intro|refine Lf.mk ?_))
     exact .inl trivial
    ·rw [if_neg hP]
     have e2 : decide (prdL L > 10000) = false := decide_eq_false hP
     have hsc := osearch_tc o vs w L h1 h2 hLi h3 hlen L.length [] (by simp)
     generalize oSr (fun c => plB o c vs w) L [] = x at hsc
     have hT : Turns Tryz.prog 166 _ _ _ _ := ⟨hsc, trivial, srP_vf _⟩
     cases x with
     | none =>
      simp only [Option.isSome_none, Option.getD_none] at hT
      refine sgo ?_
      repeat' (first
  | (with_reducible refine hK _ ?_; clear hK K)
  | ((refine callGoal_turns [6,5] trivial hT (by decide) ?_ (ch_args o vs w L _ L.length) (ch_objs o vs w L _) ?_);(focus (simp [nthO,AObj.alive]));refine sgo ?_)
  | ((with_reducible apply DC_call);(focus exact rfl);(focus exact rfl);(focus exact rfl);intro N hN;refine sgo6 ?_)
  | ((with_reducible first|refine T_seq_region Γ_ok (fun K hK=>?_)|refine T_last_region Γ_ok (fun K hK=>?_)|refine TO_callN rfl (fun N hN=>?_)|refine DCT_fork Γ_ok (fun K2 hK2=>?_)|refine DCT_last Γ_ok ?_|refine DC_ev Γ_ok ?_|refine TO_ev Γ_ok ?_|refine retQ_r ?_|refine retQ_n ?_);refine sgo6 ?_)
  | (with_reducible refine hK2 _ ?_ ?_ <;> clear hK2 K2)
  | with_reducible first|refine gC_false ?_|refine gC_true ?_|refine dCall_true ?_
  | (with_reducible refine hN _ _ ?_; clear hN N)
  | (with_reducible refine hN _ _ (dInl rfl) ?_; clear hN N)
  | ((with_reducible refine hN _ _ (.inr ?_) ?_);(focus (refine sgo6 ?_;try exact True.intro));all_goals (try clear hN N))
  | with_reducible first|refine T_seq ?_|refine T_block ?_|refine T_ret ?_|refine T_exit ?_|refine T_skip ?_|refine T_label ?_
  | with_reducible first|refine thenQ_n ?_|refine thenQ_e ?_|refine thenQ_r ?_|refine blockQ_n ?_|refine blockQ_e ?_|refine blockQ_r ?_
  | with_reducible refine blockQ_o (by decide) ?_
  | ((with_reducible refine T_cond _ rfl (fun hb=>?_) (fun hb=>?_)) <;> first|(cases hb;done)|replace hb:=sgh hb|skip)
  | (with_reducible refine And.intro aG ?_)
  | assumption | omega | exact True.intro)
      exact .inl trivial
     | some q =>
      simp only [Option.isSome_some, Option.getD_some] at hT
      refine sgo ?_
      repeat' (first
  | (with_reducible refine hK _ ?_; clear hK K)
  | ((refine callGoal_turns [6,5] trivial hT (by decide) ?_ (ch_args o vs w L _ L.length) (ch_objs o vs w L _) ?_);(focus (simp [nthO,AObj.alive]));refine sgo ?_)
  | ((with_reducible apply DC_call);(focus exact rfl);(focus exact rfl);(focus exact rfl);intro N hN;refine sgo6 ?_)
  | ((with_reducible first|refine T_seq_region Γ_ok (fun K hK=>?_)|refine T_last_region Γ_ok (fun K hK=>?_)|refine TO_callN rfl (fun N hN=>?_)|refine DCT_fork Γ_ok (fun K2 hK2=>?_)|refine DCT_last Γ_ok ?_|refine DC_ev Γ_ok ?_|refine TO_ev Γ_ok ?_|refine retQ_r ?_|refine retQ_n ?_);refine sgo6 ?_)
  | (with_reducible refine hK2 _ ?_ ?_ <;> clear hK2 K2)
  | with_reducible first|refine gC_false ?_|refine gC_true ?_|refine dCall_true ?_
  | (with_reducible refine hN _ _ ?_; clear hN N)
  | (with_reducible refine hN _ _ (dInl rfl) ?_; clear hN N)
  | ((with_reducible refine hN _ _ (.inr ?_) ?_);(focus (refine sgo6 ?_;try exact True.intro));all_goals (try clear hN N))
  | with_reducible first|refine T_seq ?_|refine T_block ?_|refine T_ret ?_|refine T_exit ?_|refine T_skip ?_|refine T_label ?_
  | with_reducible first|refine thenQ_n ?_|refine thenQ_e ?_|refine thenQ_r ?_|refine blockQ_n ?_|refine blockQ_e ?_|refine blockQ_r ?_
  | with_reducible refine blockQ_o (by decide) ?_
  | ((with_reducible refine T_cond _ rfl (fun hb=>?_) (fun hb=>?_)) <;> first|(cases hb;done)|replace hb:=sgh hb|skip)
  | (with_reducible refine And.intro aG ?_)
  | assumption | omega | exact True.intro)
      exact .inr ⟨8, _, rfl, rfl, fun _ _ _ _ => rfl⟩
 ·rw [if_neg h]
  by_cases h1 : ogB o = true
  ·rw [h1] at c1
   by_cases h2 : -100 ≤ w ∧ w ≤ 100
   ·rw [decide_eq_true h2.1, decide_eq_true h2.2] at c2
    by_cases h3 : vs.length ≤ 12
    ·have e1 : decide ((vs.length : Int) > 12) = false := decide_eq_false (by omega)
     rw [show anyV (fun v => !vOk v) vs = true by rw [← Bool.not_eq_false];exact fun h4 => h ⟨h1,h2,h3,h4⟩] at c3
     (refine TC_of_T Γ_ok Tryz.func163 rfl (by kernel_rfl) ?_;simp only [Tryz.ntmps163,Tryz.results163,List.length_cons,List.length_nil,Nat.reduceSub,Nat.reduceAdd,List.replicate,List.cons_append,List.nil_append])
     (have cl1 := c1;have cl2 := c2;have cl3 := c3;have sx1 := e1;have sx2:=sx0;((obtain ⟨sx3,sx4,sx5,sx6,sx7,sx8,sx9⟩:=sx0_7;refine goR9 _ _ _ _ _ _ _ _ ?_ ?_ ?_ ?_ ?_ ?_ ?_ ?_)<;>(repeat intro hb)<;>first|exact True.intro|refine Lf.mk ?_))
     exact .inl trivial
    ·have e1 : decide ((vs.length : Int) > 12) = true := decide_eq_true (by omega)
     (refine TC_of_T Γ_ok Tryz.func163 rfl (by kernel_rfl) ?_;simp only [Tryz.ntmps163,Tryz.results163,List.length_cons,List.length_nil,Nat.reduceSub,Nat.reduceAdd,List.replicate,List.cons_append,List.nil_append])
     (have cl1 := c1;have cl2 := c2;have sx1 := e1;((refine goB1 _ _ _ _ _ _ _ _ ?_ ?_ ?_ ?_ ?_ ?_ ?_ ?_)<;>(repeat intro hb)<;>first|exact True.intro|refine Lf.mk ?_))
     exact .inl trivial
   ·rw [show (decide (-100 ≤ w) && decide (w ≤ 100)) = false by rw [Bool.and_eq_false_iff];simp only [decide_eq_false_iff_not];omega] at c2
    (refine TC_of_T Γ_ok Tryz.func163 rfl (by kernel_rfl) ?_;simp only [Tryz.ntmps163,Tryz.results163,List.length_cons,List.length_nil,Nat.reduceSub,Nat.reduceAdd,List.replicate,List.cons_append,List.nil_append])
    (have cl1 := c1;have cl2 := c2;((have sx1:=sx0;refine goB1 _ _ _ _ _ _ _ _ ?_ ?_ ?_ ?_ ?_ ?_ ?_ ?_)<;>(repeat intro hb)<;>first|exact True.intro|refine Lf.mk ?_))
    all_goals exact .inl trivial
  ·rw [Bool.not_eq_true] at h1
   rw [h1] at c1
   (refine TC_of_T Γ_ok Tryz.func163 rfl (by kernel_rfl) ?_;simp only [Tryz.ntmps163,Tryz.results163,List.length_cons,List.length_nil,Nat.reduceSub,Nat.reduceAdd,List.replicate,List.cons_append,List.nil_append])
   (have cl1 := c1;((have sx1:=sx0;refine goB1 _ _ _ _ _ _ _ _ ?_ ?_ ?_ ?_ ?_ ?_ ?_ ?_)<;>(repeat intro hb)<;>first|exact True.intro|refine Lf.mk ?_))
   all_goals exact .inl trivial
theorem ochord_tc (o : Og) (vs : List P6) (w : Int) (hl : o.ps.length ≤ 1000000) (hv : vs.length ≤ 1000000) : Makes Tryz.prog 163 [ogA o,vts vs,.imm (.int .i64 w)] (.tup [.own 0 0 (ochR o vs w).1.length none,.imm (.int .i64 (ochR o vs w).2)]) [itO (ochR o vs w).1] :=
 Makes.lstJ (itE_pl _) trivial (ochord_raw o vs w hl hv)
end Go.Proofs.YtonmienclploaaaGreatDoor
