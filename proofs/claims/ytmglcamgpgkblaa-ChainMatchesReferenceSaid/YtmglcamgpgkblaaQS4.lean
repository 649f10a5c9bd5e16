/-
  Parts joined: R5 R6.
-/
import Derived.Test.YtmglcamgpgkblaaQGo
import Derived.Test.YtmglcamgpgkblaaQR2
import Derived.Test.YtmglcamgpgkblaaQC4
import Derived.Test.YtmglcamgpgkblaaQB10
import Derived.Test.YtmglcamgpgkblaaQAb30
set_option linter.unusedSimpArgs false
set_option linter.unusedVariables false
namespace Go.Proofs.Ytmglcamgpgkblaa
open Go.Ab
theorem opn_gv {v : P6} {R : List P6} : opn v R = true ↔ ∃ i, i < R.length ∧ v.add (gv R i) ≠ z6 := by
  unfold opn
  rw [List.any_eq_true]
  constructor
  · rintro ⟨x, hx, h⟩
    obtain ⟨i, h1, rfl⟩ := List.mem_iff_getElem.1 hx
    refine ⟨i, h1, ?_⟩
    simpa [gv, h1] using h
  · rintro ⟨i, h1, h⟩
    refine ⟨R[i], List.getElem_mem h1, ?_⟩
    simpa [gv, h1] using h
@[go_sem,reducible] def enO (R : List P6) (i : Nat) : List AV := [.top,vts R,.optr 0 0 0,.top,.imm (.bool false),.imm (.int .i64 i)] ++ List.replicate 14 .top
set_option maxRecDepth 100000 in
set_option maxHeartbeats 4000000 in
theorem ropen_tc (v : P6) (R : List P6) (hv : Bd6 500000 v) (hR : ∀ i,i < R.length → Bd6 500000 (gv R i)) (hl : R.length ≤ 1000000) : Look Try.prog 58 [p6A v,vts R] (.imm (.bool (opn v R))) := by
  refine Look.mk trivial ?_
  generalize hQ : opn v R = Q
  (refine TC_of_T Γ_ok Try.func58 rfl (by kernel_rfl) ?_;simp only [Try.ntmps58,Try.results58,List.length_cons,List.length_nil,Nat.reduceSub,Nat.reduceAdd,List.replicate,List.cons_append,List.nil_append])
  (have sx1 := Nat.add_zero 0;repeat' (first|with_reducible refine T_seq_drawT (id := 4) Γ_ok drawsAny pl58_4 (by kernel_rfl) (fun K hK=>?_)|with_reducible refine T_last_drawT (id := 4) Γ_ok drawsAny pl58_4 (by kernel_rfl) (fun K hK=>?_)|((refine goU1 _ _ _ _ _ _ _ _ _ _ _ _ ?_ ?_ ?_ ?_ ?_ ?_ ?_ ?_ ?_ ?_ ?_ ?_) <;> (repeat intro hb) <;> first|exact True.intro|refine Lf.mk ?_)))
  refine T_loopW (fun m st => ∃ i : Nat,i ≤ R.length ∧ m + i = R.length ∧ (∀ j,j < i → v.add (gv R j) = z6) ∧ st = ⟨enO R i,[.box 31 (p6L v)]⟩)
    R.length ⟨_, ?_, 0, by omega, by omega, fun j hj => absurd hj (by omega), rfl⟩ ?_
  · ((try simp only [List.length_append,List.length_cons,List.length_nil,Nat.zero_add]);refine Wk.intro [0] (by decide) (by decide) (by intro o ho;simp at ho ⊢ <;> omega) ?_ ?_ <;> repeat' (first|exact WkVL.nil|refine WkVL.cons ?_ ?_|exact WkV.top|exact WkV.imm rfl|exact WkV.imm (by simp)|exact WkV.optr rfl|exact WkV.own rfl (by simp)|exact WkV.nil_own (.inl rfl)|exact WkV.map rfl|(refine WkV.free ?_;simp [Free,FreeL] <;> assumption)|(refine WkV.free (fun _ _=>FreeL_nth ?_ _);simp [Free,FreeL];done)|refine WkV.agg ?_|refine WkV.tup ?_|refine WkV.fn ?_ ?_|exact WkO.dead|exact WkO.raw|refine WkO.ghost ?_|exact WkO.mpE rfl trivial|refine WkO.box ?_ rfl|refine WkO.arr ?_|refine And.intro ?_ (And.intro (by first|exact fun h=>h|exact fun _=>rfl|exact nofun) ?_)|exact trivial|(intro i j hi hj)))
  rintro m st ⟨i, h0, h1, h2, rfl⟩
  by_cases hi : i < R.length
  · have c1 := rplus_tc v (gv R i) (hv.mono (by omega)) ((hR i hi).mono (by omega))
    by_cases hz : v.add (gv R i) = z6
    · rw [hz] at c1
      simp only [z6] at c1
      (simp only [go_sem,↓reduceIte,Nat.reduceAdd,Nat.reduceSub,Nat.reduceMul,Nat.reduceLT,Nat.reduceLeDiff,Nat.reduceEqDiff,Nat.reduceGT,Int.reduceToNat,Int.reduceBEq,Int.reduceBNe];try simp (disch := omega) only [wrapI,wrapU,half_sum,toNat_sub1,toNat_add1,Int.toNat_natCast])
      (have cl1 := c1;have sx1 := Nat.add_zero 0;repeat' (first|with_reducible refine T_seq_drawT (id := 4) Γ_ok drawsAny pl58_4 (by kernel_rfl) (fun K hK=>?_)|with_reducible refine T_last_drawT (id := 4) Γ_ok drawsAny pl58_4 (by kernel_rfl) (fun K hK=>?_)|((refine goU1 _ _ _ _ _ _ _ _ _ _ _ _ ?_ ?_ ?_ ?_ ?_ ?_ ?_ ?_ ?_ ?_ ?_ ?_) <;> (repeat intro hb) <;> first|exact True.intro|refine Lf.mk ?_)))
      refine ⟨R.length - (i + 1), by omega, _, ?_, i + 1, by omega, by omega, fun j hj => ?_, rfl⟩
      · ((try simp only [List.length_append,List.length_cons,List.length_nil,Nat.zero_add]);refine Wk.intro [0] (by decide) (by decide) (by intro o ho;simp at ho ⊢ <;> omega) ?_ ?_ <;> repeat' (first|exact WkVL.nil|refine WkVL.cons ?_ ?_|exact WkV.top|exact WkV.imm rfl|exact WkV.imm (by simp)|exact WkV.optr rfl|exact WkV.own rfl (by simp)|exact WkV.nil_own (.inl rfl)|exact WkV.map rfl|(refine WkV.free ?_;simp [Free,FreeL] <;> assumption)|(refine WkV.free (fun _ _=>FreeL_nth ?_ _);simp [Free,FreeL];done)|refine WkV.agg ?_|refine WkV.tup ?_|refine WkV.fn ?_ ?_|exact WkO.dead|exact WkO.raw|refine WkO.ghost ?_|exact WkO.mpE rfl trivial|refine WkO.box ?_ rfl|refine WkO.arr ?_|refine And.intro ?_ (And.intro (by first|exact fun h=>h|exact fun _=>rfl|exact nofun) ?_)|exact trivial|(intro i j hi hj)))
      · by_cases hji : j = i
        · subst hji; exact hz
        · exact h2 j (by omega)
    · have hq : Q = true := by rw [← hQ]; exact opn_gv.2 ⟨i, hi, hz⟩
      subst hq
      generalize hw : v.add (gv R i) = w at c1 hz
      obtain ⟨w1, w2, w3, w4, w5, w6⟩ := w
      have hne : (w1 == 0 && (w2 == 0 && (w3 == 0 && (w4 == 0 && (w5 == 0 && w6 == 0))))) = false := by
        rw [Bool.eq_false_iff]
        intro hc
        simp only [Bool.and_eq_true, beq_iff_eq] at hc
        exact hz (P6.ext' hc.1 hc.2.1 hc.2.2.1 hc.2.2.2.1 hc.2.2.2.2.1 hc.2.2.2.2.2)
      clear hw
      (simp only [go_sem,↓reduceIte,Nat.reduceAdd,Nat.reduceSub,Nat.reduceMul,Nat.reduceLT,Nat.reduceLeDiff,Nat.reduceEqDiff,Nat.reduceGT,Int.reduceToNat,Int.reduceBEq,Int.reduceBNe];try simp (disch := omega) only [wrapI,wrapU,half_sum,toNat_sub1,toNat_add1,Int.toNat_natCast])
      (have cl1 := c1;have sx1 := hne;repeat' (first|with_reducible refine T_seq_drawT (id := 4) Γ_ok drawsAny pl58_4 (by kernel_rfl) (fun K hK=>?_)|with_reducible refine T_last_drawT (id := 4) Γ_ok drawsAny pl58_4 (by kernel_rfl) (fun K hK=>?_)|((refine goU1 _ _ _ _ _ _ _ _ _ _ _ _ ?_ ?_ ?_ ?_ ?_ ?_ ?_ ?_ ?_ ?_ ?_ ?_) <;> (repeat intro hb) <;> first|exact True.intro|refine Lf.mk ?_)))
  · obtain rfl : i = R.length := by omega
    have hq : Q = false := by
      rw [← hQ, Bool.eq_false_iff]
      intro h
      obtain ⟨j, h3, h4⟩ := opn_gv.1 h
      exact h4 (h2 j h3)
    subst hq
    (simp only [go_sem,↓reduceIte,Nat.reduceAdd,Nat.reduceSub,Nat.reduceMul,Nat.reduceLT,Nat.reduceLeDiff,Nat.reduceEqDiff,Nat.reduceGT,Int.reduceToNat,Int.reduceBEq,Int.reduceBNe];try simp (disch := omega) only [wrapI,wrapU,half_sum,toNat_sub1,toNat_add1,Int.toNat_natCast])
    (have sx1 := Nat.add_zero 0;repeat' (first|with_reducible refine T_seq_drawT (id := 4) Γ_ok drawsAny pl58_4 (by kernel_rfl) (fun K hK=>?_)|with_reducible refine T_last_drawT (id := 4) Γ_ok drawsAny pl58_4 (by kernel_rfl) (fun K hK=>?_)|((refine goU1 _ _ _ _ _ _ _ _ _ _ _ _ ?_ ?_ ?_ ?_ ?_ ?_ ?_ ?_ ?_ ?_ ?_ ?_) <;> (repeat intro hb) <;> first|exact True.intro|refine Lf.mk ?_)))
end Go.Proofs.Ytmglcamgpgkblaa
namespace Go.Proofs.Ytmglcamgpgkblaa
open Go.Ab
set_option maxRecDepth 100000 in
set_option maxHeartbeats 4000000 in
theorem rwith_raw (R : List P6) (v : P6) (hl : R.length ≤ 2) (a b c : AObj) (ha : a.isLive) (hb' : b.isLive) (hc' : c.isLive) : TC Try.prog 74 [vts R,p6A v] [a,b,c] (fun u σ1=>WkV [0,1,2] σ1 u (vts (putR R v)) ∧ ∃ s,σ1 = a :: b :: c :: s) := by
  have hbs : ∀ x : Int, (x == x) = true := fun x => beq_self_eq_true x
  generalize hQ : (fun (u : AV) (σ1 : List AObj) => WkV [0,1,2] σ1 u (vts (putR R v)) ∧ ∃ s,σ1 = a :: b :: c :: s) = Q
  match R, hl with
  | [], _ =>
    (refine TC_of_T Γ_ok Try.func74 rfl (by kernel_rfl) ?_;simp only [Try.ntmps74,Try.results74,List.length_cons,List.length_nil,Nat.reduceSub,Nat.reduceAdd,List.replicate,List.cons_append,List.nil_append])
    (have sx1 : (0 : Nat) + 0 = 0 := rfl;repeat' (first|with_reducible refine T_seq_drawT (id := 1) Γ_ok drawsAny pl74_1 (by kernel_rfl) (fun K hK=>?_)|with_reducible refine T_last_drawT (id := 1) Γ_ok drawsAny pl74_1 (by kernel_rfl) (fun K hK=>?_)|((refine goU1 _ _ _ _ _ _ _ _ _ _ _ _ ?_ ?_ ?_ ?_ ?_ ?_ ?_ ?_ ?_ ?_ ?_ ?_) <;> (repeat intro hb) <;> first|exact True.intro|refine Lf.mk ?_)))
    refine T_rounds 3 ?_
    (have sx1 : (0 : Nat) + 0 = 0 := rfl;repeat' (first|with_reducible refine T_seq_drawT (id := 1) Γ_ok drawsAny pl74_1 (by kernel_rfl) (fun K hK=>?_)|with_reducible refine T_last_drawT (id := 1) Γ_ok drawsAny pl74_1 (by kernel_rfl) (fun K hK=>?_)|((refine goU1 _ _ _ _ _ _ _ _ _ _ _ _ ?_ ?_ ?_ ?_ ?_ ?_ ?_ ?_ ?_ ?_ ?_ ?_) <;> (repeat intro hb) <;> first|exact True.intro|refine Lf.mk ?_)))
    rw [← hQ, show putR [] v = [v] from rfl]
    refine ⟨WkV.freeze (o := 5) rfl (by omega) (fun q hq => ?_) (fun i j hi hj => ?_), _, rfl⟩
    · rcases List.mem_cons.1 hq with rfl | hq
      · exact ⟨by omega, ha.alive⟩
      rcases List.mem_cons.1 hq with rfl | hq
      · exact ⟨by omega, hb'.alive⟩
      · rw [List.mem_singleton] at hq; subst hq; exact ⟨by omega, hc'.alive⟩
    · obtain rfl : i = 0 := by omega
      refine WkV.eqF ?_ (vtE_free _ _ _)
      show nth (p6L v) ((0 + 0) * 6 + j) = vtE [v] 0 j
      rw [show (0 + 0) * 6 + j = j by omega]
      rfl
  | [x], _ =>
    by_cases hx : x = v
    · subst hx
      have hg : gv [x] 0 = x := rfl
      (refine TC_of_T Γ_ok Try.func74 rfl (by kernel_rfl) ?_;simp only [Try.ntmps74,Try.results74,List.length_cons,List.length_nil,Nat.reduceSub,Nat.reduceAdd,List.replicate,List.cons_append,List.nil_append])
      (have sx1 := (And.intro hg hbs);repeat' (first|with_reducible refine T_seq_drawT (id := 1) Γ_ok drawsAny pl74_1 (by kernel_rfl) (fun K hK=>?_)|with_reducible refine T_last_drawT (id := 1) Γ_ok drawsAny pl74_1 (by kernel_rfl) (fun K hK=>?_)|((refine goU1 _ _ _ _ _ _ _ _ _ _ _ _ ?_ ?_ ?_ ?_ ?_ ?_ ?_ ?_ ?_ ?_ ?_ ?_) <;> (repeat intro hb) <;> first|exact True.intro|refine Lf.mk ?_)))
      rw [← hQ, show putR [x] x = [x] by simp [putR]]
      exact ⟨WkV.free (by simp [Free]), _, rfl⟩
    · have hne : (x.a == v.a && (x.b == v.b && (x.c == v.c && (x.d == v.d && (x.e == v.e && x.f == v.f))))) = false := by
        rw [Bool.eq_false_iff]
        intro hc
        simp only [Bool.and_eq_true, beq_iff_eq] at hc
        exact hx (P6.ext' hc.1 hc.2.1 hc.2.2.1 hc.2.2.2.1 hc.2.2.2.2.1 hc.2.2.2.2.2)
      have hg : gv [x] 0 = x := rfl
      (refine TC_of_T Γ_ok Try.func74 rfl (by kernel_rfl) ?_;simp only [Try.ntmps74,Try.results74,List.length_cons,List.length_nil,Nat.reduceSub,Nat.reduceAdd,List.replicate,List.cons_append,List.nil_append])
      (have sx1 := (And.intro hg hne);repeat' (first|with_reducible refine T_seq_drawT (id := 1) Γ_ok drawsAny pl74_1 (by kernel_rfl) (fun K hK=>?_)|with_reducible refine T_last_drawT (id := 1) Γ_ok drawsAny pl74_1 (by kernel_rfl) (fun K hK=>?_)|((refine goU1 _ _ _ _ _ _ _ _ _ _ _ _ ?_ ?_ ?_ ?_ ?_ ?_ ?_ ?_ ?_ ?_ ?_ ?_) <;> (repeat intro hb) <;> first|exact True.intro|refine Lf.mk ?_)))
      refine T_rounds 3 ?_
      (have sx1 := (And.intro hg hne);repeat' (first|with_reducible refine T_seq_drawT (id := 1) Γ_ok drawsAny pl74_1 (by kernel_rfl) (fun K hK=>?_)|with_reducible refine T_last_drawT (id := 1) Γ_ok drawsAny pl74_1 (by kernel_rfl) (fun K hK=>?_)|((refine goU1 _ _ _ _ _ _ _ _ _ _ _ _ ?_ ?_ ?_ ?_ ?_ ?_ ?_ ?_ ?_ ?_ ?_ ?_) <;> (repeat intro hb) <;> first|exact True.intro|refine Lf.mk ?_)))
      rw [← hQ, show putR [x] v = [x, v] by simp [putR, hx]]
      refine ⟨WkV.freeze (o := 7) rfl (by omega) (fun q hq => ?_) (fun i j hi hj => ?_), _, rfl⟩
      · rcases List.mem_cons.1 hq with rfl | hq
        · exact ⟨by omega, ha.alive⟩
        rcases List.mem_cons.1 hq with rfl | hq
        · exact ⟨by omega, hb'.alive⟩
        · rw [List.mem_singleton] at hq; subst hq; exact ⟨by omega, hc'.alive⟩
      · refine WkV.eqF ?_ (vtE_free _ _ _)
        rcases i with _ | _ | i
        · rcases j with _ | _ | _ | _ | _ | _ | j <;> first | rfl | omega
        · rcases j with _ | _ | _ | _ | _ | _ | j <;> first | rfl | omega
        · omega
  | [x, y], _ =>
    (refine TC_of_T Γ_ok Try.func74 rfl (by kernel_rfl) ?_;simp only [Try.ntmps74,Try.results74,List.length_cons,List.length_nil,Nat.reduceSub,Nat.reduceAdd,List.replicate,List.cons_append,List.nil_append])
    (have sx1 : (0 : Nat) + 0 = 0 := rfl;repeat' (first|with_reducible refine T_seq_drawT (id := 1) Γ_ok drawsAny pl74_1 (by kernel_rfl) (fun K hK=>?_)|with_reducible refine T_last_drawT (id := 1) Γ_ok drawsAny pl74_1 (by kernel_rfl) (fun K hK=>?_)|((refine goU1 _ _ _ _ _ _ _ _ _ _ _ _ ?_ ?_ ?_ ?_ ?_ ?_ ?_ ?_ ?_ ?_ ?_ ?_) <;> (repeat intro hb) <;> first|exact True.intro|refine Lf.mk ?_)))
    rw [← hQ, show putR [x, y] v = [x, y] by simp [putR]]
    exact ⟨WkV.free (by simp [Free]), _, rfl⟩
theorem rwith_peek (R : List P6) (v : P6) (hl : R.length ≤ 2) : PeekL Try.prog 3 74 [vts R,p6A v] (vts (putR R v)) := by
  refine ⟨fun σ0 h0 hal => ?_, by simp [Free]⟩
  obtain ⟨a, b, c, rfl⟩ : ∃ a b c, σ0 = [a, b, c] := by
    match σ0, h0 with
    | [a, b, c], _ => exact ⟨a, b, c, rfl⟩
  have ha := hal a (by simp)
  have hb := hal b (by simp)
  have hc := hal c (by simp)
  refine (rwith_raw R v hl a b c ha hb hc).weak fun u σ' ⟨hv,s,hs⟩ => ⟨[0,1,2],_,[a,b,c],rfl,by simp,by simp [hs],hv,?_,rfl,⟨[],rfl⟩⟩
  rw [hs]
  exact ⟨WkO.live ha, fun h => h, WkO.live hb, fun h => h, WkO.live hc, fun h => h, trivial⟩
end Go.Proofs.Ytmglcamgpgkblaa
