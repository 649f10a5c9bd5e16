/-
  matrix.minor: the closure that calls itself.
-/
import Derived.Test.YtngfnogoicfmaaaGreatDoorQGo
import Derived.Test.YtngfnogoicfmaaaGreatDoorQT4
import Derived.Test.YtngfnogoicfmaaaGreatDoorQA5
set_option linter.unusedSimpArgs false
set_option linter.unusedVariables false
namespace Go.Proofs.YtngfnogoicfmaaaGreatDoor
open Go.Ab
theorem WkV.rptr {π : List Nat} {σ : List AObj} {n : Nat} {cell cell2 : Nat → AV} (h : ∀ j,j < n → WkV π σ (cell j) (cell2 j)) : WkV π σ (.rptr n cell) (.rptr n cell2) := fun ρ w x hH hx => by
  simp only [Rv] at hx ⊢
  obtain ⟨ad, rfl, h1, h2, h3⟩ := hx
  refine ⟨ad, rfl, h1, fun hb => h2 (pull_has hb), fun j hj => ?_⟩
  obtain ⟨y, a, b, c⟩ := h3 j hj
  exact ⟨y, a, b, h j hj _ _ _ hH c⟩
theorem WkV.freezeB {π : List Nat} {σ : List AObj} {o n : Nat} {ety : TypeId} {cells : List AV} {cell2 : Nat → AV} (hob : nthO σ o = .box ety cells) (hn : n ≤ cells.length) (ho : ∀ q ∈ π,q ≠ o ∧ (nthO σ q).alive = true)
    (h : ∀ j, j < n → WkV π σ (nth cells j) (cell2 j)) : WkV π σ (.optr o 0 0) (.rptr n cell2) := fun ρ w x hH hx => by
  simp only [Rv] at hx ⊢
  obtain ⟨l, hl, rfl⟩ := hx
  obtain ⟨l2, c, hl2, q0, q1, q2, q3, q4, q5⟩ := hH.obj o _ (nthO_eq hob rfl)
  rw [hl] at hl2
  simp only [Option.some.injEq] at hl2
  subst hl2
  refine ⟨_, rfl, hH.lt o l hl, fun hb => ?_, fun j hj => ?_⟩
  · obtain ⟨o', l', hl', hb'⟩ := hb
    obtain ⟨q, hq, hlq⟩ := pull_inv hl'
    obtain ⟨g1, g2⟩ := ho q (List.mem_of_getElem? hq)
    exact hH.apart q o l' l _ _ g1 (nthO_eq rfl g2) g2 (nthO_eq hob rfl) rfl hlq hl hb'
  · obtain ⟨y, hy, hv⟩ := RvL.get q5 (nth_eq (Nat.lt_of_lt_of_le hj hn))
    refine ⟨y, ?_, q4 y (List.mem_of_getElem? hy), h j hj _ _ _ hH hv⟩
    rw [cell_plain q3]
    simpa [q0] using hy
def ntE (l : List Nat) (i _j : Nat) : AV := .imm (.int .i64 ((gNt l i : Nat) : Int))
@[go_sem] theorem ntE_eq (l : List Nat) (i j : Nat) : ntE l i j = .imm (.int .i64 ((gNt l i : Nat) : Int)) := rfl
@[simp] theorem ntE_free (l : List Nat) (i j : Nat) : Free (ntE l i j) := trivial
@[simp] theorem ntE_pl (l : List Nat) (i j : Nat) : Pl (ntE l i j) := trivial
@[go_sem, reducible] def nts (l : List Nat) : AV := .view l.length 1 (ntE l)
def usE (u : List Bool) (i _j : Nat) : AV := .imm (.bool (gU u i))
@[go_sem] theorem usE_eq (u : List Bool) (i j : Nat) : usE u i j = .imm (.bool (gU u i)) := rfl
@[simp] theorem usE_free (u : List Bool) (i j : Nat) : Free (usE u i j) := trivial
@[simp] theorem usE_pl (u : List Bool) (i j : Nat) : Pl (usE u i j) := trivial
@[go_sem, reducible] def usO (u : List Bool) : AObj := .arr 4 1 u.length (usE u)
@[go_sem, reducible] def cI (l : List Nat) : AV := .rptr 1 (fun _ => nts l)
@[go_sem, reducible] def cUs (n : Nat) : AV := .rptr 1 (fun _ => .own 0 0 n (some n))
@[go_sem, reducible] def cRw (l : List P6) : AV := .rptr 1 (fun _ => rowsV l)
def cEf (l : List P6) (is js : List Nat) : Nat → AV
  | 0 => .top
  | r + 1 => .fn (.func 99) [] [cI is, cI js, cUs js.length, cRw l, .rptr 1 (fun _ => cEf l is js r)]
@[go_sem] theorem cEf_succ (l : List P6) (is js : List Nat) (r : Nat) : cEf l is js (r + 1) = .fn (.func 99) [] [cI is,cI js,cUs js.length,cRw l,.rptr 1 (fun _ => cEf l is js r)] := rfl
@[go_sem, reducible] def cEp (l : List P6) (is js : List Nat) (r : Nat) : AV := .rptr 1 (fun _ => cEf l is js r)
theorem cUs_wk {π : List Nat} {σ : List AObj} (h : π[0]? = some 0) (n : Nat) : WkV π σ (cUs n) (cUs n) := WkV.rptr fun _ _ => WkV.own h (by simp)
theorem cEf_wk {π : List Nat} {σ : List AObj} (h : π[0]? = some 0) (l : List P6) (is js : List Nat) : ∀ r,WkV π σ (cEf l is js r) (cEf l is js r)
  | 0 => WkV.top
  | r + 1=>WkV.fn WkVL.nil (WkVL.cons (WkV.free (by simp [Free])) (WkVL.cons (WkV.free (by simp [Free])) (WkVL.cons (cUs_wk h _) (WkVL.cons (WkV.free (by simp [Free])) (WkVL.cons (WkV.rptr fun _ _=>cEf_wk h l is js r) WkVL.nil)))))
theorem usE_upd {u : List Bool} {k : Nat} (hk : k < u.length) (b : Bool) : ∀ i j,j < 1 → updE (usE u) k 0 [.imm (.bool b)] i j = usE (u.set k b) i j := fun i j hj => by
  obtain rfl : j = 0 := by omega
  unfold updE usE gU
  by_cases h : i = k
  · subst h
    rw [if_pos ⟨rfl, by omega, by simp⟩]
    simp [nth, hk]
  · rw [if_neg (fun hh => h hh.1)]
    simp [List.getElem?_set, Ne.symm h]
theorem set_back {u : List Bool} {k : Nat} (hk : k < u.length) (h : gU u k = false) : (u.set k true).set k false = u := by
  rw [List.set_set]
  refine List.ext_getElem (by simp) fun i h1 h2 => ?_
  rw [List.getElem_set]
  split
  · rename_i e; subst e
    unfold gU at h
    simpa [hk] using h.symm
  · rfl
set_option maxRecDepth 100000 in
set_option maxHeartbeats 4000000 in
theorem expand_tc (l : List P6) (is js : List Nat) (hb : ∀ p ∈ l,Bd6 48 p) (hi : ∀ i ∈ is,i < l.length) (hj : ∀ j ∈ js,j < 6) (h6 : is.length ≤ 6) (j6 : js.length ≤ 6) : ∀ (r i : Nat),i + r = is.length → ∀ u : List Bool,js.length = u.length →
    TC Tryz.prog 99 [.imm (.int .i64 (i : Int)),cI is,cI js,cUs js.length,cRw l,cEp l is js r] [usO u] (fun v σ'=>v = .imm (.int .i64 (det (rwL (rowsR l) (is.drop i)) (unU js u))) ∧ σ' = [usO u]) := by
  intro r
  induction r with
  | zero =>
    intro i hr u hu
    have e : is.drop i = [] := List.drop_of_length_le (by omega)
    have hlen : (i : Int) = (is.length : Int) := by omega
    rw [e]
    (refine TC_of_T Γ_ok Tryz.func99 rfl (by kernel_rfl) ?_;simp only [Tryz.ntmps99,Tryz.results99,List.length_cons,List.length_nil,Nat.reduceSub,Nat.reduceAdd,List.replicate,List.cons_append,List.nil_append])
    (((refine goR0 _ _ _ _ _ _ _ _ ?_ ?_ ?_ ?_ ?_ ?_ ?_ ?_) <;> (repeat intro hb) <;> first | exact True.intro | refine Lf.mk ?_))
    rfl
  | succ r ih =>
    intro i hr u hu
    have hlt : i < is.length := by omega
    have hgi : gNt is i < l.length := hi _ (by unfold gNt; simp [hlt])
    have hdr : rwL (rowsR l) (is.drop i) = rwP (gP l (gNt is i)) :: rwL (rowsR l) (is.drop (i + 1)) := by
      unfold rwL
      rw [drop_gNt hlt, List.map_cons, rowsR_at]
    have hF : ∀ cs : List Nat,cs.length ≤ 6 → -bdD 5 ≤ det (rwL (rowsR l) (is.drop (i + 1))) cs ∧ det (rwL (rowsR l) (is.drop (i + 1))) cs ≤ bdD 5 := fun cs hc => by
      have h := det_bd (rs := rwL (rowsR l) (is.drop (i + 1))) (fun q hq j => by
        obtain ⟨a, _, rfl⟩ := List.mem_map.1 hq
        rw [rowsR_at]
        exact rwP_bd (by decide) (gP_bd hb a) j) hc
      have h2 : (rwL (rowsR l) (is.drop (i + 1))).length ≤ 5 := by unfold rwL; simp; omega
      have h3 := bdD_le h2
      omega
    have hx : ∀ j, -48 ≤ rwP (gP l (gNt is i)) j ∧ rwP (gP l (gNt is i)) j ≤ 48 := rwP_bd (by decide) (gP_bd hb _)
    have ih1 := ih (i + 1) (by omega)
    rw [hdr, det]
    generalize hX : rwP (gP l (gNt is i)) = X at hx
    generalize det (rwL (rowsR l) (is.drop (i + 1))) = F at hF ih1
    have b5 : bdD 5 = 1981355655168 := by decide
    rw [b5] at hF
    have hlast : ∀ k s,(s = 1 ∨ s = -1) → -570630428688384 ≤ expS X F (preU js u k) s (resU js u k) ∧ expS X F (preU js u k) s (resU js u k) ≤ 570630428688384 := fun k s hs => by
      have hl := congrArg List.length (pre_res hu k)
      have hl2 := unU_len js u
      rw [List.length_append] at hl
      rw [expS_iota]
      have := iota_bd6 (x := X) (F := fun q => F (preU js u k ++ q)) (cs := resU js u k) (C := 1981355655168) (by decide) hx (by omega) fun q hq => hF _ (by rw [List.length_append];omega)
      rcases hs with rfl | rfl <;> omega
    have htot : -570630428688384 ≤ iota X F (unU js u) ∧ iota X F (unU js u) ≤ 570630428688384 := by
      have := iota_bd6 (x := X) (F := F) (cs := unU js u) (C := 1981355655168) (by decide) hx (Nat.le_trans (unU_len _ _) j6) fun q hq => hF _ (by have := unU_len js u;omega)
      omega
    (refine TC_of_T Γ_ok Tryz.func99 rfl (by kernel_rfl) ?_;simp only [Tryz.ntmps99,Tryz.results99,List.length_cons,List.length_nil,Nat.reduceSub,Nat.reduceAdd,List.replicate,List.cons_append,List.nil_append])
    (((refine goR0 _ _ _ _ _ _ _ _ ?_ ?_ ?_ ?_ ?_ ?_ ?_ ?_) <;> (repeat intro hb) <;> first | exact True.intro | refine Lf.mk ?_))
    have hel : js.length = u.length := hu
    refine T_loopW (fun m st => ∃ (k : Nat) (S s : Int),k ≤ js.length ∧ m + k = js.length ∧ (s = 1 ∨ s = -1) ∧ S + expS X F (preU js u k) s (resU js u k) = iota X F (unU js u) ∧
        st = ⟨[.imm (.int .i64 (i : Int)),cI is,cI js,cUs js.length,cRw l,cEp l is js (r + 1),.top,.imm (.int .i64 0),.imm (.int .i64 S),.imm (.int .i64 s)] ++ List.replicate 7 .top ++ [nts js,.imm (.int .i64 js.length),.imm (.int .i64 k)] ++ List.replicate 39 .top,[usO u]⟩)
      js.length ⟨_, ?_, 0, 0, 1, by omega, rfl, .inl rfl, ?_, rfl⟩ ?_
    · ((try simp only [List.length_append,List.length_cons,List.length_nil,Nat.zero_add]);refine Wk.intro [0] (by decide) (by decide) (by intro o ho;simp at ho ⊢ <;> omega) ?_ ?_ <;> repeat' (first|(exact cUs_wk rfl _)|(exact WkV.rptr fun _ _=>cEf_wk rfl l is js (r + 1))|exact WkVL.nil|refine WkVL.cons ?_ ?_|exact WkV.top|exact WkV.imm rfl|exact WkV.imm (by simp)|exact WkV.optr rfl|exact WkV.own rfl (by simp)|exact WkV.nil_own (.inl rfl)|exact WkV.map rfl|(refine WkV.free ?_;simp [Free,FreeL] <;> assumption)|(refine WkV.free (fun _ _=>FreeL_nth ?_ _);simp [Free,FreeL];done)|refine WkV.agg ?_|refine WkV.tup ?_|refine WkV.fn ?_ ?_|exact WkO.dead|exact WkO.raw|refine WkO.ghost ?_|exact WkO.mpE rfl trivial|refine WkO.box ?_ rfl|refine WkO.arr ?_|refine And.intro ?_ (And.intro (by first|exact fun h=>h|exact fun _=>rfl|exact nofun) ?_)|exact trivial|(intro i j hi hj)))
    · rw [show preU js u 0 = [] from rfl, show resU js u 0 = unU js u from rfl, expS_iota]
      simp
    rintro m st ⟨k, S, s, h0, h1, hs, hinv, rfl⟩
    (simp only [go_sem,↓reduceIte,Nat.reduceAdd,Nat.reduceSub,Nat.reduceMul,Nat.reduceLT,Nat.reduceLeDiff,Nat.reduceEqDiff,Nat.reduceGT,Int.reduceToNat,Int.reduceBEq,Int.reduceBNe];try simp (disch := omega) only [wrapI,wrapU,half_sum,toNat_sub1,toNat_add1,Int.toNat_natCast])
    by_cases hk : k < js.length
    · have hjk : gNt js k < 6 := hj _ (by unfold gNt; simp [hk])
      have hpx : p6E l (gNt is i) (gNt js k * 1) = .imm (.int .i64 (X (gNt js k))) := by rw [Nat.mul_one,p6E_at l _ hjk,hX]
      have hps := preU_s hu hk
      have hrs := resU_s hu hk
      have hbS := hlast k s hs
      have hxk := hx (gNt js k)
      cases hg : gU u k with
      | true =>
        rw [hg, if_pos rfl] at hps hrs
        (have sx1 := hg;have sx2 : (0 : Nat) + 0 = 0 := rfl;repeat' (first|with_reducible refine T_seq_drawT (id := 8) Γ_ok drawsAny pl99_8 (by kernel_rfl) (fun K hK=>?_)|with_reducible refine T_last_drawT (id := 8) Γ_ok drawsAny pl99_8 (by kernel_rfl) (fun K hK=>?_)|((have sx3 : (0 : Nat) + 0 = 0 := rfl;have sx4 : (0 : Nat) + 0 = 0 := rfl;have sx5 : (0 : Nat) + 0 = 0 := rfl;have sx6 : (0 : Nat) + 0 = 0 := rfl;have sx7 : (0 : Nat) + 0 = 0 := rfl;have sx8 : (0 : Nat) + 0 = 0 := rfl;have sx9 : (0 : Nat) + 0 = 0 := rfl;refine goR9 _ _ _ _ _ _ _ _ ?_ ?_ ?_ ?_ ?_ ?_ ?_ ?_) <;> (repeat intro hb) <;> first|exact True.intro|refine Lf.mk ?_)))
        refine ⟨js.length - (k + 1),by omega,_,?_,k + 1,S,s,by omega,by omega,hs,by rw [hps,← hrs];exact hinv,rfl⟩
        ((try simp only [List.length_append,List.length_cons,List.length_nil,Nat.zero_add]);refine Wk.intro [0] (by decide) (by decide) (by intro o ho;simp at ho ⊢ <;> omega) ?_ ?_ <;> repeat' (first|(exact cUs_wk rfl _)|(exact WkV.rptr fun _ _=>cEf_wk rfl l is js (r + 1))|exact WkVL.nil|refine WkVL.cons ?_ ?_|exact WkV.top|exact WkV.imm rfl|exact WkV.imm (by simp)|exact WkV.optr rfl|exact WkV.own rfl (by simp)|exact WkV.nil_own (.inl rfl)|exact WkV.map rfl|(refine WkV.free ?_;simp [Free,FreeL] <;> assumption)|(refine WkV.free (fun _ _=>FreeL_nth ?_ _);simp [Free,FreeL];done)|refine WkV.agg ?_|refine WkV.tup ?_|refine WkV.fn ?_ ?_|exact WkO.dead|exact WkO.raw|refine WkO.ghost ?_|exact WkO.mpE rfl trivial|refine WkO.box ?_ rfl|refine WkO.arr ?_|refine And.intro ?_ (And.intro (by first|exact fun h=>h|exact fun _=>rfl|exact nofun) ?_)|exact trivial|(intro i j hi hj)))
      | false =>
        rw [hg, if_neg (by simp)] at hps hrs
        have hb1 := hlast (k + 1) (-s) (by omega)
        rw [hrs, expS, ← hps] at hinv
        have hun := unU_set hu hk
        have hvl : (u.set k true).length = u.length := by simp
        have hu1 := usE_upd (u := u) (k := k) (by omega) true
        have hu2 := usE_upd (u := u.set k true) (k := k) (by omega) false
        rw [set_back (by omega) hg] at hu2
        have hbF := hF (preU js u k ++ resU js u (k + 1)) (by rw [← hun]; exact Nat.le_trans (unU_len _ _) j6)
        generalize u.set k true = v at *
        have ih2 := ih1 v (by omega)
        unfold usO at ih2
        rw [hvl, hun] at ih2
        have hT : Turns Tryz.prog 99 _ _ _ _ := ⟨ih2,trivial,fun a ha => by simp only [List.mem_cons,List.not_mem_nil,or_false] at ha;subst ha;exact fun i j => usE_pl _ i j⟩
        generalize F (preU js u k ++ resU js u (k + 1)) = f at *
        have hmb := mul_bd hxk hbF (by decide) (by decide)
        clear ih ih1 ih2
        rcases hs with rfl | rfl
        · rw [Int.one_mul] at hinv
          repeat' (first
    | (with_reducible refine hK _ ?_; clear hK K)
    | ((with_reducible refine callGoal_turns [0] ?_ hT ?_ ?_ ?_ ?_ ?_);(focus (first|exact trivial|(simp only [go_sem,and_self];done)|(simp only [go_sem];omega)));(focus decide);(focus (simp [nthO,AObj.alive]));(focus ((repeat' (first|(first|exact cUs_wk rfl _|exact WkV.rptr fun _ _=>cEf_wk rfl l is js r)|exact WkVL.nil|refine WkVL.cons ?_ ?_|exact WkV.top|exact WkV.imm rfl|exact WkV.imm (by simp)|exact WkV.optr rfl|exact WkV.own rfl (by simp)|exact WkV.nil_own (.inl rfl)|exact WkV.map rfl|(refine WkV.free ?_;simp [Free,FreeL] <;> assumption)|(refine WkV.free (fun _ _=>FreeL_nth ?_ _);simp [Free,FreeL];done)|refine WkV.agg ?_|refine WkV.tup ?_|refine WkV.fn ?_ ?_|exact WkO.dead|exact WkO.raw|refine WkO.ghost ?_|exact WkO.mpE rfl trivial|refine WkO.box ?_ rfl|refine WkO.arr ?_|refine And.intro ?_ (And.intro (by first|exact fun h=>h|exact fun _=>rfl|exact nofun) ?_)|exact trivial|(intro i j hi hj)))));(focus ((repeat' (first|(exact WkV.eqF (hu1 _ _ hj) (by simp))|exact WkVL.nil|refine WkVL.cons ?_ ?_|exact WkV.top|exact WkV.imm rfl|exact WkV.imm (by simp)|exact WkV.optr rfl|exact WkV.own rfl (by simp)|exact WkV.nil_own (.inl rfl)|exact WkV.map rfl|(refine WkV.free ?_;simp [Free,FreeL] <;> assumption)|(refine WkV.free (fun _ _=>FreeL_nth ?_ _);simp [Free,FreeL];done)|refine WkV.agg ?_|refine WkV.tup ?_|refine WkV.fn ?_ ?_|exact WkO.dead|exact WkO.raw|refine WkO.ghost ?_|exact WkO.mpE rfl trivial|refine WkO.box ?_ rfl|refine WkO.arr ?_|refine And.intro ?_ (And.intro (by first|exact fun h=>h|exact fun _=>rfl|exact nofun) ?_)|exact trivial|(intro i j hi hj)))));(simp only [go_sem,↓reduceIte,Nat.reduceAdd,Nat.reduceSub,Nat.reduceMul,Nat.reduceLT,Nat.reduceLeDiff,Nat.reduceEqDiff,Nat.reduceGT,Int.reduceToNat,Int.reduceBEq,Int.reduceBNe];try simp (disch := omega) only [wrapI,wrapU,half_sum,toNat_sub1,toNat_add1,Int.toNat_natCast]))
    | ((with_reducible apply DC_call);(focus exact rfl);(focus exact rfl);(focus exact rfl);intro N hN;(simp only [go_sem,hg,hpx,Int.one_mul,↓reduceIte,Nat.reduceAdd,Nat.reduceSub,Nat.reduceMul,Nat.reduceLT,Nat.reduceLeDiff,Nat.reduceEqDiff,Nat.reduceGT,Int.reduceToNat,Int.reduceBEq,Int.reduceBNe];try simp (disch := omega) only [wrapI,wrapU,half_sum,toNat_sub1,toNat_add1,Int.toNat_natCast]))
    | ((with_reducible first|refine T_seq_region Γ_ok (fun K hK=>?_)|refine T_last_region Γ_ok (fun K hK=>?_)|refine T_seq_draw (id := 8) Γ_ok drawsAny [(0,[],[]),(1,[],[]),(2,[],[]),(3,[1,2],[]),(4,[1,2,3],[]),(5,[],[]),(6,[0,1,2,3,4],[]),(7,[0,1,2,3,4,5,6],[]),(8,[0,1,2,3,4,5,6,7],[]),(9,[0,1,2,3,4,5,6,7,8],[])] (by kernel_rfl) (fun K hK=>?_)|refine T_last_draw (id := 8) Γ_ok drawsAny [(0,[],[]),(1,[],[]),(2,[],[]),(3,[1,2],[]),(4,[1,2,3],[]),(5,[],[]),(6,[0,1,2,3,4],[]),(7,[0,1,2,3,4,5,6],[]),(8,[0,1,2,3,4,5,6,7],[]),(9,[0,1,2,3,4,5,6,7,8],[])] (by kernel_rfl) (fun K hK=>?_)|refine TO_callN rfl (fun N hN=>?_)|refine DCT_fork Γ_ok (fun K2 hK2=>?_)|refine DCT_last Γ_ok ?_|refine DC_ev Γ_ok ?_|refine TO_ev Γ_ok ?_|refine retQ_r ?_|refine retQ_n ?_);(simp only [go_sem,hg,hpx,Int.one_mul,↓reduceIte,Nat.reduceAdd,Nat.reduceSub,Nat.reduceMul,Nat.reduceLT,Nat.reduceLeDiff,Nat.reduceEqDiff,Nat.reduceGT,Int.reduceToNat,Int.reduceBEq,Int.reduceBNe];try simp (disch := omega) only [wrapI,wrapU,half_sum,toNat_sub1,toNat_add1,Int.toNat_natCast]))
    | (with_reducible refine hK2 _ ?_ ?_ <;> clear hK2 K2)
    | with_reducible refine gC_false ?_ | with_reducible refine gC_true ?_ | with_reducible refine dCall_true ?_
    | (with_reducible refine hN _ _ ?_; clear hN N)
    | (with_reducible refine hN _ _ (dInl rfl) ?_; clear hN N)
    | ((with_reducible refine hN _ _ (.inr ?_) ?_);(focus (simp only [go_sem,hg,hpx,Int.one_mul,↓reduceIte,Nat.reduceAdd,Nat.reduceSub,Nat.reduceMul,Nat.reduceLT,Nat.reduceLeDiff,Nat.reduceEqDiff,Nat.reduceGT,Int.reduceToNat,Int.reduceBEq,Int.reduceBNe];try simp (disch := omega) only [wrapI,wrapU,half_sum,toNat_sub1,toNat_add1,Int.toNat_natCast]));all_goals (try clear hN N))
    | with_reducible refine T_seq ?_|with_reducible refine T_block ?_|with_reducible refine T_ret ?_|with_reducible refine T_exit ?_|with_reducible refine T_skip ?_|with_reducible refine T_label ?_
    | with_reducible refine thenQ_n ?_|with_reducible refine thenQ_e ?_|with_reducible refine thenQ_r ?_|with_reducible refine blockQ_n ?_|with_reducible refine blockQ_e ?_|with_reducible refine blockQ_r ?_
    | with_reducible refine blockQ_o (by decide) ?_
    | ((with_reducible refine T_cond _ rfl (fun hb=>?_) (fun hb=>?_)) <;> first|(cases hb;done)|(simp only [decide_eq_true_eq,decide_eq_false_iff_not,Bool.and_eq_true,Bool.or_eq_true,Bool.and_eq_false_imp,Bool.or_eq_false_iff,Bool.not_eq_true',Bool.not_eq_false',beq_iff_eq,bne_iff_ne,ne_eq,beq_eq_false_iff_ne,bne_eq_false_iff_eq,Int.not_lt,Int.not_le,ge_iff_le,gt_iff_lt] at hb)|skip)
    | (with_reducible refine And.intro (by first | exact trivial | omega | (intro hg;simp at hg ⊢ <;> omega) | (simp <;> omega)) ?_)
    | assumption | omega)
          · refine ⟨js.length - (k + 1),by omega,_,?_,k + 1,S + X (gNt js k) * f,(-1),by omega,by omega,.inr rfl,?_,rfl⟩
            · ((try simp only [List.length_append,List.length_cons,List.length_nil,Nat.zero_add]);refine Wk.intro [0] (by decide) (by decide) (by intro o ho;simp at ho ⊢ <;> omega) ?_ ?_ <;> repeat' (first|(exact cUs_wk rfl _)|(exact WkV.rptr fun _ _=>cEf_wk rfl l is js (r + 1))|(exact WkV.eqF (hu2 _ _ hj) (by simp))|exact WkVL.nil|refine WkVL.cons ?_ ?_|exact WkV.top|exact WkV.imm rfl|exact WkV.imm (by simp)|exact WkV.optr rfl|exact WkV.own rfl (by simp)|exact WkV.nil_own (.inl rfl)|exact WkV.map rfl|(refine WkV.free ?_;simp [Free,FreeL] <;> assumption)|(refine WkV.free (fun _ _=>FreeL_nth ?_ _);simp [Free,FreeL];done)|refine WkV.agg ?_|refine WkV.tup ?_|refine WkV.fn ?_ ?_|exact WkO.dead|exact WkO.raw|refine WkO.ghost ?_|exact WkO.mpE rfl trivial|refine WkO.box ?_ rfl|refine WkO.arr ?_|refine And.intro ?_ (And.intro (by first|exact fun h=>h|exact fun _=>rfl|exact nofun) ?_)|exact trivial|(intro i j hi hj)))
            · omega
          · refine ⟨js.length - (k + 1), by omega, _, ?_, k + 1, S, (-1), by omega, by omega, .inr rfl, ?_, rfl⟩
            · ((try simp only [List.length_append,List.length_cons,List.length_nil,Nat.zero_add]);refine Wk.intro [0] (by decide) (by decide) (by intro o ho;simp at ho ⊢ <;> omega) ?_ ?_ <;> repeat' (first|(exact cUs_wk rfl _)|(exact WkV.rptr fun _ _=>cEf_wk rfl l is js (r + 1))|exact WkVL.nil|refine WkVL.cons ?_ ?_|exact WkV.top|exact WkV.imm rfl|exact WkV.imm (by simp)|exact WkV.optr rfl|exact WkV.own rfl (by simp)|exact WkV.nil_own (.inl rfl)|exact WkV.map rfl|(refine WkV.free ?_;simp [Free,FreeL] <;> assumption)|(refine WkV.free (fun _ _=>FreeL_nth ?_ _);simp [Free,FreeL];done)|refine WkV.agg ?_|refine WkV.tup ?_|refine WkV.fn ?_ ?_|exact WkO.dead|exact WkO.raw|refine WkO.ghost ?_|exact WkO.mpE rfl trivial|refine WkO.box ?_ rfl|refine WkO.arr ?_|refine And.intro ?_ (And.intro (by first|exact fun h=>h|exact fun _=>rfl|exact nofun) ?_)|exact trivial|(intro i j hi hj)))
            · have hz : X (gNt js k) = 0 := by assumption
              rw [hz] at hinv
              simp only [Int.mul_zero, Int.zero_mul, Int.zero_add, Int.neg_zero] at hinv
              exact hinv
        · rw [Int.neg_mul, Int.neg_mul, Int.one_mul] at hinv
          repeat' (first
    | (with_reducible refine hK _ ?_; clear hK K)
    | ((with_reducible refine callGoal_turns [0] ?_ hT ?_ ?_ ?_ ?_ ?_);(focus (first|exact trivial|(simp only [go_sem,and_self];done)|(simp only [go_sem];omega)));(focus decide);(focus (simp [nthO,AObj.alive]));(focus ((repeat' (first|(first|exact cUs_wk rfl _|exact WkV.rptr fun _ _=>cEf_wk rfl l is js r)|exact WkVL.nil|refine WkVL.cons ?_ ?_|exact WkV.top|exact WkV.imm rfl|exact WkV.imm (by simp)|exact WkV.optr rfl|exact WkV.own rfl (by simp)|exact WkV.nil_own (.inl rfl)|exact WkV.map rfl|(refine WkV.free ?_;simp [Free,FreeL] <;> assumption)|(refine WkV.free (fun _ _=>FreeL_nth ?_ _);simp [Free,FreeL];done)|refine WkV.agg ?_|refine WkV.tup ?_|refine WkV.fn ?_ ?_|exact WkO.dead|exact WkO.raw|refine WkO.ghost ?_|exact WkO.mpE rfl trivial|refine WkO.box ?_ rfl|refine WkO.arr ?_|refine And.intro ?_ (And.intro (by first|exact fun h=>h|exact fun _=>rfl|exact nofun) ?_)|exact trivial|(intro i j hi hj)))));(focus ((repeat' (first|(exact WkV.eqF (hu1 _ _ hj) (by simp))|exact WkVL.nil|refine WkVL.cons ?_ ?_|exact WkV.top|exact WkV.imm rfl|exact WkV.imm (by simp)|exact WkV.optr rfl|exact WkV.own rfl (by simp)|exact WkV.nil_own (.inl rfl)|exact WkV.map rfl|(refine WkV.free ?_;simp [Free,FreeL] <;> assumption)|(refine WkV.free (fun _ _=>FreeL_nth ?_ _);simp [Free,FreeL];done)|refine WkV.agg ?_|refine WkV.tup ?_|refine WkV.fn ?_ ?_|exact WkO.dead|exact WkO.raw|refine WkO.ghost ?_|exact WkO.mpE rfl trivial|refine WkO.box ?_ rfl|refine WkO.arr ?_|refine And.intro ?_ (And.intro (by first|exact fun h=>h|exact fun _=>rfl|exact nofun) ?_)|exact trivial|(intro i j hi hj)))));(simp only [go_sem,↓reduceIte,Nat.reduceAdd,Nat.reduceSub,Nat.reduceMul,Nat.reduceLT,Nat.reduceLeDiff,Nat.reduceEqDiff,Nat.reduceGT,Int.reduceToNat,Int.reduceBEq,Int.reduceBNe];try simp (disch := omega) only [wrapI,wrapU,half_sum,toNat_sub1,toNat_add1,Int.toNat_natCast]))
    | ((with_reducible apply DC_call);(focus exact rfl);(focus exact rfl);(focus exact rfl);intro N hN;(simp only [go_sem,hg,hpx,Int.neg_mul,Int.one_mul,↓reduceIte,Nat.reduceAdd,Nat.reduceSub,Nat.reduceMul,Nat.reduceLT,Nat.reduceLeDiff,Nat.reduceEqDiff,Nat.reduceGT,Int.reduceToNat,Int.reduceBEq,Int.reduceBNe];try simp (disch := omega) only [wrapI,wrapU,half_sum,toNat_sub1,toNat_add1,Int.toNat_natCast]))
    | ((with_reducible first|refine T_seq_region Γ_ok (fun K hK=>?_)|refine T_last_region Γ_ok (fun K hK=>?_)|refine T_seq_draw (id := 8) Γ_ok drawsAny [(0,[],[]),(1,[],[]),(2,[],[]),(3,[1,2],[]),(4,[1,2,3],[]),(5,[],[]),(6,[0,1,2,3,4],[]),(7,[0,1,2,3,4,5,6],[]),(8,[0,1,2,3,4,5,6,7],[]),(9,[0,1,2,3,4,5,6,7,8],[])] (by kernel_rfl) (fun K hK=>?_)|refine T_last_draw (id := 8) Γ_ok drawsAny [(0,[],[]),(1,[],[]),(2,[],[]),(3,[1,2],[]),(4,[1,2,3],[]),(5,[],[]),(6,[0,1,2,3,4],[]),(7,[0,1,2,3,4,5,6],[]),(8,[0,1,2,3,4,5,6,7],[]),(9,[0,1,2,3,4,5,6,7,8],[])] (by kernel_rfl) (fun K hK=>?_)|refine TO_callN rfl (fun N hN=>?_)|refine DCT_fork Γ_ok (fun K2 hK2=>?_)|refine DCT_last Γ_ok ?_|refine DC_ev Γ_ok ?_|refine TO_ev Γ_ok ?_|refine retQ_r ?_|refine retQ_n ?_);(simp only [go_sem,hg,hpx,Int.neg_mul,Int.one_mul,↓reduceIte,Nat.reduceAdd,Nat.reduceSub,Nat.reduceMul,Nat.reduceLT,Nat.reduceLeDiff,Nat.reduceEqDiff,Nat.reduceGT,Int.reduceToNat,Int.reduceBEq,Int.reduceBNe];try simp (disch := omega) only [wrapI,wrapU,half_sum,toNat_sub1,toNat_add1,Int.toNat_natCast]))
    | (with_reducible refine hK2 _ ?_ ?_ <;> clear hK2 K2)
    | with_reducible refine gC_false ?_ | with_reducible refine gC_true ?_ | with_reducible refine dCall_true ?_
    | (with_reducible refine hN _ _ ?_; clear hN N)
    | (with_reducible refine hN _ _ (dInl rfl) ?_; clear hN N)
    | ((with_reducible refine hN _ _ (.inr ?_) ?_);(focus (simp only [go_sem,hg,hpx,Int.neg_mul,Int.one_mul,↓reduceIte,Nat.reduceAdd,Nat.reduceSub,Nat.reduceMul,Nat.reduceLT,Nat.reduceLeDiff,Nat.reduceEqDiff,Nat.reduceGT,Int.reduceToNat,Int.reduceBEq,Int.reduceBNe];try simp (disch := omega) only [wrapI,wrapU,half_sum,toNat_sub1,toNat_add1,Int.toNat_natCast]));all_goals (try clear hN N))
    | with_reducible refine T_seq ?_|with_reducible refine T_block ?_|with_reducible refine T_ret ?_|with_reducible refine T_exit ?_|with_reducible refine T_skip ?_|with_reducible refine T_label ?_
    | with_reducible refine thenQ_n ?_|with_reducible refine thenQ_e ?_|with_reducible refine thenQ_r ?_|with_reducible refine blockQ_n ?_|with_reducible refine blockQ_e ?_|with_reducible refine blockQ_r ?_
    | with_reducible refine blockQ_o (by decide) ?_
    | ((with_reducible refine T_cond _ rfl (fun hb=>?_) (fun hb=>?_)) <;> first|(cases hb;done)|(simp only [decide_eq_true_eq,decide_eq_false_iff_not,Bool.and_eq_true,Bool.or_eq_true,Bool.and_eq_false_imp,Bool.or_eq_false_iff,Bool.not_eq_true',Bool.not_eq_false',beq_iff_eq,bne_iff_ne,ne_eq,beq_eq_false_iff_ne,bne_eq_false_iff_eq,Int.not_lt,Int.not_le,ge_iff_le,gt_iff_lt] at hb)|skip)
    | (with_reducible refine And.intro (by first | exact trivial | omega | (intro hg;simp at hg ⊢ <;> omega) | (simp <;> omega)) ?_)
    | assumption | omega)
          · refine ⟨js.length - (k + 1),by omega,_,?_,k + 1,S + -(X (gNt js k) * f),1,by omega,by omega,.inl rfl,?_,rfl⟩
            · ((try simp only [List.length_append,List.length_cons,List.length_nil,Nat.zero_add]);refine Wk.intro [0] (by decide) (by decide) (by intro o ho;simp at ho ⊢ <;> omega) ?_ ?_ <;> repeat' (first|(exact cUs_wk rfl _)|(exact WkV.rptr fun _ _=>cEf_wk rfl l is js (r + 1))|(exact WkV.eqF (hu2 _ _ hj) (by simp))|exact WkVL.nil|refine WkVL.cons ?_ ?_|exact WkV.top|exact WkV.imm rfl|exact WkV.imm (by simp)|exact WkV.optr rfl|exact WkV.own rfl (by simp)|exact WkV.nil_own (.inl rfl)|exact WkV.map rfl|(refine WkV.free ?_;simp [Free,FreeL] <;> assumption)|(refine WkV.free (fun _ _=>FreeL_nth ?_ _);simp [Free,FreeL];done)|refine WkV.agg ?_|refine WkV.tup ?_|refine WkV.fn ?_ ?_|exact WkO.dead|exact WkO.raw|refine WkO.ghost ?_|exact WkO.mpE rfl trivial|refine WkO.box ?_ rfl|refine WkO.arr ?_|refine And.intro ?_ (And.intro (by first|exact fun h=>h|exact fun _=>rfl|exact nofun) ?_)|exact trivial|(intro i j hi hj)))
            · rw [show (1 : Int) = - -1 from rfl]; omega
          · refine ⟨js.length - (k + 1), by omega, _, ?_, k + 1, S, 1, by omega, by omega, .inl rfl, ?_, rfl⟩
            · ((try simp only [List.length_append,List.length_cons,List.length_nil,Nat.zero_add]);refine Wk.intro [0] (by decide) (by decide) (by intro o ho;simp at ho ⊢ <;> omega) ?_ ?_ <;> repeat' (first|(exact cUs_wk rfl _)|(exact WkV.rptr fun _ _=>cEf_wk rfl l is js (r + 1))|exact WkVL.nil|refine WkVL.cons ?_ ?_|exact WkV.top|exact WkV.imm rfl|exact WkV.imm (by simp)|exact WkV.optr rfl|exact WkV.own rfl (by simp)|exact WkV.nil_own (.inl rfl)|exact WkV.map rfl|(refine WkV.free ?_;simp [Free,FreeL] <;> assumption)|(refine WkV.free (fun _ _=>FreeL_nth ?_ _);simp [Free,FreeL];done)|refine WkV.agg ?_|refine WkV.tup ?_|refine WkV.fn ?_ ?_|exact WkO.dead|exact WkO.raw|refine WkO.ghost ?_|exact WkO.mpE rfl trivial|refine WkO.box ?_ rfl|refine WkO.arr ?_|refine And.intro ?_ (And.intro (by first|exact fun h=>h|exact fun _=>rfl|exact nofun) ?_)|exact trivial|(intro i j hi hj)))
            · have hz : X (gNt js k) = 0 := by assumption
              rw [hz] at hinv
              simp only [Int.mul_zero, Int.zero_mul, Int.zero_add, Int.neg_zero] at hinv
              exact hinv
    · have hke : k = js.length := by omega
      have e : resU js u k = [] := by unfold resU; rw [List.drop_of_length_le (by omega)]; rfl
      rw [e, expS] at hinv
      rw [← hinv, Int.add_zero]
      (((refine goR0 _ _ _ _ _ _ _ _ ?_ ?_ ?_ ?_ ?_ ?_ ?_ ?_) <;> (repeat intro hb) <;> first | exact True.intro | refine Lf.mk ?_))
end Go.Proofs.YtngfnogoicfmaaaGreatDoor
