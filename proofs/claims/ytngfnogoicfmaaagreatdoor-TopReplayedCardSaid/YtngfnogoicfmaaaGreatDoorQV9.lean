/-
  Parts joined: T18 T19.
-/
import Derived.Test.YtngfnogoicfmaaaGreatDoorQGo
import Derived.Test.YtngfnogoicfmaaaGreatDoorQV8
set_option linter.unusedSimpArgs false
set_option linter.unusedVariables false
namespace Go.Proofs.YtngfnogoicfmaaaGreatDoor
open Go.Ab
theorem nt_snoc0 (l : List Nat) (x : Nat) {i j : Nat} (h : i < l.length + 1) (hj : j < 1) : catE l.length (fun i j=>catE 0 (fun _ _=>AV.top) (fun i _=>.imm (.int .i64 ((gNt l i : Nat) : Int))) i j) (fun i j=>nth [AV.imm (.int .i64 ((x : Nat) : Int))] (i * 1 + j)) i j = ntE (l ++ [x]) i j := by
  have ec : ∀ i j,catE 0 (fun _ _ => AV.top) (fun i _ => .imm (.int .i64 ((gNt l i : Nat) : Int))) i j = ntE l i j := fun i j => by unfold catE ntE;rw [if_neg (by omega)];rfl
  simp only [ec]
  exact nt_snoc l x h hj
@[go_sem,reducible] def bsC (a b : Nat) (is js : List Nat) : List AV := [.own a 0 is.length none,.own b 0 js.length none]
set_option maxRecDepth 100000 in
set_option maxHeartbeats 8000000 in
theorem greedy_raw (l : List P6) (hbd : ∀ p ∈ l,Bd6 48 p) (hl : l.length ≤ 1000) : TC Tryz.prog 44 [rowsV l,nts [0,1,2,3,4,5]] [] (fun v σ'=>∃ o0 o1 t,v = .agg (bsC 2 3 (frmP (rowsR l)).1 (frmP (rowsR l)).2) ∧ σ' = o0 :: o1 :: ntO (frmP (rowsR l)).1 :: ntO (frmP (rowsR l)).2 :: t) := by
  have hrl : (rowsR l).length = l.length := by simp [rowsR]
  (refine TC_of_T Γ_ok Tryz.func44 rfl (by kernel_rfl) ?_;simp only [Tryz.ntmps44,Tryz.results44,List.length_cons,List.length_nil,Nat.reduceSub,Nat.reduceAdd,List.replicate,List.cons_append,List.nil_append])
  (((refine goR0 _ _ _ _ _ _ _ _ ?_ ?_ ?_ ?_ ?_ ?_ ?_ ?_) <;> (repeat intro hb) <;> first | exact True.intro | refine Lf.mk ?_))
  refine T_loopW (fun m st => ∃ (k : Nat),k ≤ 6 ∧ m + k = 6 ∧ st = ⟨[rowsV l,nts [0,1,2,3,4,5],.top,.top,.optr 0 0 0,.optr 1 0 0,.imm (.int .i64 k)] ++ List.replicate 41 .top,
      [.box 93 [.imm (.slice none 0 0),.imm (.slice none 0 0)],.box 93 (bsC 2 3 (frK (rowsR l) k).1 (frK (rowsR l) k).2),ntO (frK (rowsR l) k).1,ntO (frK (rowsR l) k).2]⟩)
    6 ⟨_, Wk.trans (Wk.push 3 1 (ntE [])) (Wk.trans (Wk.push 3 1 (ntE [])) ?_), 0, by omega, rfl, rfl⟩ ?_
  · ((try simp only [List.length_append,List.length_cons,List.length_nil,Nat.zero_add]);refine Wk.intro [0,1,2,3] (by decide) (by decide) (by intro o ho;simp at ho ⊢ <;> omega) ?_ ?_ <;> repeat' (first|exact WkVL.nil|refine WkVL.cons ?_ ?_|exact WkV.top|exact WkV.imm rfl|exact WkV.imm (by simp)|exact WkV.optr rfl|exact WkV.own rfl (by simp)|exact WkV.nil_own (.inl rfl)|exact WkV.map rfl|(refine WkV.free ?_;simp [Free,FreeL] <;> assumption)|(refine WkV.free (fun _ _=>FreeL_nth ?_ _);simp [Free,FreeL];done)|refine WkV.agg ?_|refine WkV.tup ?_|refine WkV.fn ?_ ?_|exact WkO.dead|exact WkO.raw|refine WkO.ghost ?_|exact WkO.mpE rfl trivial|refine WkO.box ?_ rfl|refine WkO.arr ?_|refine And.intro ?_ (And.intro (by first|exact fun h=>h|exact fun _=>rfl|exact nofun) ?_)|exact trivial|(intro i j hi hj)))
  rintro m st ⟨k, h0, h1, rfl⟩
  have hok := frK_ok (rowsR l) k
  have hln := frK_len (rowsR l) k
  have hs := frK_s (rowsR l) k
  by_cases hk : k < 6
  · have hgk : ∀ k, k < 6 → gNt [0, 1, 2, 3, 4, 5] k = k := by decide
    have hgk := hgk k hk
    generalize frK (rowsR l) k = st at hok hln hs
    obtain ⟨is, js⟩ := st
    have hlen := hok.len
    have hok1 := hok.is
    have hok2 := hok.js.2
    simp only [] at hlen hln hok1 hok2
    rw [hrl] at hok1
    have hst : stepF (rowsR l) (is,js) k = match pickI (rowsR l) is (js ++ [k]) with | some i => (is ++ [i],js ++ [k]) | none => (is,js) := rfl
    rw [hst] at hs
    clear hst hok
    (simp only [go_sem,↓reduceIte,Nat.reduceAdd,Nat.reduceSub,Nat.reduceMul,Nat.reduceLT,Nat.reduceLeDiff,Nat.reduceEqDiff,Nat.reduceGT,Int.reduceToNat,Int.reduceBEq,Int.reduceBNe];try simp (disch := omega) only [wrapI,wrapU,half_sum,toNat_sub1,toNat_add1,Int.toNat_natCast])
    (have sx1 := hgk;have sx2 : (0 : Nat) + 0 = 0 := rfl;repeat' (first|with_reducible refine T_seq_drawT (id := 5) Γ_ok drawsAny pl44_5 (by kernel_rfl) (fun K hK=>?_)|with_reducible refine T_last_drawT (id := 5) Γ_ok drawsAny pl44_5 (by kernel_rfl) (fun K hK=>?_)|((have sx3 : (0 : Nat) + 0 = 0 := rfl;have sx4 : (0 : Nat) + 0 = 0 := rfl;have sx5 : (0 : Nat) + 0 = 0 := rfl;have sx6 : (0 : Nat) + 0 = 0 := rfl;have sx7 : (0 : Nat) + 0 = 0 := rfl;have sx8 : (0 : Nat) + 0 = 0 := rfl;have sx9 : (0 : Nat) + 0 = 0 := rfl;refine goR9 _ _ _ _ _ _ _ _ ?_ ?_ ?_ ?_ ?_ ?_ ?_ ?_) <;> (repeat intro hb) <;> first|exact True.intro|refine Lf.mk ?_)))
    have hjl : (js ++ [k]).length = js.length + 1 := by simp
    refine T_loopW (fun m2 st => ∃ i : Nat,i ≤ l.length ∧ m2 + i = l.length ∧ (∀ p,p < i → det (rwL (rowsR l) (is ++ [p])) (js ++ [k]) = 0) ∧
        st = ⟨[rowsV l,nts [0,1,2,3,4,5],.top,.top,.optr 0 0 0,.optr 1 0 0,.imm (.int .i64 k),.own 4 0 (js.length + 1) none,.imm (.int .i64 i)] ++ List.replicate 39 .top,
        [.box 93 [.imm (.slice none 0 0),.imm (.slice none 0 0)],.box 93 (bsC 2 3 is js),ntO is,ntO js,.arr 3 1 (js.length + 1) (ntE (js ++ [k]))]⟩)
      l.length ⟨_, ?_, 0, by omega, rfl, fun p hp => by omega, rfl⟩ ?_
    · ((try simp only [List.length_append,List.length_cons,List.length_nil,Nat.zero_add]);refine Wk.intro [0,1,2,3,5] (by decide) (by decide) (by intro o ho;simp at ho ⊢ <;> omega) ?_ ?_ <;> repeat' (first|(exact WkV.eqF (nt_snoc0 js k hi hj) (by simp))|exact WkVL.nil|refine WkVL.cons ?_ ?_|exact WkV.top|exact WkV.imm rfl|exact WkV.imm (by simp)|exact WkV.optr rfl|exact WkV.own rfl (by simp)|exact WkV.nil_own (.inl rfl)|exact WkV.map rfl|(refine WkV.free ?_;simp [Free,FreeL] <;> assumption)|(refine WkV.free (fun _ _=>FreeL_nth ?_ _);simp [Free,FreeL];done)|refine WkV.agg ?_|refine WkV.tup ?_|refine WkV.fn ?_ ?_|exact WkO.dead|exact WkO.raw|refine WkO.ghost ?_|exact WkO.mpE rfl trivial|refine WkO.box ?_ rfl|refine WkO.arr ?_|refine And.intro ?_ (And.intro (by first|exact fun h=>h|exact fun _=>rfl|exact nofun) ?_)|exact trivial|(intro i j hi hj)))
    rintro m2 st ⟨i, g0, g1, g2, rfl⟩
    (simp only [go_sem,↓reduceIte,Nat.reduceAdd,Nat.reduceSub,Nat.reduceMul,Nat.reduceLT,Nat.reduceLeDiff,Nat.reduceEqDiff,Nat.reduceGT,Int.reduceToNat,Int.reduceBEq,Int.reduceBNe];try simp (disch := omega) only [wrapI,wrapU,half_sum,toNat_sub1,toNat_add1,Int.toNat_natCast])
    by_cases hi : i < l.length
    · have hm := rminor_tc l hbd (is ++ [i]) (js ++ [k]) (fun q hq => by
        rcases List.mem_append.1 hq with h | h
        · exact hok1 q h
        · simp only [List.mem_singleton] at h; omega) (fun q hq => by
        rcases List.mem_append.1 hq with h | h
        · have := hok2 q h; omega
        · simp only [List.mem_singleton] at h; omega) (by simp; omega) (by simp; omega)
      have hv5 := fun p q => nt_snoc0 is i (i := p) (j := q)
      have hil : (is ++ [i]).length = is.length + 1 := by simp
      unfold nts at hm
      rw [hil, hjl] at hm
      have hpk := fun hd => pickI_some (rows := rowsR l) (is := is) (js := js ++ [k]) (i := i) (by omega) hd g2
      generalize hdd : det (rwL (rowsR l) (is ++ [i])) (js ++ [k]) = D at hm hpk
      generalize hjj : js ++ [k] = J at *
      generalize hii : is ++ [i] = I at *
      (have cl1 := hm;((refine goR0 _ _ _ _ _ _ _ _ ?_ ?_ ?_ ?_ ?_ ?_ ?_ ?_) <;> (repeat intro hb) <;> first | exact True.intro | refine Lf.mk ?_))
      · have hD : D ≠ 0 := by assumption
        rw [hpk hD] at hs
        simp only [hii] at hs
        refine ⟨6 - (k + 1), by omega, _, ?_, k + 1, by omega, by omega, rfl⟩
        rw [hs]
        simp only [hil, hjl]
        ((try simp only [List.length_append,List.length_cons,List.length_nil,Nat.zero_add]);refine Wk.intro [0,1,8,4] (by decide) (by decide) (by intro o ho;simp at ho ⊢ <;> omega) ?_ ?_ <;> repeat' (first|(exact WkV.eqF (hv5 _ _ hi hj) (by simp))|exact WkVL.nil|refine WkVL.cons ?_ ?_|exact WkV.top|exact WkV.imm rfl|exact WkV.imm (by simp)|exact WkV.optr rfl|exact WkV.own rfl (by simp)|exact WkV.nil_own (.inl rfl)|exact WkV.map rfl|(refine WkV.free ?_;simp [Free,FreeL] <;> assumption)|(refine WkV.free (fun _ _=>FreeL_nth ?_ _);simp [Free,FreeL];done)|refine WkV.agg ?_|refine WkV.tup ?_|refine WkV.fn ?_ ?_|exact WkO.dead|exact WkO.raw|refine WkO.ghost ?_|exact WkO.mpE rfl trivial|refine WkO.box ?_ rfl|refine WkO.arr ?_|refine And.intro ?_ (And.intro (by first|exact fun h=>h|exact fun _=>rfl|exact nofun) ?_)|exact trivial|(intro i j hi hj)))
      · have hD : D = 0 := by assumption
        refine ⟨l.length - (i + 1), by omega, _, ?_, i + 1, by omega, by omega, fun p hp => ?_, rfl⟩
        · ((try simp only [List.length_append,List.length_cons,List.length_nil,Nat.zero_add]);refine Wk.intro [0,1,2,3,4] (by decide) (by decide) (by intro o ho;simp at ho ⊢ <;> omega) ?_ ?_ <;> repeat' (first|exact WkVL.nil|refine WkVL.cons ?_ ?_|exact WkV.top|exact WkV.imm rfl|exact WkV.imm (by simp)|exact WkV.optr rfl|exact WkV.own rfl (by simp)|exact WkV.nil_own (.inl rfl)|exact WkV.map rfl|(refine WkV.free ?_;simp [Free,FreeL] <;> assumption)|(refine WkV.free (fun _ _=>FreeL_nth ?_ _);simp [Free,FreeL];done)|refine WkV.agg ?_|refine WkV.tup ?_|refine WkV.fn ?_ ?_|exact WkO.dead|exact WkO.raw|refine WkO.ghost ?_|exact WkO.mpE rfl trivial|refine WkO.box ?_ rfl|refine WkO.arr ?_|refine And.intro ?_ (And.intro (by first|exact fun h=>h|exact fun _=>rfl|exact nofun) ?_)|exact trivial|(intro i j hi hj)))
        · by_cases e : p = i
          · rw [e, hii, hdd, hD]
          · exact g2 p (by omega)
    · have hpk := pickI_none (rows := rowsR l) (is := is) (js := js ++ [k]) fun p hp => g2 p (by omega)
      rw [hpk] at hs
      (((refine goR0 _ _ _ _ _ _ _ _ ?_ ?_ ?_ ?_ ?_ ?_ ?_ ?_) <;> (repeat intro hb) <;> first | exact True.intro | refine Lf.mk ?_))
      refine ⟨6 - (k + 1), by omega, _, ?_, k + 1, by omega, by omega, rfl⟩
      rw [hs]
      ((try simp only [List.length_append,List.length_cons,List.length_nil,Nat.zero_add]);refine Wk.intro [0,1,2,3] (by decide) (by decide) (by intro o ho;simp at ho ⊢ <;> omega) ?_ ?_ <;> repeat' (first|exact WkVL.nil|refine WkVL.cons ?_ ?_|exact WkV.top|exact WkV.imm rfl|exact WkV.imm (by simp)|exact WkV.optr rfl|exact WkV.own rfl (by simp)|exact WkV.nil_own (.inl rfl)|exact WkV.map rfl|(refine WkV.free ?_;simp [Free,FreeL] <;> assumption)|(refine WkV.free (fun _ _=>FreeL_nth ?_ _);simp [Free,FreeL];done)|refine WkV.agg ?_|refine WkV.tup ?_|refine WkV.fn ?_ ?_|exact WkO.dead|exact WkO.raw|refine WkO.ghost ?_|exact WkO.mpE rfl trivial|refine WkO.box ?_ rfl|refine WkO.arr ?_|refine And.intro ?_ (And.intro (by first|exact fun h=>h|exact fun _=>rfl|exact nofun) ?_)|exact trivial|(intro i j hi hj)))
  · obtain rfl : k = 6 := by omega
    (simp only [go_sem,↓reduceIte,Nat.reduceAdd,Nat.reduceSub,Nat.reduceMul,Nat.reduceLT,Nat.reduceLeDiff,Nat.reduceEqDiff,Nat.reduceGT,Int.reduceToNat,Int.reduceBEq,Int.reduceBNe];try simp (disch := omega) only [wrapI,wrapU,half_sum,toNat_sub1,toNat_add1,Int.toNat_natCast])
    (((refine goR0 _ _ _ _ _ _ _ _ ?_ ?_ ?_ ?_ ?_ ?_ ?_ ?_) <;> (repeat intro hb) <;> first | exact True.intro | refine Lf.mk ?_))
    exact ⟨_, _, _, rfl, rfl⟩
theorem greedy_tc (l : List P6) (hbd : ∀ p ∈ l,Bd6 48 p) (hl : l.length ≤ 1000) : Makes Tryz.prog 44 [rowsV l,nts [0,1,2,3,4,5]] (.agg [.own 0 0 (frmP (rowsR l)).1.length none,.own 1 0 (frmP (rowsR l)).2.length none]) [ntO (frmP (rowsR l)).1,ntO (frmP (rowsR l)).2] :=
  Makes.gen [] (by simp [VF,VFL]) (fun a ha=>by simp only [List.mem_cons,List.not_mem_nil,or_false] at ha;rcases ha with rfl|rfl <;> exact ntE_pl _) ((greedy_raw l hbd hl).mono fun v σ' ⟨o0,o1,t,hv,hs⟩=>⟨[2,3],by simp,fun o ho=>by
    simp only [List.mem_cons, List.not_mem_nil, or_false] at ho
    rw [hs]
    rcases ho with rfl | rfl <;> simp,by rw [hv];exact WkV.agg (WkVL.cons (WkV.own rfl (by simp)) (WkVL.cons (WkV.own rfl (by simp)) WkVL.nil)),by
    rw [hs];exact ⟨WkO.arr fun i j _ _ => WkV.free trivial,fun h => h,WkO.arr fun i j _ _ => WkV.free trivial,fun h => h,trivial⟩⟩)
set_option maxRecDepth 100000 in
set_option maxHeartbeats 4000000 in
theorem rrank_tc (l : List P6) (hbd : ∀ p ∈ l,Bd6 48 p) (hl : l.length ≤ 8) : Look Tryz.prog 22 [rowsV l] (.tup [.imm (.int .i64 (if volB l 1 = true then ((frmP (rowsR l)).1.length : Int) else 0)),.imm (.int .i64 (if volB l 1 = true then 0 else 1))]) := by
  refine Look.mk (by simp [Pl, PlL]) ?_
  have h1 := rmatValid_tc l hl hbd
  have h3 := greedy_tc l hbd (by omega)
  have hv5 : ∀ p q,p < 6 → q < 1 → nth [AV.imm (.int .i64 0),.imm (.int .i64 1),.imm (.int .i64 2),.imm (.int .i64 3),.imm (.int .i64 4),.imm (.int .i64 5)] (p * 1 + q) = ntE [0,1,2,3,4,5] p q := fun p q hp hq=>by
    obtain rfl : q = 0 := by omega
    rcases p with _ | _ | _ | _ | _ | _ | p <;> first | rfl | omega
  cases hm : volB l 1 with
  | true =>
    rw [hm] at h1
    (refine TC_of_T Γ_ok Tryz.func22 rfl (by kernel_rfl) ?_;simp only [Tryz.ntmps22,Tryz.results22,List.length_cons,List.length_nil,Nat.reduceSub,Nat.reduceAdd,List.replicate,List.cons_append,List.nil_append])
    (have cl1 := h1;have dm1 := h3;((refine goR0 _ _ _ _ _ _ _ _ ?_ ?_ ?_ ?_ ?_ ?_ ?_ ?_) <;> (repeat intro hb) <;> first | exact True.intro | refine Lf.mk ?_))
  | false =>
    rw [hm] at h1
    (refine TC_of_T Γ_ok Tryz.func22 rfl (by kernel_rfl) ?_;simp only [Tryz.ntmps22,Tryz.results22,List.length_cons,List.length_nil,Nat.reduceSub,Nat.reduceAdd,List.replicate,List.cons_append,List.nil_append])
    (have cl1 := h1;((refine goR0 _ _ _ _ _ _ _ _ ?_ ?_ ?_ ?_ ?_ ?_ ?_ ?_) <;> (repeat intro hb) <;> first | exact True.intro | refine Lf.mk ?_))
def rnB (l : List UInt8) : Bool := (List.range l.length).all (fun i => decide (97 ≤ bAt l i ∧ bAt l i ≤ 122)) && decide (1 ≤ l.length ∧ l.length ≤ 16)
set_option maxRecDepth 100000 in
set_option maxHeartbeats 4000000 in
theorem rname_tc (l : List UInt8) (hl : l.length ≤ 1000000) : Look Tryz.prog 20 [.imm (.string (sB l))] (.imm (.bool (rnB l))) := by
  refine Look.mk trivial ?_
  (refine TC_of_T Γ_ok Tryz.func20 rfl (by kernel_rfl) ?_;simp only [Tryz.ntmps20,Tryz.results20,List.length_cons,List.length_nil,Nat.reduceSub,Nat.reduceAdd,List.replicate,List.cons_append,List.nil_append])
  (((refine goR0 _ _ _ _ _ _ _ _ ?_ ?_ ?_ ?_ ?_ ?_ ?_ ?_) <;> (repeat intro hb) <;> first | exact True.intro | refine Lf.mk ?_))
  refine T_loopW (fun m st=>∃ i : Nat,i ≤ l.length ∧ m + i = l.length ∧ (∀ j,j < i → 97 ≤ bAt l j ∧ bAt l j ≤ 122) ∧ st = ⟨[.imm (.string (sB l)),.top,.imm (.bool false),.imm (.int .i64 i)] ++ List.replicate 24 .top,[]⟩)
    l.length ⟨_, ?_, 0, by omega, rfl, fun j hj => by omega, rfl⟩ ?_
  · ((try simp only [List.length_append,List.length_cons,List.length_nil,Nat.zero_add]);refine Wk.intro [] (by decide) (by decide) (by intro o ho;simp at ho ⊢ <;> omega) ?_ ?_ <;> repeat' (first|exact WkVL.nil|refine WkVL.cons ?_ ?_|exact WkV.top|exact WkV.imm rfl|exact WkV.imm (by simp)|exact WkV.optr rfl|exact WkV.own rfl (by simp)|exact WkV.nil_own (.inl rfl)|exact WkV.map rfl|(refine WkV.free ?_;simp [Free,FreeL] <;> assumption)|(refine WkV.free (fun _ _=>FreeL_nth ?_ _);simp [Free,FreeL];done)|refine WkV.agg ?_|refine WkV.tup ?_|refine WkV.fn ?_ ?_|exact WkO.dead|exact WkO.raw|refine WkO.ghost ?_|exact WkO.mpE rfl trivial|refine WkO.box ?_ rfl|refine WkO.arr ?_|refine And.intro ?_ (And.intro (by first|exact fun h=>h|exact fun _=>rfl|exact nofun) ?_)|exact trivial|(intro i j hi hj)))
  rintro m st ⟨i, g0, g1, g2, rfl⟩
  (simp only [go_sem,↓reduceIte,Nat.reduceAdd,Nat.reduceSub,Nat.reduceMul,Nat.reduceLT,Nat.reduceLeDiff,Nat.reduceEqDiff,Nat.reduceGT,Int.reduceToNat,Int.reduceBEq,Int.reduceBNe];try simp (disch := omega) only [wrapI,wrapU,half_sum,toNat_sub1,toNat_add1,Int.toNat_natCast])
  by_cases hi : i < l.length
  · have hat := sB_at l (i : Int)
    rw [Int.toNat_natCast] at hat
    (have sx1 := hat;have sx2 : (0 : Nat) + 0 = 0 := rfl;((have sx3 : (0 : Nat) + 0 = 0 := rfl;have sx4 : (0 : Nat) + 0 = 0 := rfl;have sx5 : (0 : Nat) + 0 = 0 := rfl;have sx6 : (0 : Nat) + 0 = 0 := rfl;have sx7 : (0 : Nat) + 0 = 0 := rfl;have sx8 : (0 : Nat) + 0 = 0 := rfl;have sx9 : (0 : Nat) + 0 = 0 := rfl;refine goR9 _ _ _ _ _ _ _ _ ?_ ?_ ?_ ?_ ?_ ?_ ?_ ?_) <;> (repeat intro hb) <;> first|exact True.intro|refine Lf.mk ?_))
    · have e : rnB l = false := by
        unfold rnB
        rw [Bool.and_eq_false_iff]
        left
        rw [Bool.eq_false_iff]
        intro ha
        have := of_decide_eq_true (List.all_eq_true.1 ha i (List.mem_range.2 hi))
        omega
      rw [e]
    · refine ⟨l.length - (i + 1), by omega, _, ?_, i + 1, by omega, by omega, fun j hj => ?_, rfl⟩
      · ((try simp only [List.length_append,List.length_cons,List.length_nil,Nat.zero_add]);refine Wk.intro [] (by decide) (by decide) (by intro o ho;simp at ho ⊢ <;> omega) ?_ ?_ <;> repeat' (first|exact WkVL.nil|refine WkVL.cons ?_ ?_|exact WkV.top|exact WkV.imm rfl|exact WkV.imm (by simp)|exact WkV.optr rfl|exact WkV.own rfl (by simp)|exact WkV.nil_own (.inl rfl)|exact WkV.map rfl|(refine WkV.free ?_;simp [Free,FreeL] <;> assumption)|(refine WkV.free (fun _ _=>FreeL_nth ?_ _);simp [Free,FreeL];done)|refine WkV.agg ?_|refine WkV.tup ?_|refine WkV.fn ?_ ?_|exact WkO.dead|exact WkO.raw|refine WkO.ghost ?_|exact WkO.mpE rfl trivial|refine WkO.box ?_ rfl|refine WkO.arr ?_|refine And.intro ?_ (And.intro (by first|exact fun h=>h|exact fun _=>rfl|exact nofun) ?_)|exact trivial|(intro i j hi hj)))
      · by_cases e : j = i
        · rw [e]; omega
        · exact g2 j (by omega)
  · have e : rnB l = (decide (1 ≤ l.length) && decide (l.length ≤ 16)) := by
      unfold rnB
      rw [List.all_eq_true.2 fun j hj => decide_eq_true (g2 j (by have := List.mem_range.1 hj;omega)),Bool.true_and,Bool.decide_and]
    rw [e]
    (((refine goR0 _ _ _ _ _ _ _ _ ?_ ?_ ?_ ?_ ?_ ?_ ?_ ?_) <;> (repeat intro hb) <;> first | exact True.intro | refine Lf.mk ?_))
    congr 2
    rw [Bool.eq_iff_iff]
    simp only [Bool.and_eq_true, decide_eq_true_eq]
    omega
set_option maxRecDepth 100000 in
set_option maxHeartbeats 4000000 in
theorem rrows_raw (l : List Nm) (hl : l.length ≤ 1000) : TC Tryz.prog 23 [nmV l] [] (fun v σ' => ∃ t,v = .own 0 0 l.length none ∧ σ' = .arr 37 6 l.length (p6E (vsN l)) :: t) := by
  (refine TC_of_T Γ_ok Tryz.func23 rfl (by kernel_rfl) ?_;simp only [Tryz.ntmps23,Tryz.results23,List.length_cons,List.length_nil,Nat.reduceSub,Nat.reduceAdd,List.replicate,List.cons_append,List.nil_append])
  (((refine goR0 _ _ _ _ _ _ _ _ ?_ ?_ ?_ ?_ ?_ ?_ ?_ ?_) <;> (repeat intro hb) <;> first | exact True.intro | refine Lf.mk ?_))
  refine T_loopW (fun m st=>∃ i : Nat,i ≤ l.length ∧ m + i = l.length ∧ st = ⟨[nmV l,.top,.imm (.slice none 0 0),.own 0 0 i none,.imm (.int .i64 i)] ++ List.replicate 15 .top,[.arr 37 6 i (p6E (vsN (l.take i)))]⟩)
    l.length ⟨_, Wk.trans (Wk.push 37 6 (p6E [])) ?_, 0, by omega, rfl, rfl⟩ ?_
  · ((try simp only [List.length_append,List.length_cons,List.length_nil,Nat.zero_add]);refine Wk.intro [0] (by decide) (by decide) (by intro o ho;simp at ho ⊢ <;> omega) ?_ ?_ <;> repeat' (first|exact WkVL.nil|refine WkVL.cons ?_ ?_|exact WkV.top|exact WkV.imm rfl|exact WkV.imm (by simp)|exact WkV.optr rfl|exact WkV.own rfl (by simp)|exact WkV.nil_own (.inl rfl)|exact WkV.map rfl|(refine WkV.free ?_;simp [Free,FreeL] <;> assumption)|(refine WkV.free (fun _ _=>FreeL_nth ?_ _);simp [Free,FreeL];done)|refine WkV.agg ?_|refine WkV.tup ?_|refine WkV.fn ?_ ?_|exact WkO.dead|exact WkO.raw|refine WkO.ghost ?_|exact WkO.mpE rfl trivial|refine WkO.box ?_ rfl|refine WkO.arr ?_|refine And.intro ?_ (And.intro (by first|exact fun h=>h|exact fun _=>rfl|exact nofun) ?_)|exact trivial|(intro i j hi hj)))
  rintro m st ⟨i, g0, g1, rfl⟩
  (simp only [go_sem,↓reduceIte,Nat.reduceAdd,Nat.reduceSub,Nat.reduceMul,Nat.reduceLT,Nat.reduceLeDiff,Nat.reduceEqDiff,Nat.reduceGT,Int.reduceToNat,Int.reduceBEq,Int.reduceBNe];try simp (disch := omega) only [wrapI,wrapU,half_sum,toNat_sub1,toNat_add1,Int.toNat_natCast])
  by_cases hi : i < l.length
  · have hvl : (vsN (l.take i)).length = i := by rw [vsN_len]; simp; omega
    have hsn := fun p q => p6_snoc (vsN (l.take i)) (gN l i).v (i := p) (j := q)
    have htk : vsN (l.take i) ++ [(gN l i).v] = vsN (l.take (i + 1)) := by unfold vsN; rw [take_gN hi]; simp
    rw [htk, hvl] at hsn
    (((refine goR0 _ _ _ _ _ _ _ _ ?_ ?_ ?_ ?_ ?_ ?_ ?_ ?_) <;> (repeat intro hb) <;> first | exact True.intro | refine Lf.mk ?_))
    refine ⟨l.length - (i + 1), by omega, _, ?_, i + 1, by omega, by omega, rfl⟩
    ((try simp only [List.length_append,List.length_cons,List.length_nil,Nat.zero_add]);refine Wk.intro [2] (by decide) (by decide) (by intro o ho;simp at ho ⊢ <;> omega) ?_ ?_ <;> repeat' (first|(exact WkV.eqF (hsn _ _ hi hj) (by simp))|exact WkVL.nil|refine WkVL.cons ?_ ?_|exact WkV.top|exact WkV.imm rfl|exact WkV.imm (by simp)|exact WkV.optr rfl|exact WkV.own rfl (by simp)|exact WkV.nil_own (.inl rfl)|exact WkV.map rfl|(refine WkV.free ?_;simp [Free,FreeL] <;> assumption)|(refine WkV.free (fun _ _=>FreeL_nth ?_ _);simp [Free,FreeL];done)|refine WkV.agg ?_|refine WkV.tup ?_|refine WkV.fn ?_ ?_|exact WkO.dead|exact WkO.raw|refine WkO.ghost ?_|exact WkO.mpE rfl trivial|refine WkO.box ?_ rfl|refine WkO.arr ?_|refine And.intro ?_ (And.intro (by first|exact fun h=>h|exact fun _=>rfl|exact nofun) ?_)|exact trivial|(intro i j hi hj)))
  · have hie : i = l.length := by omega
    subst hie
    (((refine goR0 _ _ _ _ _ _ _ _ ?_ ?_ ?_ ?_ ?_ ?_ ?_ ?_) <;> (repeat intro hb) <;> first | exact True.intro | refine Lf.mk ?_))
    exact ⟨_, by rw [List.take_length]⟩
theorem rrows_tc (l : List Nm) (hl : l.length ≤ 1000) : Makes Tryz.prog 23 [nmV l] (.own 0 0 l.length none) [.arr 37 6 l.length (p6E (vsN l))] :=
  Makes.gen [] trivial (fun a h => by simp only [List.mem_singleton] at h;subst h;exact p6E_pl _) ((rrows_raw l hl).mono fun v σ' ⟨t,hv,hs⟩ => ⟨[0],by simp,fun o ho => by
    simp only [List.mem_singleton] at ho
    subst ho
    rw [hs];simp,by rw [hv];exact WkV.own rfl (by simp),by rw [hs];exact ⟨WkO.arr fun i j _ _ => WkV.free (by simp),fun h => h,trivial⟩⟩)
end Go.Proofs.YtngfnogoicfmaaaGreatDoor
namespace Go.Proofs.YtngfnogoicfmaaaGreatDoor
open Go.Ab
def okI (l : List Nm) (i : Nat) : Bool := rnB (gN l i).s && (List.range i).all fun k => !decide ((gN l k).s = (gN l i).s)
def rvB (l : List Nm) : Bool := (List.range l.length).all (okI l) && (volB (vsN l) 1 && decide ((frmP (rowsR (vsN l))).1.length = l.length))
theorem rv_no {l : List Nm} {i : Nat} (hi : i < l.length) (h : okI l i = false) : rvB l = false := by
  unfold rvB
  have : (List.range l.length).all (okI l) = false := by
    rw [Bool.eq_false_iff]
    intro ha
    have := List.all_eq_true.1 ha i (List.mem_range.2 hi)
    rw [h] at this; cases this
  rw [this]; rfl
set_option maxRecDepth 100000 in
set_option maxHeartbeats 4000000 in
theorem rvalid_tcC (l : List Nm) (h1 : 1 ≤ l.length) (h6 : l.length ≤ 6) (hbd : ∀ n ∈ l,Bd6 48 n.v) (hnm : ∀ n ∈ l,n.s.length ≤ 16) : Look Tryz.prog 6 [nmV l] (.imm (.bool (rvB l))) := by
  refine Look.mk trivial ?_
  have hrw := rrows_tc l (by omega)
  have hrk := rrank_tc (vsN l) (fun p hp => by
    obtain ⟨n, hn, rfl⟩ := List.mem_map.1 hp
    exact hbd n hn) (by rw [vsN_len]; omega)
  unfold rowsV at hrk
  rw [vsN_len] at hrk
  (refine TC_of_T Γ_ok Tryz.func6 rfl (by kernel_rfl) ?_;simp only [Tryz.ntmps6,Tryz.results6,List.length_cons,List.length_nil,Nat.reduceSub,Nat.reduceAdd,List.replicate,List.cons_append,List.nil_append])
  (((refine goR0 _ _ _ _ _ _ _ _ ?_ ?_ ?_ ?_ ?_ ?_ ?_ ?_) <;> (repeat intro hb) <;> first | exact True.intro | refine Lf.mk ?_))
  refine T_loopW (fun m st => ∃ i : Nat,i ≤ l.length ∧ m + i = l.length ∧ (∀ j,j < i → okI l j = true) ∧ st = ⟨[nmV l,.top,.imm (.bool false),.imm (.int .i64 i)] ++ List.replicate 67 .top,[]⟩)
    l.length ⟨_, ?_, 0, by omega, rfl, fun j hj => by omega, rfl⟩ ?_
  · ((try simp only [List.length_append,List.length_cons,List.length_nil,Nat.zero_add]);refine Wk.intro [] (by decide) (by decide) (by intro o ho;simp at ho ⊢ <;> omega) ?_ ?_ <;> repeat' (first|exact WkVL.nil|refine WkVL.cons ?_ ?_|exact WkV.top|exact WkV.imm rfl|exact WkV.imm (by simp)|exact WkV.optr rfl|exact WkV.own rfl (by simp)|exact WkV.nil_own (.inl rfl)|exact WkV.map rfl|(refine WkV.free ?_;simp [Free,FreeL] <;> assumption)|(refine WkV.free (fun _ _=>FreeL_nth ?_ _);simp [Free,FreeL];done)|refine WkV.agg ?_|refine WkV.tup ?_|refine WkV.fn ?_ ?_|exact WkO.dead|exact WkO.raw|refine WkO.ghost ?_|exact WkO.mpE rfl trivial|refine WkO.box ?_ rfl|refine WkO.arr ?_|refine And.intro ?_ (And.intro (by first|exact fun h=>h|exact fun _=>rfl|exact nofun) ?_)|exact trivial|(intro i j hi hj)))
  rintro m st ⟨i, g0, g1, g2, rfl⟩
  (simp only [go_sem,↓reduceIte,Nat.reduceAdd,Nat.reduceSub,Nat.reduceMul,Nat.reduceLT,Nat.reduceLeDiff,Nat.reduceEqDiff,Nat.reduceGT,Int.reduceToNat,Int.reduceBEq,Int.reduceBNe];try simp (disch := omega) only [wrapI,wrapU,half_sum,toNat_sub1,toNat_add1,Int.toNat_natCast])
  by_cases hi : i < l.length
  · have hn := rname_tc (gN l i).s (Nat.le_trans (hnm _ (gN_mem hi)) (by omega))
    have hv := rinterval_tc (gN l i).v
    rw [decide_eq_true (hbd _ (gN_mem hi))] at hv
    cases hr : rnB (gN l i).s with
    | false =>
      rw [hr] at hn
      rw [rv_no hi (by unfold okI; rw [hr]; rfl)]
      (have cl1 := hn;have cl2 := hv;((refine goR0 _ _ _ _ _ _ _ _ ?_ ?_ ?_ ?_ ?_ ?_ ?_ ?_) <;> (repeat intro hb) <;> first | exact True.intro | refine Lf.mk ?_))
    | true =>
      rw [hr] at hn
      (have cl1 := hn;have cl2 := hv;((refine goR0 _ _ _ _ _ _ _ _ ?_ ?_ ?_ ?_ ?_ ?_ ?_ ?_) <;> (repeat intro hb) <;> first | exact True.intro | refine Lf.mk ?_))
      refine T_loopW (fun m2 st=>∃ k : Nat,k ≤ i ∧ m2 + k = i ∧ (∀ j,j < k → (gN l j).s ≠ (gN l i).s) ∧ st = ⟨[nmV l,.top,.imm (.bool false),.imm (.int .i64 i),.top,.top,.imm (.int .i64 k)] ++ List.replicate 64 .top,[]⟩)
        i ⟨_, ?_, 0, by omega, by omega, fun j hj => by omega, rfl⟩ ?_
      · ((try simp only [List.length_append,List.length_cons,List.length_nil,Nat.zero_add]);refine Wk.intro [] (by decide) (by decide) (by intro o ho;simp at ho ⊢ <;> omega) ?_ ?_ <;> repeat' (first|exact WkVL.nil|refine WkVL.cons ?_ ?_|exact WkV.top|exact WkV.imm rfl|exact WkV.imm (by simp)|exact WkV.optr rfl|exact WkV.own rfl (by simp)|exact WkV.nil_own (.inl rfl)|exact WkV.map rfl|(refine WkV.free ?_;simp [Free,FreeL] <;> assumption)|(refine WkV.free (fun _ _=>FreeL_nth ?_ _);simp [Free,FreeL];done)|refine WkV.agg ?_|refine WkV.tup ?_|refine WkV.fn ?_ ?_|exact WkO.dead|exact WkO.raw|refine WkO.ghost ?_|exact WkO.mpE rfl trivial|refine WkO.box ?_ rfl|refine WkO.arr ?_|refine And.intro ?_ (And.intro (by first|exact fun h=>h|exact fun _=>rfl|exact nofun) ?_)|exact trivial|(intro i j hi hj)))
      rintro m2 st ⟨k, e0, e1, e2, rfl⟩
      (simp only [go_sem,↓reduceIte,Nat.reduceAdd,Nat.reduceSub,Nat.reduceMul,Nat.reduceLT,Nat.reduceLeDiff,Nat.reduceEqDiff,Nat.reduceGT,Int.reduceToNat,Int.reduceBEq,Int.reduceBNe];try simp (disch := omega) only [wrapI,wrapU,half_sum,toNat_sub1,toNat_add1,Int.toNat_natCast])
      by_cases hk : k < i
      · have hse := strEq_sB (gN l k).s (gN l i).s
        by_cases he : (gN l k).s = (gN l i).s
        · rw [decide_eq_true he] at hse
          have hno : okI l i = false := by
            unfold okI
            rw [Bool.and_eq_false_iff]
            right
            rw [Bool.eq_false_iff]
            intro ha
            have := List.all_eq_true.1 ha k (List.mem_range.2 hk)
            rw [decide_eq_true he] at this; cases this
          rw [rv_no hi hno]
          (have sx1 := hse;have sx2 : (0 : Nat) + 0 = 0 := rfl;repeat' (first|with_reducible refine T_seq_drawT (id := 13) Γ_ok drawsAny pl6_13 (by kernel_rfl) (fun K hK=>?_)|with_reducible refine T_last_drawT (id := 13) Γ_ok drawsAny pl6_13 (by kernel_rfl) (fun K hK=>?_)|((have sx3 : (0 : Nat) + 0 = 0 := rfl;have sx4 : (0 : Nat) + 0 = 0 := rfl;have sx5 : (0 : Nat) + 0 = 0 := rfl;have sx6 : (0 : Nat) + 0 = 0 := rfl;have sx7 : (0 : Nat) + 0 = 0 := rfl;have sx8 : (0 : Nat) + 0 = 0 := rfl;have sx9 : (0 : Nat) + 0 = 0 := rfl;refine goR9 _ _ _ _ _ _ _ _ ?_ ?_ ?_ ?_ ?_ ?_ ?_ ?_) <;> (repeat intro hb) <;> first|exact True.intro|refine Lf.mk ?_)))
        · rw [decide_eq_false he] at hse
          (have sx1 := hse;have sx2 : (0 : Nat) + 0 = 0 := rfl;repeat' (first|with_reducible refine T_seq_drawT (id := 13) Γ_ok drawsAny pl6_13 (by kernel_rfl) (fun K hK=>?_)|with_reducible refine T_last_drawT (id := 13) Γ_ok drawsAny pl6_13 (by kernel_rfl) (fun K hK=>?_)|((have sx3 : (0 : Nat) + 0 = 0 := rfl;have sx4 : (0 : Nat) + 0 = 0 := rfl;have sx5 : (0 : Nat) + 0 = 0 := rfl;have sx6 : (0 : Nat) + 0 = 0 := rfl;have sx7 : (0 : Nat) + 0 = 0 := rfl;have sx8 : (0 : Nat) + 0 = 0 := rfl;have sx9 : (0 : Nat) + 0 = 0 := rfl;refine goR9 _ _ _ _ _ _ _ _ ?_ ?_ ?_ ?_ ?_ ?_ ?_ ?_) <;> (repeat intro hb) <;> first|exact True.intro|refine Lf.mk ?_)))
          refine ⟨i - (k + 1), by omega, _, ?_, k + 1, by omega, by omega, fun j hj => ?_, rfl⟩
          · ((try simp only [List.length_append,List.length_cons,List.length_nil,Nat.zero_add]);refine Wk.intro [] (by decide) (by decide) (by intro o ho;simp at ho ⊢ <;> omega) ?_ ?_ <;> repeat' (first|exact WkVL.nil|refine WkVL.cons ?_ ?_|exact WkV.top|exact WkV.imm rfl|exact WkV.imm (by simp)|exact WkV.optr rfl|exact WkV.own rfl (by simp)|exact WkV.nil_own (.inl rfl)|exact WkV.map rfl|(refine WkV.free ?_;simp [Free,FreeL] <;> assumption)|(refine WkV.free (fun _ _=>FreeL_nth ?_ _);simp [Free,FreeL];done)|refine WkV.agg ?_|refine WkV.tup ?_|refine WkV.fn ?_ ?_|exact WkO.dead|exact WkO.raw|refine WkO.ghost ?_|exact WkO.mpE rfl trivial|refine WkO.box ?_ rfl|refine WkO.arr ?_|refine And.intro ?_ (And.intro (by first|exact fun h=>h|exact fun _=>rfl|exact nofun) ?_)|exact trivial|(intro i j hi hj)))
          · by_cases e : j = k
            · rw [e]; exact he
            · exact e2 j (by omega)
      · (repeat' (first|with_reducible refine T_seq_drawT (id := 13) Γ_ok drawsAny pl6_13 (by kernel_rfl) (fun K hK=>?_)|with_reducible refine T_last_drawT (id := 13) Γ_ok drawsAny pl6_13 (by kernel_rfl) (fun K hK=>?_)|((refine goR0 _ _ _ _ _ _ _ _ ?_ ?_ ?_ ?_ ?_ ?_ ?_ ?_) <;> (repeat intro hb) <;> first|exact True.intro|refine Lf.mk ?_)))
        refine ⟨l.length - (i + 1), by omega, _, ?_, i + 1, by omega, by omega, fun j hj => ?_, rfl⟩
        · ((try simp only [List.length_append,List.length_cons,List.length_nil,Nat.zero_add]);refine Wk.intro [] (by decide) (by decide) (by intro o ho;simp at ho ⊢ <;> omega) ?_ ?_ <;> repeat' (first|exact WkVL.nil|refine WkVL.cons ?_ ?_|exact WkV.top|exact WkV.imm rfl|exact WkV.imm (by simp)|exact WkV.optr rfl|exact WkV.own rfl (by simp)|exact WkV.nil_own (.inl rfl)|exact WkV.map rfl|(refine WkV.free ?_;simp [Free,FreeL] <;> assumption)|(refine WkV.free (fun _ _=>FreeL_nth ?_ _);simp [Free,FreeL];done)|refine WkV.agg ?_|refine WkV.tup ?_|refine WkV.fn ?_ ?_|exact WkO.dead|exact WkO.raw|refine WkO.ghost ?_|exact WkO.mpE rfl trivial|refine WkO.box ?_ rfl|refine WkO.arr ?_|refine And.intro ?_ (And.intro (by first|exact fun h=>h|exact fun _=>rfl|exact nofun) ?_)|exact trivial|(intro i j hi hj)))
        · by_cases e : j = i
          · rw [e]
            unfold okI
            rw [hr,List.all_eq_true.2 fun q hq => by rw [decide_eq_false (e2 q (by have := List.mem_range.1 hq;omega))];rfl]
            rfl
          · exact g2 j (by omega)
  · have hie : i = l.length := by omega
    subst hie
    have hal : (List.range l.length).all (okI l) = true := List.all_eq_true.2 fun q hq => g2 q (List.mem_range.1 hq)
    unfold rvB
    rw [hal, Bool.true_and]
    cases hm : volB (vsN l) 1 with
    | true =>
      rw [hm] at hrk
      rw [if_pos rfl, if_pos rfl] at hrk
      (have cm1 := hrw;have cl1 := hrk;((refine goR0 _ _ _ _ _ _ _ _ ?_ ?_ ?_ ?_ ?_ ?_ ?_ ?_) <;> (repeat intro hb) <;> first | exact True.intro | refine Lf.mk ?_))
      congr 2
      rw [ieq]
    | false =>
      rw [hm] at hrk
      rw [if_neg (by simp), if_neg (by simp)] at hrk
      (have cm1 := hrw;have cl1 := hrk;((refine goR0 _ _ _ _ _ _ _ _ ?_ ?_ ?_ ?_ ?_ ?_ ?_ ?_) <;> (repeat intro hb) <;> first | exact True.intro | refine Lf.mk ?_))
theorem nmB_len {l : List UInt8} (h : nmB l = true) : l.length ≤ 16 := by
  unfold nmB at h
  simp only [Bool.and_eq_true, decide_eq_true_eq] at h
  exact h.1.2
theorem rvalid_c {l : List Nm} (h : cvB l = true) : Look Tryz.prog 6 [nmV l] (.imm (.bool (rvB l))) := by
  have hc := cvB_ok h
  refine rvalid_tcC l hc.l1 hc.l6 hc.bd fun n hn => ?_
  unfold cvB at h
  simp only [Bool.and_eq_true] at h
  have := List.all_eq_true.1 h.2.2.1 n hn
  unfold oneB at this
  simp only [Bool.and_eq_true] at this
  exact nmB_len this.1
end Go.Proofs.YtngfnogoicfmaaaGreatDoor
