/-
  Parts joined: S13 S14.
-/
import Derived.Test.YtngfnogoicfmaaaGreatDoorQGo
import Derived.Test.YtngfnogoicfmaaaGreatDoorQU5
set_option linter.unusedSimpArgs false
set_option linter.unusedVariables false
namespace Go.Proofs.YtngfnogoicfmaaaGreatDoor
open Go.Ab
set_option maxRecDepth 100000 in
set_option maxHeartbeats 4000000 in
theorem grow_raw (n : Nat) (hn : n ≤ 1000000) : TC Tryz.prog 67 [.imm (.slice none 0 0),.imm (.int .i64 n)] [] (fun v σ' => ∃ k c len E,v = .own k 0 0 c ∧ nthO σ' k = .arr 5 1 len E) := by
  (refine TC_of_T Γ_ok Tryz.func67 rfl (by kernel_rfl) ?_;simp only [Tryz.ntmps67,Tryz.results67,List.length_cons,List.length_nil,Nat.reduceSub,Nat.reduceAdd,List.replicate,List.cons_append,List.nil_append])
  refine T_wk (Wk.trans (Wk.push 5 1 (byE [])) (c := ⟨[.own 0 0 0 (some 0),.imm (.int .i64 n)] ++ List.replicate 25 .top,[.arr 5 1 0 (byE [])]⟩) ?_) ?_
  · ((try simp only [List.length_append,List.length_cons,List.length_nil,Nat.zero_add]);refine Wk.intro [0] (by decide) (by decide) (by intro o ho;simp at ho ⊢ <;> omega) ?_ ?_ <;> repeat' (first|exact WkV.nil_own (.inr rfl)|exact WkVL.nil|refine WkVL.cons ?_ ?_|exact WkV.top|exact WkV.imm rfl|exact WkV.imm (by simp)|exact WkV.optr rfl|exact WkV.own rfl (by simp)|exact WkV.nil_own (.inl rfl)|exact WkV.map rfl|(refine WkV.free ?_;simp [Free,FreeL] <;> assumption)|(refine WkV.free (fun _ _=>FreeL_nth ?_ _);simp [Free,FreeL];done)|refine WkV.agg ?_|refine WkV.tup ?_|refine WkV.fn ?_ ?_|exact WkO.dead|exact WkO.raw|refine WkO.ghost ?_|exact WkO.mpE rfl trivial|refine WkO.box ?_ rfl|refine WkO.arr ?_|refine And.intro ?_ (And.intro (by first|exact fun h=>h|exact fun _=>rfl|exact nofun) ?_)|exact trivial|(intro i j hi hj)))
  (simp only [go_sem,↓reduceIte,Nat.reduceAdd,Nat.reduceSub,Nat.reduceMul,Nat.reduceLT,Nat.reduceLeDiff,Nat.reduceEqDiff,Nat.reduceGT,Int.reduceToNat,Int.reduceBEq,Int.reduceBNe];try simp (disch := omega) only [wrapI,wrapU,half_sum,toNat_sub1,toNat_add1,Int.toNat_natCast])
  by_cases h0 : 0 < n
  · (((refine goR0 _ _ _ _ _ _ _ _ ?_ ?_ ?_ ?_ ?_ ?_ ?_ ?_) <;> (repeat intro hb) <;> first | exact True.intro | refine Lf.mk ?_))
    all_goals exact ⟨_, _, _, _, rfl, rfl⟩
  · obtain rfl : n = 0 := by omega
    (((refine goR0 _ _ _ _ _ _ _ _ ?_ ?_ ?_ ?_ ?_ ?_ ?_ ?_) <;> (repeat intro hb) <;> first | exact True.intro | refine Lf.mk ?_))
    all_goals exact ⟨_, _, _, _, rfl, rfl⟩
theorem grow_new (n : Nat) (hn : n ≤ 1000000) : Makes Tryz.prog 67 [.imm (.slice none 0 0),.imm (.int .i64 n)] (.own 0 0 0 none) [.arr 5 1 0 (byE [])] :=
  ⟨(grow_raw n hn).weak fun v σ' ⟨k,c,len,E,hv,hk⟩ => ⟨[k],_,_,by simp,by simp,by have := nthO_lt hk (by simp);simpa using this,by rw [hv];exact WkV.own rfl (by simp),
    by simp only [WkOL,hk];exact ⟨WkO.arrLe (Nat.zero_le _) (fun i j hi=>by omega),fun _=>rfl,trivial⟩,rfl,rfl⟩,trivial,fun a ha=>by simp only [List.mem_singleton] at ha;subst ha;exact byE_pl _⟩
def ctE (a b : List Nat) (i _j : Nat) : AV := nth [bys a, bys b] i
@[go_sem] theorem ctE_0 (a b : List Nat) (j : Nat) : ctE a b 0 j = bys a := rfl
@[go_sem] theorem ctE_1 (a b : List Nat) (j : Nat) : ctE a b 1 j = bys b := rfl
def szN (a b : List Nat) (i : Nat) : Nat := if i = 0 then 0 else if i = 1 then a.length else a.length + b.length
theorem szN0 (a b : List Nat) : szN a b 0 = 0 := rfl
theorem szN1 (a b : List Nat) : szN a b 1 = a.length := rfl
def ctN (a b : List Nat) (i : Nat) : List Nat := if i = 0 then [] else if i = 1 then a else a ++ b
set_option maxRecDepth 100000 in
set_option maxHeartbeats 1000000 in
theorem concat_raw (a b : List Nat) (ha : a.length ≤ 200000) (hb : b.length ≤ 200000) : TC Tryz.prog 48 [.view 2 1 (ctE a b)] [] (fun v σ' => (v = .imm (.slice none 0 0) ∧ (a ++ b).length = 0) ∨
    ∃ k E',v = .own k 0 (a ++ b).length none ∧ nthO σ' k = .arr 5 1 (a ++ b).length E' ∧ ∀ i j,i < (a ++ b).length → j < 1 → E' i j = byE (a ++ b) i j) := by
  have hgr := grow_new (a.length + b.length) (by omega)
  (refine TC_of_T Γ_ok Tryz.func48 rfl (by kernel_rfl) ?_;simp only [Tryz.ntmps48,Tryz.results48,List.length_cons,List.length_nil,Nat.reduceSub,Nat.reduceAdd,List.replicate,List.cons_append,List.nil_append])
  (((refine goR0 _ _ _ _ _ _ _ _ ?_ ?_ ?_ ?_ ?_ ?_ ?_ ?_) <;> (repeat intro hb) <;> first | exact True.intro | refine Lf.mk ?_))
  refine T_loopW (fun m st=>∃ i : Nat,i ≤ 2 ∧ m + i = 2 ∧ st = ⟨[.view 2 1 (ctE a b),.top,.top,.imm (.int .i64 ((szN a b i : Nat) : Int)),.top,.top,.top,.top,.top,.view 2 1 (ctE a b),.imm (.int .i64 2),.imm (.int .i64 i)] ++ List.replicate 24 .top,[]⟩)
    2 ⟨_, ?_, 0, by omega, rfl, rfl⟩ ?_
  · ((try simp only [List.length_append,List.length_cons,List.length_nil,Nat.zero_add]);refine Wk.intro [] (by decide) (by decide) (by intro o ho;simp at ho ⊢ <;> omega) ?_ ?_ <;> repeat' (first|exact WkVL.nil|refine WkVL.cons ?_ ?_|exact WkV.top|exact WkV.imm rfl|exact WkV.imm (by simp)|exact WkV.optr rfl|exact WkV.own rfl (by simp)|exact WkV.nil_own (.inl rfl)|exact WkV.map rfl|(refine WkV.free ?_;simp [Free,FreeL] <;> assumption)|(refine WkV.free (fun _ _=>FreeL_nth ?_ _);simp [Free,FreeL];done)|refine WkV.agg ?_|refine WkV.tup ?_|refine WkV.fn ?_ ?_|exact WkO.dead|exact WkO.raw|refine WkO.ghost ?_|exact WkO.mpE rfl trivial|refine WkO.box ?_ rfl|refine WkO.arr ?_|refine And.intro ?_ (And.intro (by first|exact fun h=>h|exact fun _=>rfl|exact nofun) ?_)|exact trivial|(intro i j hi hj)))
  rintro m st ⟨i, h0, h1, rfl⟩
  rcases i with _ | _ | _ | i
  · (simp only [go_sem,↓reduceIte,Nat.reduceAdd,Nat.reduceSub,Nat.reduceMul,Nat.reduceLT,Nat.reduceLeDiff,Nat.reduceEqDiff,Nat.reduceGT,Int.reduceToNat,Int.reduceBEq,Int.reduceBNe];try simp (disch := omega) only [wrapI,wrapU,half_sum,toNat_sub1,toNat_add1,Int.toNat_natCast])
    (have sx1 := szN0;have sx2 : (0 : Nat) + 0 = 0 := rfl;((have sx3 : (0 : Nat) + 0 = 0 := rfl;have sx4 : (0 : Nat) + 0 = 0 := rfl;have sx5 : (0 : Nat) + 0 = 0 := rfl;have sx6 : (0 : Nat) + 0 = 0 := rfl;have sx7 : (0 : Nat) + 0 = 0 := rfl;have sx8 : (0 : Nat) + 0 = 0 := rfl;have sx9 : (0 : Nat) + 0 = 0 := rfl;refine goR9 _ _ _ _ _ _ _ _ ?_ ?_ ?_ ?_ ?_ ?_ ?_ ?_) <;> (repeat intro hb) <;> first|exact True.intro|refine Lf.mk ?_))
    refine ⟨1, by omega, _, ?_, 1, by omega, rfl, rfl⟩
    ((try simp only [List.length_append,List.length_cons,List.length_nil,Nat.zero_add]);refine Wk.intro [] (by decide) (by decide) (by intro o ho;simp at ho ⊢ <;> omega) ?_ ?_ <;> repeat' (first|(refine WkV.imm ?_;simp [szN])|exact WkVL.nil|refine WkVL.cons ?_ ?_|exact WkV.top|exact WkV.imm rfl|exact WkV.imm (by simp)|exact WkV.optr rfl|exact WkV.own rfl (by simp)|exact WkV.nil_own (.inl rfl)|exact WkV.map rfl|(refine WkV.free ?_;simp [Free,FreeL] <;> assumption)|(refine WkV.free (fun _ _=>FreeL_nth ?_ _);simp [Free,FreeL];done)|refine WkV.agg ?_|refine WkV.tup ?_|refine WkV.fn ?_ ?_|exact WkO.dead|exact WkO.raw|refine WkO.ghost ?_|exact WkO.mpE rfl trivial|refine WkO.box ?_ rfl|refine WkO.arr ?_|refine And.intro ?_ (And.intro (by first|exact fun h=>h|exact fun _=>rfl|exact nofun) ?_)|exact trivial|(intro i j hi hj)))
  · (simp only [go_sem,↓reduceIte,Nat.reduceAdd,Nat.reduceSub,Nat.reduceMul,Nat.reduceLT,Nat.reduceLeDiff,Nat.reduceEqDiff,Nat.reduceGT,Int.reduceToNat,Int.reduceBEq,Int.reduceBNe];try simp (disch := omega) only [wrapI,wrapU,half_sum,toNat_sub1,toNat_add1,Int.toNat_natCast])
    (have sx1 := szN1;have sx2 : (0 : Nat) + 0 = 0 := rfl;((have sx3 : (0 : Nat) + 0 = 0 := rfl;have sx4 : (0 : Nat) + 0 = 0 := rfl;have sx5 : (0 : Nat) + 0 = 0 := rfl;have sx6 : (0 : Nat) + 0 = 0 := rfl;have sx7 : (0 : Nat) + 0 = 0 := rfl;have sx8 : (0 : Nat) + 0 = 0 := rfl;have sx9 : (0 : Nat) + 0 = 0 := rfl;refine goR9 _ _ _ _ _ _ _ _ ?_ ?_ ?_ ?_ ?_ ?_ ?_ ?_) <;> (repeat intro hb) <;> first|exact True.intro|refine Lf.mk ?_))
    refine ⟨0, by omega, _, ?_, 2, by omega, rfl, rfl⟩
    ((try simp only [List.length_append,List.length_cons,List.length_nil,Nat.zero_add]);refine Wk.intro [] (by decide) (by decide) (by intro o ho;simp at ho ⊢ <;> omega) ?_ ?_ <;> repeat' (first|(refine WkV.imm ?_;simp [szN])|exact WkVL.nil|refine WkVL.cons ?_ ?_|exact WkV.top|exact WkV.imm rfl|exact WkV.imm (by simp)|exact WkV.optr rfl|exact WkV.own rfl (by simp)|exact WkV.nil_own (.inl rfl)|exact WkV.map rfl|(refine WkV.free ?_;simp [Free,FreeL] <;> assumption)|(refine WkV.free (fun _ _=>FreeL_nth ?_ _);simp [Free,FreeL];done)|refine WkV.agg ?_|refine WkV.tup ?_|refine WkV.fn ?_ ?_|exact WkO.dead|exact WkO.raw|refine WkO.ghost ?_|exact WkO.mpE rfl trivial|refine WkO.box ?_ rfl|refine WkO.arr ?_|refine And.intro ?_ (And.intro (by first|exact fun h=>h|exact fun _=>rfl|exact nofun) ?_)|exact trivial|(intro i j hi hj)))
  · (simp only [go_sem,↓reduceIte,Nat.reduceAdd,Nat.reduceSub,Nat.reduceMul,Nat.reduceLT,Nat.reduceLeDiff,Nat.reduceEqDiff,Nat.reduceGT,Int.reduceToNat,Int.reduceBEq,Int.reduceBNe];try simp (disch := omega) only [wrapI,wrapU,half_sum,toNat_sub1,toNat_add1,Int.toNat_natCast])
    have hgr' : Makes Tryz.prog 67 [.imm (.slice none 0 0),.imm (.int .i64 ((szN a b 2 : Nat) : Int))] (.own 0 0 0 none) [.arr 5 1 0 (byE [])] := hgr
    (have cm1 := hgr';((refine goR0 _ _ _ _ _ _ _ _ ?_ ?_ ?_ ?_ ?_ ?_ ?_ ?_) <;> (repeat intro hb) <;> first | exact True.intro | refine Lf.mk ?_))
    refine T_loopW (fun m st=>∃ i : Nat,i ≤ 2 ∧ m + i = 2 ∧ st = ⟨[.view 2 1 (ctE a b),.top,.top,.top,.top,.top,.own 0 0 (ctN a b i).length none] ++ List.replicate 18 .top ++ [.view 2 1 (ctE a b),.imm (.int .i64 2),.imm (.int .i64 i)] ++ List.replicate 8 .top,[byO (ctN a b i)]⟩)
      2 ⟨_, ?_, 0, by omega, rfl, rfl⟩ ?_
    · ((try simp only [List.length_append,List.length_cons,List.length_nil,Nat.zero_add]);refine Wk.intro [0] (by decide) (by decide) (by intro o ho;simp at ho ⊢ <;> omega) ?_ ?_ <;> repeat' (first|exact WkVL.nil|refine WkVL.cons ?_ ?_|exact WkV.top|exact WkV.imm rfl|exact WkV.imm (by simp)|exact WkV.optr rfl|exact WkV.own rfl (by simp)|exact WkV.nil_own (.inl rfl)|exact WkV.map rfl|(refine WkV.free ?_;simp [Free,FreeL] <;> assumption)|(refine WkV.free (fun _ _=>FreeL_nth ?_ _);simp [Free,FreeL];done)|refine WkV.agg ?_|refine WkV.tup ?_|refine WkV.fn ?_ ?_|exact WkO.dead|exact WkO.raw|refine WkO.ghost ?_|exact WkO.mpE rfl trivial|refine WkO.box ?_ rfl|refine WkO.arr ?_|refine And.intro ?_ (And.intro (by first|exact fun h=>h|exact fun _=>rfl|exact nofun) ?_)|exact trivial|(intro i j hi hj)))
    rintro m st ⟨i, h0, h1, rfl⟩
    rcases i with _ | _ | _ | i
    · rw [show ctN a b 0 = [] from rfl]
      (simp only [go_sem,↓reduceIte,Nat.reduceAdd,Nat.reduceSub,Nat.reduceMul,Nat.reduceLT,Nat.reduceLeDiff,Nat.reduceEqDiff,Nat.reduceGT,Int.reduceToNat,Int.reduceBEq,Int.reduceBNe];try simp (disch := omega) only [wrapI,wrapU,half_sum,toNat_sub1,toNat_add1,Int.toNat_natCast])
      (((refine goR0 _ _ _ _ _ _ _ _ ?_ ?_ ?_ ?_ ?_ ?_ ?_ ?_) <;> (repeat intro hb) <;> first | exact True.intro | refine Lf.mk ?_))
      refine ⟨1, by omega, _, ?_, 1, by omega, rfl, rfl⟩
      rw [show ctN a b 1 = a from rfl]
      ((try simp only [List.length_append,List.length_cons,List.length_nil,Nat.zero_add]);refine Wk.intro [1] (by decide) (by decide) (by intro o ho;simp at ho ⊢ <;> omega) ?_ ?_ <;> repeat' (first|exact WkV.own rfl (by simp)|(refine WkO.arr ?_;intro i j hi hj;exact WkV.eqF (byE_app (a := []) (b := a) (fun i j hi=>by simp at hi) (fun _ _ _ _=>rfl) rfl i j (by simpa using hi) hj) trivial)|exact WkVL.nil|refine WkVL.cons ?_ ?_|exact WkV.top|exact WkV.imm rfl|exact WkV.imm (by simp)|exact WkV.optr rfl|exact WkV.own rfl (by simp)|exact WkV.nil_own (.inl rfl)|exact WkV.map rfl|(refine WkV.free ?_;simp [Free,FreeL] <;> assumption)|(refine WkV.free (fun _ _=>FreeL_nth ?_ _);simp [Free,FreeL];done)|refine WkV.agg ?_|refine WkV.tup ?_|refine WkV.fn ?_ ?_|exact WkO.dead|exact WkO.raw|refine WkO.ghost ?_|exact WkO.mpE rfl trivial|refine WkO.box ?_ rfl|refine WkO.arr ?_|refine And.intro ?_ (And.intro (by first|exact fun h=>h|exact fun _=>rfl|exact nofun) ?_)|exact trivial|(intro i j hi hj)))
    · rw [show ctN a b 1 = a from rfl]
      (simp only [go_sem,↓reduceIte,Nat.reduceAdd,Nat.reduceSub,Nat.reduceMul,Nat.reduceLT,Nat.reduceLeDiff,Nat.reduceEqDiff,Nat.reduceGT,Int.reduceToNat,Int.reduceBEq,Int.reduceBNe];try simp (disch := omega) only [wrapI,wrapU,half_sum,toNat_sub1,toNat_add1,Int.toNat_natCast])
      (((refine goR0 _ _ _ _ _ _ _ _ ?_ ?_ ?_ ?_ ?_ ?_ ?_ ?_) <;> (repeat intro hb) <;> first | exact True.intro | refine Lf.mk ?_))
      refine ⟨0, by omega, _, ?_, 2, by omega, rfl, rfl⟩
      rw [show ctN a b 2 = a ++ b from rfl]
      ((try simp only [List.length_append,List.length_cons,List.length_nil,Nat.zero_add]);refine Wk.intro [1] (by decide) (by decide) (by intro o ho;simp at ho ⊢ <;> omega) ?_ ?_ <;> repeat' (first|(refine WkO.arr ?_;intro i j hi hj;exact WkV.eqF (byE_app (a := a) (b := b) (fun _ _ _ _=>rfl) (fun _ _ _ _=>rfl) rfl i j (by simpa using hi) hj) trivial)|exact WkVL.nil|refine WkVL.cons ?_ ?_|exact WkV.top|exact WkV.imm rfl|exact WkV.imm (by simp)|exact WkV.optr rfl|exact WkV.own rfl (by simp)|exact WkV.nil_own (.inl rfl)|exact WkV.map rfl|(refine WkV.free ?_;simp [Free,FreeL] <;> assumption)|(refine WkV.free (fun _ _=>FreeL_nth ?_ _);simp [Free,FreeL];done)|refine WkV.agg ?_|refine WkV.tup ?_|refine WkV.fn ?_ ?_|exact WkO.dead|exact WkO.raw|refine WkO.ghost ?_|exact WkO.mpE rfl trivial|refine WkO.box ?_ rfl|refine WkO.arr ?_|refine And.intro ?_ (And.intro (by first|exact fun h=>h|exact fun _=>rfl|exact nofun) ?_)|exact trivial|(intro i j hi hj)))
    · rw [show ctN a b 2 = a ++ b from rfl]
      (simp only [go_sem,↓reduceIte,Nat.reduceAdd,Nat.reduceSub,Nat.reduceMul,Nat.reduceLT,Nat.reduceLeDiff,Nat.reduceEqDiff,Nat.reduceGT,Int.reduceToNat,Int.reduceBEq,Int.reduceBNe];try simp (disch := omega) only [wrapI,wrapU,half_sum,toNat_sub1,toNat_add1,Int.toNat_natCast])
      (((refine goR0 _ _ _ _ _ _ _ _ ?_ ?_ ?_ ?_ ?_ ?_ ?_ ?_) <;> (repeat intro hb) <;> first | exact True.intro | refine Lf.mk ?_))
      exact .inr ⟨0, _, rfl, rfl, fun _ _ _ _ => rfl⟩
    · omega
  · omega
theorem concat_tc (a b : List Nat) (ha : a.length ≤ 200000) (hb : b.length ≤ 200000) : Makes Tryz.prog 48 [.view 2 1 (ctE a b)] (ownB (a ++ b)) [byO (a ++ b)] := Makes.lst1J (byE_pl _) (concat_raw a b ha hb)
end Go.Proofs.YtngfnogoicfmaaaGreatDoor
namespace Go.Proofs.YtngfnogoicfmaaaGreatDoor
open Go.Ab
def DQ (b : List Nat) (mk : AV → AV) (v : AV) (σ' : List AObj) : Prop :=
  (v = mk (.imm (.slice none 0 0)) ∧ b = []) ∨ ∃ k, v = mk (.own k 0 b.length none) ∧ nthO σ' k = byO b
theorem DQ.makes {b : List Nat} {mk : AV → AV} {f : FuncId} {args : List AV} (hv : VF (mk (.own 0 0 b.length none))) (hw : ∀ π σ x,WkV π σ x (.own 0 0 b.length none) → WkV π σ (mk x) (mk (.own 0 0 b.length none))) (h : TC Tryz.prog f args [] (DQ b mk)) :
    Makes Tryz.prog f args (mk (.own 0 0 b.length none)) [byO b] := by
  refine Makes.gen [(5,1)] hv (fun a ha => by simp only [List.mem_singleton] at ha;subst ha;exact byE_pl b) (h.mono fun v σ' hq => ?_)
  rcases hq with ⟨rfl, rfl⟩ | ⟨k, rfl, hk⟩
  · refine ⟨[σ'.length], by simp, by simp, hw _ _ _ (WkV.nil_own (.inl rfl)), ?_⟩
    have e1 : nthO (σ' ++ [AObj.arr 5 1 0 fun _ _ => .top]) σ'.length = AObj.arr 5 1 0 fun _ _ => .top := nthO_at _ _ _
    simp only [List.map_cons, List.map_nil, WkOL, e1]
    exact ⟨WkO.arr fun i j hi _ => by simp at hi, fun _ => rfl, trivial⟩
  · have la := nthO_lt hk (by simp)
    refine ⟨[k], by simp, by simp; omega, hw _ _ _ (WkV.own rfl (by simp)), ?_⟩
    simp only [WkOL, nthO_app la, hk]
    exact ⟨WkO.arr fun i j _ _ => WkV.free trivial, fun _ => rfl, trivial⟩
def mkD (s e : Int) (x : AV) : AV := .tup [.agg [x, .imm (.int .i64 s)], .imm (.int .i64 e)]
theorem DQ.makesD {b : List Nat} {s e : Int} {f : FuncId} {args : List AV} (h : TC Tryz.prog f args [] (DQ b (mkD s e))) :
    Makes Tryz.prog f args (.tup [.agg [.own 0 0 b.length none, .imm (.int .i64 s)], .imm (.int .i64 e)]) [byO b] :=
  DQ.makes (mk := mkD s e) (by simp [mkD,VF,VFL]) (fun π σ x hx => WkV.tup (WkVL.cons (WkV.agg (WkVL.cons hx (WkVL.cons (WkV.imm rfl) WkVL.nil))) (WkVL.cons (WkV.imm rfl) WkVL.nil))) h
set_option maxRecDepth 100000 in
set_option maxHeartbeats 4000000 in
theorem kept_tc (d : Dsk) (n : Nat) (hn : n ≤ d.b.length) (hl : d.b.length ≤ 200000) : Makes Tryz.prog 46 [dsA d,.imm (.int .i64 n)] (.agg [ownB (d.b.take n),.imm (.int .i64 n)]) [byO (d.b.take n)] := by
  refine DQ.makes (mk := fun x => .agg [x,.imm (.int .i64 n)]) (by simp [VF,VFL]) (fun π σ x hx => WkV.agg (WkVL.cons hx (WkVL.cons (WkV.imm rfl) WkVL.nil))) ?_
  have hc := bclone_tc (d.b.take n) (by simp; omega)
  have hlen : (d.b.take n).length = n := by simp; omega
  have hv1 := byE_sub d.b 0 n
  simp only [bys, ownB, byO, hlen] at hc
  (refine TC_of_T Γ_ok Tryz.func46 rfl (by kernel_rfl) ?_;simp only [Tryz.ntmps46,Tryz.results46,List.length_cons,List.length_nil,Nat.reduceSub,Nat.reduceAdd,List.replicate,List.cons_append,List.nil_append])
  (have cm1 := hc;((refine goR0 _ _ _ _ _ _ _ _ ?_ ?_ ?_ ?_ ?_ ?_ ?_ ?_) <;> (repeat intro hb) <;> first | exact True.intro | refine Lf.mk ?_))
  exact .inr ⟨2, by rw [hlen], by simp only [nthO, byO, hlen]⟩
def syncR (d : Dsk) : Dsk × Int := if soundB d = true then (⟨d.b.take d.b.length, d.b.length⟩, 0) else (⟨[], 0⟩, 1)
def crashR (d : Dsk) (keep : Int) : Dsk × Int :=
  if soundB d = true ∧ 0 ≤ keep then (⟨d.b.take (d.s.toNat + min keep.toNat (d.b.length - d.s.toNat)),(d.s.toNat + min keep.toNat (d.b.length - d.s.toNat) : Nat)⟩,0) else (⟨[],0⟩,1)
theorem sound_spec {d : Dsk} (h : soundB d = true) : d.b.length ≤ 100000 ∧ 0 ≤ d.s ∧ d.s ≤ d.b.length := by
  unfold soundB at h
  simp only [Bool.and_eq_true, decide_eq_true_eq] at h
  omega
@[go_sem,reducible] def dskA (q : Dsk × Int) : AV := .tup [.agg [.own 0 0 q.1.b.length none,.imm (.int .i64 q.1.s)],.imm (.int .i64 q.2)]
@[go_sem, reducible] def dskO (q : Dsk × Int) : List AObj := [byO q.1.b]
set_option maxRecDepth 100000 in
set_option maxHeartbeats 4000000 in
theorem sync_tc (d : Dsk) (hl : d.b.length ≤ 9223372036854775807) : Makes Tryz.prog 24 [dsA d] (dskA (syncR d)) (dskO (syncR d)) := by
  refine DQ.makesD ?_
  have hs := sound_tc d hl
  by_cases h : soundB d = true
  · have e : syncR d = (⟨d.b.take d.b.length, d.b.length⟩, 0) := if_pos h
    have hk := kept_tc d d.b.length (Nat.le_refl _) (by have := sound_spec h; omega)
    rw [h] at hs
    rw [e]
    (refine TC_of_T Γ_ok Tryz.func24 rfl (by kernel_rfl) ?_;simp only [Tryz.ntmps24,Tryz.results24,List.length_cons,List.length_nil,Nat.reduceSub,Nat.reduceAdd,List.replicate,List.cons_append,List.nil_append])
    (have cl1 := hs;have cm1 := hk;((refine goR0 _ _ _ _ _ _ _ _ ?_ ?_ ?_ ?_ ?_ ?_ ?_ ?_) <;> (repeat intro hb) <;> first | exact True.intro | refine Lf.mk ?_))
    exact .inr ⟨2, rfl, rfl⟩
  · have e : syncR d = (⟨[], 0⟩, 1) := if_neg h
    rw [show soundB d = false by simpa using h] at hs
    rw [e]
    (refine TC_of_T Γ_ok Tryz.func24 rfl (by kernel_rfl) ?_;simp only [Tryz.ntmps24,Tryz.results24,List.length_cons,List.length_nil,Nat.reduceSub,Nat.reduceAdd,List.replicate,List.cons_append,List.nil_append])
    (have cl1 := hs;((refine goR0 _ _ _ _ _ _ _ _ ?_ ?_ ?_ ?_ ?_ ?_ ?_ ?_) <;> (repeat intro hb) <;> first | exact True.intro | refine Lf.mk ?_))
    exact .inl ⟨rfl, rfl⟩
set_option maxRecDepth 100000 in
set_option maxHeartbeats 4000000 in
theorem crash_tc (d : Dsk) (keep : Int) (hl : d.b.length ≤ 9223372036854775807) : Makes Tryz.prog 26 [dsA d,.imm (.int .i64 keep)] (dskA (crashR d keep)) (dskO (crashR d keep)) := by
  refine DQ.makesD ?_
  have hs := sound_tc d hl
  by_cases h : soundB d = true ∧ 0 ≤ keep
  · have hsp := sound_spec h.1
    obtain ⟨b, s⟩ := d
    simp only [] at hsp hl
    obtain ⟨s, rfl⟩ : ∃ q : Nat, s = q := ⟨s.toNat, by omega⟩
    obtain ⟨keep, rfl⟩ : ∃ q : Nat, keep = q := ⟨keep.toNat, by omega⟩
    have hk := kept_tc ⟨b, s⟩ (s + min keep (b.length - s)) (by simp only; omega) (by simp only; omega)
    have e : crashR ⟨b,s⟩ keep = (⟨b.take (s + min keep (b.length - s)),(s + min keep (b.length - s) : Nat)⟩,0) := by unfold crashR;rw [if_pos h];simp
    rw [h.1] at hs
    rw [e]
    (refine TC_of_T Γ_ok Tryz.func26 rfl (by kernel_rfl) ?_;simp only [Tryz.ntmps26,Tryz.results26,List.length_cons,List.length_nil,Nat.reduceSub,Nat.reduceAdd,List.replicate,List.cons_append,List.nil_append])
    have hm : ((s : Int) + if (b.length : Int) - s < keep then (b.length : Int) - s else keep) = ((s + min keep (b.length - s) : Nat) : Int) := by split <;> omega
    (have cl1 := hs;have cm1 := hk;have sx1 := hm;have sx2 : (0 : Nat) + 0 = 0 := rfl;((have sx3 : (0 : Nat) + 0 = 0 := rfl;have sx4 : (0 : Nat) + 0 = 0 := rfl;have sx5 : (0 : Nat) + 0 = 0 := rfl;have sx6 : (0 : Nat) + 0 = 0 := rfl;have sx7 : (0 : Nat) + 0 = 0 := rfl;have sx8 : (0 : Nat) + 0 = 0 := rfl;have sx9 : (0 : Nat) + 0 = 0 := rfl;refine goR9 _ _ _ _ _ _ _ _ ?_ ?_ ?_ ?_ ?_ ?_ ?_ ?_) <;> (repeat intro hb) <;> first|exact True.intro|refine Lf.mk ?_))
    exact .inr ⟨2, rfl, rfl⟩
  · have e : crashR d keep = (⟨[], 0⟩, 1) := if_neg h
    rw [e]
    cases h2 : soundB d with
    | true =>
      rw [h2] at hs h
      have h3 : decide (keep < 0) = true := decide_eq_true (by simp at h; omega)
      (refine TC_of_T Γ_ok Tryz.func26 rfl (by kernel_rfl) ?_;simp only [Tryz.ntmps26,Tryz.results26,List.length_cons,List.length_nil,Nat.reduceSub,Nat.reduceAdd,List.replicate,List.cons_append,List.nil_append])
      (have cl1 := hs;have sx1 := h3;have sx2 : (0 : Nat) + 0 = 0 := rfl;((have sx3 : (0 : Nat) + 0 = 0 := rfl;have sx4 : (0 : Nat) + 0 = 0 := rfl;have sx5 : (0 : Nat) + 0 = 0 := rfl;have sx6 : (0 : Nat) + 0 = 0 := rfl;have sx7 : (0 : Nat) + 0 = 0 := rfl;have sx8 : (0 : Nat) + 0 = 0 := rfl;have sx9 : (0 : Nat) + 0 = 0 := rfl;refine goR9 _ _ _ _ _ _ _ _ ?_ ?_ ?_ ?_ ?_ ?_ ?_ ?_) <;> (repeat intro hb) <;> first|exact True.intro|refine Lf.mk ?_))
      exact .inl ⟨rfl, rfl⟩
    | false =>
      rw [h2] at hs
      (refine TC_of_T Γ_ok Tryz.func26 rfl (by kernel_rfl) ?_;simp only [Tryz.ntmps26,Tryz.results26,List.length_cons,List.length_nil,Nat.reduceSub,Nat.reduceAdd,List.replicate,List.cons_append,List.nil_append])
      (have cl1 := hs;((refine goR0 _ _ _ _ _ _ _ _ ?_ ?_ ?_ ?_ ?_ ?_ ?_ ?_) <;> (repeat intro hb) <;> first | exact True.intro | refine Lf.mk ?_))
      exact .inl ⟨rfl, rfl⟩
end Go.Proofs.YtngfnogoicfmaaaGreatDoor
