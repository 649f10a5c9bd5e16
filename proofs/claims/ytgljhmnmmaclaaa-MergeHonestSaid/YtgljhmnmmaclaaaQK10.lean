/-
  pdqsortCmpFunc, SortFunc.
-/
import Derived.Test.YtgljhmnmmaclaaaQGo
import Derived.Test.YtgljhmnmmaclaaaQK9
import Derived.Test.YtgljhmnmmaclaaaQK7
import Derived.Test.YtgljhmnmmaclaaaQK5
set_option linter.unusedSimpArgs false
set_option linter.unusedVariables false
namespace Go.Proofs.Ytgljhmnmmaclaaa
open Go.Ab Go.Sort
@[go_sem,reducible] def kE (n a b lim : Nat) (wb wp : Bool) (tl : List AV) : List AV := [elV n,.imm (.int .i64 a),.imm (.int .i64 b),.imm (.int .i64 lim),cmpF,.top,.top,.top,.top,.top,.imm (.bool wb),.imm (.bool wp)] ++ tl
@[go_sem, reducible] def kI (x : Nat) : AV := .imm (.int .i64 x)
theorem hint_dec {h : Hint} : hintCode h = 2 ↔ h = .decreasing := by cases h <;> simp [hintCode]
theorem hint_inc {h : Hint} : hintCode h = 1 ↔ h = .increasing := by cases h <;> simp [hintCode]
set_option maxRecDepth 100000 in
set_option maxHeartbeats 4000000 in
theorem pdq_tc (n : Nat) (hn : n ≤ 60000) : ∀ (m : Nat) (d : Array El),d.size = n → ∀ (a b limit : Nat),b - a ≤ m → a ≤ b → b ≤ n → limit ≤ 60000 →
    TC Try.prog 51 [elV n,kI a,kI b,kI limit,cmpF] [elO n d] (fun v σ' => v = .tup [] ∧ σ' = [elO n (pdq ltE d a b limit true true)]) := by
  intro m
  induction m using Nat.strongRecOn with
  | ind m ih =>
  intro d hd a b limit hm hab hbn hl
  have ih' : ∀ (e : Array El) (a' b' l' : Nat),e.size = n → b' - a' < m → a' ≤ b' → b' ≤ n → l' ≤ 60000 → Turns Try.prog 51 [elV n,kI a',kI b',kI l',cmpF] [elO n e] (.tup []) [elO n (pdq ltE e a' b' l' true true)] :=
    fun e a' b' l' h1 h2 h3 h4 h5 => ⟨ih (b' - a') h2 e h1 a' b' l' (Nat.le_refl _) h3 h4 h5,by simp [VF,VFL],elO_vf _ _⟩
  clear ih
  generalize hR : pdq ltE d a b limit true true = R
  (refine TC_of_T Γ_ok Try.func51 rfl (by kernel_rfl) ?_;simp only [Try.ntmps51,Try.results51,List.length_cons,List.length_nil,Nat.reduceSub,Nat.reduceAdd,List.replicate,List.cons_append,List.nil_append])
  (((refine goR0 _ _ _ _ _ _ _ _ ?_ ?_ ?_ ?_ ?_ ?_ ?_ ?_) <;> (repeat intro hb) <;> first | exact True.intro | refine Lf.mk ?_))
  refine T_loopW (fun q st => ∃ (a b limit : Nat) (wb wp : Bool) (f : Array El),a ≤ b ∧ b ≤ n ∧ limit ≤ 60000 ∧ b - a ≤ m ∧ q = b - a ∧ f.size = n ∧ pdq ltE f a b limit wb wp = R ∧
    st = ⟨kE n a b limit wb wp (List.replicate 136 .top),[elO n f]⟩) (b - a) ⟨_,?_,a,b,limit,true,true,d,hab,hbn,hl,hm,rfl,hd,hR,rfl⟩ ?_
  · ((try simp only [List.length_append,List.length_cons,List.length_nil,Nat.zero_add]);refine Wk.intro [0] (by decide) (by decide) (by intro o ho;simp at ho ⊢ <;> omega) ?_ ?_ <;> repeat' (first|exact WkVL.nil|refine WkVL.cons ?_ ?_|exact WkV.top|exact WkV.imm rfl|exact WkV.imm (by simp)|exact WkV.optr rfl|exact WkV.own rfl (by simp)|exact WkV.nil_own (.inl rfl)|exact WkV.map rfl|(refine WkV.free ?_;simp [Free,FreeL] <;> assumption)|(refine WkV.free (fun _ _=>FreeL_nth ?_ _);simp [Free,FreeL];done)|refine WkV.agg ?_|refine WkV.tup ?_|refine WkV.fn ?_ ?_|exact WkO.dead|exact WkO.raw|refine WkO.ghost ?_|exact WkO.mpE rfl trivial|refine WkO.box ?_ rfl|refine WkO.arr ?_|refine And.intro ?_ (And.intro (by first|exact fun h=>h|exact fun _=>rfl|exact nofun) ?_)|exact trivial|(intro i j hi hj)))
  clear hR hm hab hbn hl hd
  rintro q st ⟨a, b, limit, wb, wp, f, hab, hbn, hl, hm, rfl, hf, hR, rfl⟩
  have e0 : ((b : Int) - (a : Int)) = ((b - a : Nat) : Int) := by omega
  (simp only [go_sem,↓reduceIte,Nat.reduceAdd,Nat.reduceSub,Nat.reduceMul,Nat.reduceLT,Nat.reduceLeDiff,Nat.reduceEqDiff,Nat.reduceGT,Int.reduceToNat,Int.reduceBEq,Int.reduceBNe];try simp (disch := omega) only [wrapI,wrapU,half_sum,toNat_sub1,toNat_add1,Int.toNat_natCast])
  refine T_block ?_
  refine T_cutW (fun st => st = ⟨kE n a b limit wb wp ([kI (b - a)] ++ List.replicate 135 .top), [elO n f]⟩) ?_ ?_
  · (have sx1 := e0;have sx2 : (0 : Nat) + 0 = 0 := rfl;((have sx3 : (0 : Nat) + 0 = 0 := rfl;have sx4 : (0 : Nat) + 0 = 0 := rfl;have sx5 : (0 : Nat) + 0 = 0 := rfl;have sx6 : (0 : Nat) + 0 = 0 := rfl;have sx7 : (0 : Nat) + 0 = 0 := rfl;have sx8 : (0 : Nat) + 0 = 0 := rfl;have sx9 : (0 : Nat) + 0 = 0 := rfl;refine goR9 _ _ _ _ _ _ _ _ ?_ ?_ ?_ ?_ ?_ ?_ ?_ ?_) <;> (repeat intro hb) <;> first|exact True.intro|refine Lf.mk ?_))
    refine ⟨_, ?_, rfl⟩
    ((try simp only [List.length_append,List.length_cons,List.length_nil,Nat.zero_add]);refine Wk.intro [0] (by decide) (by decide) (by intro o ho;simp at ho ⊢ <;> omega) ?_ ?_ <;> repeat' (first|exact WkVL.nil|refine WkVL.cons ?_ ?_|exact WkV.top|exact WkV.imm rfl|exact WkV.imm (by simp)|exact WkV.optr rfl|exact WkV.own rfl (by simp)|exact WkV.nil_own (.inl rfl)|exact WkV.map rfl|(refine WkV.free ?_;simp [Free,FreeL] <;> assumption)|(refine WkV.free (fun _ _=>FreeL_nth ?_ _);simp [Free,FreeL];done)|refine WkV.agg ?_|refine WkV.tup ?_|refine WkV.fn ?_ ?_|exact WkO.dead|exact WkO.raw|refine WkO.ghost ?_|exact WkO.mpE rfl trivial|refine WkO.box ?_ rfl|refine WkO.arr ?_|refine And.intro ?_ (And.intro (by first|exact fun h=>h|exact fun _=>rfl|exact nofun) ?_)|exact trivial|(intro i j hi hj)))
  rintro st rfl
  (simp only [go_sem,↓reduceIte,Nat.reduceAdd,Nat.reduceSub,Nat.reduceMul,Nat.reduceLT,Nat.reduceLeDiff,Nat.reduceEqDiff,Nat.reduceGT,Int.reduceToNat,Int.reduceBEq,Int.reduceBNe];try simp (disch := omega) only [wrapI,wrapU,half_sum,toNat_sub1,toNat_add1,Int.toNat_natCast])
  refine T_cutW (fun st => ¬ b - a ≤ 12 ∧ st = ⟨kE n a b limit wb wp ([kI (b - a)] ++ List.replicate 135 .top),[elO n f]⟩) ?_ ?_
  · (have ct1 := TurnsAt.mk [0] (insertion_tu n f hf hn a b (by omega) hbn);((refine goR0 _ _ _ _ _ _ _ _ ?_ ?_ ?_ ?_ ?_ ?_ ?_ ?_) <;> (repeat intro hb) <;> first|exact True.intro|refine Lf.mk ?_))
    · rw [← hR, pdq_1 (by omega)]
    · refine ⟨_, ?_, by omega, rfl⟩
      ((try simp only [List.length_append,List.length_cons,List.length_nil,Nat.zero_add]);refine Wk.intro [0] (by decide) (by decide) (by intro o ho;simp at ho ⊢ <;> omega) ?_ ?_ <;> repeat' (first|exact WkVL.nil|refine WkVL.cons ?_ ?_|exact WkV.top|exact WkV.imm rfl|exact WkV.imm (by simp)|exact WkV.optr rfl|exact WkV.own rfl (by simp)|exact WkV.nil_own (.inl rfl)|exact WkV.map rfl|(refine WkV.free ?_;simp [Free,FreeL] <;> assumption)|(refine WkV.free (fun _ _=>FreeL_nth ?_ _);simp [Free,FreeL];done)|refine WkV.agg ?_|refine WkV.tup ?_|refine WkV.fn ?_ ?_|exact WkO.dead|exact WkO.raw|refine WkO.ghost ?_|exact WkO.mpE rfl trivial|refine WkO.box ?_ rfl|refine WkO.arr ?_|refine And.intro ?_ (And.intro (by first|exact fun h=>h|exact fun _=>rfl|exact nofun) ?_)|exact trivial|(intro i j hi hj)))
  rintro st ⟨h12, rfl⟩
  (simp only [go_sem,↓reduceIte,Nat.reduceAdd,Nat.reduceSub,Nat.reduceMul,Nat.reduceLT,Nat.reduceLeDiff,Nat.reduceEqDiff,Nat.reduceGT,Int.reduceToNat,Int.reduceBEq,Int.reduceBNe];try simp (disch := omega) only [wrapI,wrapU,half_sum,toNat_sub1,toNat_add1,Int.toNat_natCast])
  refine T_cutW (fun st => ¬ limit = 0 ∧ st = ⟨kE n a b limit wb wp ([kI (b - a)] ++ List.replicate 135 .top),[elO n f]⟩) ?_ ?_
  · (have ct1 := TurnsAt.mk [0] (heap_tu n f hf hn a b hab hbn);((refine goR0 _ _ _ _ _ _ _ _ ?_ ?_ ?_ ?_ ?_ ?_ ?_ ?_) <;> (repeat intro hb) <;> first | exact True.intro | refine Lf.mk ?_))
    · rw [← hR, pdq_2 (by omega) (by omega)]
    · refine ⟨_, ?_, by omega, rfl⟩
      ((try simp only [List.length_append,List.length_cons,List.length_nil,Nat.zero_add]);refine Wk.intro [0] (by decide) (by decide) (by intro o ho;simp at ho ⊢ <;> omega) ?_ ?_ <;> repeat' (first|exact WkVL.nil|refine WkVL.cons ?_ ?_|exact WkV.top|exact WkV.imm rfl|exact WkV.imm (by simp)|exact WkV.optr rfl|exact WkV.own rfl (by simp)|exact WkV.nil_own (.inl rfl)|exact WkV.map rfl|(refine WkV.free ?_;simp [Free,FreeL] <;> assumption)|(refine WkV.free (fun _ _=>FreeL_nth ?_ _);simp [Free,FreeL];done)|refine WkV.agg ?_|refine WkV.tup ?_|refine WkV.fn ?_ ?_|exact WkO.dead|exact WkO.raw|refine WkO.ghost ?_|exact WkO.mpE rfl trivial|refine WkO.box ?_ rfl|refine WkO.arr ?_|refine And.intro ?_ (And.intro (by first|exact fun h=>h|exact fun _=>rfl|exact nofun) ?_)|exact trivial|(intro i j hi hj)))
  rintro st ⟨hl0, rfl⟩
  rw [pdq_3 h12 hl0] at hR
  (simp only [go_sem,↓reduceIte,Nat.reduceAdd,Nat.reduceSub,Nat.reduceMul,Nat.reduceLT,Nat.reduceLeDiff,Nat.reduceEqDiff,Nat.reduceGT,Int.reduceToNat,Int.reduceBEq,Int.reduceBNe];try simp (disch := omega) only [wrapI,wrapU,half_sum,toNat_sub1,toNat_add1,Int.toNat_natCast])
  refine T_cutW (fun st => ∃ (e : Array El) (lim : Nat),e.size = n ∧ lim ≤ 60000 ∧ pB ltE e a b lim wb wp = R ∧ st = ⟨kE n a b lim wb wp ([kI (b - a)] ++ List.replicate 135 .top),[elO n e]⟩) ?_ ?_
  · cases wb
    · (have ct1 := TurnsAt.mk [0] (break_tu n f hf hn a b (by omega) hbn);((refine goR0 _ _ _ _ _ _ _ _ ?_ ?_ ?_ ?_ ?_ ?_ ?_ ?_) <;> (repeat intro hb) <;> first | exact True.intro | refine Lf.mk ?_))
      refine ⟨_, ?_, _, limit - 1, (breakPatterns_holds f a b hab (by omega)).1.trans hf, by omega, hR, rfl⟩
      ((try simp only [List.length_append,List.length_cons,List.length_nil,Nat.zero_add]);refine Wk.intro [0] (by decide) (by decide) (by intro o ho;simp at ho ⊢ <;> omega) ?_ ?_ <;> repeat' (first|(refine WkV.imm ?_;congr 1;omega)|exact WkVL.nil|refine WkVL.cons ?_ ?_|exact WkV.top|exact WkV.imm rfl|exact WkV.imm (by simp)|exact WkV.optr rfl|exact WkV.own rfl (by simp)|exact WkV.nil_own (.inl rfl)|exact WkV.map rfl|(refine WkV.free ?_;simp [Free,FreeL] <;> assumption)|(refine WkV.free (fun _ _=>FreeL_nth ?_ _);simp [Free,FreeL];done)|refine WkV.agg ?_|refine WkV.tup ?_|refine WkV.fn ?_ ?_|exact WkO.dead|exact WkO.raw|refine WkO.ghost ?_|exact WkO.mpE rfl trivial|refine WkO.box ?_ rfl|refine WkO.arr ?_|refine And.intro ?_ (And.intro (by first|exact fun h=>h|exact fun _=>rfl|exact nofun) ?_)|exact trivial|(intro i j hi hj)))
    · (((refine goR0 _ _ _ _ _ _ _ _ ?_ ?_ ?_ ?_ ?_ ?_ ?_ ?_) <;> (repeat intro hb) <;> first | exact True.intro | refine Lf.mk ?_))
      refine ⟨_, ?_, _, limit, hf, by omega, hR, rfl⟩
      ((try simp only [List.length_append,List.length_cons,List.length_nil,Nat.zero_add]);refine Wk.intro [0] (by decide) (by decide) (by intro o ho;simp at ho ⊢ <;> omega) ?_ ?_ <;> repeat' (first|exact WkVL.nil|refine WkVL.cons ?_ ?_|exact WkV.top|exact WkV.imm rfl|exact WkV.imm (by simp)|exact WkV.optr rfl|exact WkV.own rfl (by simp)|exact WkV.nil_own (.inl rfl)|exact WkV.map rfl|(refine WkV.free ?_;simp [Free,FreeL] <;> assumption)|(refine WkV.free (fun _ _=>FreeL_nth ?_ _);simp [Free,FreeL];done)|refine WkV.agg ?_|refine WkV.tup ?_|refine WkV.fn ?_ ?_|exact WkO.dead|exact WkO.raw|refine WkO.ghost ?_|exact WkO.mpE rfl trivial|refine WkO.box ?_ rfl|refine WkO.arr ?_|refine And.intro ?_ (And.intro (by first|exact fun h=>h|exact fun _=>rfl|exact nofun) ?_)|exact trivial|(intro i j hi hj)))
  clear hR hf hl hl0 f limit
  rintro st ⟨d1, lim, hd1, hlim, hR, rfl⟩
  have hc := choosePivot_holds ltE d1 a b (by omega)
  unfold pB at hR
  simp only [] at hR
  have ec := choose_tu n d1 hd1 hn a b (by omega) hbn
  generalize choosePivot ltE d1 a b = c at *
  (simp only [go_sem,↓reduceIte,Nat.reduceAdd,Nat.reduceSub,Nat.reduceMul,Nat.reduceLT,Nat.reduceLeDiff,Nat.reduceEqDiff,Nat.reduceGT,Int.reduceToNat,Int.reduceBEq,Int.reduceBNe];try simp (disch := omega) only [wrapI,wrapU,half_sum,toNat_sub1,toNat_add1,Int.toNat_natCast])
  refine T_cutW (fun st => st = ⟨kE n a b lim wb wp ([kI (b - a),kI c.1,.imm (.int .i64 (hintCode c.2))] ++ List.replicate 133 .top),[elO n d1]⟩) ?_ ?_
  · (have ct1 := TurnsAt.mk [0] (ec);((refine goR0 _ _ _ _ _ _ _ _ ?_ ?_ ?_ ?_ ?_ ?_ ?_ ?_) <;> (repeat intro hb) <;> first | exact True.intro | refine Lf.mk ?_))
    refine ⟨_, ?_, rfl⟩
    ((try simp only [List.length_append,List.length_cons,List.length_nil,Nat.zero_add]);refine Wk.intro [0] (by decide) (by decide) (by intro o ho;simp at ho ⊢ <;> omega) ?_ ?_ <;> repeat' (first|exact WkVL.nil|refine WkVL.cons ?_ ?_|exact WkV.top|exact WkV.imm rfl|exact WkV.imm (by simp)|exact WkV.optr rfl|exact WkV.own rfl (by simp)|exact WkV.nil_own (.inl rfl)|exact WkV.map rfl|(refine WkV.free ?_;simp [Free,FreeL] <;> assumption)|(refine WkV.free (fun _ _=>FreeL_nth ?_ _);simp [Free,FreeL];done)|refine WkV.agg ?_|refine WkV.tup ?_|refine WkV.fn ?_ ?_|exact WkO.dead|exact WkO.raw|refine WkO.ghost ?_|exact WkO.mpE rfl trivial|refine WkO.box ?_ rfl|refine WkO.arr ?_|refine And.intro ?_ (And.intro (by first|exact fun h=>h|exact fun _=>rfl|exact nofun) ?_)|exact trivial|(intro i j hi hj)))
  rintro st rfl
  clear ec
  (simp only [go_sem,↓reduceIte,Nat.reduceAdd,Nat.reduceSub,Nat.reduceMul,Nat.reduceLT,Nat.reduceLeDiff,Nat.reduceEqDiff,Nat.reduceGT,Int.reduceToNat,Int.reduceBEq,Int.reduceBNe];try simp (disch := omega) only [wrapI,wrapU,half_sum,toNat_sub1,toNat_add1,Int.toNat_natCast])
  refine T_cutW (fun st=>∃ (d2 : Array El) (piv : Nat) (hint : Hint),d2.size = n ∧ a ≤ piv ∧ piv < b ∧ pC ltE d2 a b lim wb wp piv hint = R ∧ st = ⟨kE n a b lim wb wp ([kI (b - a),kI piv,.imm (.int .i64 (hintCode hint))] ++ List.replicate 133 .top),[elO n d2]⟩) ?_ ?_
  · (have ct1 := TurnsAt.mk [0] (reverse_tu n d1 hd1 hn a b (by omega) hbn);((refine goR0 _ _ _ _ _ _ _ _ ?_ ?_ ?_ ?_ ?_ ?_ ?_ ?_) <;> (repeat intro hb) <;> first|exact True.intro|refine Lf.mk ?_))
    · rw [if_pos (hint_dec.1 hb), if_pos (hint_dec.1 hb), if_pos (hint_dec.1 hb)] at hR
      refine ⟨_,?_,_,b - 1 - (c.1 - a),.increasing,(reverseRange_holds d1 a b hab (by omega)).1.trans hd1,by omega,by omega,hR,rfl⟩
      ((try simp only [List.length_append,List.length_cons,List.length_nil,Nat.zero_add]);refine Wk.intro [0] (by decide) (by decide) (by intro o ho;simp at ho ⊢ <;> omega) ?_ ?_ <;> repeat' (first|(refine WkV.imm ?_;congr 1;omega)|exact WkVL.nil|refine WkVL.cons ?_ ?_|exact WkV.top|exact WkV.imm rfl|exact WkV.imm (by simp)|exact WkV.optr rfl|exact WkV.own rfl (by simp)|exact WkV.nil_own (.inl rfl)|exact WkV.map rfl|(refine WkV.free ?_;simp [Free,FreeL] <;> assumption)|(refine WkV.free (fun _ _=>FreeL_nth ?_ _);simp [Free,FreeL];done)|refine WkV.agg ?_|refine WkV.tup ?_|refine WkV.fn ?_ ?_|exact WkO.dead|exact WkO.raw|refine WkO.ghost ?_|exact WkO.mpE rfl trivial|refine WkO.box ?_ rfl|refine WkO.arr ?_|refine And.intro ?_ (And.intro (by first|exact fun h=>h|exact fun _=>rfl|exact nofun) ?_)|exact trivial|(intro i j hi hj)))
    · have hnd : ¬ c.2 = .decreasing := fun h => hb (hint_dec.2 h)
      rw [if_neg hnd, if_neg hnd, if_neg hnd] at hR
      refine ⟨_, ?_, _, _, _, hd1, hc.1, hc.2, hR, rfl⟩
      ((try simp only [List.length_append,List.length_cons,List.length_nil,Nat.zero_add]);refine Wk.intro [0] (by decide) (by decide) (by intro o ho;simp at ho ⊢ <;> omega) ?_ ?_ <;> repeat' (first|exact WkVL.nil|refine WkVL.cons ?_ ?_|exact WkV.top|exact WkV.imm rfl|exact WkV.imm (by simp)|exact WkV.optr rfl|exact WkV.own rfl (by simp)|exact WkV.nil_own (.inl rfl)|exact WkV.map rfl|(refine WkV.free ?_;simp [Free,FreeL] <;> assumption)|(refine WkV.free (fun _ _=>FreeL_nth ?_ _);simp [Free,FreeL];done)|refine WkV.agg ?_|refine WkV.tup ?_|refine WkV.fn ?_ ?_|exact WkO.dead|exact WkO.raw|refine WkO.ghost ?_|exact WkO.mpE rfl trivial|refine WkO.box ?_ rfl|refine WkO.arr ?_|refine And.intro ?_ (And.intro (by first|exact fun h=>h|exact fun _=>rfl|exact nofun) ?_)|exact trivial|(intro i j hi hj)))
  clear hR hc hd1 d1 c
  rintro st ⟨d2, piv, hint, hd2, hp1, hp2, hR, rfl⟩
  (simp only [go_sem,↓reduceIte,Nat.reduceAdd,Nat.reduceSub,Nat.reduceMul,Nat.reduceLT,Nat.reduceLeDiff,Nat.reduceEqDiff,Nat.reduceGT,Int.reduceToNat,Int.reduceBEq,Int.reduceBNe];try simp (disch := omega) only [wrapI,wrapU,half_sum,toNat_sub1,toNat_add1,Int.toNat_natCast])
  refine T_cutW (fun st => ∃ (d3 : Array El),d3.size = n ∧ pD ltE d3 a b lim wb wp piv = R ∧ st = ⟨kE n a b lim wb wp ([kI (b - a),kI piv] ++ List.replicate 134 .top),[elO n d3]⟩) ?_ ?_
  · (have ct1 := TurnsAt.mk [0] (pins_tu n d2 hd2 hn a b (by omega) hbn);((refine goR0 _ _ _ _ _ _ _ _ ?_ ?_ ?_ ?_ ?_ ?_ ?_ ?_) <;> (repeat intro hb) <;> first | exact True.intro | refine Lf.mk ?_))
    · have q := ‹(wb = true ∧ wp = true) ∧ hintCode hint = 1›
      rw [pC_y (by simp [q.1.1, q.1.2, hint_inc.1 q.2]), if_pos hb] at hR
      rw [hR]
    · have q := ‹(wb = true ∧ wp = true) ∧ hintCode hint = 1›
      rw [pC_y (by simp [q.1.1, q.1.2, hint_inc.1 q.2]), if_neg (by simp [hb])] at hR
      refine ⟨_, ?_, _, (size_pins a b 5 _ _).trans hd2, hR, rfl⟩
      ((try simp only [List.length_append,List.length_cons,List.length_nil,Nat.zero_add]);refine Wk.intro [0] (by decide) (by decide) (by intro o ho;simp at ho ⊢ <;> omega) ?_ ?_ <;> repeat' (first|exact WkVL.nil|refine WkVL.cons ?_ ?_|exact WkV.top|exact WkV.imm rfl|exact WkV.imm (by simp)|exact WkV.optr rfl|exact WkV.own rfl (by simp)|exact WkV.nil_own (.inl rfl)|exact WkV.map rfl|(refine WkV.free ?_;simp [Free,FreeL] <;> assumption)|(refine WkV.free (fun _ _=>FreeL_nth ?_ _);simp [Free,FreeL];done)|refine WkV.agg ?_|refine WkV.tup ?_|refine WkV.fn ?_ ?_|exact WkO.dead|exact WkO.raw|refine WkO.ghost ?_|exact WkO.mpE rfl trivial|refine WkO.box ?_ rfl|refine WkO.arr ?_|refine And.intro ?_ (And.intro (by first|exact fun h=>h|exact fun _=>rfl|exact nofun) ?_)|exact trivial|(intro i j hi hj)))
    · rw [pC_n (by
        cases wb <;> cases wp <;> simp
        intro h; exact hb ⟨rfl, rfl⟩ (hint_inc.2 h))] at hR
      refine ⟨_, ?_, _, hd2, hR, rfl⟩
      ((try simp only [List.length_append,List.length_cons,List.length_nil,Nat.zero_add]);refine Wk.intro [0] (by decide) (by decide) (by intro o ho;simp at ho ⊢ <;> omega) ?_ ?_ <;> repeat' (first|exact WkVL.nil|refine WkVL.cons ?_ ?_|exact WkV.top|exact WkV.imm rfl|exact WkV.imm (by simp)|exact WkV.optr rfl|exact WkV.own rfl (by simp)|exact WkV.nil_own (.inl rfl)|exact WkV.map rfl|(refine WkV.free ?_;simp [Free,FreeL] <;> assumption)|(refine WkV.free (fun _ _=>FreeL_nth ?_ _);simp [Free,FreeL];done)|refine WkV.agg ?_|refine WkV.tup ?_|refine WkV.fn ?_ ?_|exact WkO.dead|exact WkO.raw|refine WkO.ghost ?_|exact WkO.mpE rfl trivial|refine WkO.box ?_ rfl|refine WkO.arr ?_|refine And.intro ?_ (And.intro (by first|exact fun h=>h|exact fun _=>rfl|exact nofun) ?_)|exact trivial|(intro i j hi hj)))
  clear hR hd2 d2
  rintro st ⟨e, hd3, hR, rfl⟩
  (simp only [go_sem,↓reduceIte,Nat.reduceAdd,Nat.reduceSub,Nat.reduceMul,Nat.reduceLT,Nat.reduceLeDiff,Nat.reduceEqDiff,Nat.reduceGT,Int.reduceToNat,Int.reduceBEq,Int.reduceBNe];try simp (disch := omega) only [wrapI,wrapU,half_sum,toNat_sub1,toNat_add1,Int.toNat_natCast])
  refine T_cutW (fun st => (a > 0 → ltE e[a - 1]! e[piv]! = true) ∧ st = ⟨kE n a b lim wb wp ([kI (b - a),kI piv] ++ List.replicate 134 .top),[elO n e]⟩) ?_ ?_
  · (have cl1 := cmpE_tc (ga e (a - 1)) (ga e piv);have ct1 := TurnsAt.mk [0] (partEq_tu n e hd3 hn a b piv hp1 hp2 hbn);repeat' (first|with_reducible refine T_seq_drawT (id := 17) Γ_ok drawsAny pl51_17 (by kernel_rfl) (fun K hK=>?_)|with_reducible refine T_last_drawT (id := 17) Γ_ok drawsAny pl51_17 (by kernel_rfl) (fun K hK=>?_)|((refine goR0 _ _ _ _ _ _ _ _ ?_ ?_ ?_ ?_ ?_ ?_ ?_ ?_) <;> (repeat intro hb) <;> first|exact True.intro|refine Lf.mk ?_)))
    · have hfc := partEq_facts (lt := ltE) e hp1 hp2 (by omega)
      rw [pD_eq (mid := (partitionEqual ltE e a b piv).1) (d4 := (partitionEqual ltE e a b piv).2) (by omega) (ltE_f hb.2) rfl ⟨hfc.1,hfc.2.1⟩] at hR
      refine ⟨b - (partitionEqual ltE e a b piv).1,by omega,_,?_,(partitionEqual ltE e a b piv).1,b,lim,wb,wp,_,by omega,hbn,hlim,by omega,rfl,by omega,hR,rfl⟩
      ((try simp only [List.length_append,List.length_cons,List.length_nil,Nat.zero_add]);refine Wk.intro [0] (by decide) (by decide) (by intro o ho;simp at ho ⊢ <;> omega) ?_ ?_ <;> repeat' (first|exact WkVL.nil|refine WkVL.cons ?_ ?_|exact WkV.top|exact WkV.imm rfl|exact WkV.imm (by simp)|exact WkV.optr rfl|exact WkV.own rfl (by simp)|exact WkV.nil_own (.inl rfl)|exact WkV.map rfl|(refine WkV.free ?_;simp [Free,FreeL] <;> assumption)|(refine WkV.free (fun _ _=>FreeL_nth ?_ _);simp [Free,FreeL];done)|refine WkV.agg ?_|refine WkV.tup ?_|refine WkV.fn ?_ ?_|exact WkO.dead|exact WkO.raw|refine WkO.ghost ?_|exact WkO.mpE rfl trivial|refine WkO.box ?_ rfl|refine WkO.arr ?_|refine And.intro ?_ (And.intro (by first|exact fun h=>h|exact fun _=>rfl|exact nofun) ?_)|exact trivial|(intro i j hi hj)))
    · refine ⟨_, ?_, fun h => ltE_t (hb (by omega)), rfl⟩
      ((try simp only [List.length_append,List.length_cons,List.length_nil,Nat.zero_add]);refine Wk.intro [0] (by decide) (by decide) (by intro o ho;simp at ho ⊢ <;> omega) ?_ ?_ <;> repeat' (first|exact WkVL.nil|refine WkVL.cons ?_ ?_|exact WkV.top|exact WkV.imm rfl|exact WkV.imm (by simp)|exact WkV.optr rfl|exact WkV.own rfl (by simp)|exact WkV.nil_own (.inl rfl)|exact WkV.map rfl|(refine WkV.free ?_;simp [Free,FreeL] <;> assumption)|(refine WkV.free (fun _ _=>FreeL_nth ?_ _);simp [Free,FreeL];done)|refine WkV.agg ?_|refine WkV.tup ?_|refine WkV.fn ?_ ?_|exact WkO.dead|exact WkO.raw|refine WkO.ghost ?_|exact WkO.mpE rfl trivial|refine WkO.box ?_ rfl|refine WkO.arr ?_|refine And.intro ?_ (And.intro (by first|exact fun h=>h|exact fun _=>rfl|exact nofun) ?_)|exact trivial|(intro i j hi hj)))
  rintro st ⟨hnq, rfl⟩
  have hfc := part_facts (lt := ltE) e hp1 hp2 (by omega)
  have c1 := part_tu n e hd3 hn a b piv hp1 hp2 hbn
  have hx : partition ltE e a b piv = ((partition ltE e a b piv).1,(partition ltE e a b piv).2.1,(partition ltE e a b piv).2.2) := rfl
  generalize (partition ltE e a b piv).1 = mid at *
  generalize (partition ltE e a b piv).2.1 = ap at *
  generalize (partition ltE e a b piv).2.2 = d4 at *
  have e2 : ((mid : Int) - (a : Int)) = ((mid - a : Nat) : Int) := by omega
  have e3 : ((b : Int) - (mid : Int)) = ((b - mid : Nat) : Int) := by omega
  have e4 : (((b - a : Nat) : Int)).tdiv 8 = (((b - a) / 8 : Nat) : Int) := by rw [Int.tdiv_eq_ediv_of_nonneg (by omega)];omega
  have c2 : ∀ (A B : Int),0 ≤ A → A ≤ B → B ≤ n → (B - A).toNat < m → Turns Try.prog 51 [elV n,.imm (.int .i64 A),.imm (.int .i64 B),kI lim,cmpF] [elO n d4] (.tup []) [elO n (pdq ltE d4 A.toNat B.toNat lim true true)] := by
    intro A B h1 h2 h3 h4
    have h := ih' d4 A.toNat B.toNat lim (by omega) (by omega) (by omega) (by omega) hlim
    simp only [kI, Int.toNat_of_nonneg h1, Int.toNat_of_nonneg (show 0 ≤ B by omega)] at h
    exact h
  have e5 : ((mid : Int) + 1).toNat = mid + 1 := by omega
  (simp only [go_sem,↓reduceIte,Nat.reduceAdd,Nat.reduceSub,Nat.reduceMul,Nat.reduceLT,Nat.reduceLeDiff,Nat.reduceEqDiff,Nat.reduceGT,Int.reduceToNat,Int.reduceBEq,Int.reduceBNe];try simp (disch := omega) only [wrapI,wrapU,half_sum,toNat_sub1,toNat_add1,Int.toNat_natCast])
  (have ct1 := TurnsAt.mk [0] (c1);have ct2 := fun u1 u2 u3 u4 u5 u6=>TurnsAt.mk [0] (c2 u1 u2 u3 u4 u5 u6);have sx1 := e2;have sx2 := e3;have sx3 := e4;have sx4 := e5;repeat' (first|with_reducible refine T_seq_drawT (id := 17) Γ_ok drawsAny pl51_17 (by kernel_rfl) (fun K hK=>?_)|with_reducible refine T_last_drawT (id := 17) Γ_ok drawsAny pl51_17 (by kernel_rfl) (fun K hK=>?_)|((have sx5 : (0 : Nat) + 0 = 0 := rfl;have sx6 : (0 : Nat) + 0 = 0 := rfl;have sx7 : (0 : Nat) + 0 = 0 := rfl;have sx8 : (0 : Nat) + 0 = 0 := rfl;have sx9 : (0 : Nat) + 0 = 0 := rfl;refine goR9 _ _ _ _ _ _ _ _ ?_ ?_ ?_ ?_ ?_ ?_ ?_ ?_) <;> (repeat intro hb) <;> first|exact True.intro|refine Lf.mk ?_)))
  · rw [pD_left hnq hx ⟨hfc.1, hfc.2.1⟩ (by omega)] at hR
    have hs5 := (size_pdq (lt := ltE) _ d4 a mid lim true true (Nat.le_refl _) (by omega)).trans (by omega : d4.size = n)
    refine ⟨b - (mid + 1), by omega, _, ?_, mid + 1, b, lim, _, _, _, by omega, hbn, hlim, by omega, rfl, hs5, hR, rfl⟩
    ((try simp only [List.length_append,List.length_cons,List.length_nil,Nat.zero_add]);refine Wk.intro [0] (by decide) (by decide) (by intro o ho;simp at ho ⊢ <;> omega) ?_ ?_ <;> repeat' (first|(refine WkV.imm ?_;congr 1;omega)|(refine WkV.imm (congrArg Value.bool (decide_eq_decide.2 ?_));omega)|exact WkVL.nil|refine WkVL.cons ?_ ?_|exact WkV.top|exact WkV.imm rfl|exact WkV.imm (by simp)|exact WkV.optr rfl|exact WkV.own rfl (by simp)|exact WkV.nil_own (.inl rfl)|exact WkV.map rfl|(refine WkV.free ?_;simp [Free,FreeL] <;> assumption)|(refine WkV.free (fun _ _=>FreeL_nth ?_ _);simp [Free,FreeL];done)|refine WkV.agg ?_|refine WkV.tup ?_|refine WkV.fn ?_ ?_|exact WkO.dead|exact WkO.raw|refine WkO.ghost ?_|exact WkO.mpE rfl trivial|refine WkO.box ?_ rfl|refine WkO.arr ?_|refine And.intro ?_ (And.intro (by first|exact fun h=>h|exact fun _=>rfl|exact nofun) ?_)|exact trivial|(intro i j hi hj)))
  · rw [pD_right hnq hx ⟨hfc.1, hfc.2.1⟩ (by omega)] at hR
    have hs5 := (size_pdq (lt := ltE) _ d4 (mid + 1) b lim true true (Nat.le_refl _) (by omega)).trans (by omega : d4.size = n)
    refine ⟨mid - a, by omega, _, ?_, a, mid, lim, _, _, _, by omega, by omega, hlim, by omega, rfl, hs5, hR, rfl⟩
    ((try simp only [List.length_append,List.length_cons,List.length_nil,Nat.zero_add]);refine Wk.intro [0] (by decide) (by decide) (by intro o ho;simp at ho ⊢ <;> omega) ?_ ?_ <;> repeat' (first|(refine WkV.imm ?_;congr 1;omega)|(refine WkV.imm (congrArg Value.bool (decide_eq_decide.2 ?_));omega)|exact WkVL.nil|refine WkVL.cons ?_ ?_|exact WkV.top|exact WkV.imm rfl|exact WkV.imm (by simp)|exact WkV.optr rfl|exact WkV.own rfl (by simp)|exact WkV.nil_own (.inl rfl)|exact WkV.map rfl|(refine WkV.free ?_;simp [Free,FreeL] <;> assumption)|(refine WkV.free (fun _ _=>FreeL_nth ?_ _);simp [Free,FreeL];done)|refine WkV.agg ?_|refine WkV.tup ?_|refine WkV.fn ?_ ?_|exact WkO.dead|exact WkO.raw|refine WkO.ghost ?_|exact WkO.mpE rfl trivial|refine WkO.box ?_ rfl|refine WkO.arr ?_|refine And.intro ?_ (And.intro (by first|exact fun h=>h|exact fun _=>rfl|exact nofun) ?_)|exact trivial|(intro i j hi hj)))
theorem pdq_tu (n : Nat) (d : Array El) (hd : d.size = n) (hn : n ≤ 60000) (limit : Nat) (hl : limit ≤ 60000) : Turns Try.prog 51 [elV n,.imm (.int .i64 0),kI n,kI limit,cmpF] [elO n d] (.tup []) [elO n (pdq ltE d 0 n limit true true)] :=
  ⟨pdq_tc n hn n d hd 0 n limit (by omega) (by omega) (Nat.le_refl _) hl, by simp [VF, VFL], elO_vf _ _⟩
set_option maxRecDepth 100000 in
set_option maxHeartbeats 4000000 in
theorem sortF_tc (n : Nat) (d : Array El) (hd : d.size = n) (hn : n ≤ 60000) : TC Try.prog 35 [elV n,cmpF] [elO n d] (fun v σ' => v = .tup [] ∧ σ' = [elO n (Go.Sort.sort ltE d)]) := by
  have hq := bitsLen_small (x := n) (by omega)
  have e2 : IntKind.u64.wrap (n : Int) = (n : Int) := wrapU (by omega) (by omega)
  have e3 : Go.Sort.sort ltE d = pdq ltE d 0 n (bitsLen n) true true := by rw [Go.Sort.sort, hd]
  rw [e3]
  (refine TC_of_T Γ_ok Try.func35 rfl (by kernel_rfl) ?_;simp only [Try.ntmps35,Try.results35,List.length_cons,List.length_nil,Nat.reduceSub,Nat.reduceAdd,List.replicate,List.cons_append,List.nil_append])
  (have cl1 := len_tc n (by omega);have ct1 := TurnsAt.mk [0] (pdq_tu n d hd hn (bitsLen n) (by omega));have sx1 := e2;have sx2 : (0 : Nat) + 0 = 0 := rfl;((have sx3 : (0 : Nat) + 0 = 0 := rfl;have sx4 : (0 : Nat) + 0 = 0 := rfl;have sx5 : (0 : Nat) + 0 = 0 := rfl;have sx6 : (0 : Nat) + 0 = 0 := rfl;have sx7 : (0 : Nat) + 0 = 0 := rfl;have sx8 : (0 : Nat) + 0 = 0 := rfl;have sx9 : (0 : Nat) + 0 = 0 := rfl;refine goR9 _ _ _ _ _ _ _ _ ?_ ?_ ?_ ?_ ?_ ?_ ?_ ?_) <;> (repeat intro hb) <;> first|exact True.intro|refine Lf.mk ?_))
theorem sortF_tu (n : Nat) (d : Array El) (hd : d.size = n) (hn : n ≤ 60000) : Turns Try.prog 35 [elV n,cmpF] [elO n d] (.tup []) [elO n (Go.Sort.sort ltE d)] :=
  ⟨sortF_tc n d hd hn, by simp [VF, VFL], elO_vf _ _⟩
end Go.Proofs.Ytgljhmnmmaclaaa
