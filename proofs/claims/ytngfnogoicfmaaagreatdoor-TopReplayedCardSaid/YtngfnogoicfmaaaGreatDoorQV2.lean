/-
  Parts joined: T2 T3.
-/
import Derived.Test.YtngfnogoicfmaaaGreatDoorQGo
import Derived.Test.YtngfnogoicfmaaaGreatDoorQT1
import Derived.Laws.Strings
set_option linter.unusedSimpArgs false
set_option linter.unusedVariables false
namespace Go.Proofs.YtngfnogoicfmaaaGreatDoor
open Go.Ab
def sB (l : List UInt8) : ByteArray := ⟨l.toArray⟩
theorem sB_eta (s : ByteArray) : sB s.data.toList = s := by unfold sB; rw [Array.toArray_toList]
@[go_sem] theorem sB_size (l : List UInt8) : (sB l).size = l.length := by unfold sB ByteArray.size; simp
def bAt (l : List UInt8) (i : Nat) : Nat := (l.getD i 0).toNat
theorem sB_at (l : List UInt8) (i : Int) : strAt (sB l) i = ((bAt l i.toNat : Nat) : Int) := by
  unfold strAt bAt
  by_cases h : i.toNat < l.length
  · have e : (sB l)[i.toNat]? = some l[i.toNat] := by
      rw [getElem?_pos (sB l) i.toNat (by rw [sB_size]; exact h)]; rfl
    rw [e]; simp [h]
  · have e : (sB l)[i.toNat]? = none := getElem?_neg (sB l) i.toNat (by rw [sB_size]; exact h)
    rw [e]; simp [Nat.le_of_not_lt h]
theorem sB_sub (l : List UInt8) (a b : Nat) : (sB l).extract a b = sB ((l.take b).drop a) := by
  have : ((sB l).extract a b).data = (sB ((l.take b).drop a)).data := by
    rw [ByteArray.data_extract]
    unfold sB
    apply Array.ext'
    simp [List.drop_take]
  cases h : (sB l).extract a b; cases h2 : sB ((l.take b).drop a); simp_all
theorem bytes_list (s : ByteArray) : s.toList = s.data.toList := ByteArray.toList_eq s
theorem strEq_sB (a b : List UInt8) : strEq (sB a) (sB b) = decide (a = b) := by
  unfold strEq
  rw [bytes_list, bytes_list]
  show (a.toArray.toList == b.toArray.toList) = _
  rw [List.toList_toArray, List.toList_toArray, Bool.eq_iff_iff]
  simp
theorem sB_empty (l : List UInt8) : strEq (sB l) ⟨#[]⟩ = decide (l.length = 0) := by
  rw [show (⟨#[]⟩ : ByteArray) = sB [] from rfl, strEq_sB]
  cases l <;> simp
def setB (f : Nat → Bool) : List AV := (List.range 256).map fun i => .imm (.bool (f i))
@[simp, go_sem] theorem setB_len (f : Nat → Bool) : (setB f).length = 256 := by simp [setB]
theorem setB_get {f : Nat → Bool} {i : Nat} (h : i < 256) : (setB f)[i]? = some (.imm (.bool (f i))) := by simp [setB,h]
theorem setB_nth {f : Nat → Bool} {i : Nat} (h : i < 256) : nth (setB f) i = .imm (.bool (f i)) := by
  rw [nth_get, setB_get h]; rfl
theorem zeroL_rep : ∀ n, zeroL (List.replicate n ZC.bool) = List.replicate n (.imm (.bool false))
  | 0 => rfl
  | n + 1 => by rw [List.replicate_succ, List.replicate_succ, zeroL, zeroL_rep n]; rfl
@[go_sem] theorem zb_set : zeroL zb142 = setB fun _ => false := by
  unfold zb142 setB
  rw [zeroL_rep]
  simp [List.map_const']
theorem setB_put {f : Nat → Bool} {i : Nat} (h : i < 256) : (setB f).take i ++ [AV.imm (.bool true)] ++ (setB f).drop (i + 1) = setB fun k => if k = i then true else f k := by
  refine List.ext_getElem? fun k => ?_
  have e : ∀ g : Nat → Bool, (setB g)[k]? = if k < 256 then some (.imm (.bool (g k))) else none := fun g => by
    by_cases hk : k < 256
    · rw [setB_get hk, if_pos hk]
    · rw [if_neg hk]; simp; omega
  rw [List.append_assoc, List.getElem?_append, e]
  simp only [List.length_take, setB_len, List.getElem?_take, e]
  by_cases h1 : k < i
  · rw [if_pos (by omega), if_pos h1, if_pos (by omega), if_pos (by omega), if_neg (by omega)]
  · rw [if_neg (by omega)]
    by_cases h2 : k = i
    · subst h2
      rw [Nat.min_eq_left (by omega)]
      simp [h]
    · obtain ⟨d, rfl⟩ : ∃ d, k = i + 1 + d := ⟨k - (i + 1), by omega⟩
      rw [show i + 1 + d - min i 256 = d + 1 by omega]
      simp only [List.singleton_append, List.getElem?_cons_succ, List.getElem?_drop, e]
      rw [if_neg (show ¬ i + 1 + d = i by omega)]
theorem setB_rd (f : Nat → Bool) : rd (fun j => nth (setB f) (0 + j)) 0 sb142 = setB f := by
  refine List.ext_getElem? fun k => ?_
  by_cases hk : k < 256
  · rw [rd_get _ _ _ _ (show k < sb142 from hk), setB_get hk]
    simp only [Nat.zero_add]
    rw [setB_nth hk]
  · rw [List.getElem?_eq_none (by rw [rd_length]; exact Nat.le_of_not_lt hk), List.getElem?_eq_none (by simp; omega)]
theorem setB_one (f : Nat → Bool) : oneL (setB f) = true := by
  have : ∀ l : List Nat, oneL (l.map fun i => AV.imm (.bool (f i))) = true := by
    intro l
    induction l with
    | nil => rfl
    | cons a l ih => simp only [List.map_cons, oneL, ih]; rfl
  exact this _
theorem setB_wk {π : List Nat} {σ : List AObj} (f : Nat → Bool) : WkVL π σ (setB f) (setB f) := WkVL.of_get rfl fun i v u hv hu => by
  rw [hv] at hu
  simp only [Option.some.injEq] at hu
  subst hu
  have hi : i < 256 := by have := (List.getElem?_eq_some_iff.1 hv).1; simpa using this
  rw [setB_get hi] at hv
  simp only [Option.some.injEq] at hv
  subst hv
  exact WkV.imm rfl
theorem setB_cv {σ : List AObj} (f : Nat → Bool) : CvL σ (setB f) (setB f) := by
  have : ∀ l : List Nat, CvL σ (l.map fun i => AV.imm (.bool (f i))) (l.map fun i => AV.imm (.bool (f i))) := by
    intro l
    induction l with
    | nil => exact CvL.nil
    | cons a l ih => exact CvL.cons (Cv.imm rfl) ih
  exact this _
theorem setB_rd' (f : Nat → Bool) : rd (fun j => nth (setB f) j) 0 sb142 = setB f := by
  have := setB_rd f; simpa only [Nat.zero_add] using this
attribute [go_sem] setB_rd' setB_one
@[go_sem] theorem sb_le : (sb142 ≤ 256) = True := eq_true (Nat.le_refl 256)
@[go_sem] theorem sb_eq : (256 = sb142) = True := eq_true rfl
@[go_sem] theorem setB_drop (f : Nat → Bool) : List.drop 256 (setB f) = [] := List.drop_of_length_le (by simp)
def azL : List UInt8 := [97,98,99,100,101,102,103,104,105,106,107,108,109,110,111,112,113,114,115,116,117,118,119,120,121,122]
@[go_sem] theorem az_lit : (⟨#[97,98,99,100,101,102,103,104,105,106,107,108,109,110,111,112,113,114,115,116,117,118,119,120,121,122]⟩ : ByteArray) = sB azL := rfl
@[go_sem] theorem azL_len : azL.length = 26 := rfl
@[go_sem] theorem az_ne : strEq (sB azL) ⟨#[]⟩ = false := by rw [sB_empty]; rfl
def azF (n : Nat) (c : Nat) : Bool := decide (97 ≤ c) && decide (c < 97 + n)
theorem az_at {i : Nat} (h : i < 26) : strAt (sB azL) (i : Int) = 97 + (i : Int) := by
  rw [sB_at, Int.toNat_natCast]
  have : bAt azL i = 97 + i := by revert h; revert i; decide
  omega
theorem azF_put {i : Nat} (h : i < 26) : (fun k => if k = 97 + i then true else azF i k) = azF (i + 1) := by
  funext k
  unfold azF
  by_cases hk : k = 97 + i
  · rw [if_pos hk, decide_eq_true (by omega), decide_eq_true (by omega)]; rfl
  · rw [if_neg hk]
    congr 1
    exact decide_eq_decide.2 (by omega)
set_option maxRecDepth 100000 in
set_option maxHeartbeats 4000000 in
theorem makeSet_raw : TC Tryz.prog 77 [.imm (.string (sB azL))] [] (fun v _ => v = .tup [.agg (setB (azF 26)),.imm (.bool true)]) := by
  (refine TC_of_T Γ_ok Tryz.func77 rfl (by kernel_rfl) ?_;simp only [Tryz.ntmps77,Tryz.results77,List.length_cons,List.length_nil,Nat.reduceSub,Nat.reduceAdd,List.replicate,List.cons_append,List.nil_append])
  (((refine goR0 _ _ _ _ _ _ _ _ ?_ ?_ ?_ ?_ ?_ ?_ ?_ ?_) <;> (repeat intro hb) <;> first | exact True.intro | refine Lf.mk ?_))
  refine T_loopW (fun m st=>∃ i : Nat,i ≤ 26 ∧ m + i = 26 ∧ st = ⟨[.imm (.string (sB azL)),.top,.optr 0 0 0,.imm (.bool false),.imm (.int .i64 i)] ++ List.replicate 16 .top,[.box 142 (setB (azF i))]⟩)
    26 ⟨_, ?_, 0, by omega, rfl, rfl⟩ ?_
  · have e : setB (azF 0) = setB fun _ => false := by
      congr 1; funext k; unfold azF
      cases h : decide (97 ≤ k) with
      | false => rfl
      | true => rw [decide_eq_false (by have := of_decide_eq_true h; omega)]; rfl
    rw [e]
    ((try simp only [List.length_append,List.length_cons,List.length_nil,Nat.zero_add]);refine Wk.intro [0] (by decide) (by decide) (by intro o ho;simp at ho ⊢ <;> omega) ?_ ?_ <;> repeat' (first|(exact WkO.box (setB_wk _) rfl)|exact WkVL.nil|refine WkVL.cons ?_ ?_|exact WkV.top|exact WkV.imm rfl|exact WkV.imm (by simp)|exact WkV.optr rfl|exact WkV.own rfl (by simp)|exact WkV.nil_own (.inl rfl)|exact WkV.map rfl|(refine WkV.free ?_;simp [Free,FreeL] <;> assumption)|(refine WkV.free (fun _ _=>FreeL_nth ?_ _);simp [Free,FreeL];done)|refine WkV.agg ?_|refine WkV.tup ?_|refine WkV.fn ?_ ?_|exact WkO.dead|exact WkO.raw|refine WkO.ghost ?_|exact WkO.mpE rfl trivial|refine WkO.box ?_ rfl|refine WkO.arr ?_|refine And.intro ?_ (And.intro (by first|exact fun h=>h|exact fun _=>rfl|exact nofun) ?_)|exact trivial|(intro i j hi hj)))
  rintro m st ⟨i, h0, h1, rfl⟩
  (simp only [go_sem,↓reduceIte,Nat.reduceAdd,Nat.reduceSub,Nat.reduceMul,Nat.reduceLT,Nat.reduceLeDiff,Nat.reduceEqDiff,Nat.reduceGT,Int.reduceToNat,Int.reduceBEq,Int.reduceBNe];try simp (disch := omega) only [wrapI,wrapU,half_sum,toNat_sub1,toNat_add1,Int.toNat_natCast])
  by_cases hi : i < 26
  · have haz := az_at hi
    have hp := setB_put (f := azF i) (i := 97 + i) (by omega)
    rw [azF_put hi] at hp
    (have sx1 := haz;have sx2 : (0 : Nat) + 0 = 0 := rfl;((have sx3 : (0 : Nat) + 0 = 0 := rfl;have sx4 : (0 : Nat) + 0 = 0 := rfl;have sx5 : (0 : Nat) + 0 = 0 := rfl;have sx6 : (0 : Nat) + 0 = 0 := rfl;have sx7 : (0 : Nat) + 0 = 0 := rfl;have sx8 : (0 : Nat) + 0 = 0 := rfl;have sx9 : (0 : Nat) + 0 = 0 := rfl;refine goR9 _ _ _ _ _ _ _ _ ?_ ?_ ?_ ?_ ?_ ?_ ?_ ?_) <;> (repeat intro hb) <;> first|exact True.intro|refine Lf.mk ?_))
    refine ⟨26 - (i + 1), by omega, _, ?_, i + 1, by omega, by omega, rfl⟩
    rw [show (97 + (i : Int)).toNat * 1 = 97 + i by omega, hp]
    ((try simp only [List.length_append,List.length_cons,List.length_nil,Nat.zero_add]);refine Wk.intro [0] (by decide) (by decide) (by intro o ho;simp at ho ⊢ <;> omega) ?_ ?_ <;> repeat' (first|(exact WkO.box (setB_wk _) rfl)|exact WkVL.nil|refine WkVL.cons ?_ ?_|exact WkV.top|exact WkV.imm rfl|exact WkV.imm (by simp)|exact WkV.optr rfl|exact WkV.own rfl (by simp)|exact WkV.nil_own (.inl rfl)|exact WkV.map rfl|(refine WkV.free ?_;simp [Free,FreeL] <;> assumption)|(refine WkV.free (fun _ _=>FreeL_nth ?_ _);simp [Free,FreeL];done)|refine WkV.agg ?_|refine WkV.tup ?_|refine WkV.fn ?_ ?_|exact WkO.dead|exact WkO.raw|refine WkO.ghost ?_|exact WkO.mpE rfl trivial|refine WkO.box ?_ rfl|refine WkO.arr ?_|refine And.intro ?_ (And.intro (by first|exact fun h=>h|exact fun _=>rfl|exact nofun) ?_)|exact trivial|(intro i j hi hj)))
  · obtain rfl : i = 26 := by omega
    (((refine goR0 _ _ _ _ _ _ _ _ ?_ ?_ ?_ ?_ ?_ ?_ ?_ ?_) <;> (repeat intro hb) <;> first | exact True.intro | refine Lf.mk ?_))
theorem setB_pl (f : Nat → Bool) : PlL (setB f) := by
  have : ∀ l : List Nat, PlL (l.map fun i => AV.imm (.bool (f i))) := by
    intro l
    induction l with
    | nil => trivial
    | cons a l ih => exact ⟨trivial, ih⟩
  exact this _
theorem makeSet_tc : Look Tryz.prog 77 [.imm (.string (sB azL))] (.tup [.agg (setB (azF 26)), .imm (.bool true)]) :=
  Look.mk ⟨setB_pl _, trivial, trivial⟩ makeSet_raw
@[go_sem, reducible] def setP (f : Nat → Bool) : AV := .rptr 256 (nth (setB f))
@[simp] theorem setP_free (f : Nat → Bool) (j : Nat) : Free (nth (setB f) j) := by
  by_cases h : j < 256
  · rw [setB_nth h]; trivial
  · rw [nth_get, List.getElem?_eq_none (by simp; omega)]; trivial
set_option maxRecDepth 100000 in
set_option maxHeartbeats 4000000 in
theorem has_tc (f : Nat → Bool) (c : Nat) (hc : c < 256) : Look Tryz.prog 95 [setP f,.imm (.int .u8 (c : Nat))] (.imm (.bool (f c))) := by
  refine Look.mk trivial ?_
  have e := setB_nth (f := f) hc
  rw [← Nat.mul_one c] at e
  (refine TC_of_T Γ_ok Tryz.func95 rfl (by kernel_rfl) ?_;simp only [Tryz.ntmps95,Tryz.results95,List.length_cons,List.length_nil,Nat.reduceSub,Nat.reduceAdd,List.replicate,List.cons_append,List.nil_append])
  (have sx1 := e;have sx2 : (0 : Nat) + 0 = 0 := rfl;((have sx3 : (0 : Nat) + 0 = 0 := rfl;have sx4 : (0 : Nat) + 0 = 0 := rfl;have sx5 : (0 : Nat) + 0 = 0 := rfl;have sx6 : (0 : Nat) + 0 = 0 := rfl;have sx7 : (0 : Nat) + 0 = 0 := rfl;have sx8 : (0 : Nat) + 0 = 0 := rfl;have sx9 : (0 : Nat) + 0 = 0 := rfl;refine goR9 _ _ _ _ _ _ _ _ ?_ ?_ ?_ ?_ ?_ ?_ ?_ ?_) <;> (repeat intro hb) <;> first|exact True.intro|refine Lf.mk ?_))
  rw [Nat.mul_one]
def trL (f : Nat → Bool) (l : List UInt8) : List UInt8 := l.dropWhile fun c => f c.toNat
def trR (f : Nat → Bool) (l : List UInt8) : List UInt8 := (trL f l.reverse).reverse
theorem strAt_0 (l : List UInt8) : strAt (sB l) 0 = ((bAt l 0 : Nat) : Int) := sB_at l 0
set_option maxRecDepth 100000 in
set_option maxHeartbeats 4000000 in
theorem trimL_tc (f : Nat → Bool) (l : List UInt8) (hl : l.length ≤ 1000000) : Look Tryz.prog 78 [.imm (.string (sB l)),setP f] (.imm (.string (sB (trL f l)))) := by
  refine Look.mk trivial ?_
  (refine TC_of_T Γ_ok Tryz.func78 rfl (by kernel_rfl) ?_;simp only [Tryz.ntmps78,Tryz.results78,List.length_cons,List.length_nil,Nat.reduceSub,Nat.reduceAdd,List.replicate,List.cons_append,List.nil_append])
  (((refine goR0 _ _ _ _ _ _ _ _ ?_ ?_ ?_ ?_ ?_ ?_ ?_ ?_) <;> (repeat intro hb) <;> first | exact True.intro | refine Lf.mk ?_))
  refine T_loopW (fun m st => ∃ k : List UInt8,k.length ≤ m ∧ k.length ≤ 1000000 ∧ trL f k = trL f l ∧ st = ⟨[.imm (.string (sB k)),setP f] ++ List.replicate 14 .top,[]⟩)
    l.length ⟨_, ?_, l, Nat.le_refl _, hl, rfl, rfl⟩ ?_
  · ((try simp only [List.length_append,List.length_cons,List.length_nil,Nat.zero_add]);refine Wk.intro [] (by decide) (by decide) (by intro o ho;simp at ho ⊢ <;> omega) ?_ ?_ <;> repeat' (first|(exact WkV.free fun j=>setP_free f j)|exact WkVL.nil|refine WkVL.cons ?_ ?_|exact WkV.top|exact WkV.imm rfl|exact WkV.imm (by simp)|exact WkV.optr rfl|exact WkV.own rfl (by simp)|exact WkV.nil_own (.inl rfl)|exact WkV.map rfl|(refine WkV.free ?_;simp [Free,FreeL] <;> assumption)|(refine WkV.free (fun _ _=>FreeL_nth ?_ _);simp [Free,FreeL];done)|refine WkV.agg ?_|refine WkV.tup ?_|refine WkV.fn ?_ ?_|exact WkO.dead|exact WkO.raw|refine WkO.ghost ?_|exact WkO.mpE rfl trivial|refine WkO.box ?_ rfl|refine WkO.arr ?_|refine And.intro ?_ (And.intro (by first|exact fun h=>h|exact fun _=>rfl|exact nofun) ?_)|exact trivial|(intro i j hi hj)))
  rintro m st ⟨k, h0, h1, h2, rfl⟩
  (simp only [go_sem,↓reduceIte,Nat.reduceAdd,Nat.reduceSub,Nat.reduceMul,Nat.reduceLT,Nat.reduceLeDiff,Nat.reduceEqDiff,Nat.reduceGT,Int.reduceToNat,Int.reduceBEq,Int.reduceBNe];try simp (disch := omega) only [wrapI,wrapU,half_sum,toNat_sub1,toNat_add1,Int.toNat_natCast])
  cases k with
  | nil =>
    (((refine goR0 _ _ _ _ _ _ _ _ ?_ ?_ ?_ ?_ ?_ ?_ ?_ ?_) <;> (repeat intro hb) <;> first | exact True.intro | refine Lf.mk ?_))
    rw [← h2]; rfl
  | cons c k =>
    have e0 : strAt (sB (c :: k)) 0 = ((c.toNat : Nat) : Int) := strAt_0 _
    have hh := has_tc f c.toNat (UInt8.toNat_lt _)
    cases hf : f c.toNat with
    | true =>
      rw [hf] at hh
      (have cl1 := hh;have sx1 := e0;have sx2 : (0 : Nat) + 0 = 0 := rfl;((have sx3 : (0 : Nat) + 0 = 0 := rfl;have sx4 : (0 : Nat) + 0 = 0 := rfl;have sx5 : (0 : Nat) + 0 = 0 := rfl;have sx6 : (0 : Nat) + 0 = 0 := rfl;have sx7 : (0 : Nat) + 0 = 0 := rfl;have sx8 : (0 : Nat) + 0 = 0 := rfl;have sx9 : (0 : Nat) + 0 = 0 := rfl;refine goR9 _ _ _ _ _ _ _ _ ?_ ?_ ?_ ?_ ?_ ?_ ?_ ?_) <;> (repeat intro hb) <;> first|exact True.intro|refine Lf.mk ?_))
      refine ⟨k.length,by simp at h0;omega,_,?_,k,Nat.le_refl _,by simp at h1;omega,by rw [← h2];unfold trL;rw [List.dropWhile_cons_of_pos (by simpa using hf)],rfl⟩
      rw [sB_sub]
      have e1 : ((c :: k).take (k.length + 1)).drop 1 = k := by
        rw [List.take_of_length_le (by simp)]; rfl
      rw [e1]
      ((try simp only [List.length_append,List.length_cons,List.length_nil,Nat.zero_add]);refine Wk.intro [] (by decide) (by decide) (by intro o ho;simp at ho ⊢ <;> omega) ?_ ?_ <;> repeat' (first|(exact WkV.free fun j=>setP_free f j)|exact WkVL.nil|refine WkVL.cons ?_ ?_|exact WkV.top|exact WkV.imm rfl|exact WkV.imm (by simp)|exact WkV.optr rfl|exact WkV.own rfl (by simp)|exact WkV.nil_own (.inl rfl)|exact WkV.map rfl|(refine WkV.free ?_;simp [Free,FreeL] <;> assumption)|(refine WkV.free (fun _ _=>FreeL_nth ?_ _);simp [Free,FreeL];done)|refine WkV.agg ?_|refine WkV.tup ?_|refine WkV.fn ?_ ?_|exact WkO.dead|exact WkO.raw|refine WkO.ghost ?_|exact WkO.mpE rfl trivial|refine WkO.box ?_ rfl|refine WkO.arr ?_|refine And.intro ?_ (And.intro (by first|exact fun h=>h|exact fun _=>rfl|exact nofun) ?_)|exact trivial|(intro i j hi hj)))
    | false =>
      rw [hf] at hh
      (have cl1 := hh;have sx1 := e0;have sx2 : (0 : Nat) + 0 = 0 := rfl;((have sx3 : (0 : Nat) + 0 = 0 := rfl;have sx4 : (0 : Nat) + 0 = 0 := rfl;have sx5 : (0 : Nat) + 0 = 0 := rfl;have sx6 : (0 : Nat) + 0 = 0 := rfl;have sx7 : (0 : Nat) + 0 = 0 := rfl;have sx8 : (0 : Nat) + 0 = 0 := rfl;have sx9 : (0 : Nat) + 0 = 0 := rfl;refine goR9 _ _ _ _ _ _ _ _ ?_ ?_ ?_ ?_ ?_ ?_ ?_ ?_) <;> (repeat intro hb) <;> first|exact True.intro|refine Lf.mk ?_))
      rw [← h2]; unfold trL; rw [List.dropWhile_cons_of_neg (by simpa using hf)]
theorem trL_len (f : Nat → Bool) (l : List UInt8) : (trL f l).length ≤ l.length := by
  unfold trL
  exact (List.dropWhile_sublist _).length_le
theorem trR_len (f : Nat → Bool) (l : List UInt8) : (trR f l).length ≤ l.length := by
  unfold trR
  have := trL_len f l.reverse
  simpa using this
theorem trR_snoc (f : Nat → Bool) (l : List UInt8) (c : UInt8) : trR f (l ++ [c]) = if f c.toNat = true then trR f l else l ++ [c] := by
  unfold trR trL
  rw [List.reverse_append, List.reverse_singleton, List.singleton_append]
  by_cases h : f c.toNat = true
  · rw [if_pos h, List.dropWhile_cons_of_pos (by simpa using h)]
  · rw [if_neg h, List.dropWhile_cons_of_neg (by simpa using h)]; simp
set_option maxRecDepth 100000 in
set_option maxHeartbeats 4000000 in
theorem trimR_tc (f : Nat → Bool) (l : List UInt8) (hl : l.length ≤ 1000000) : Look Tryz.prog 79 [.imm (.string (sB l)),setP f] (.imm (.string (sB (trR f l)))) := by
  refine Look.mk trivial ?_
  (refine TC_of_T Γ_ok Tryz.func79 rfl (by kernel_rfl) ?_;simp only [Tryz.ntmps79,Tryz.results79,List.length_cons,List.length_nil,Nat.reduceSub,Nat.reduceAdd,List.replicate,List.cons_append,List.nil_append])
  (((refine goR0 _ _ _ _ _ _ _ _ ?_ ?_ ?_ ?_ ?_ ?_ ?_ ?_) <;> (repeat intro hb) <;> first | exact True.intro | refine Lf.mk ?_))
  refine T_loopW (fun m st => ∃ k : List UInt8,k.length ≤ m ∧ k.length ≤ 1000000 ∧ trR f k = trR f l ∧ st = ⟨[.imm (.string (sB k)),setP f] ++ List.replicate 20 .top,[]⟩)
    l.length ⟨_, ?_, l, Nat.le_refl _, hl, rfl, rfl⟩ ?_
  · ((try simp only [List.length_append,List.length_cons,List.length_nil,Nat.zero_add]);refine Wk.intro [] (by decide) (by decide) (by intro o ho;simp at ho ⊢ <;> omega) ?_ ?_ <;> repeat' (first|(exact WkV.free fun j=>setP_free f j)|exact WkVL.nil|refine WkVL.cons ?_ ?_|exact WkV.top|exact WkV.imm rfl|exact WkV.imm (by simp)|exact WkV.optr rfl|exact WkV.own rfl (by simp)|exact WkV.nil_own (.inl rfl)|exact WkV.map rfl|(refine WkV.free ?_;simp [Free,FreeL] <;> assumption)|(refine WkV.free (fun _ _=>FreeL_nth ?_ _);simp [Free,FreeL];done)|refine WkV.agg ?_|refine WkV.tup ?_|refine WkV.fn ?_ ?_|exact WkO.dead|exact WkO.raw|refine WkO.ghost ?_|exact WkO.mpE rfl trivial|refine WkO.box ?_ rfl|refine WkO.arr ?_|refine And.intro ?_ (And.intro (by first|exact fun h=>h|exact fun _=>rfl|exact nofun) ?_)|exact trivial|(intro i j hi hj)))
  rintro m st ⟨k, h0, h1, h2, rfl⟩
  (simp only [go_sem,↓reduceIte,Nat.reduceAdd,Nat.reduceSub,Nat.reduceMul,Nat.reduceLT,Nat.reduceLeDiff,Nat.reduceEqDiff,Nat.reduceGT,Int.reduceToNat,Int.reduceBEq,Int.reduceBNe];try simp (disch := omega) only [wrapI,wrapU,half_sum,toNat_sub1,toNat_add1,Int.toNat_natCast])
  rcases List.eq_nil_or_concat k with rfl | ⟨k, c, rfl⟩
  · (((refine goR0 _ _ _ _ _ _ _ _ ?_ ?_ ?_ ?_ ?_ ?_ ?_ ?_) <;> (repeat intro hb) <;> first | exact True.intro | refine Lf.mk ?_))
    rw [← h2]; rfl
  · rw [List.concat_eq_append] at *
    have hk : (k ++ [c]).length = k.length + 1 := by simp
    have e0 : strAt (sB (k ++ [c])) ((k.length : Nat) : Int) = ((c.toNat : Nat) : Int) := by rw [sB_at]; simp [bAt]
    have e1 : ((k.length + 1 : Nat) : Int) - 1 = ((k.length : Nat) : Int) := by omega
    have hh := has_tc f c.toNat (UInt8.toNat_lt _)
    rw [trR_snoc] at h2
    have e3 : ((k ++ [c]).take k.length).drop 0 = k := by simp
    generalize hg : k ++ [c] = q at *
    cases hf : f c.toNat with
    | true =>
      rw [hf] at hh h2
      rw [if_pos rfl] at h2
      (have cl1 := hh;have sx1 := hk;have sx2 := e1;have sx3 := e0;have sx4 : (0 : Nat) + 0 = 0 := rfl;((have sx5 : (0 : Nat) + 0 = 0 := rfl;have sx6 : (0 : Nat) + 0 = 0 := rfl;have sx7 : (0 : Nat) + 0 = 0 := rfl;have sx8 : (0 : Nat) + 0 = 0 := rfl;have sx9 : (0 : Nat) + 0 = 0 := rfl;refine goR9 _ _ _ _ _ _ _ _ ?_ ?_ ?_ ?_ ?_ ?_ ?_ ?_) <;> (repeat intro hb) <;> first|exact True.intro|refine Lf.mk ?_))
      refine ⟨k.length, by omega, _, ?_, k, Nat.le_refl _, by omega, h2, rfl⟩
      rw [sB_sub]
      rw [e3]
      ((try simp only [List.length_append,List.length_cons,List.length_nil,Nat.zero_add]);refine Wk.intro [] (by decide) (by decide) (by intro o ho;simp at ho ⊢ <;> omega) ?_ ?_ <;> repeat' (first|(exact WkV.free fun j=>setP_free f j)|exact WkVL.nil|refine WkVL.cons ?_ ?_|exact WkV.top|exact WkV.imm rfl|exact WkV.imm (by simp)|exact WkV.optr rfl|exact WkV.own rfl (by simp)|exact WkV.nil_own (.inl rfl)|exact WkV.map rfl|(refine WkV.free ?_;simp [Free,FreeL] <;> assumption)|(refine WkV.free (fun _ _=>FreeL_nth ?_ _);simp [Free,FreeL];done)|refine WkV.agg ?_|refine WkV.tup ?_|refine WkV.fn ?_ ?_|exact WkO.dead|exact WkO.raw|refine WkO.ghost ?_|exact WkO.mpE rfl trivial|refine WkO.box ?_ rfl|refine WkO.arr ?_|refine And.intro ?_ (And.intro (by first|exact fun h=>h|exact fun _=>rfl|exact nofun) ?_)|exact trivial|(intro i j hi hj)))
    | false =>
      rw [hf] at hh h2
      rw [if_neg (by simp)] at h2
      (have cl1 := hh;have sx1 := hk;have sx2 := e1;have sx3 := e0;have sx4 : (0 : Nat) + 0 = 0 := rfl;((have sx5 : (0 : Nat) + 0 = 0 := rfl;have sx6 : (0 : Nat) + 0 = 0 := rfl;have sx7 : (0 : Nat) + 0 = 0 := rfl;have sx8 : (0 : Nat) + 0 = 0 := rfl;have sx9 : (0 : Nat) + 0 = 0 := rfl;refine goR9 _ _ _ _ _ _ _ _ ?_ ?_ ?_ ?_ ?_ ?_ ?_ ?_) <;> (repeat intro hb) <;> first|exact True.intro|refine Lf.mk ?_))
      rw [← h2]
end Go.Proofs.YtngfnogoicfmaaaGreatDoor
namespace Go.Proofs.YtngfnogoicfmaaaGreatDoor
open Go.Ab
attribute [local irreducible] setB
def trmL (l : List UInt8) : List UInt8 := trL (azF 26) (trR (azF 26) l)
theorem trim_e {l : List UInt8} (h : l.length = 0) : trmL l = l := by
  obtain rfl := List.length_eq_zero_iff.1 h
  rfl
set_option maxRecDepth 100000 in
set_option maxHeartbeats 4000000 in
theorem trim_tc (l : List UInt8) (hl : l.length ≤ 1000000) : Look Tryz.prog 60 [.imm (.string (sB l)),.imm (.string (sB azL))] (.imm (.string (sB (trmL l)))) := by
  refine Look.mk trivial ?_
  have h1 := makeSet_tc
  have h2 := trimR_tc (azF 26) l hl
  have h3 := trimL_tc (azF 26) (trR (azF 26) l) (Nat.le_trans (trR_len _ _) hl)
  have he := sB_empty l
  by_cases h0 : l.length = 0
  · rw [decide_eq_true h0] at he
    (refine TC_of_T Γ_ok Tryz.func60 rfl (by kernel_rfl) ?_;simp only [Tryz.ntmps60,Tryz.results60,List.length_cons,List.length_nil,Nat.reduceSub,Nat.reduceAdd,List.replicate,List.cons_append,List.nil_append])
    (have cl1 := h1;have sx1 := he;have sx2 : (0 : Nat) + 0 = 0 := rfl;((have sx3 : (0 : Nat) + 0 = 0 := rfl;have sx4 : (0 : Nat) + 0 = 0 := rfl;have sx5 : (0 : Nat) + 0 = 0 := rfl;have sx6 : (0 : Nat) + 0 = 0 := rfl;have sx7 : (0 : Nat) + 0 = 0 := rfl;have sx8 : (0 : Nat) + 0 = 0 := rfl;have sx9 : (0 : Nat) + 0 = 0 := rfl;refine goR9 _ _ _ _ _ _ _ _ ?_ ?_ ?_ ?_ ?_ ?_ ?_ ?_) <;> (repeat intro hb) <;> first|exact True.intro|refine Lf.mk ?_))
    rw [trim_e h0]
  · rw [decide_eq_false h0] at he
    (refine TC_of_T Γ_ok Tryz.func60 rfl (by kernel_rfl) ?_;simp only [Tryz.ntmps60,Tryz.results60,List.length_cons,List.length_nil,Nat.reduceSub,Nat.reduceAdd,List.replicate,List.cons_append,List.nil_append])
    repeat' (first
    | (with_reducible refine hK _ ?_; clear hK K)
    | ((with_reducible apply callGoal_lookA h1);(case hC=>first|exact trivial|(simp only [go_sem,and_self];done)|(simp only [go_sem];omega));(case hc=>(exact CvL.cons (Cv.imm rfl) CvL.nil)))
    | ((with_reducible apply callGoal_lookA h2);(case hC=>first|exact trivial|(simp only [go_sem,and_self];done)|(simp only [go_sem];omega));(case hc=>(exact CvL.cons (Cv.imm rfl) (CvL.cons (Cv.ptr rfl (setB_len _) (setB_cv _)) CvL.nil))))
    | ((with_reducible apply callGoal_lookA h3);(case hC=>first|exact trivial|(simp only [go_sem,and_self];done)|(simp only [go_sem];omega));(case hc=>(exact CvL.cons (Cv.imm rfl) (CvL.cons (Cv.ptr rfl (setB_len _) (setB_cv _)) CvL.nil))))
    | ((with_reducible apply DC_call);(focus exact rfl);(focus exact rfl);(focus exact rfl);intro N hN;(simp only [go_sem,he,↓reduceIte,Nat.reduceAdd,Nat.reduceSub,Nat.reduceMul,Nat.reduceLT,Nat.reduceLeDiff,Nat.reduceEqDiff,Nat.reduceGT,Int.reduceToNat,Int.reduceBEq,Int.reduceBNe];try simp (disch := omega) only [wrapI,wrapU,half_sum,toNat_sub1,toNat_add1,Int.toNat_natCast]))
    | ((with_reducible first|refine T_seq_region Γ_ok (fun K hK=>?_)|refine T_last_region Γ_ok (fun K hK=>?_)|refine TO_callN rfl (fun N hN=>?_)|refine DCT_fork Γ_ok (fun K2 hK2=>?_)|refine DCT_last Γ_ok ?_|refine DC_ev Γ_ok ?_|refine TO_ev Γ_ok ?_|refine retQ_r ?_|refine retQ_n ?_);(simp only [go_sem,he,↓reduceIte,Nat.reduceAdd,Nat.reduceSub,Nat.reduceMul,Nat.reduceLT,Nat.reduceLeDiff,Nat.reduceEqDiff,Nat.reduceGT,Int.reduceToNat,Int.reduceBEq,Int.reduceBNe];try simp (disch := omega) only [wrapI,wrapU,half_sum,toNat_sub1,toNat_add1,Int.toNat_natCast]))
    | (with_reducible refine hK2 _ ?_ ?_ <;> clear hK2 K2)
    | with_reducible refine gC_false ?_ | with_reducible refine gC_true ?_ | with_reducible refine dCall_true ?_
    | (with_reducible refine hN _ _ ?_; clear hN N)
    | (with_reducible refine hN _ _ (dInl rfl) ?_; clear hN N)
    | ((with_reducible refine hN _ _ (.inr ?_) ?_);(focus (simp only [go_sem,he,↓reduceIte,Nat.reduceAdd,Nat.reduceSub,Nat.reduceMul,Nat.reduceLT,Nat.reduceLeDiff,Nat.reduceEqDiff,Nat.reduceGT,Int.reduceToNat,Int.reduceBEq,Int.reduceBNe];try simp (disch := omega) only [wrapI,wrapU,half_sum,toNat_sub1,toNat_add1,Int.toNat_natCast]));all_goals (try clear hN N))
    | with_reducible refine T_seq ?_|with_reducible refine T_block ?_|with_reducible refine T_ret ?_|with_reducible refine T_exit ?_|with_reducible refine T_skip ?_|with_reducible refine T_label ?_
    | with_reducible refine thenQ_n ?_|with_reducible refine thenQ_e ?_|with_reducible refine thenQ_r ?_|with_reducible refine blockQ_n ?_|with_reducible refine blockQ_e ?_|with_reducible refine blockQ_r ?_
    | with_reducible refine blockQ_o (by decide) ?_
    | ((with_reducible refine T_cond _ rfl (fun hb=>?_) (fun hb=>?_)) <;> first|(cases hb;done)|(simp only [decide_eq_true_eq,decide_eq_false_iff_not,Bool.and_eq_true,Bool.or_eq_true,Bool.and_eq_false_imp,Bool.or_eq_false_iff,Bool.not_eq_true',Bool.not_eq_false',beq_iff_eq,bne_iff_ne,ne_eq,beq_eq_false_iff_ne,bne_eq_false_iff_eq,Int.not_lt,Int.not_le,ge_iff_le,gt_iff_lt] at hb)|skip)
    | (with_reducible refine And.intro (by first | exact trivial | omega | (intro hg;simp at hg ⊢ <;> omega) | (simp <;> omega)) ?_)
    | assumption | omega)
    rfl
def nmB (l : List UInt8) : Bool := decide (1 ≤ l.length ∧ l.length ≤ 16) && decide ((trmL l).length = 0)
set_option maxRecDepth 100000 in
set_option maxHeartbeats 4000000 in
theorem named_tc (l : List UInt8) : Look Tryz.prog 40 [.imm (.string (sB l))] (.imm (.bool (nmB l))) := by
  refine Look.mk trivial ?_
  unfold nmB
  have he := sB_empty (trmL l)
  (refine TC_of_T Γ_ok Tryz.func40 rfl (by kernel_rfl) ?_;simp only [Tryz.ntmps40,Tryz.results40,List.length_cons,List.length_nil,Nat.reduceSub,Nat.reduceAdd,List.replicate,List.cons_append,List.nil_append])
  repeat' (first
    | (with_reducible refine hK _ ?_; clear hK K)
    | ((with_reducible apply gC_lookA (fun hg=>trim_tc l (by simp only [Bool.and_eq_true,decide_eq_true_eq] at hg;omega)));(case hC=>(intro hg;first|exact trivial|exact hg|(simp only [hg,and_self,implies_true];done)|(simp only [go_sem,hg,and_self,implies_true];done)));(case hc=>(intro hg;((repeat' (first|exact CvL.nil|exact Cv.nil_view|refine CvL.cons ?_ ?_|exact Cv.imm rfl|(refine Cv.free ?_;simp [Free,FreeL] <;> assumption)|(refine Cv.free (fun _ _=>FreeL_nth ?_ _);simp [Free,FreeL];done)|refine Cv.agg ?_|(apply Cv.own;(case hob=>(with_unfolding_all exact rfl));(case hz=>decide);(case hE=>(first|(intro _ _ _ _;rfl)|(intro i j hi hj;(rcases i with _ | _|i) <;> (rcases j with _ | _ | _ | _|j) <;> first|rfl|(exfalso;omega))));(case hf=>(intro _ _;simp;done)))|(refine Cv.pvE ?_ ?_ (by decide);(focus (first|(intro _ _ _ _;rfl)|(intro i j hi hj;(rcases i with _ | _|i) <;> (rcases j with _ | _ | _ | _|j) <;> first|rfl|(exfalso;omega))));(focus (intro _ _;simp;done)))|(apply Cv.ownS;(case hob=>(with_unfolding_all exact rfl));(case hz=>decide);(case hle=>(first|omega|(simp only [decide_eq_true_eq] at hg;omega)|(simp;omega)));(case hE=>(intro _ _ _ _;first|(rw [Nat.zero_add];done)|(rw [Nat.zero_add];rfl)));(case hf=>(intro _ _;simp;done)))|(refine Cv.viewE (by decide) ?_ ?_;(focus (intro _ _ _ _;first|rfl));(focus (intro _ _;simp;done)))|refine Cv.ptr (by with_unfolding_all rfl) (by with_unfolding_all rfl) ?_|refine Cv.fn ?_ ?_));done))))
    | ((with_reducible apply DC_call);(focus exact rfl);(focus exact rfl);(focus exact rfl);intro N hN;(simp only [go_sem,he,↓reduceIte,Nat.reduceAdd,Nat.reduceSub,Nat.reduceMul,Nat.reduceLT,Nat.reduceLeDiff,Nat.reduceEqDiff,Nat.reduceGT,Int.reduceToNat,Int.reduceBEq,Int.reduceBNe];try simp (disch := omega) only [wrapI,wrapU,half_sum,toNat_sub1,toNat_add1,Int.toNat_natCast]))
    | ((with_reducible first|refine T_seq_region Γ_ok (fun K hK=>?_)|refine T_last_region Γ_ok (fun K hK=>?_)|refine TO_callN rfl (fun N hN=>?_)|refine DCT_fork Γ_ok (fun K2 hK2=>?_)|refine DCT_last Γ_ok ?_|refine DC_ev Γ_ok ?_|refine TO_ev Γ_ok ?_|refine retQ_r ?_|refine retQ_n ?_);(simp only [go_sem,he,↓reduceIte,Nat.reduceAdd,Nat.reduceSub,Nat.reduceMul,Nat.reduceLT,Nat.reduceLeDiff,Nat.reduceEqDiff,Nat.reduceGT,Int.reduceToNat,Int.reduceBEq,Int.reduceBNe];try simp (disch := omega) only [wrapI,wrapU,half_sum,toNat_sub1,toNat_add1,Int.toNat_natCast]))
    | (with_reducible refine hK2 _ ?_ ?_ <;> clear hK2 K2)
    | with_reducible refine gC_false ?_ | with_reducible refine gC_true ?_ | with_reducible refine dCall_true ?_
    | (with_reducible refine hN _ _ ?_; clear hN N)
    | (with_reducible refine hN _ _ (dInl rfl) ?_; clear hN N)
    | ((with_reducible refine hN _ _ (.inr ?_) ?_);(focus (simp only [go_sem,he,↓reduceIte,Nat.reduceAdd,Nat.reduceSub,Nat.reduceMul,Nat.reduceLT,Nat.reduceLeDiff,Nat.reduceEqDiff,Nat.reduceGT,Int.reduceToNat,Int.reduceBEq,Int.reduceBNe];try simp (disch := omega) only [wrapI,wrapU,half_sum,toNat_sub1,toNat_add1,Int.toNat_natCast]));all_goals (try clear hN N))
    | with_reducible refine T_seq ?_|with_reducible refine T_block ?_|with_reducible refine T_ret ?_|with_reducible refine T_exit ?_|with_reducible refine T_skip ?_|with_reducible refine T_label ?_
    | with_reducible refine thenQ_n ?_|with_reducible refine thenQ_e ?_|with_reducible refine thenQ_r ?_|with_reducible refine blockQ_n ?_|with_reducible refine blockQ_e ?_|with_reducible refine blockQ_r ?_
    | with_reducible refine blockQ_o (by decide) ?_
    | ((with_reducible refine T_cond _ rfl (fun hb=>?_) (fun hb=>?_)) <;> first|(cases hb;done)|(simp only [decide_eq_true_eq,decide_eq_false_iff_not,Bool.and_eq_true,Bool.or_eq_true,Bool.and_eq_false_imp,Bool.or_eq_false_iff,Bool.not_eq_true',Bool.not_eq_false',beq_iff_eq,bne_iff_ne,ne_eq,beq_eq_false_iff_ne,bne_eq_false_iff_eq,Int.not_lt,Int.not_le,ge_iff_le,gt_iff_lt] at hb)|skip)
    | (with_reducible refine And.intro (by first | exact trivial | omega | (intro hg;simp at hg ⊢ <;> omega) | (simp <;> omega)) ?_)
    | assumption | omega)
  congr 2
  rw [Bool.eq_iff_iff]
  simp only [Bool.and_eq_true, decide_eq_true_eq]
  omega
structure Nm where
  s : List UInt8
  v : P6
instance : Inhabited Nm := ⟨⟨[], z6⟩⟩
@[go_sem,reducible] def nmL (n : Nm) : List AV := [.imm (.string (sB n.s)),.imm (.int .i64 n.v.a),.imm (.int .i64 n.v.b),.imm (.int .i64 n.v.c),.imm (.int .i64 n.v.d),.imm (.int .i64 n.v.e),.imm (.int .i64 n.v.f)]
def gN (l : List Nm) (i : Nat) : Nm := l.getD i default
def nmE (l : List Nm) (i j : Nat) : AV := nth (nmL (gN l i)) j
@[go_sem] theorem nmE_0 (l : List Nm) (i : Nat) : nmE l i 0 = .imm (.string (sB (gN l i).s)) := rfl
@[go_sem] theorem nmE_1 (l : List Nm) (i : Nat) : nmE l i 1 = .imm (.int .i64 (gN l i).v.a) := rfl
@[go_sem] theorem nmE_2 (l : List Nm) (i : Nat) : nmE l i 2 = .imm (.int .i64 (gN l i).v.b) := rfl
@[go_sem] theorem nmE_3 (l : List Nm) (i : Nat) : nmE l i 3 = .imm (.int .i64 (gN l i).v.c) := rfl
@[go_sem] theorem nmE_4 (l : List Nm) (i : Nat) : nmE l i 4 = .imm (.int .i64 (gN l i).v.d) := rfl
@[go_sem] theorem nmE_5 (l : List Nm) (i : Nat) : nmE l i 5 = .imm (.int .i64 (gN l i).v.e) := rfl
@[go_sem] theorem nmE_6 (l : List Nm) (i : Nat) : nmE l i 6 = .imm (.int .i64 (gN l i).v.f) := rfl
@[simp] theorem nmE_free (l : List Nm) (i j : Nat) : Free (nmE l i j) := FreeL_nth (by simp [FreeL, Free]) _
@[simp] theorem nmE_pl (l : List Nm) (i j : Nat) : Pl (nmE l i j) := by unfold nmE;rcases j with _ | _ | _ | _ | _ | _ | _ | j <;> trivial
@[go_sem, reducible] def nmV (l : List Nm) : AV := .view l.length 7 (nmE l)
def nmK (l : List Nm) : Nat → List (Value × AV)
  | 0 => []
  | i + 1 => mput (nmK l i) (.string (sB (gN l i).s)) (.imm (.int .i64 (i : Int)))
theorem mput_free {x : AV} (hx : Free x) (k : Value) : ∀ es : List (Value × AV),FreeL (es.map (·.2)) → FreeL ((mput es k x).map (·.2))
  | [], _ => ⟨hx, trivial⟩
  | (k', v') :: r, h => by
    unfold mput
    split
    · exact ⟨hx, h.2⟩
    · exact ⟨h.1, mput_free hx k r h.2⟩
theorem nmK_free (l : List Nm) : ∀ i, FreeL ((nmK l i).map (·.2))
  | 0 => trivial
  | i + 1 => mput_free (x := .imm _) trivial _ _ (nmK_free l i)
theorem mput_pl {x : AV} (hx : Pl x) (k : Value) : ∀ es : List (Value × AV),PlL (es.map (·.2)) → PlL ((mput es k x).map (·.2))
  | [], _ => ⟨hx, trivial⟩
  | (k', v') :: r, h => by
    unfold mput
    split
    · exact ⟨hx, h.2⟩
    · exact ⟨h.1, mput_pl hx k r h.2⟩
theorem nmK_pl (l : List Nm) : ∀ i, PlL ((nmK l i).map (·.2))
  | 0 => trivial
  | i + 1 => mput_pl (x := .imm _) trivial _ _ (nmK_pl l i)
set_option maxRecDepth 100000 in
set_option maxHeartbeats 4000000 in
theorem names_raw (l : List Nm) (hl : l.length ≤ 1000) : TC Tryz.prog 39 [nmV l] [] (fun v σ' => v = .map 0 ∧ ∃ t,σ' = .mp .str (nmK l l.length) :: t) := by
  (refine TC_of_T Γ_ok Tryz.func39 rfl (by kernel_rfl) ?_;simp only [Tryz.ntmps39,Tryz.results39,List.length_cons,List.length_nil,Nat.reduceSub,Nat.reduceAdd,List.replicate,List.cons_append,List.nil_append])
  (((refine goR0 _ _ _ _ _ _ _ _ ?_ ?_ ?_ ?_ ?_ ?_ ?_ ?_) <;> (repeat intro hb) <;> first | exact True.intro | refine Lf.mk ?_))
  refine T_loopW (fun m st=>∃ i : Nat,i ≤ l.length ∧ m + i = l.length ∧ st = ⟨[nmV l,.top,.imm (.map none),.map 0] ++ List.replicate 3 .top ++ [nmV l,.imm (.int .i64 l.length),.imm (.int .i64 i)] ++ List.replicate 10 .top,[.mp .str (nmK l i)]⟩)
    l.length ⟨_, ?_, 0, by omega, rfl, rfl⟩ ?_
  · ((try simp only [List.length_append,List.length_cons,List.length_nil,Nat.zero_add]);refine Wk.intro [0] (by decide) (by decide) (by intro o ho;simp at ho ⊢ <;> omega) ?_ ?_ <;> repeat' (first|exact WkVL.nil|refine WkVL.cons ?_ ?_|exact WkV.top|exact WkV.imm rfl|exact WkV.imm (by simp)|exact WkV.optr rfl|exact WkV.own rfl (by simp)|exact WkV.nil_own (.inl rfl)|exact WkV.map rfl|(refine WkV.free ?_;simp [Free,FreeL] <;> assumption)|(refine WkV.free (fun _ _=>FreeL_nth ?_ _);simp [Free,FreeL];done)|refine WkV.agg ?_|refine WkV.tup ?_|refine WkV.fn ?_ ?_|exact WkO.dead|exact WkO.raw|refine WkO.ghost ?_|exact WkO.mpE rfl trivial|refine WkO.box ?_ rfl|refine WkO.arr ?_|refine And.intro ?_ (And.intro (by first|exact fun h=>h|exact fun _=>rfl|exact nofun) ?_)|exact trivial|(intro i j hi hj)))
  rintro m st ⟨i, h0, h1, rfl⟩
  (simp only [go_sem,↓reduceIte,Nat.reduceAdd,Nat.reduceSub,Nat.reduceMul,Nat.reduceLT,Nat.reduceLeDiff,Nat.reduceEqDiff,Nat.reduceGT,Int.reduceToNat,Int.reduceBEq,Int.reduceBNe];try simp (disch := omega) only [wrapI,wrapU,half_sum,toNat_sub1,toNat_add1,Int.toNat_natCast])
  have hk : ∀ i, nmK l (i + 1) = mput (nmK l i) (.string (sB (gN l i).s)) (.imm (.int .i64 (i : Int))) := fun i => rfl
  (((refine goR0 _ _ _ _ _ _ _ _ ?_ ?_ ?_ ?_ ?_ ?_ ?_ ?_) <;> (repeat intro hb) <;> first | exact True.intro | refine Lf.mk ?_))
  · refine ⟨l.length - (i + 1), by omega, _, ?_, i + 1, by omega, by omega, rfl⟩
    rw [hk]
    ((try simp only [List.length_append,List.length_cons,List.length_nil,Nat.zero_add]);refine Wk.intro [0] (by decide) (by decide) (by intro o ho;simp at ho ⊢ <;> omega) ?_ ?_ <;> repeat' (first|(exact WkO.mpE rfl (nmK_free l (i + 1)))|exact WkVL.nil|refine WkVL.cons ?_ ?_|exact WkV.top|exact WkV.imm rfl|exact WkV.imm (by simp)|exact WkV.optr rfl|exact WkV.own rfl (by simp)|exact WkV.nil_own (.inl rfl)|exact WkV.map rfl|(refine WkV.free ?_;simp [Free,FreeL] <;> assumption)|(refine WkV.free (fun _ _=>FreeL_nth ?_ _);simp [Free,FreeL];done)|refine WkV.agg ?_|refine WkV.tup ?_|refine WkV.fn ?_ ?_|exact WkO.dead|exact WkO.raw|refine WkO.ghost ?_|exact WkO.mpE rfl trivial|refine WkO.box ?_ rfl|refine WkO.arr ?_|refine And.intro ?_ (And.intro (by first|exact fun h=>h|exact fun _=>rfl|exact nofun) ?_)|exact trivial|(intro i j hi hj)))
  · obtain rfl : i = l.length := by omega
    exact ⟨_, rfl⟩
theorem names_tc (l : List Nm) (hl : l.length ≤ 1000) : Makes Tryz.prog 39 [nmV l] (.map 0) [.mp .str (nmK l l.length)] :=
  Makes.gen [] trivial (fun a ha => by simp only [List.mem_singleton] at ha;subst ha;exact nmK_pl _ _) ((names_raw l hl).mono fun v σ' ⟨hv,t,hs⟩ => ⟨[0],by simp,fun o ho => by
    simp only [List.mem_singleton] at ho
    subst ho
    rw [hs]; simp, by rw [hv]; exact WkV.map rfl, by rw [hs]; exact ⟨WkO.mpE rfl (nmK_free _ _), fun h => h, trivial⟩⟩)
end Go.Proofs.YtngfnogoicfmaaaGreatDoor
