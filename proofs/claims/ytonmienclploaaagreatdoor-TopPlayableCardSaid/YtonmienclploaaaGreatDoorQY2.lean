/-
 Parts joined: B5 B8 B6 B7 P3.
-/
import Derived.Test.YtonmienclploaaaGreatDoorQGo
import Derived.Test.YtonmienclploaaaGreatDoorQY1
import Derived.Test.YtonmienclploaaaGreatDoorQA5
import Derived.Test.YtonmienclploaaaGreatDoorQGo3
import Derived.Test.YtonmienclploaaaGreatDoorQT1
set_option linter.unusedSimpArgs false
set_option linter.unusedVariables false
namespace Go.Proofs.YtonmienclploaaaGreatDoor.B
open Go.Ab
def gi (l : List Int) (i : Nat) : Int := l.getD i 0
def inE (l : List Int) (i : Nat) (_ : Nat) : AV := .imm (.int .i64 (gi l i))
@[simp] theorem inE_free (l : List Int) (i j : Nat) : Free (inE l i j) := trivial
@[simp] theorem inE_pl (l : List Int) (i j : Nat) : Pl (inE l i j) := trivial
@[go_sem] theorem inE_us (l : List Int) (i j : Nat) : inE l i j = .imm (.int .i64 (gi l i)) := rfl
@[go_sem, reducible] def ints (l : List Int) : AV := .view l.length 1 (inE l)
@[go_sem, reducible] def intO (l : List Int) : AObj := .arr 3 1 l.length (inE l)
theorem in_snoc (l : List Int) (x : Int) {i j : Nat} (h : i < l.length + 1) (hj : j < 1) : catE l.length (inE l) (fun i j => nth [AV.imm (.int .i64 x)] (i * 1 + j)) i j = inE (l ++ [x]) i j := by
 obtain rfl : j = 0 := by omega
 unfold catE inE gi
 split
 ·rename_i h1; simp [List.getElem?_append_left h1]
 ·obtain rfl : i = l.length := by omega
  simp [nth]
theorem findL_drop (p : Ky → Bool) {l : List Ky} {i : Nat} (h : i < l.length) : ((l.drop i).filter p).map (·.id) = (if p (gk l i) = true then [(gk l i).id] else []) ++ ((l.drop (i + 1)).filter p).map (·.id) := by
 rw [drop_gk h, List.filter_cons]
 split <;> simp
set_option maxRecDepth 100000 in
set_option maxHeartbeats 4000000 in
theorem find_raw (b : Bd) (v : P6) (hl : b.ks.length ≤ 9223372036854775807) : TC Tryz.prog 15 [bdA b,p6A v] [] (fun u σ' => 
  (u = .tup [.imm (.slice none 0 0), .imm (.int .i64 (findR b v).2)] ∧ (findR b v).1.length = 0) ∨
  ∃ k E',u = .tup [.own k 0 (findR b v).1.length none,.imm (.int .i64 (findR b v).2)] ∧ nthO σ' k = .arr 3 1 (findR b v).1.length E' ∧ ∀ i j,i < (findR b v).1.length → j < 1 → E' i j = inE (findR b v).1 i j) := by
 have c1 := of_tc v
 have c2 := valid_tc b hl
 unfold ofR at c1
 unfold findR
 by_cases hv : vOk v = true
 ·rw [if_pos hv] at c1
  by_cases hb : bdB b = true
  ·rw [if_pos ⟨hb, hv⟩]
   rw [hb] at c2
   have hg := bdB_iff.1 hb
   have hl2 := hg.len
   simp only [] at c1
   unfold findL
   (refine TC_of_T Γ_ok Tryz.func15 rfl (by kernel_rfl) ?_;simp only [Tryz.ntmps15,Tryz.results15,List.length_cons,List.length_nil,Nat.reduceSub,Nat.reduceAdd,List.replicate,List.cons_append,List.nil_append])
   (have cl1 := c1;have dl1 := c2;((refine goR0 _ _ _ _ _ _ _ _ ?_ ?_ ?_ ?_ ?_ ?_ ?_ ?_)<;>(repeat intro hb)<;>first|exact True.intro|refine Lf.mk ?_))
   refine T_loopW (fun m st=>∃ (i : Nat) (o : List Int),i ≤ b.ks.length ∧ m + i = b.ks.length ∧ o.length ≤ i ∧ (b.ks.filter fun k=>near1 v.x12 k.p b.tol).map (·.id) = o ++ ((b.ks.drop i).filter fun k=>near1 v.x12 k.p b.tol).map (·.id) ∧
     st = ⟨[.top,.top,.optr 0 0 0,.top,.imm (.slice none 0 0),.imm (.int .i64 0),.optr 1 0 0,.top,.own 2 0 o.length none] ++ List.replicate 17 .top ++ [kys b.ks,.imm (.int .i64 b.ks.length),.imm (.int .i64 i)] ++ List.replicate 25 .top,[.box 46 (bdL b),.box 23 (p6L v.x12),intO o]⟩)
    b.ks.length ⟨_, Wk.trans (Wk.push 3 1 (inE [])) ?_, 0, [], by omega, rfl, by simp, rfl, rfl⟩ ?_
   ·((try refine sgl ?_);exact wkI [0,2,3])
   rintro m st ⟨i, o, h0, h1, h2, h3, rfl⟩
   have hn := near_tc v.x12 (gk b.ks i).p b.tol
   by_cases hi : i < b.ks.length
   ·have hn2 := near_near1 (x12_ok hv) (hg.one _ (gk_mem hi)).2.2.2.2.2.2 hg.t0 hg.t1
    rw [hn2.1] at hn
    have hn3 := hn2.2
    generalize (nearI v.x12 (gk b.ks i).p b.tol).1 = x at hn hn3
    rw [findL_drop _ hi] at h3
    have hsn := fun p q => in_snoc o (gk b.ks i).id (i := p) (j := q)
    refine sgo ?_
    (have cl1 := hn;((refine goR0 _ _ _ _ _ _ _ _ ?_ ?_ ?_ ?_ ?_ ?_ ?_ ?_)<;>(repeat intro hb)<;>first|exact True.intro|refine Lf.mk ?_))
    ·rw [← hn3, decide_eq_true hb, if_pos rfl] at h3
     refine ⟨b.ks.length - (i + 1),by omega,_,?_,i + 1,o ++ [(gk b.ks i).id],by omega,by omega,by simp;omega,by rw [h3,List.append_assoc],rfl⟩
     ((try refine sgl ?_);refine Wk.intro [0,1,5] (by decide) (by decide) wkH ?_ ?_ <;> repeat' (first|(refine WkV.imm ?_;congr 1;omega)|(exact WkV.eqF (hsn _ _ (by simpa using hi) hj) (by simp))|refine WkVL.cons ?_ ?_|exact wkT|refine WkV.agg ?_|refine WkV.tup ?_|refine WkV.fn ?_ ?_|exact WkO.dead|exact WkO.raw|refine WkO.ghost ?_|exact WkO.mpE rfl trivial|refine WkO.box ?_ rfl|refine WkO.arr ?_|refine And.intro ?_ (And.intro aF ?_)|exact trivial|(intro i j hi hj)))
    ·rw [← hn3, decide_eq_false hb, if_neg (by simp), List.nil_append] at h3
     refine ⟨b.ks.length - (i + 1), by omega, _, ?_, i + 1, o, by omega, by omega, by omega, h3, rfl⟩
     ((try refine sgl ?_);refine Wk.intro [0,1,2] (by decide) (by decide) wkH ?_ ?_ <;> repeat' (first|(refine WkV.imm ?_;congr 1;omega)|refine WkVL.cons ?_ ?_|exact wkT|refine WkV.agg ?_|refine WkV.tup ?_|refine WkV.fn ?_ ?_|exact WkO.dead|exact WkO.raw|refine WkO.ghost ?_|exact WkO.mpE rfl trivial|refine WkO.box ?_ rfl|refine WkO.arr ?_|refine And.intro ?_ (And.intro aF ?_)|exact trivial|(intro i j hi hj)))
   ·rw [List.drop_of_length_le (by omega)] at h3
    simp only [List.filter_nil, List.map_nil, List.append_nil] at h3
    rw [h3]
    refine sgo ?_
    (have cl1 := hn;((refine goR0 _ _ _ _ _ _ _ _ ?_ ?_ ?_ ?_ ?_ ?_ ?_ ?_)<;>(repeat intro hb)<;>first|exact True.intro|refine Lf.mk ?_))
    exact .inr ⟨2, _, rfl, rfl, fun _ _ _ _ => rfl⟩
  ·rw [if_neg fun h => hb h.1]
   rw [Bool.not_eq_true] at hb
   rw [hb] at c2
   (refine TC_of_T Γ_ok Tryz.func15 rfl (by kernel_rfl) ?_;simp only [Tryz.ntmps15,Tryz.results15,List.length_cons,List.length_nil,Nat.reduceSub,Nat.reduceAdd,List.replicate,List.cons_append,List.nil_append])
   (have cl1 := c1;have dl1 := c2;((refine goR0 _ _ _ _ _ _ _ _ ?_ ?_ ?_ ?_ ?_ ?_ ?_ ?_)<;>(repeat intro hb)<;>first|exact True.intro|refine Lf.mk ?_))
   exact .inl trivial
 ·rw [if_neg hv] at c1
  rw [if_neg fun h => hv h.2]
  simp only [] at c1
  obtain ⟨e, he⟩ : ∃ e : Int, e = 1 := ⟨_, rfl⟩
  rw [← he] at c1
  (refine TC_of_T Γ_ok Tryz.func15 rfl (by kernel_rfl) ?_;simp only [Tryz.ntmps15,Tryz.results15,List.length_cons,List.length_nil,Nat.reduceSub,Nat.reduceAdd,List.replicate,List.cons_append,List.nil_append])
  (have cl1 := c1;have dl1 := c2;((refine goR0 _ _ _ _ _ _ _ _ ?_ ?_ ?_ ?_ ?_ ?_ ?_ ?_)<;>(repeat intro hb)<;>first|exact True.intro|refine Lf.mk ?_))
  exact .inl trivial
theorem find_tc (b : Bd) (v : P6) (hl : b.ks.length ≤ 9223372036854775807) : Makes Tryz.prog 15 [bdA b,p6A v] (.tup [.own 0 0 (findR b v).1.length none,.imm (.int .i64 (findR b v).2)]) [intO (findR b v).1] :=
 Makes.lstJ (fun i j => inE_pl _ i j) trivial (find_raw b v hl)
end Go.Proofs.YtonmienclploaaaGreatDoor.B
namespace Go.Proofs.YtonmienclploaaaGreatDoor.B
open Go.Ab
theorem ltE_iff (x y : Ky) : ltE x y = true ↔ ltK x y := by
 have c1 : ∀ {a b : Int}, a < b → cmpI a b = -1 := fun h => if_pos h
 have c2 : ∀ {a b : Int}, b < a → cmpI a b = 1 := fun h => by unfold cmpI; rw [if_neg (by omega), if_pos h]
 have c3 : ∀ {a b : Int}, a = b → cmpI a b = 0 := fun h => by unfold cmpI; rw [if_neg (by omega), if_neg (by omega)]
 rw [show ltE x y = true ↔ cmpE x y < 0 by simp [ltE]]
 unfold cmpE or2 ltK
 rcases Int.lt_trichotomy x.x y.x with h | h | h
 ·rw [c1 h]; simp; omega
 ·rw [c3 h]
  rcases Int.lt_trichotomy x.row y.row with h3 | h3 | h3
  ·rw [c1 h3]; simp; omega
  ·rw [c3 h3]; simp; omega
  ·rw [c2 h3]; simp; omega
 ·rw [c2 h]; simp; omega
theorem swoE : Go.Sort.SWO ltE := by
 refine ⟨fun x => ?_, fun x y z h1 h2 => ?_, fun x y z h1 h2 => ?_⟩
 ·cases h : ltE x x with
  | false => rfl
  | true => rw [ltE_iff] at h; exact absurd h (ltK_irr x)
 ·rw [ltE_iff] at h1 h2 ⊢; exact ltK_trans h1 h2
 ·cases h : ltE x z with
  | false => rfl
  | true =>
   have h1' : ¬ ltE x y = true := by simp [h1]
   have h2' : ¬ ltE y z = true := by simp [h2]
   rw [ltE_iff] at h h1' h2'
   unfold ltK at *
   omega
def sortK (l : List Ky) : List Ky := (Go.Sort.sort ltE l.toArray).toList
theorem sortK_perm (l : List Ky) : (sortK l).Perm l := by
 have h := (Go.Sort.sort_sorts ltE swoE l.toArray).1
 have h1 := h.1
 have h2 := h.2.2
 rw [show (Go.Sort.sort ltE l.toArray).extract 0 l.toArray.size = Go.Sort.sort ltE l.toArray by rw [← h1];simp,show l.toArray.extract 0 l.toArray.size = l.toArray by simp] at h2
 exact h2
theorem sortK_sorted (l : List Ky) : (sortK l).Pairwise fun x y => ltE y x = false := by
 have h := Go.Sort.sort_sorts ltE swoE l.toArray
 have h1 := h.1.1
 have h2 := h.2
 unfold sortK
 rw [List.pairwise_iff_getElem]
 intro i j hi hj hij
 have := h2 i j (by omega) hij (by rw [← h1]; simpa using hj)
 simp only [Array.length_toList] at hi hj
 simpa [getElem!_pos, hi, hj] using this
theorem sortK_len (l : List Ky) : (sortK l).length = l.length := (sortK_perm l).length_eq
theorem sortK_lr {l : List Ky} (h : Apart l) : Lr (sortK l) := by
 have hap : Apart (sortK l) := by
  have hs : ∀ {a b : Ky},¬ (a.x = b.x ∧ a.row = b.row) → ¬ (b.x = a.x ∧ b.row = a.row) := fun h e => h ⟨e.1.symm,e.2.symm⟩
  exact ((sortK_perm l).pairwise_iff hs).2 h
 refine ((sortK_sorted l).and hap).imp fun {x y} h => ?_
 have h1 : ¬ ltK y x := by rw [← ltE_iff]; simp [h.1]
 by_cases h2 : ltK x y
 ·exact h2
 ·exact absurd (ltK_tri h.2 h2) h1
theorem keyD_apart {b : Bd} (h : Good b) {ids : List Int} (hd : diffP b ids) : Apart (ids.map (keyD b)) := by
 unfold Apart
 rw [List.pairwise_map]
 refine List.Pairwise.imp_of_mem (R := fun a b => a ≠ b) (fun {x y} hx hy hne e => ?_) hd.1
 have h1 := keyD_mem hd hx
 have h2 := keyD_mem hd hy
 have key : ∀ {l : List Ky}, Apart l → ∀ {k m : Ky}, k ∈ l → m ∈ l → k.x = m.x ∧ k.row = m.row → k = m := by
  intro l
  induction l with
  | nil => intro _ k m hk; cases hk
  | cons a l ih =>
   intro hl k m hk hm e
   have hl := List.pairwise_cons.1 hl
   rcases List.mem_cons.1 hk with e1 | k1 <;> rcases List.mem_cons.1 hm with e2 | m1
   ·rw [e1, e2]
   ·subst e1; exact absurd e (hl.1 m m1)
   ·subst e2; exact absurd ⟨e.1.symm, e.2.symm⟩ (hl.1 k k1)
   ·exact ih hl.2 k1 m1 e
 have := key h.apart h1.1 h2.1 e
 rw [← h1.2, ← h2.2, this] at hne
 exact hne rfl
theorem sortK_ord {b : Bd} (h : Good b) {ids : List Int} (hd : diffP b ids) : sortK (ids.map (keyD b)) = ordK b ids :=
 ordK_uniq h hd (sortK_lr (keyD_apart h hd)) fun k => (sortK_perm _).mem_iff
theorem elE_sort (l : List Ky) (i j : Nat) : elE (Go.Sort.sort ltE l.toArray) i j = kyE (sortK l) i j := by
 unfold elE kyE gk sortK
 congr 2
 simp [getElem!_def, Array.getElem?_toList, List.getD_eq_getElem?_getD]
 rfl
theorem elE_list (l : List Ky) (i j : Nat) : elE l.toArray i j = kyE l i j := by
 unfold elE kyE gk
 congr 2
 simp [getElem!_def, List.getD_eq_getElem?_getD]
 rfl
theorem ky_snoc (l : List Ky) (x : Ky) {i j : Nat} (h : i < l.length + 1) (hj : j < 9) : catE l.length (kyE l) (fun i j => nth (kyL x) (i * 9 + j)) i j = kyE (l ++ [x]) i j := by
 unfold catE kyE gk
 split
 ·rename_i h1; simp [List.getElem?_append_left h1]
 ·obtain rfl : i = l.length := by omega
  simp
theorem el_snoc (l : List Ky) (x : Ky) {i j : Nat} (h : i < l.length + 1) (hj : j < 9) : catE l.length (elE l.toArray) (fun i j => nth (elL x) (i * 9 + j)) i j = elE (l ++ [x]).toArray i j := by
 rw [elE_list]
 have e := ky_snoc l x h hj
 unfold catE at e ⊢
 simp only [elE_list]
 exact e
theorem ordK_x {b : Bd} (h : Good b) (ids : List Int) : ∀ i,i < (ordK b ids).length → 0 ≤ (gk (ordK b ids) i).x ∧ (gk (ordK b ids) i).x ≤ 1000 := fun i hi => by
 have := h.one _ (ordK_mem.1 (gk_mem hi)).1
 exact ⟨this.2.2.1, this.2.2.2.1⟩
theorem diff_len {b : Bd} (h : Good b) {c : List Int} (hd : diffP b c) : c.length ≤ 120 := by
 rw [← ordK_len h hd]
 unfold ordK
 refine Nat.le_trans (List.length_filter_le _ _) ?_
 rw [srtK_len]; exact h.len
def remK (b : Bd) (js : List Int) : List Ky := b.ks.filter fun k => decide (k.id ∉ js)
theorem keyOf_rem (b : Bd) (js : List Int) (id : Int) : keyOf (remK b js) id = if id ∈ js then none else keyOf b.ks id := by
 unfold remK keyOf
 rw [List.find?_filter]
 split
 ·rename_i h
  rw [List.find?_eq_none]
  intro k _
  simp only [decide_eq_true_eq, Bool.and_eq_true, not_and]
  intro h1 h2
  exact h1 (h2 ▸ h)
 ·rename_i h
  congr 1
  funext k
  by_cases e : k.id = id
  ·simp [e, h]
  ·simp [e]
theorem remK_snoc (b : Bd) (js : List Int) (id : Int) : (remK b js).filter (fun k => decide (k.id ≠ id)) = remK b (js ++ [id]) := by
 unfold remK
 rw [List.filter_filter]
 congr 1
 funext k
 simp only [List.mem_append, List.mem_singleton, not_or]
 by_cases e : k.id = id <;> by_cases e2 : k.id ∈ js <;> simp [e, e2]
theorem remK_rise {b : Bd} (h : Good b) (js : List Int) : (remK b js).Pairwise fun a c => a.id < c.id := h.rise.sublist List.filter_sublist
theorem take_gi {l : List Int} {i : Nat} (h : i < l.length) : l.take (i + 1) = l.take i ++ [gi l i] := by
 rw [List.take_add_one, List.getElem?_eq_getElem h]
 simp only [gi, List.getD_eq_getElem?_getD, List.getElem?_eq_getElem h, Option.getD_some, Option.toList_some]
theorem gi_mem {l : List Int} {i : Nat} (h : i < l.length) : gi l i ∈ l := by simp [gi, h]
theorem diff_snoc {b : Bd} {ids : List Int} {i : Nat} (h : i < ids.length) (hd : diffP b (ids.take i)) (h1 : gi ids i ∉ ids.take i) (h2 : (keyOf b.ks (gi ids i)).isSome = true) : diffP b (ids.take (i + 1)) := by
 rw [take_gi h]
 refine ⟨?_, fun id hi => ?_⟩
 ·rw [List.nodup_append]
  exact ⟨hd.1, by simp, fun a ha c hc e => by simp at hc; subst hc; subst e; exact h1 ha⟩
 ·rcases List.mem_append.1 hi with hi | hi
  ·exact hd.2 id hi
  ·simp at hi; subst hi; exact h2
theorem diff_not {b : Bd} {ids : List Int} {i : Nat} (h : i < ids.length) (hn : gi ids i ∈ ids.take i ∨ keyOf b.ks (gi ids i) = none) : ¬ diffP b ids := by
 rintro ⟨h1, h2⟩
 rcases hn with hn | hn
 ·rw [← List.take_append_drop (i + 1) ids] at h1
  have h3 := (List.nodup_append.1 h1).1
  rw [take_gi h, List.nodup_append] at h3
  exact h3.2.2 _ hn _ (List.mem_singleton.2 rfl) rfl
 ·have := h2 _ (gi_mem h)
  rw [hn] at this; cases this
end Go.Proofs.YtonmienclploaaaGreatDoor.B
namespace Go.Proofs.YtonmienclploaaaGreatDoor.B
open Go.Ab
theorem spanB_take {s : Int} {l : List Ky} {n : Nat} (h0 : 0 < n) (hn : n ≤ l.length) : spanB s (l.take n) = decide ((gk l (n - 1)).x - (gk l 0).x ≤ s) := by
 have e1 : (l.take n).head? = some (gk l 0) := by
  rw [List.head?_take, if_neg (by omega), List.head?_eq_getElem?]
  simp [gk, show 0 < l.length by omega]
 have e2 : (l.take n).getLast? = some (gk l (n - 1)) := by
  rw [List.getLast?_eq_getElem?, List.length_take, Nat.min_eq_left hn, List.getElem?_take_of_lt (by omega)]
  simp [gk, show n - 1 < l.length by omega]
 unfold spanB; rw [e1, e2]
theorem spanB_drop {s : Int} {l : List Ky} {n : Nat} (hn : n < l.length) : spanB s (l.drop n) = decide ((gk l (l.length - 1)).x - (gk l n).x ≤ s) := by
 have e1 : (l.drop n).head? = some (gk l n) := by
  rw [drop_gk hn]; rfl
 have e2 : (l.drop n).getLast? = some (gk l (l.length - 1)) := by
  rw [List.getLast?_eq_getElem?,List.length_drop,List.getElem?_drop,show n + (l.length - n - 1) = l.length - 1 by omega]
  simp [gk, show l.length - 1 < l.length by omega]
 unfold spanB; rw [e1, e2]
theorem spanB_nil (s : Int) : spanB s [] = true := rfl
set_option maxRecDepth 100000 in
set_option maxHeartbeats 4000000 in
theorem divide_tc (l : List Ky) (s : Int) (hl : l.length ≤ 120) (hx : ∀ i,i < l.length → 0 ≤ (gk l i).x ∧ (gk l i).x ≤ 1000) : Look Tryz.prog 36 [kys l,.imm (.int .i64 s)] (.imm (.int .i64 (divR s l))) := by
 refine Look.mk trivial ?_
 (refine TC_of_T Γ_ok Tryz.func36 rfl (by kernel_rfl) ?_;simp only [Tryz.ntmps36,Tryz.results36,List.length_cons,List.length_nil,Nat.reduceSub,Nat.reduceAdd,List.replicate,List.cons_append,List.nil_append])
 (have sx1:=sx0;((refine goU1 _ _ _ _ _ _ _ _ _ _ _ _ ?_ ?_ ?_ ?_ ?_ ?_ ?_ ?_ ?_ ?_ ?_ ?_)<;>(repeat intro hb)<;>first|exact True.intro|refine Lf.mk ?_))
 refine T_loopW (fun m st=>∃ k : Int,-1 ≤ k ∧ k ≤ 5 ∧ k ≤ l.length ∧ (m : Int) = k + 1 ∧ (∀ j : Nat,k < j → j ≤ l.length → divB s l j = false) ∧ st = ⟨[kys l,.imm (.int .i64 s),.top,.top,.imm (.int .i64 0),.imm (.int .i64 k)] ++ List.replicate 49 .top,[]⟩)
  ((if 5 < (l.length : Int) then 5 else (l.length : Int)) + 1).toNat ⟨_,?_,(if 5 < (l.length : Int) then 5 else (l.length : Int)),by split <;> omega,by split <;> omega,by split <;> omega,by split <;> omega,fun j h1 h2=>?_,rfl⟩ ?_
 ·((try refine sgl ?_);exact wkI [])
 ·unfold divB
  rw [decide_eq_false (p := j ≤ 5) (by split at h1 <;> omega)]
  rfl
 rintro m st ⟨k, h0, h1, h2, h3, h4, rfl⟩
 refine sgo ?_
 (have sx1:=sx0;repeat' (first|with_reducible refine T_seq_drawT (id := 4) Γ_ok drawsAny pl36_4 (by kernel_rfl) (fun K hK=>?_)|with_reducible refine T_last_drawT (id := 4) Γ_ok drawsAny pl36_4 (by kernel_rfl) (fun K hK=>?_)|with_reducible refine T_seq_drawT (id := 7) Γ_ok drawsAny pl36_7 (by kernel_rfl) (fun K hK=>?_)|with_reducible refine T_last_drawT (id := 7) Γ_ok drawsAny pl36_7 (by kernel_rfl) (fun K hK=>?_)|((refine goU1 _ _ _ _ _ _ _ _ _ _ _ _ ?_ ?_ ?_ ?_ ?_ ?_ ?_ ?_ ?_ ?_ ?_ ?_)<;>(repeat intro hb)<;>first|exact True.intro|refine Lf.mk ?_)))
 ·obtain ⟨n, rfl⟩ := Int.eq_ofNat_of_zero_le hb.1
  have x1 := hx 0
  have x2 := hx (n - 1)
  have x3 := hx (l.length - 1)
  have x4 := hx n
  refine sgo ?_
  refine T_rounds 3 ?_
  (have sx1:=sx0;repeat' (first|with_reducible refine T_seq_drawT (id := 4) Γ_ok drawsAny pl36_4 (by kernel_rfl) (fun K hK=>?_)|with_reducible refine T_last_drawT (id := 4) Γ_ok drawsAny pl36_4 (by kernel_rfl) (fun K hK=>?_)|with_reducible refine T_seq_drawT (id := 7) Γ_ok drawsAny pl36_7 (by kernel_rfl) (fun K hK=>?_)|with_reducible refine T_last_drawT (id := 7) Γ_ok drawsAny pl36_7 (by kernel_rfl) (fun K hK=>?_)|((refine goU1 _ _ _ _ _ _ _ _ _ _ _ _ ?_ ?_ ?_ ?_ ?_ ?_ ?_ ?_ ?_ ?_ ?_ ?_)<;>(repeat intro hb)<;>first|exact True.intro|refine Lf.mk ?_)))
  ·have e : divB s l n = false := by
    unfold divB
    rw [spanB_take (by omega) (by omega), decide_eq_false (p := (gk l (n - 1)).x - (gk l 0).x ≤ s)]
    ·simp
    ·have := hb.2
     rw [wrapI (by omega) (by omega)] at this
     omega
   refine ⟨n, by omega, _, ?_, (n : Int) - 1, by omega, by omega, by omega, by omega, fun j h5 h6 => ?_, rfl⟩
   ·((try refine sgl ?_);exact wkI [])
   ·by_cases e2 : j = n
    ·rw [e2]; exact e
    ·exact h4 j (by omega) h6
  ·have e : divB s l n = false := by
    unfold divB
    rw [spanB_drop (by omega), decide_eq_false (p := (gk l (l.length - 1)).x - (gk l n).x ≤ s)]
    ·simp
    ·have := hb.2
     rw [show n + (l.length - n - 1) = l.length - 1 by omega, wrapI (by omega) (by omega)] at this
     omega
   refine ⟨n, by omega, _, ?_, (n : Int) - 1, by omega, by omega, by omega, by omega, fun j h5 h6 => ?_, rfl⟩
   ·((try refine sgl ?_);exact wkI [])
   ·by_cases e2 : j = n
    ·rw [e2]; exact e
    ·exact h4 j (by omega) h6
  ·refine congrArg (fun b => AV.imm (.int .i64 b)) ?_
   have e : divB s l n = true := by
    unfold divB
    rw [decide_eq_true (p := n ≤ 5) (by omega), decide_eq_true (p := l.length - n ≤ 5) (by omega)]
    have e1 : spanB s (l.take n) = true := by
     by_cases h0 : n = 0
     ·rw [h0, List.take_zero, spanB_nil]
     ·rw [spanB_take (by omega) (by omega)]
      have : IntKind.i64.wrap ((gk l (n - 1)).x - (gk l 0).x) ≤ s := by grind
      rw [wrapI (by omega) (by omega)] at this
      exact decide_eq_true this
    have e2 : spanB s (l.drop n) = true := by
     by_cases h0 : n = l.length
     ·rw [List.drop_of_length_le (by omega), spanB_nil]
     ·rw [spanB_drop (by omega)]
      have : IntKind.i64.wrap ((gk l (n + (l.length - n - 1))).x - (gk l n).x) ≤ s := by grind
      rw [show n + (l.length - n - 1) = l.length - 1 by omega, wrapI (by omega) (by omega)] at this
      exact decide_eq_true this
    rw [e1, e2]; rfl
   unfold divR
   rcases divN_cases s l l.length with h5 | ⟨j, h5, h6, h7, h8⟩
   ·rw [h5.2 n (by omega)] at e; cases e
   ·rw [h6]
    by_cases h9 : j = n
    ·rw [h9]
    ·by_cases h10 : j < n
     ·rw [h8 n h10 (by omega)] at e; cases e
     ·rw [h4 j (by omega) h5] at h7; cases h7
 ·refine congrArg (fun b => AV.imm (.int .i64 b)) ?_
  have key : ∀ j : Nat, j ≤ l.length → divB s l j = false := fun j hj => by
   by_cases e : k < j
   ·exact h4 j e hj
   ·unfold divB
    rw [decide_eq_false (p := l.length - j ≤ 5) (by omega)]
    simp
  rcases divN_cases s l l.length with h5 | ⟨j, h5, h6, h7, h8⟩
  ·exact h5.1.symm
  ·rw [key j h5] at h7; cases h7
end Go.Proofs.YtonmienclploaaaGreatDoor.B
namespace Go.Proofs.YtonmienclploaaaGreatDoor.B
open Go.Ab
def idE (l : List Ky) : List (Value × AV) := l.map fun k => (.int .i64 k.id, kyA k)
theorem idE_free (l : List Ky) : FreeL ((idE l).map (·.2)) := by
 induction l with
 | nil => trivial
 | cons k l ih => exact ⟨by simp [kyA, kyL, Free, FreeL], ih⟩
theorem keq_int (a b : Int) : keq (.int .i64 a) (.int .i64 b) = decide (a = b) := by
 simp only [keq]; rw [Bool.eq_iff_iff]; simp
theorem mget_idE (id : Int) : ∀ l : List Ky, mget (idE l) (.int .i64 id) = (keyOf l id).map kyA
 | [] => rfl
 | k :: l => by
  have ih := mget_idE id l
  simp only [idE] at ih
  simp only [idE, List.map_cons, mget, keq_int, ih, keyOf, List.find?_cons]
  by_cases h : k.id = id
  ·simp [h]
  ·simp [h, Ne.symm h]
theorem mput_idE (k : Ky) : ∀ l : List Ky,(∀ y ∈ l,y.id ≠ k.id) → mput (idE l) (.int .i64 k.id) (kyA k) = idE (l ++ [k])
 | [], _ => rfl
 | y :: l, h => by
  have ih := mput_idE k l fun z hz => h z (List.mem_cons_of_mem _ hz)
  simp only [idE] at ih
  simp only [idE, List.map_cons, mput, keq_int, ih, List.cons_append]
  rw [if_neg (by simp; exact fun e => h y (by simp) e.symm)]
theorem mdel_idE (id : Int) : ∀ l : List Ky,(l.Pairwise fun a c => a.id < c.id) → mdel (idE l) (.int .i64 id) = idE (l.filter fun k => decide (k.id ≠ id))
 | [], _ => rfl
 | k :: l, h => by
  have h1 := List.pairwise_cons.1 h
  have ih := mdel_idE id l h1.2
  simp only [idE] at ih
  simp only [idE, List.map_cons, mdel, keq_int, ih]
  by_cases e : id = k.id
  ·subst e
   rw [if_pos (by simp), List.filter_cons_of_neg (by simp), List.filter_eq_self.2]
   intro y hy
   have := h1.1 y hy
   simp; omega
  ·rw [if_neg (by simpa using e), List.filter_cons_of_pos (by simpa using Ne.symm e)]
   rfl
set_option maxRecDepth 100000 in
set_option maxHeartbeats 4000000 in
theorem byID_raw (b : Bd) (hb : bdB b = true) : TC Tryz.prog 33 [bdA b] [] (fun v σ' => v = .map 1 ∧ σ' = [.box 46 (bdL b),.mp (.int .i64) (idE b.ks)]) := by
 have hg := bdB_iff.1 hb
 have hl := hg.len
 (refine TC_of_T Γ_ok Tryz.func33 rfl (by kernel_rfl) ?_;simp only [Tryz.ntmps33,Tryz.results33,List.length_cons,List.length_nil,Nat.reduceSub,Nat.reduceAdd,List.replicate,List.cons_append,List.nil_append])
 (((refine goR0 _ _ _ _ _ _ _ _ ?_ ?_ ?_ ?_ ?_ ?_ ?_ ?_)<;>(repeat intro hb)<;>first|exact True.intro|refine Lf.mk ?_))
 refine T_loopW (fun m st=>∃ i : Nat,i ≤ b.ks.length ∧ m + i = b.ks.length ∧ st = ⟨[.top,.optr 0 0 0,.imm (.map none),.map 1] ++ List.replicate 7 .top ++ [kys b.ks,.imm (.int .i64 b.ks.length),.imm (.int .i64 i)] ++ List.replicate 9 .top,[.box 46 (bdL b),.mp (.int .i64) (idE (b.ks.take i))]⟩)
  b.ks.length ⟨_, ?_, 0, by omega, rfl, rfl⟩ ?_
 ·((try refine sgl ?_);exact wkI [0,1])
 rintro m st ⟨i, h0, h1, rfl⟩
 refine sgo ?_
 (((refine goR0 _ _ _ _ _ _ _ _ ?_ ?_ ?_ ?_ ?_ ?_ ?_ ?_)<;>(repeat intro hb)<;>first|exact True.intro|refine Lf.mk ?_))
 ·have hi : i < b.ks.length := by omega
  refine ⟨b.ks.length - (i + 1), by omega, _, ?_, i + 1, by omega, by omega, rfl⟩
  have e := mput_idE (gk b.ks i) (b.ks.take i) fun y hy => by
   have h2 := hg.rise
   rw [← List.take_append_drop i b.ks, drop_gk hi] at h2
   have := (List.pairwise_append.1 h2).2.2 y hy (gk b.ks i) (by simp)
   omega
  rw [← take_gk hi] at e
  have e2 : mput (idE (List.take i b.ks)) (.int .i64 (gk b.ks i).id) (.agg [.imm (.int .i64 (gk b.ks i).id),.imm (.int .i64 (gk b.ks i).x),.imm (.int .i64 (gk b.ks i).row),.imm (.int .i64 (gk b.ks i).p.a),.imm (.int .i64 (gk b.ks i).p.b),.imm (.int .i64 (gk b.ks i).p.c),.imm (.int .i64 (gk b.ks i).p.d),.imm (.int .i64 (gk b.ks i).p.e),.imm (.int .i64 (gk b.ks i).p.f)]) = idE (List.take (i + 1) b.ks) := e
  rw [e2]
  ((try refine sgl ?_);refine Wk.intro [0,1] (by decide) (by decide) wkH ?_ ?_ <;> repeat' (first|(exact WkO.mpE rfl (idE_free _))|(refine WkV.imm ?_;congr 1;omega)|refine WkVL.cons ?_ ?_|exact wkT|refine WkV.agg ?_|refine WkV.tup ?_|refine WkV.fn ?_ ?_|exact WkO.dead|exact WkO.raw|refine WkO.ghost ?_|exact WkO.mpE rfl trivial|refine WkO.box ?_ rfl|refine WkO.arr ?_|refine And.intro ?_ (And.intro aF ?_)|exact trivial|(intro i j hi hj)))
 ·rw [List.take_of_length_le (by omega)]
theorem idE_pl (l : List Ky) : PlL ((idE l).map (·.2)) := by
 induction l with
 | nil => trivial
 | cons k l ih => exact ⟨by simp [kyA, kyL, Pl, PlL], ih⟩
theorem byID_tc (b : Bd) (hb : bdB b = true) : Makes Tryz.prog 33 [bdA b] (.map 0) [.mp (.int .i64) (idE b.ks)] := by
 refine Makes.gen [] trivial (fun a ha => by simp only [List.mem_singleton] at ha;subst ha;exact idE_pl _) ((byID_raw b hb).mono fun v σ' ⟨hv,hs⟩ => ⟨[1],by simp,?_,?_,?_⟩)
 ·intro o ho
  simp only [List.mem_singleton] at ho
  subst ho
  rw [hs]; simp
 ·rw [hv]; exact WkV.map rfl
 ·rw [hs]; exact ⟨WkO.mpE rfl (idE_free _), fun h => h, trivial⟩
def idP (l : List Ky) (i k : Nat) (_ : Nat) : AV := .imm (.int .i64 (if k < i then (gk l k).id else 0))
@[simp] theorem idP_free (l : List Ky) (i k j : Nat) : Free (idP l i k j) := trivial
theorem idP_upd (l : List Ky) (i : Nat) {k j : Nat} (hj : j < 1) : updE (idP l i) i 0 [.imm (.int .i64 (gk l i).id)] k j = idP l (i + 1) k j := by
 obtain rfl : j = 0 := by omega
 unfold updE idP
 by_cases h : k = i
 ·subst h; simp [nth]
 ·rw [if_neg (fun hh => h hh.1)]
  by_cases h2 : k < i
  ·rw [if_pos h2, if_pos (by omega)]
  ·rw [if_neg h2, if_neg (by omega)]
theorem gi_map (l : List Ky) {k : Nat} (h : k < l.length) : gi (l.map (·.id)) k = (gk l k).id := by
 simp [gi, gk, h]
set_option maxRecDepth 100000 in
set_option maxHeartbeats 4000000 in
theorem ids_raw (l : List Ky) (hl : l.length ≤ 100000) : TC Tryz.prog 37 [kys l] [] (fun v σ' => v = .own 0 0 l.length (some l.length) ∧ σ' = [.arr 3 1 l.length (idP l l.length)]) := by
 have hup := fun i k j => idP_upd l i (k := k) (j := j)
 (refine TC_of_T Γ_ok Tryz.func37 rfl (by kernel_rfl) ?_;simp only [Tryz.ntmps37,Tryz.results37,List.length_cons,List.length_nil,Nat.reduceSub,Nat.reduceAdd,List.replicate,List.cons_append,List.nil_append])
 (((refine goR0 _ _ _ _ _ _ _ _ ?_ ?_ ?_ ?_ ?_ ?_ ?_ ?_)<;>(repeat intro hb)<;>first|exact True.intro|refine Lf.mk ?_))
 refine T_loopW (fun m st=>∃ i : Nat,i ≤ l.length ∧ m + i = l.length ∧ st = ⟨[kys l,.top,.top,.own 0 0 l.length (some l.length),.top,.top,.top,.top,.top,kys l,.imm (.int .i64 l.length),.imm (.int .i64 i)] ++ List.replicate 11 .top,[.arr 3 1 l.length (idP l i)]⟩)
  l.length ⟨_, ?_, 0, by omega, rfl, rfl⟩ ?_
 ·have h0 : ∀ k j, j < 1 → nth [AV.imm (.int .i64 0)] j = idP l 0 k j := fun k j hj => by
   obtain rfl : j = 0 := by omega
   simp [nth, idP]
  ((try refine sgl ?_);refine Wk.intro [0] (by decide) (by decide) wkH ?_ ?_ <;> repeat' (first|(exact WkV.eqF (h0 _ _ hj) (by simp))|refine WkVL.cons ?_ ?_|exact wkT|refine WkV.agg ?_|refine WkV.tup ?_|refine WkV.fn ?_ ?_|exact WkO.dead|exact WkO.raw|refine WkO.ghost ?_|exact WkO.mpE rfl trivial|refine WkO.box ?_ rfl|refine WkO.arr ?_|refine And.intro ?_ (And.intro aF ?_)|exact trivial|(intro i j hi hj)))
 rintro m st ⟨i, h0, h1, rfl⟩
 refine sgo ?_
 (((refine goR0 _ _ _ _ _ _ _ _ ?_ ?_ ?_ ?_ ?_ ?_ ?_ ?_)<;>(repeat intro hb)<;>first|exact True.intro|refine Lf.mk ?_))
 ·refine ⟨l.length - (i + 1), by omega, _, ?_, i + 1, by omega, by omega, rfl⟩
  ((try refine sgl ?_);refine Wk.intro [0] (by decide) (by decide) wkH ?_ ?_ <;> repeat' (first|(refine WkV.imm ?_;congr 1;omega)|(exact WkV.eqF (hup _ _ _ hj) (by simp))|refine WkVL.cons ?_ ?_|exact wkT|refine WkV.agg ?_|refine WkV.tup ?_|refine WkV.fn ?_ ?_|exact WkO.dead|exact WkO.raw|refine WkO.ghost ?_|exact WkO.mpE rfl trivial|refine WkO.box ?_ rfl|refine WkO.arr ?_|refine And.intro ?_ (And.intro aF ?_)|exact trivial|(intro i j hi hj)))
 ·obtain rfl : i = l.length := by omega
  rfl
theorem ids_tc (l : List Ky) (hl : l.length ≤ 100000) : Makes Tryz.prog 37 [kys l] (.own 0 0 l.length (some l.length)) [intO (l.map (·.id))] := by
 refine Makes.gen [] trivial (fun a ha => by simp only [List.mem_singleton] at ha;subst ha;exact fun i j => inE_pl _ i j) ((ids_raw l hl).mono fun v σ' ⟨hv,hs⟩ => ⟨[0],by simp,?_,?_,?_⟩)
 ·intro o ho
  simp only [List.mem_singleton] at ho
  subst ho
  rw [hs]; simp
 ·rw [hv]; exact WkV.own rfl (by simp)
 ·rw [hs]
  refine ⟨?_, fun h => h, trivial⟩
  rw [show intO (l.map (·.id)) = .arr 3 1 l.length (inE (l.map (·.id))) by unfold intO; rw [List.length_map]]
  refine WkO.arr fun i j hi hj => WkV.eqF ?_ (by simp)
  unfold idP inE
  rw [gi_map l hi, if_pos hi]
end Go.Proofs.YtonmienclploaaaGreatDoor.B
namespace Go.Proofs.YtonmienclploaaaGreatDoor.B
def prodL : List (List Int) → List (List Int)
 | [] => [[]]
 | l :: r => l.flatMap fun x => (prodL r).map fun t => x :: t
theorem prodL_mem : ∀ {L : List (List Int)} {t : List Int},t ∈ prodL L ↔ t.length = L.length ∧ ∀ i (h : i < L.length) (h2 : i < t.length),t[i] ∈ L[i]
 | [], t => by
  simp [prodL]
 | l :: r, t => by
  simp only [prodL, List.mem_flatMap, List.mem_map]
  constructor
  ·rintro ⟨x, hx, s, hs, rfl⟩
   have := prodL_mem.1 hs
   refine ⟨by simp [this.1], fun i h h2 => ?_⟩
   cases i with
   | zero => exact hx
   | succ i => exact this.2 i (by simpa using h) (by simpa using h2)
  ·rintro ⟨h1, h2⟩
   cases t with
   | nil => simp at h1
   | cons x s =>
    refine ⟨x, h2 0 (by simp) (by simp), s, prodL_mem.2 ⟨by simpa using h1, fun i h h3 => ?_⟩, rfl⟩
    exact h2 (i + 1) (by simpa using h) (by simpa using h3)
def dfs (ok : List Int → Bool) : List (List Int) → List Int → Option (List Int)
 | [], c => some c
 | l :: r,c => l.findSome? fun id => if id ∈ c then none else if ok (c ++ [id]) = true then dfs ok r (c ++ [id]) else none
theorem find_flat {α β : Type} (p : β → Bool) (f : α → List β) : ∀ l : List α,(l.flatMap f).find? p = l.findSome? fun a => (f a).find? p
 | [] => rfl
 | a :: l => by
  rw [List.flatMap_cons, List.find?_append, find_flat p f l, List.findSome?_cons]
  cases (f a).find? p <;> rfl
def optL (b : Bd) (vs : List P6) : List (List Int) := vs.map (findL b)
def capI (n : Int) (l : List Int) : Int := if 10001 < n * (l.length : Int) then 10001 else n * (l.length : Int)
def limC (L : List (List Int)) : Int := L.foldl capI 1
def optR (b : Bd) (vs : List P6) : List (List Int) × Int :=
 if vs.all vOk = false then ([], 1) else if (optL b vs).any (fun l => l.isEmpty) = true then ([], 4)
 else if vs.length > 12 ∨ 10000 < limC (optL b vs) then ([], 2) else (optL b vs, 0)
def okC (b : Bd) (c : List Int) : Bool := decide (0 ≤ divR b.span (ordK b c))
def goodC (b : Bd) (c : List Int) : Bool := decide (playP b c)
def chordR (b : Bd) (vs : List P6) : List Int × Int :=
 if bdB b = true then
  (if (optR b vs).2 = 0 then (match (prodL (optR b vs).1).find? (goodC b) with | some l => (l,0) | none => ([],20)) else ([],(optR b vs).2))
 else ([], 1)
theorem findL_ids {b : Bd} (h : Good b) {v : P6} {id : Int} (hi : id ∈ findL b v) : (keyOf b.ks id).isSome = true := by
 unfold findL at hi
 obtain ⟨k, hk, rfl⟩ := List.mem_map.1 hi
 rw [keyOf_mem h.rise (List.mem_filter.1 hk).1]; rfl
theorem findL_len {b : Bd} (h : Good b) (v : P6) : (findL b v).length ≤ 120 := by
 unfold findL
 rw [List.length_map]
 exact Nat.le_trans (List.length_filter_le _ _) h.len
theorem goodC_snoc {b : Bd} (h : Good b) (c : List Int) (id : Int) (hk : (keyOf b.ks id).isSome = true) : goodC b (c ++ [id]) = true ↔ goodC b c = true ∧ id ∉ c ∧ okC b (c ++ [id]) = true := by
 unfold goodC okC
 simp only [decide_eq_true_eq]
 constructor
 ·intro hp
  refine ⟨hp.sub h (List.sublist_append_left _ _), fun hm => ?_, hp.2⟩
  have := (List.nodup_append.1 hp.1.1).2.2 id hm id (by simp)
  exact this rfl
 ·rintro ⟨h1, h2, h3⟩
  refine ⟨⟨?_, fun x hx => ?_⟩, h3⟩
  ·rw [List.nodup_append]
   exact ⟨h1.1.1, by simp, fun a ha d hd e => by simp at hd; subst hd; subst e; exact h2 ha⟩
  ·rcases List.mem_append.1 hx with hx | hx
   ·exact h1.1.2 x hx
   ·simp at hx; subst hx; exact hk
theorem dfs_find' {good ok : List Int → Bool} {kn : Int → Prop} (hg : ∀ c id,kn id → (good (c ++ [id]) = true ↔ good c = true ∧ id ∉ c ∧ ok (c ++ [id]) = true)) (L : List (List Int)) (hL : ∀ l ∈ L,∀ id ∈ l,kn id) (c : List Int) (h : good c = true) :
  dfs ok L c = ((prodL L).map fun t => c ++ t).find? good := by
 induction L generalizing c with
 | nil => simp [dfs, prodL, h]
 | cons l r ih =>
  rw [dfs, prodL, List.map_flatMap, find_flat]
  have hl := hL l (by simp)
  have hr := ih fun m hm => hL m (List.mem_cons_of_mem _ hm)
  have down : ∀ (t : List Int), (∀ x ∈ t, kn x) → ∀ (d : List Int), good (d ++ t) = true → good d = true := by
   intro t
   induction t with
   | nil => intro _ d h; simpa using h
   | cons x t ih =>
    intro hk d h
    have := ih (fun y hy => hk y (List.mem_cons_of_mem _ hy)) (d ++ [x]) (by simpa using h)
    exact ((hg d x (hk x (by simp))).1 this).1
  have hmem : ∀ s ∈ prodL r, ∀ x ∈ s, kn x := by
   intro s hs x hx
   have h2 := prodL_mem.1 hs
   obtain ⟨i, hi, rfl⟩ := List.mem_iff_getElem.1 hx
   have := h2.2 i (by omega) hi
   exact hL _ (List.mem_cons_of_mem _ (List.getElem_mem (by omega))) _ this
  have key : ∀ id ∈ l,(if id ∈ c then none else if ok (c ++ [id]) = true then dfs ok r (c ++ [id]) else none) = (((prodL r).map fun t => id :: t).map fun t => c ++ t).find? good := by
   intro id hid
   have e : (((prodL r).map fun t => id :: t).map fun t => c ++ t) = (prodL r).map fun t => (c ++ [id]) ++ t := by
    rw [List.map_map]; congr 1; funext t; simp
   rw [e]
   have hq := hg c id (hl id hid)
   by_cases h1 : id ∈ c
   ·rw [if_pos h1, eq_comm, List.find?_eq_none]
    intro t ht hgt
    obtain ⟨s, hs, rfl⟩ := List.mem_map.1 ht
    exact (hq.1 (down s (hmem s hs) _ hgt)).2.1 h1
   ·rw [if_neg h1]
    by_cases h2 : ok (c ++ [id]) = true
    ·rw [if_pos h2]
     exact hr (c ++ [id]) (hq.2 ⟨h, h1, h2⟩)
    ·rw [if_neg h2, eq_comm, List.find?_eq_none]
     intro t ht hgt
     obtain ⟨s, hs, rfl⟩ := List.mem_map.1 ht
     exact h2 (hq.1 (down s (hmem s hs) _ hgt)).2.2
  clear down hmem hr ih hL
  induction l with
  | nil => rfl
  | cons x l ih => rw [List.findSome?_cons,List.findSome?_cons,key x (by simp),ih (fun y hy => hl y (List.mem_cons_of_mem _ hy)) fun y hy => key y (List.mem_cons_of_mem _ hy)]
theorem goodC_nil (b : Bd) (h : Good b) : goodC b [] = true := by
 unfold goodC
 simp only [decide_eq_true_eq]
 rw [playP_can h]
 have e : ordK b [] = [] := by unfold ordK; simp
 rw [e]
 exact ⟨⟨by simp, by simp⟩, 0, by simp, ⟨by simp, by simp⟩, ⟨by simp, by simp⟩⟩
theorem dfs_chord {b : Bd} (h : Good b) (vs : List P6) : dfs (okC b) (optL b vs) [] = (prodL (optL b vs)).find? (goodC b) := by
 rw [dfs_find' (kn := fun id => (keyOf b.ks id).isSome = true) (fun c id hk => goodC_snoc h c id hk) (optL b vs) (fun l hl id hid => ?_) [] (goodC_nil b h)]
 ·simp
 ·obtain ⟨v, _, rfl⟩ := List.mem_map.1 hl
  exact findL_ids h hid
end Go.Proofs.YtonmienclploaaaGreatDoor.B
