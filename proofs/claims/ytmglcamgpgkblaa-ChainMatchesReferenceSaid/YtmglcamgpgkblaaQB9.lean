/-
  chain: product, Product.
-/
import Derived.Test.YtmglcamgpgkblaaQGo
import Derived.Test.YtmglcamgpgkblaaQB8
set_option linter.unusedSimpArgs false
set_option linter.unusedVariables false
namespace Go.Proofs.Ytmglcamgpgkblaa
open Go.Ab
@[go_sem, reducible] def spL (x : Sp) : List AV := [.imm (.int .i64 x.fr), .imm (.int .i64 x.to), .imm (.int .i64 x.k)]
@[go_sem, reducible] def spA (x : Sp) : AV := .agg (spL x)
def spE (l : List Sp) (i j : Nat) : AV := nth (spL (gs l i)) j
@[go_sem] theorem spE_0 (l : List Sp) (i : Nat) : spE l i 0 = .imm (.int .i64 (gs l i).fr) := rfl
@[go_sem] theorem spE_1 (l : List Sp) (i : Nat) : spE l i 1 = .imm (.int .i64 (gs l i).to) := rfl
@[go_sem] theorem spE_2 (l : List Sp) (i : Nat) : spE l i 2 = .imm (.int .i64 (gs l i).k) := rfl
@[simp] theorem spE_pl (l : List Sp) (i j : Nat) : Pl (spE l i j) := by rcases j with _ | _ | _ | j <;> trivial
@[simp] theorem spE_free (l : List Sp) (i j : Nat) : Free (spE l i j) := Pl.free _ (spE_pl l i j)
@[go_sem, reducible] def sps (l : List Sp) : AV := .view l.length 3 (spE l)
@[go_sem, reducible] def spO (l : List Sp) : AObj := .arr 41 3 l.length (spE l)
def isS (x : Sp) (e : Ed) : Bool := decide (e.fr = x.fr) && (decide (e.to = x.to) && decide (e.k = x.k))
@[go_sem, reducible] def fnS (x : Sp) : AV := .fn (.func 49) [] [.rptr 3 (nth (spL x))]
theorem isS_iff {x : Sp} {e : Ed} : isS x e = true ↔ e.fr = x.fr ∧ e.to = x.to ∧ e.k = x.k := by unfold isS; simp
set_option maxRecDepth 100000 in
set_option maxHeartbeats 4000000 in
theorem isS_tc (x : Sp) (e : Ed) : Look Try.prog 49 [elA e, .rptr 3 (nth (spL x))] (.imm (.bool (isS x e))) := by
  refine Look.mk trivial ?_
  (refine TC_of_T Γ_ok Try.func49 rfl (by kernel_rfl) ?_;simp only [Try.ntmps49,Try.results49,List.length_cons,List.length_nil,Nat.reduceSub,Nat.reduceAdd,List.replicate,List.cons_append,List.nil_append])
  (((have sx1 := Nat.add_zero 0;refine goU1 _ _ _ _ _ _ _ _ _ _ _ _ ?_ ?_ ?_ ?_ ?_ ?_ ?_ ?_ ?_ ?_ ?_ ?_) <;> (repeat intro hb) <;> first | exact True.intro | refine Lf.mk ?_))
  all_goals (refine congrArg (fun b => AV.imm (.bool b)) ?_; unfold isS; first | rfl | (trace_state; grind))
def ixE (l : List Ed) (x : Sp) : Int := match (List.range l.length).find? fun i => isS x (gE l i) with | some i => i | none => -1
theorem ixE_some {l : List Ed} {x : Sp} {i : Nat} (hi : i < l.length) (h : isS x (gE l i) = true) (hn : ∀ j,j < i → isS x (gE l j) = false) : ixE l x = i := by
  have : (List.range l.length).find? (fun i => isS x (gE l i)) = some i := rfind.2 ⟨hi, h, hn⟩
  unfold ixE; rw [this]
theorem ixE_none {l : List Ed} {x : Sp} (hn : ∀ j, j < l.length → isS x (gE l j) = false) : ixE l x = -1 := by
  unfold ixE
  cases h : (List.range l.length).find? (fun i => isS x (gE l i)) with
  | none => rfl
  | some k => obtain ⟨h1, h2, h3⟩ := rfind.1 h; rw [hn k h1] at h2; cases h2
theorem ixE_cases (l : List Ed) (x : Sp) : (∃ i : Nat,ixE l x = i ∧ i < l.length ∧ isS x (gE l i) = true) ∨ (ixE l x = -1 ∧ ∀ j,j < l.length → isS x (gE l j) = false) := by
  unfold ixE
  cases h : (List.range l.length).find? (fun i => isS x (gE l i)) with
  | none =>
    refine .inr ⟨rfl, fun j hj => ?_⟩
    have := List.find?_eq_none.1 h j (List.mem_range.2 hj)
    simpa using this
  | some k => obtain ⟨h1, h2, h3⟩ := rfind.1 h; exact .inl ⟨k, rfl, h1, h2⟩
set_option maxRecDepth 100000 in
set_option maxHeartbeats 4000000 in
theorem ixS_tc (l : List Ed) (x : Sp) (hl : l.length ≤ 9223372036854775807) : Look Try.prog 48 [eds l,fnS x] (.imm (.int .i64 (ixE l x))) := by
  refine Look.mk trivial ?_
  (refine TC_of_T Γ_ok Try.func48 rfl (by kernel_rfl) ?_;simp only [Try.ntmps48,Try.results48,List.length_cons,List.length_nil,Nat.reduceSub,Nat.reduceAdd,List.replicate,List.cons_append,List.nil_append])
  (((have sx1 := Nat.add_zero 0;refine goU1 _ _ _ _ _ _ _ _ _ _ _ _ ?_ ?_ ?_ ?_ ?_ ?_ ?_ ?_ ?_ ?_ ?_ ?_) <;> (repeat intro hb) <;> first | exact True.intro | refine Lf.mk ?_))
  refine T_loopW (fun m st=>∃ i : Nat,i ≤ l.length ∧ m + i = l.length ∧ (∀ j,j < i → isS x (gE l j) = false) ∧ st = ⟨[eds l,fnS x,.top,.top,.imm (.int .i64 0),.top,eds l,.imm (.int .i64 l.length),.imm (.int .i64 i)] ++ List.replicate 10 .top,[]⟩)
    l.length ⟨_, ?_, 0, by omega, rfl, by omega, rfl⟩ ?_
  · ((try simp only [List.length_append,List.length_cons,List.length_nil,Nat.zero_add]);refine Wk.intro [] (by decide) (by decide) (by intro o ho;simp at ho ⊢ <;> omega) ?_ ?_ <;> repeat' (first|exact WkVL.nil|refine WkVL.cons ?_ ?_|exact WkV.top|exact WkV.imm rfl|exact WkV.imm (by simp)|exact WkV.optr rfl|exact WkV.own rfl (by simp)|exact WkV.nil_own (.inl rfl)|exact WkV.map rfl|(refine WkV.free ?_;simp [Free,FreeL] <;> assumption)|(refine WkV.free (fun _ _=>FreeL_nth ?_ _);simp [Free,FreeL];done)|refine WkV.agg ?_|refine WkV.tup ?_|refine WkV.fn ?_ ?_|exact WkO.dead|exact WkO.raw|refine WkO.ghost ?_|exact WkO.mpE rfl trivial|refine WkO.box ?_ rfl|refine WkO.arr ?_|refine And.intro ?_ (And.intro (by first|exact fun h=>h|exact fun _=>rfl|exact nofun) ?_)|exact trivial|(intro i j hi hj)))
  rintro m st ⟨i, h0, h1, h2, rfl⟩
  (simp only [go_sem,↓reduceIte,Nat.reduceAdd,Nat.reduceSub,Nat.reduceMul,Nat.reduceLT,Nat.reduceLeDiff,Nat.reduceEqDiff,Nat.reduceGT,Int.reduceToNat,Int.reduceBEq,Int.reduceBNe];try simp (disch := omega) only [wrapI,wrapU,half_sum,toNat_sub1,toNat_add1,Int.toNat_natCast])
  (have cl1 := isS_tc x (gE l i);((have sx1 := Nat.add_zero 0;refine goU1 _ _ _ _ _ _ _ _ _ _ _ _ ?_ ?_ ?_ ?_ ?_ ?_ ?_ ?_ ?_ ?_ ?_ ?_) <;> (repeat intro hb) <;> first|exact True.intro|refine Lf.mk ?_))
  · rw [ixE_some (by omega) hb h2]
  · refine ⟨l.length - (i + 1), by omega, _, ?_, i + 1, by omega, by omega, fun j hj => ?_, rfl⟩
    · ((try simp only [List.length_append,List.length_cons,List.length_nil,Nat.zero_add]);refine Wk.intro [] (by decide) (by decide) (by intro o ho;simp at ho ⊢ <;> omega) ?_ ?_ <;> repeat' (first|(refine WkV.imm ?_;congr 1;omega)|exact WkVL.nil|refine WkVL.cons ?_ ?_|exact WkV.top|exact WkV.imm rfl|exact WkV.imm (by simp)|exact WkV.optr rfl|exact WkV.own rfl (by simp)|exact WkV.nil_own (.inl rfl)|exact WkV.map rfl|(refine WkV.free ?_;simp [Free,FreeL] <;> assumption)|(refine WkV.free (fun _ _=>FreeL_nth ?_ _);simp [Free,FreeL];done)|refine WkV.agg ?_|refine WkV.tup ?_|refine WkV.fn ?_ ?_|exact WkO.dead|exact WkO.raw|refine WkO.ghost ?_|exact WkO.mpE rfl trivial|refine WkO.box ?_ rfl|refine WkO.arr ?_|refine And.intro ?_ (And.intro (by first|exact fun h=>h|exact fun _=>rfl|exact nofun) ?_)|exact trivial|(intro i j hi hj)))
    · by_cases e : j = i
      · subst e; exact hb
      · exact h2 j (by omega)
  · rw [ixE_none fun j hj => h2 j (by omega)]
theorem rowE_at {s : Sc} {a i : Nat} (h : i < (rowE s a).length) : ∃ b k v,gE (rowE s a) i = ⟨a,(b : Nat),k,v⟩ ∧ stepR s a b = some (k,v) := by
  have : gE (rowE s a) i ∈ rowE s a := by simp [gE, h]
  obtain ⟨r, hr, e⟩ := List.mem_map.1 this
  exact ⟨r.1, r.2.1, r.2.2, e.symm, (row_mem.1 hr).2⟩
theorem rowE_has {s : Sc} (h : ScOk s) {a b : Nat} {k : Int} {v : P6} (he : stepR s a b = some (k,v)) : ∃ i,i < (rowE s a).length ∧ gE (rowE s a) i = ⟨a,b,k,v⟩ := by
  have hm : mkEd a (b, k, v) ∈ rowE s a := List.mem_map_of_mem (row_mem.2 ⟨((stepR_ok h).rg _ _ _ he).2, he⟩)
  obtain ⟨i, h1, h2⟩ := List.mem_iff_getElem.1 hm
  exact ⟨i, h1, by simp [gE, h1, h2, mkEd]⟩
def pdR (s : Sc) (l : List Sp) : P6 × Int := match prodS (stepR s) s.notes.length l with | some p => (p,0) | none => (z6,1)
theorem lastTo_gs {l : List Sp} (h : l ≠ []) : lastTo l = (gs l (l.length - 1)).to := by
  unfold lastTo gs
  rw [List.getLast?_eq_getElem?, List.getD_eq_getElem?_getD]
theorem drop_gs {l : List Sp} {i : Nat} (h : i < l.length) : l.drop i = gs l i :: l.drop (i + 1) := by
  rw [List.drop_eq_getElem_cons h]; simp [gs, h]
@[go_sem,reducible] def enP (s : Sc) (l : List Sp) (at_ : Int) (i : Nat) : List AV := [graphV s,sps l,.top,.top,.optr 0 0 0,.imm (.int .i64 0),.optr 1 0 0,.imm (.int .i64 at_)] ++ List.replicate 10 .top ++ [sps l,.imm (.int .i64 l.length),.imm (.int .i64 i)] ++ List.replicate 45 .top
@[go_sem, reducible] def fxP (v : P6) : List AObj := [.box 31 (p6L z6), .box 31 (p6L v)]
set_option maxRecDepth 100000 in
set_option maxHeartbeats 4000000 in
theorem product_tc (s : Sc) (hs : ScOk s) (l : List Sp) (h0 : l ≠ []) (hl : l.length ≤ 400) : Look Try.prog 28 [graphV s,sps l] (.tup [p6A (pdR s l).1,.imm (.int .i64 (pdR s l).2)]) := by
  have hsz := hs.sz
  unfold SzOk at hsz
  have hp0 := List.length_pos_iff.2 h0
  have hlast := lastTo_gs h0
  refine Look.mk (by simp [Pl, PlL]) ?_
  generalize hpd : pdR s l = pd
  unfold pdR prodS at hpd
  (refine TC_of_T Γ_ok Try.func28 rfl (by kernel_rfl) ?_;simp only [Try.ntmps28,Try.results28,List.length_cons,List.length_nil,Nat.reduceSub,Nat.reduceAdd,List.replicate,List.cons_append,List.nil_append])
  (have sx1 := Nat.add_zero 0;repeat' (first|with_reducible refine T_seq_drawT (id := 11) Γ_ok drawsAny pl28_11 (by kernel_rfl) (fun K hK=>?_)|with_reducible refine T_last_drawT (id := 11) Γ_ok drawsAny pl28_11 (by kernel_rfl) (fun K hK=>?_)|((refine goU1 _ _ _ _ _ _ _ _ _ _ _ _ ?_ ?_ ?_ ?_ ?_ ?_ ?_ ?_ ?_ ?_ ?_ ?_) <;> (repeat intro hb) <;> first|exact True.intro|refine Lf.mk ?_)))
  refine T_loopW (fun m st=>∃ (i : Nat) (at_ : Int) (v : P6),i ≤ l.length ∧ m + i = l.length ∧ Bd6 (16 * i) v ∧ prodW (stepR s) s.notes.length at_ v (l.drop i) = prodW (stepR s) s.notes.length (lastTo l) z6 l ∧ st = ⟨enP s l at_ i,fxP v⟩)
    l.length ⟨_, ?_, 0, lastTo l, z6, by omega, rfl, Bd6.z _ (by omega), rfl, rfl⟩ ?_
  · ((try simp only [List.length_append,List.length_cons,List.length_nil,Nat.zero_add]);refine Wk.intro [0,1] (by decide) (by decide) (by intro o ho;simp at ho ⊢ <;> omega) ?_ ?_ <;> repeat' (first|(refine WkV.imm ?_;rw [hlast];done)|exact WkVL.nil|refine WkVL.cons ?_ ?_|exact WkV.top|exact WkV.imm rfl|exact WkV.imm (by simp)|exact WkV.optr rfl|exact WkV.own rfl (by simp)|exact WkV.nil_own (.inl rfl)|exact WkV.map rfl|(refine WkV.free ?_;simp [Free,FreeL] <;> assumption)|(refine WkV.free (fun _ _=>FreeL_nth ?_ _);simp [Free,FreeL];done)|refine WkV.agg ?_|refine WkV.tup ?_|refine WkV.fn ?_ ?_|exact WkO.dead|exact WkO.raw|refine WkO.ghost ?_|exact WkO.mpE rfl trivial|refine WkO.box ?_ rfl|refine WkO.arr ?_|refine And.intro ?_ (And.intro (by first|exact fun h=>h|exact fun _=>rfl|exact nofun) ?_)|exact trivial|(intro i j hi hj)))
  rintro m st ⟨i, at_, v, h2, h3, hbd, h4, rfl⟩
  by_cases hi : i < l.length
  · rw [drop_gs hi, prodW] at h4
    have c1 := ixS_tc (rowE s (gs l i).fr.toNat) (gs l i) (by rw [rowE_len hs];have := jL_len (allJ s) (gs l i).fr.toNat;have := pairsJ_len s.pairs;have := tiesJ_len s s.notes.length;unfold allJ at *;rw [List.length_append] at *;omega)
    rcases ixE_cases (rowE s (gs l i).fr.toNat) (gs l i) with ⟨k, e1, k1, k2⟩ | ⟨e1, k1⟩
    · rw [e1] at c1
      obtain ⟨b, kk, u, g1, g2⟩ := rowE_at k1
      have c2 := add_tc v (gE (rowE s (gs l i).fr.toNat) k).v (hbd.mono (by omega)) (by rw [g1];exact ((stepR_ok hs).bd _ _ _ _ g2).mono (by omega))
      (simp only [go_sem,↓reduceIte,Nat.reduceAdd,Nat.reduceSub,Nat.reduceMul,Nat.reduceLT,Nat.reduceLeDiff,Nat.reduceEqDiff,Nat.reduceGT,Int.reduceToNat,Int.reduceBEq,Int.reduceBNe];try simp (disch := omega) only [wrapI,wrapU,half_sum,toNat_sub1,toNat_add1,Int.toNat_natCast])
      (have cl1 := c1;have cl2 := c2;have sx1 := Nat.add_zero 0;repeat' (first|with_reducible refine T_seq_drawT (id := 11) Γ_ok drawsAny pl28_11 (by kernel_rfl) (fun K hK=>?_)|with_reducible refine T_last_drawT (id := 11) Γ_ok drawsAny pl28_11 (by kernel_rfl) (fun K hK=>?_)|((refine goU1 _ _ _ _ _ _ _ _ _ _ _ _ ?_ ?_ ?_ ?_ ?_ ?_ ?_ ?_ ?_ ?_ ?_ ?_) <;> (repeat intro hb) <;> first|exact True.intro|refine Lf.mk ?_)))
      · rw [if_neg (by omega)] at h4
        rw [← h4] at hpd
        rw [← hpd]
        rfl
      · obtain ⟨q1, q2, q3⟩ := isS_iff.1 k2
        simp only [g1] at q1 q2 q3
        have q4 : (gs l i).to.toNat = b := by omega
        rw [if_pos (by omega), q4, g2] at h4
        simp only [] at h4
        rw [if_pos q3] at h4
        refine ⟨l.length - (i + 1),by omega,_,?_,i + 1,(gs l i).to,v.add (gE (rowE s (gs l i).fr.toNat) k).v,by omega,by omega,?_,by rw [g1];exact h4,rfl⟩
        · ((try simp only [List.length_append,List.length_cons,List.length_nil,Nat.zero_add]);refine Wk.intro [0,1] (by decide) (by decide) (by intro o ho;simp at ho ⊢ <;> omega) ?_ ?_ <;> repeat' (first|(refine WkV.imm ?_;congr 1;omega)|exact WkVL.nil|refine WkVL.cons ?_ ?_|exact WkV.top|exact WkV.imm rfl|exact WkV.imm (by simp)|exact WkV.optr rfl|exact WkV.own rfl (by simp)|exact WkV.nil_own (.inl rfl)|exact WkV.map rfl|(refine WkV.free ?_;simp [Free,FreeL] <;> assumption)|(refine WkV.free (fun _ _=>FreeL_nth ?_ _);simp [Free,FreeL];done)|refine WkV.agg ?_|refine WkV.tup ?_|refine WkV.fn ?_ ?_|exact WkO.dead|exact WkO.raw|refine WkO.ghost ?_|exact WkO.mpE rfl trivial|refine WkO.box ?_ rfl|refine WkO.arr ?_|refine And.intro ?_ (And.intro (by first|exact fun h=>h|exact fun _=>rfl|exact nofun) ?_)|exact trivial|(intro i j hi hj)))
        · have := hbd.add ((stepR_ok hs).bd _ _ _ _ g2)
          rw [g1]
          exact this.mono (by omega)
    · rw [e1] at c1
      (simp only [go_sem,↓reduceIte,Nat.reduceAdd,Nat.reduceSub,Nat.reduceMul,Nat.reduceLT,Nat.reduceLeDiff,Nat.reduceEqDiff,Nat.reduceGT,Int.reduceToNat,Int.reduceBEq,Int.reduceBNe];try simp (disch := omega) only [wrapI,wrapU,half_sum,toNat_sub1,toNat_add1,Int.toNat_natCast])
      (have cl1 := c1;have sx1 := Nat.add_zero 0;repeat' (first|with_reducible refine T_seq_drawT (id := 11) Γ_ok drawsAny pl28_11 (by kernel_rfl) (fun K hK=>?_)|with_reducible refine T_last_drawT (id := 11) Γ_ok drawsAny pl28_11 (by kernel_rfl) (fun K hK=>?_)|((refine goU1 _ _ _ _ _ _ _ _ _ _ _ _ ?_ ?_ ?_ ?_ ?_ ?_ ?_ ?_ ?_ ?_ ?_ ?_) <;> (repeat intro hb) <;> first|exact True.intro|refine Lf.mk ?_)))
      · rw [if_neg (by omega)] at h4
        rw [← h4] at hpd
        rw [← hpd]
        rfl
      · have h5 : prodW (stepR s) s.notes.length (lastTo l) z6 l = none := by
          rw [← h4]
          split
          · split
            · rename_i kk u g2
              rw [if_neg]
              rintro rfl
              obtain ⟨j, j1, j2⟩ := rowE_has hs g2
              have := k1 j j1
              rw [j2, Bool.eq_false_iff] at this
              exact this (isS_iff.2 ⟨by simp only []; omega, by simp only []; omega, rfl⟩)
            · rfl
          · rfl
        rw [h5] at hpd
        rw [← hpd]
        rfl
  · obtain rfl : i = l.length := by omega
    rw [List.drop_length, prodW] at h4
    rw [← h4] at hpd
    (simp only [go_sem,↓reduceIte,Nat.reduceAdd,Nat.reduceSub,Nat.reduceMul,Nat.reduceLT,Nat.reduceLeDiff,Nat.reduceEqDiff,Nat.reduceGT,Int.reduceToNat,Int.reduceBEq,Int.reduceBNe];try simp (disch := omega) only [wrapI,wrapU,half_sum,toNat_sub1,toNat_add1,Int.toNat_natCast])
    (have sx1 := Nat.add_zero 0;repeat' (first|with_reducible refine T_seq_drawT (id := 11) Γ_ok drawsAny pl28_11 (by kernel_rfl) (fun K hK=>?_)|with_reducible refine T_last_drawT (id := 11) Γ_ok drawsAny pl28_11 (by kernel_rfl) (fun K hK=>?_)|((refine goU1 _ _ _ _ _ _ _ _ _ _ _ _ ?_ ?_ ?_ ?_ ?_ ?_ ?_ ?_ ?_ ?_ ?_ ?_) <;> (repeat intro hb) <;> first|exact True.intro|refine Lf.mk ?_)))
    rw [← hpd]
set_option maxRecDepth 100000 in
set_option maxHeartbeats 4000000 in
theorem prod_tc (s : Sc) (hl : ScL s) (l : List Sp) (h0 : l.length ≤ 9223372036854775807) : Look Try.prog 14 [scA s,sps l] (.tup [p6A (prR s l).1,.imm (.int .i64 (prR s l).2)]) := by
  have c1 := valid_tc s hl
  refine Look.mk (by simp [Pl, PlL]) ?_
  generalize hpd : prR s l = pd
  unfold prR at hpd
  by_cases hs : ScOk s
  · rw [tf_t hs] at c1 hpd
    have c2 := newGraph_fresh s hl hs
    by_cases hn : l ≠ [] ∧ l.length ≤ 400
    · have c3 := product_tc s hs l hn.1 hn.2
      have hp := List.length_pos_iff.2 hn.1
      rw [if_pos ⟨rfl, hp, hn.2⟩] at hpd
      change pdR s l = pd at hpd
      rw [hpd] at c3
      (refine TC_of_T Γ_ok Try.func14 rfl (by kernel_rfl) ?_;simp only [Try.ntmps14,Try.results14,List.length_cons,List.length_nil,Nat.reduceSub,Nat.reduceAdd,List.replicate,List.cons_append,List.nil_append])
      (have cl1 := c1;have cf1 := c2;have cl2 := c3;((have sx1 := Nat.add_zero 0;refine goU1 _ _ _ _ _ _ _ _ _ _ _ _ ?_ ?_ ?_ ?_ ?_ ?_ ?_ ?_ ?_ ?_ ?_ ?_) <;> (repeat intro hb) <;> first|exact True.intro|refine Lf.mk ?_))
    · have hn2 : l.length = 0 ∨ 400 < l.length := by
        rcases Nat.eq_zero_or_pos l.length with h | h
        · exact .inl h
        · refine .inr (Nat.lt_of_not_le fun h2 => hn ⟨List.length_pos_iff.1 h, h2⟩)
      rw [if_neg (by omega)] at hpd
      (refine TC_of_T Γ_ok Try.func14 rfl (by kernel_rfl) ?_;simp only [Try.ntmps14,Try.results14,List.length_cons,List.length_nil,Nat.reduceSub,Nat.reduceAdd,List.replicate,List.cons_append,List.nil_append])
      (have cl1 := c1;have cf1 := c2;((have sx1 := Nat.add_zero 0;refine goU1 _ _ _ _ _ _ _ _ _ _ _ _ ?_ ?_ ?_ ?_ ?_ ?_ ?_ ?_ ?_ ?_ ?_ ?_) <;> (repeat intro hb) <;> first|exact True.intro|refine Lf.mk ?_))
      rw [← hpd]; rfl
  · rw [tf_f hs] at c1 hpd
    rw [if_neg (by simp)] at hpd
    (refine TC_of_T Γ_ok Try.func14 rfl (by kernel_rfl) ?_;simp only [Try.ntmps14,Try.results14,List.length_cons,List.length_nil,Nat.reduceSub,Nat.reduceAdd,List.replicate,List.cons_append,List.nil_append])
    (have cl1 := c1;((have sx1 := Nat.add_zero 0;refine goU1 _ _ _ _ _ _ _ _ _ _ _ _ ?_ ?_ ?_ ?_ ?_ ?_ ?_ ?_ ?_ ?_ ?_ ?_) <;> (repeat intro hb) <;> first | exact True.intro | refine Lf.mk ?_))
    rw [← hpd]; rfl
end Go.Proofs.Ytmglcamgpgkblaa
