/-
  order2CmpFunc, medianCmpFunc, medianAdjacentCmpFunc, choosePivotCmpFunc.
-/
import Derived.Test.YtgljhmnmmaclaaaQGo
import Derived.Test.YtgljhmnmmaclaaaQK3
import Derived.Sort.LotD4
set_option linter.unusedSimpArgs false
set_option linter.unusedVariables false
namespace Go.Proofs.Ytgljhmnmmaclaaa
open Go.Ab Go.Sort
@[go_sem, reducible] def swB (s : Nat) : AObj := .box 3 [.imm (.int .i64 s)]
@[go_sem, reducible] def swP : AV := .optr 1 0 0
theorem sw_vf (n : Nat) (d : Array El) (s : Nat) : ∀ a ∈ [elO n d, swB s], VFO a := fun a ha => by
  simp only [List.mem_cons, List.not_mem_nil, or_false] at ha
  rcases ha with rfl | rfl
  · exact fun i j => elE_pl d i j
  · simp [VFO, VFL, VF]
theorem order2_y {lt : El → El → Bool} {d : Array El} {a b s : Nat} (h : lt d[b]! d[a]! = true) : order2 lt d a b s = (b,a,s + 1) := if_pos h
theorem order2_n {lt : El → El → Bool} {d : Array El} {a b s : Nat} (h : lt d[b]! d[a]! = false) : order2 lt d a b s = (a,b,s) := by unfold order2;rw [h];rfl
set_option maxRecDepth 100000 in
set_option maxHeartbeats 4000000 in
theorem order2_tc (n : Nat) (d : Array El) (hd : d.size = n) (a b s : Nat) (ha : a < n) (hb' : b < n) (hs : s ≤ 60000) : TC Try.prog 80 [elV n,.imm (.int .i64 a),.imm (.int .i64 b),swP,cmpF] [elO n d,swB s]
    (fun v σ' => v = .tup [.imm (.int .i64 (order2 ltE d a b s).1),.imm (.int .i64 (order2 ltE d a b s).2.1)] ∧ σ' = [elO n d,swB (order2 ltE d a b s).2.2]) := by
  by_cases hq : cmpE (ga d b) (ga d a) < 0
  · rw [order2_y (ltE_t hq)]
    (refine TC_of_T Γ_ok Try.func80 rfl (by kernel_rfl) ?_;simp only [Try.ntmps80,Try.results80,List.length_cons,List.length_nil,Nat.reduceSub,Nat.reduceAdd,List.replicate,List.cons_append,List.nil_append])
    (have cl1 := cmpE_tc (ga d b) (ga d a);repeat' (first|with_reducible refine T_seq_drawT (id := 1) Γ_ok drawsAny pl80_1 (by kernel_rfl) (fun K hK=>?_)|with_reducible refine T_last_drawT (id := 1) Γ_ok drawsAny pl80_1 (by kernel_rfl) (fun K hK=>?_)|((refine goR0 _ _ _ _ _ _ _ _ ?_ ?_ ?_ ?_ ?_ ?_ ?_ ?_) <;> (repeat intro hb) <;> first|exact True.intro|refine Lf.mk ?_)))
    exact congrArg (fun z : Int => [elO n d, .box 3 [.imm (.int .i64 z)]]) (by omega)
  · rw [order2_n (ltE_f (Int.not_lt.1 hq))]
    (refine TC_of_T Γ_ok Try.func80 rfl (by kernel_rfl) ?_;simp only [Try.ntmps80,Try.results80,List.length_cons,List.length_nil,Nat.reduceSub,Nat.reduceAdd,List.replicate,List.cons_append,List.nil_append])
    (have cl1 := cmpE_tc (ga d b) (ga d a);repeat' (first|with_reducible refine T_seq_drawT (id := 1) Γ_ok drawsAny pl80_1 (by kernel_rfl) (fun K hK=>?_)|with_reducible refine T_last_drawT (id := 1) Γ_ok drawsAny pl80_1 (by kernel_rfl) (fun K hK=>?_)|((refine goR0 _ _ _ _ _ _ _ _ ?_ ?_ ?_ ?_ ?_ ?_ ?_ ?_) <;> (repeat intro hb) <;> first|exact True.intro|refine Lf.mk ?_)))
theorem order2_tu (n : Nat) (d : Array El) (hd : d.size = n) (a b s : Nat) (ha : a < n) (hb' : b < n) (hs : s ≤ 60000) : Turns Try.prog 80 [elV n,.imm (.int .i64 a),.imm (.int .i64 b),swP,cmpF] [elO n d,swB s]
    (.tup [.imm (.int .i64 (order2 ltE d a b s).1),.imm (.int .i64 (order2 ltE d a b s).2.1)]) [elO n d,swB (order2 ltE d a b s).2.2] :=
  ⟨order2_tc n d hd a b s ha hb' hs, by simp [VF, VFL], sw_vf _ _ _⟩
set_option maxRecDepth 100000 in
set_option maxHeartbeats 4000000 in
theorem median_tc (n : Nat) (d : Array El) (hd : d.size = n) (a b c s : Nat) (ha : a < n) (hb' : b < n) (hc : c < n) (hs : s ≤ 50000) : TC Try.prog 78 [elV n,.imm (.int .i64 a),.imm (.int .i64 b),.imm (.int .i64 c),swP,cmpF] [elO n d,swB s]
    (fun v σ' => v = .imm (.int .i64 (median ltE d a b c s).1) ∧ σ' = [elO n d, swB (median ltE d a b c s).2]) := by
  have m1 := order2_mem ltE d a b s
  have k1 := order2_count (lt := ltE) d a b s
  have m2 := order2_mem ltE d (order2 ltE d a b s).2.1 c (order2 ltE d a b s).2.2
  have k2 := order2_count (lt := ltE) d (order2 ltE d a b s).2.1 c (order2 ltE d a b s).2.2
  rw [show median ltE d a b c s = ((order2 ltE d (order2 ltE d a b s).1 (order2 ltE d (order2 ltE d a b s).2.1 c (order2 ltE d a b s).2.2).1 (order2 ltE d (order2 ltE d a b s).2.1 c (order2 ltE d a b s).2.2).2.2).2.1,
    (order2 ltE d (order2 ltE d a b s).1 (order2 ltE d (order2 ltE d a b s).2.1 c (order2 ltE d a b s).2.2).1 (order2 ltE d (order2 ltE d a b s).2.1 c (order2 ltE d a b s).2.2).2.2).2.2) from rfl]
  (refine TC_of_T Γ_ok Try.func78 rfl (by kernel_rfl) ?_;simp only [Try.ntmps78,Try.results78,List.length_cons,List.length_nil,Nat.reduceSub,Nat.reduceAdd,List.replicate,List.cons_append,List.nil_append])
  (have ct1 := fun u1 u2 u3 u4 u5 u6=>TurnsAt.mk [0,1] (order2_tu n d hd u1 u2 u3 u4 u5 u6);((refine goR0 _ _ _ _ _ _ _ _ ?_ ?_ ?_ ?_ ?_ ?_ ?_ ?_) <;> (repeat intro hb) <;> first|exact True.intro|refine Lf.mk ?_))
theorem median_tu (n : Nat) (d : Array El) (hd : d.size = n) (a b c s : Nat) (ha : a < n) (hb' : b < n) (hc : c < n) (hs : s ≤ 50000) : Turns Try.prog 78 [elV n,.imm (.int .i64 a),.imm (.int .i64 b),.imm (.int .i64 c),swP,cmpF] [elO n d,swB s]
    (.imm (.int .i64 (median ltE d a b c s).1)) [elO n d, swB (median ltE d a b c s).2] :=
  ⟨median_tc n d hd a b c s ha hb' hc hs, by simp [VF], sw_vf _ _ _⟩
set_option maxRecDepth 100000 in
set_option maxHeartbeats 4000000 in
theorem medianA_tc (n : Nat) (d : Array El) (hd : d.size = n) (hn : n ≤ 60000) (a s : Nat) (ha : 1 ≤ a) (hb' : a + 1 < n) (hs : s ≤ 50000) : TC Try.prog 77 [elV n,.imm (.int .i64 a),swP,cmpF] [elO n d,swB s]
    (fun v σ' => v = .imm (.int .i64 (medianAdjacent ltE d a s).1) ∧ σ' = [elO n d,swB (medianAdjacent ltE d a s).2]) := by
  have c1 := median_tu n d hd (a - 1) a (a + 1) s (by omega) (by omega) (by omega) hs
  rw [show ((a - 1 : Nat) : Int) = (a : Int) - 1 by omega, show ((a + 1 : Nat) : Int) = (a : Int) + 1 by omega] at c1
  rw [show medianAdjacent ltE d a s = median ltE d (a - 1) a (a + 1) s from rfl]
  (refine TC_of_T Γ_ok Try.func77 rfl (by kernel_rfl) ?_;simp only [Try.ntmps77,Try.results77,List.length_cons,List.length_nil,Nat.reduceSub,Nat.reduceAdd,List.replicate,List.cons_append,List.nil_append])
  (have ct1 := TurnsAt.mk [0,1] (c1);((refine goR0 _ _ _ _ _ _ _ _ ?_ ?_ ?_ ?_ ?_ ?_ ?_ ?_) <;> (repeat intro hb) <;> first | exact True.intro | refine Lf.mk ?_))
theorem medianA_tu (n : Nat) (d : Array El) (hd : d.size = n) (hn : n ≤ 60000) (a s : Nat) (ha : 1 ≤ a) (hb' : a + 1 < n) (hs : s ≤ 50000) : Turns Try.prog 77 [elV n,.imm (.int .i64 a),swP,cmpF] [elO n d,swB s]
    (.imm (.int .i64 (medianAdjacent ltE d a s).1)) [elO n d, swB (medianAdjacent ltE d a s).2] :=
  ⟨medianA_tc n d hd hn a s ha hb' hs, by simp [VF], sw_vf _ _ _⟩
theorem medianI_tu (n : Nat) (d : Array El) (hd : d.size = n) (A B C S : Int) (ha : 0 ≤ A ∧ A < n) (hb' : 0 ≤ B ∧ B < n) (hc : 0 ≤ C ∧ C < n) (hs : 0 ≤ S ∧ S ≤ 50000) : Turns Try.prog 78 [elV n,.imm (.int .i64 A),.imm (.int .i64 B),.imm (.int .i64 C),swP,cmpF] [elO n d,.box 3 [.imm (.int .i64 S)]]
    (.imm (.int .i64 (median ltE d A.toNat B.toNat C.toNat S.toNat).1)) [elO n d,swB (median ltE d A.toNat B.toNat C.toNat S.toNat).2] := by
  have h := median_tu n d hd A.toNat B.toNat C.toNat S.toNat (by omega) (by omega) (by omega) (by omega)
  rw [Int.toNat_of_nonneg ha.1, Int.toNat_of_nonneg hb'.1, Int.toNat_of_nonneg hc.1] at h
  simp only [swB, Int.toNat_of_nonneg hs.1] at h
  exact h
theorem medianAI_tu (n : Nat) (d : Array El) (hd : d.size = n) (hn : n ≤ 60000) (A S : Int) (ha : 1 ≤ A ∧ A + 1 < n) (hs : 0 ≤ S ∧ S ≤ 50000) : Turns Try.prog 77 [elV n,.imm (.int .i64 A),swP,cmpF] [elO n d,.box 3 [.imm (.int .i64 S)]]
    (.imm (.int .i64 (medianAdjacent ltE d A.toNat S.toNat).1)) [elO n d,swB (medianAdjacent ltE d A.toNat S.toNat).2] := by
  have h := medianA_tu n d hd hn A.toNat S.toNat (by omega) (by omega) (by omega)
  rw [Int.toNat_of_nonneg (by omega : 0 ≤ A)] at h
  simp only [swB, Int.toNat_of_nonneg hs.1] at h
  exact h
theorem hint_e {s : Nat} (h : s ≠ 0) (h2 : s ≠ 12) : hintCode (hintOf s) = 0 := by unfold hintOf;rw [if_neg h,if_neg h2];rfl
set_option maxRecDepth 100000 in
set_option maxHeartbeats 4000000 in
theorem choose_raw (n : Nat) (d : Array El) (hd : d.size = n) (hn : n ≤ 60000) (a b : Nat) (hab : 12 < b - a) (hbn : b ≤ n) : TC Try.prog 63 [elV n,.imm (.int .i64 a),.imm (.int .i64 b),cmpF] [elO n d]
    (fun v σ' => ∃ x,v = .tup [.imm (.int .i64 (choosePivot ltE d a b).1),.imm (.int .i64 (hintCode (choosePivot ltE d a b).2))] ∧ σ' = [elO n d,x]) := by
  have e0 : ((b : Int) - (a : Int)) = ((b - a : Nat) : Int) := by omega
  have e1 : (((b - a : Nat) : Int)).tdiv 4 = (((b - a) / 4 : Nat) : Int) := by rw [Int.tdiv_eq_ediv_of_nonneg (by omega)];omega
  have x1 : ((a : Int) + (((b - a) / 4 : Nat) : Int) * 1).toNat = a + (b - a) / 4 * 1 := by omega
  have x2 : ((a : Int) + (((b - a) / 4 : Nat) : Int) * 2).toNat = a + (b - a) / 4 * 2 := by omega
  have x3 : ((a : Int) + (((b - a) / 4 : Nat) : Int) * 3).toNat = a + (b - a) / 4 * 3 := by omega
  rw [choosePivot_eq]
  by_cases h50 : b - a ≥ 50
  · generalize h1 : medianAdjacent ltE d (a + (b - a) / 4 * 1) 0 = r1
    generalize h2 : medianAdjacent ltE d (a + (b - a) / 4 * 2) r1.2 = r2
    generalize h3 : medianAdjacent ltE d (a + (b - a) / 4 * 3) r2.2 = r3
    generalize h4 : median ltE d r1.1 r2.1 r3.1 r3.2 = q
    have er : rawPivot ltE d a b = q := by
      unfold rawPivot; rw [if_pos (by omega), if_pos h50]; rw [h1, h2, h3, h4]
    rw [er]
    have m1 := medianAdjacent_mem ltE d (a + (b - a) / 4 * 1) 0
    have m2 := medianAdjacent_mem ltE d (a + (b - a) / 4 * 2) r1.2
    have m3 := medianAdjacent_mem ltE d (a + (b - a) / 4 * 3) r2.2
    have k1 := medianAdjacent_count (lt := ltE) d (a + (b - a) / 4 * 1) 0
    have k2 := medianAdjacent_count (lt := ltE) d (a + (b - a) / 4 * 2) r1.2
    have k3 := medianAdjacent_count (lt := ltE) d (a + (b - a) / 4 * 3) r2.2
    rw [h1] at m1 k1
    rw [h2] at m2 k2
    rw [h3] at m3 k3
    (refine TC_of_T Γ_ok Try.func63 rfl (by kernel_rfl) ?_;simp only [Try.ntmps63,Try.results63,List.length_cons,List.length_nil,Nat.reduceSub,Nat.reduceAdd,List.replicate,List.cons_append,List.nil_append])
    (have ct1 := fun u1 u2 u3 u4=>TurnsAt.mk [0,1] (medianAI_tu n d hd hn u1 u2 u3 u4);have ct2 := fun u1 u2 u3 u4 u5 u6 u7 u8=>TurnsAt.mk [0,1] (medianI_tu n d hd u1 u2 u3 u4 u5 u6 u7 u8);have sx1 := e0;have sx2 := e1;have sx3 := x1;have sx4 := x2;have sx5 := x3;have sx6 := h1;have sx7 := h2;have sx8 := h3;have sx9 := h4;((refine goR9 _ _ _ _ _ _ _ _ ?_ ?_ ?_ ?_ ?_ ?_ ?_ ?_) <;> (repeat intro hb) <;> first|exact True.intro|refine Lf.mk ?_))
    · exact ⟨_, by rw [show q.2 = 0 by omega]; rfl, rfl⟩
    · exact ⟨_, by rw [show q.2 = 12 by omega]; rfl, rfl⟩
    · exact ⟨_, by rw [hint_e (s := q.2) (by omega) (by omega)], rfl⟩
  · have er : rawPivot ltE d a b = median ltE d (a + (b - a) / 4 * 1) (a + (b - a) / 4 * 2) (a + (b - a) / 4 * 3) 0 := by
      unfold rawPivot; rw [if_pos (by omega), if_neg h50]
    rw [er]
    generalize hm : median ltE d (a + (b - a) / 4 * 1) (a + (b - a) / 4 * 2) (a + (b - a) / 4 * 3) 0 = q at *
    (refine TC_of_T Γ_ok Try.func63 rfl (by kernel_rfl) ?_;simp only [Try.ntmps63,Try.results63,List.length_cons,List.length_nil,Nat.reduceSub,Nat.reduceAdd,List.replicate,List.cons_append,List.nil_append])
    (have ct1 := fun u1 u2 u3 u4 u5 u6 u7 u8=>TurnsAt.mk [0,1] (medianI_tu n d hd u1 u2 u3 u4 u5 u6 u7 u8);have sx1 := e0;have sx2 := e1;have sx3 := x1;have sx4 := x2;have sx5 := x3;have sx6 := hm;((have sx7 : (0 : Nat) + 0 = 0 := rfl;have sx8 : (0 : Nat) + 0 = 0 := rfl;have sx9 : (0 : Nat) + 0 = 0 := rfl;refine goR9 _ _ _ _ _ _ _ _ ?_ ?_ ?_ ?_ ?_ ?_ ?_ ?_) <;> (repeat intro hb) <;> first|exact True.intro|refine Lf.mk ?_))
    · exact ⟨_, by rw [show q.2 = 0 by omega]; rfl, rfl⟩
    · exact ⟨_, by rw [show q.2 = 12 by omega]; rfl, rfl⟩
    · exact ⟨_, by rw [hint_e (s := q.2) (by omega) (by omega)], rfl⟩
theorem choose_tu (n : Nat) (d : Array El) (hd : d.size = n) (hn : n ≤ 60000) (a b : Nat) (hab : 12 < b - a) (hbn : b ≤ n) : Turns Try.prog 63 [elV n,.imm (.int .i64 a),.imm (.int .i64 b),cmpF] [elO n d]
    (.tup [.imm (.int .i64 (choosePivot ltE d a b).1),.imm (.int .i64 (hintCode (choosePivot ltE d a b).2))]) [elO n d,.dead] := by
  refine ⟨?_,by simp [VF,VFL],fun a ha => by simp only [List.mem_cons,List.not_mem_nil,or_false] at ha;rcases ha with rfl | rfl;exact fun i j => elE_pl d i j;exact trivial⟩
  refine (choose_raw n d hd hn a b hab hbn).weak fun v σ' ⟨x,hv,hs⟩ => ⟨[0,1],_,_,by simp [List.range_succ],by simp,by simp [hs],?_,?_,rfl,rfl⟩
  · rw [hv]; exact WkV.tup (WkVL.cons (WkV.imm rfl) (WkVL.cons (WkV.imm rfl) WkVL.nil))
  · rw [hs]
    exact ⟨WkO.arr (fun i j _ _ => WkV.free (elE_free d i j)), fun h => h, WkO.dead, fun h => (nomatch h), trivial⟩
end Go.Proofs.Ytgljhmnmmaclaaa
