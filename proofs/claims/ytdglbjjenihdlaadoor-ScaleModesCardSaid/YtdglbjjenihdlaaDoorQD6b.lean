/-
  ScaleModes: the walk, where one of the modes is not in range.
-/
import Derived.Test.YtdglbjjenihdlaaDoorQGo
import Derived.Test.YtdglbjjenihdlaaDoorQD6a
import Derived.Test.YtdglbjjenihdlaaDoorQN20
set_option linter.unusedSimpArgs false
set_option linter.unusedVariables false
namespace Go.Proofs.YtdglbjjenihdlaaDoor
open Go.Ab
set_option maxRecDepth 100000 in
set_option maxHeartbeats 8000000 in
theorem modes_b (s m o1 o2 T1 T2 : List P6) (h0 : s.length ≤ 9223372036854775807) (d k a b : Nat) (hd : d < 256) (hk9 : k < 256) (h16 : s.length ≤ 16) (hn : 0 < s.length) (ha : a < s.length) (hb9 : b < s.length)
    (e2 : (d : Int).tmod (s.length : Int) = (a : Int)) (e3 : (k : Int).tmod (s.length : Int) = (b : Int)) (hl : m.length = s.length)
    (c1 : Look Tryd.prog 18 [pts s] (.imm (.bool true))) (m0 : Makes Tryd.prog 21 [pts s,.imm (.int .i64 0)] (.tup [.own 0 0 s.length none,.imm (.int .i64 0)]) [ptO s]) (s0 : Look Tryd.prog 16 [pts s,pts s] (.imm (.bool true)))
    (m1 : Makes Tryd.prog 21 [pts s,.imm (.int .i64 a)] (.tup [.own 0 0 m.length none,.imm (.int .i64 0)]) [ptO m]) (v1 : Look Tryd.prog 17 [pts m] (.imm (.bool true)))
    (x2 : Int) (hx : x2 ≠ 0) (m2 : Makes Tryd.prog 21 [pts m,.imm (.int .i64 b)] (.tup [.own 0 0 o1.length none,.imm (.int .i64 0)]) [ptO o1]) (m3 : Makes Tryd.prog 21 [pts s,.imm (.int .i64 ((a + b) % s.length : Nat))] (.tup [.own 0 0 o2.length none,.imm (.int .i64 x2)]) [ptO o2]) (g1 g2 : Int)
    (t1 : Makes Tryd.prog 19 [pts s] (.tup [.own 0 0 T1.length none,.imm (.int .i64 g1)]) [ptO T1]) (t2 : Makes Tryd.prog 19 [pts m] (.tup [.own 0 0 T2.length none,.imm (.int .i64 g2)]) [ptO T2])
    (h4 : g1 = 0 ∨ g1 = 3) (h5 : g2 = 0 ∨ g2 = 3) (hT : g1 = 0 → g2 = 0 → T1.length = s.length ∧ T2.length = s.length ∧ ∀ j,j < s.length → gP T2 j = gP T1 ((a + j) % s.length)) :
    Look Tryd.prog 5 [pts s, .imm (.int .u8 d), .imm (.int .u8 k)] (.imm (.bool true)) := by
  refine Look.mk trivial ?_
  have c0 := head_tc
  have e1 : decide ((s.length : Int) > 16) = false := decide_eq_false (by omega)
  have e4 : ((a : Int) + (b : Int)).tmod (s.length : Int) = (((a + b) % s.length : Nat) : Int) := rfl
  have e6 : ((s.length : Int) == (s.length : Int)) = true := by simp
  simp only [pts, hl] at v1 m1 m2 t2
  have e7 : (x2 == 0) = false := by rw [beq_eq_false_iff_ne]; exact hx
  rcases h4 with rfl | rfl
  · rcases h5 with rfl | rfl
    · obtain ⟨l1, l2, hq⟩ := hT rfl rfl
      clear hT
      have e8 : ((s.length : Int) != (s.length : Int)) = false := by simp
      rw [l1] at t1
      rw [l2] at t2
      (refine TC_of_T Γ_ok Tryd.func5 rfl (by kernel_rfl) ?_;simp only [Tryd.ntmps5,Tryd.results5,List.length_cons,List.length_nil,Nat.reduceSub,Nat.reduceAdd,List.replicate,List.cons_append,List.nil_append])
      (have cl1 := c0;have dl1 := c1;have dm1 := m1;have dm2 := m2;have dm3 := m3;have dm4 := t2;have cm1 := m0;have cm2 := t1;have dl2 := s0;have dl3 := v1;have sx1 := e1;have sx2 := e2;have sx3 := e3;have sx4 := e4;have sx5 := e6;have sx6 := e7;have sx7 := e8;have sx8 : (0 : Nat) + 0 = 0 := rfl;have sx9 : (0 : Nat) + 0 = 0 := rfl;repeat' (first|with_reducible refine T_seq_drawT (id := 5) Γ_ok drawsAny pl5_5 (by kernel_rfl) (fun K hK=>?_)|with_reducible refine T_last_drawT (id := 5) Γ_ok drawsAny pl5_5 (by kernel_rfl) (fun K hK=>?_)|with_reducible refine T_seq_drawT (id := 25) Γ_ok drawsAny pl5_25 (by kernel_rfl) (fun K hK=>?_)|with_reducible refine T_last_drawT (id := 25) Γ_ok drawsAny pl5_25 (by kernel_rfl) (fun K hK=>?_)|((refine goR9 _ _ _ _ _ _ _ _ ?_ ?_ ?_ ?_ ?_ ?_ ?_ ?_) <;> (repeat intro hb) <;> first|exact True.intro|refine Lf.mk ?_)))
      refine T_loopW (fun w st => ∃ j : Nat,j ≤ s.length ∧ w + j = s.length ∧ st = ⟨enZm s.length a j,[ptO T1,ptO T2]⟩)
        s.length ⟨_, ?_, 0, by omega, rfl, rfl⟩ ?_
      · ((try simp only [List.length_append,List.length_cons,List.length_nil,Nat.zero_add]);refine Wk.intro [4,5] (by decide) (by decide) (by intro o ho;simp at ho ⊢ <;> omega) ?_ ?_ <;> repeat' (first|exact WkVL.nil|refine WkVL.cons ?_ ?_|exact WkV.top|exact WkV.imm rfl|exact WkV.imm (by simp)|exact WkV.optr rfl|exact WkV.own rfl (by simp)|exact WkV.nil_own (.inl rfl)|exact WkV.map rfl|(refine WkV.free ?_;simp [Free,FreeL] <;> assumption)|(refine WkV.free (fun _ _=>FreeL_nth ?_ _);simp [Free,FreeL];done)|refine WkV.agg ?_|refine WkV.tup ?_|refine WkV.fn ?_ ?_|exact WkO.dead|exact WkO.raw|refine WkO.ghost ?_|exact WkO.mpE rfl trivial|refine WkO.box ?_ rfl|refine WkO.arr ?_|refine And.intro ?_ (And.intro (by first|exact fun h=>h|exact fun _=>rfl|exact nofun) ?_)|exact trivial|(intro i j hi hj)))
      rintro w st ⟨j, r0, r1, rfl⟩
      by_cases hj : j < s.length
      · have e9 : ((a : Int) + (j : Int)).tmod (s.length : Int) = (((a + j) % s.length : Nat) : Int) := rfl
        have hr := Nat.mod_lt (a + j) hn
        have hqj := hq j hj
        generalize (a + j) % s.length = r at e9 hr hqj
        have hbn : ∀ x : Int, (x == x) = true := fun x => beq_self_eq_true x
        clear c0 c1 m0 s0 m1 v1 m2 m3 t1 t2 hq e1 e2 e3 e4 e6
        (simp only [go_sem,↓reduceIte,Nat.reduceAdd,Nat.reduceSub,Nat.reduceMul,Nat.reduceLT,Nat.reduceLeDiff,Nat.reduceEqDiff,Nat.reduceGT,Int.reduceToNat,Int.reduceBEq,Int.reduceBNe];try simp (disch := omega) only [wrapI,wrapU,half_sum,toNat_sub1,toNat_add1,Int.toNat_natCast])
        (have sx1 := e9;have sx2 := hqj;have sx3 := hbn;have sx4 : (0 : Nat) + 0 = 0 := rfl;repeat' (first|with_reducible refine T_seq_drawT (id := 5) Γ_ok drawsAny pl5_5 (by kernel_rfl) (fun K hK=>?_)|with_reducible refine T_last_drawT (id := 5) Γ_ok drawsAny pl5_5 (by kernel_rfl) (fun K hK=>?_)|with_reducible refine T_seq_drawT (id := 25) Γ_ok drawsAny pl5_25 (by kernel_rfl) (fun K hK=>?_)|with_reducible refine T_last_drawT (id := 25) Γ_ok drawsAny pl5_25 (by kernel_rfl) (fun K hK=>?_)|((have sx5 : (0 : Nat) + 0 = 0 := rfl;have sx6 : (0 : Nat) + 0 = 0 := rfl;have sx7 : (0 : Nat) + 0 = 0 := rfl;have sx8 : (0 : Nat) + 0 = 0 := rfl;have sx9 : (0 : Nat) + 0 = 0 := rfl;refine goR9 _ _ _ _ _ _ _ _ ?_ ?_ ?_ ?_ ?_ ?_ ?_ ?_) <;> (repeat intro hb) <;> first|exact True.intro|refine Lf.mk ?_)))
        refine ⟨s.length - (j + 1), by omega, _, ?_, j + 1, by omega, by omega, rfl⟩
        ((try simp only [List.length_append,List.length_cons,List.length_nil,Nat.zero_add]);refine Wk.intro [0,1] (by decide) (by decide) (by intro o ho;simp at ho ⊢ <;> omega) ?_ ?_ <;> repeat' (first|(refine WkV.imm ?_;congr 1;omega)|exact WkVL.nil|refine WkVL.cons ?_ ?_|exact WkV.top|exact WkV.imm rfl|exact WkV.imm (by simp)|exact WkV.optr rfl|exact WkV.own rfl (by simp)|exact WkV.nil_own (.inl rfl)|exact WkV.map rfl|(refine WkV.free ?_;simp [Free,FreeL] <;> assumption)|(refine WkV.free (fun _ _=>FreeL_nth ?_ _);simp [Free,FreeL];done)|refine WkV.agg ?_|refine WkV.tup ?_|refine WkV.fn ?_ ?_|exact WkO.dead|exact WkO.raw|refine WkO.ghost ?_|exact WkO.mpE rfl trivial|refine WkO.box ?_ rfl|refine WkO.arr ?_|refine And.intro ?_ (And.intro (by first|exact fun h=>h|exact fun _=>rfl|exact nofun) ?_)|exact trivial|(intro i j hi hj)))
      · clear c0 c1 m0 s0 m1 v1 m2 m3 t1 t2 hq e1 e2 e3 e4 e6
        (simp only [go_sem,↓reduceIte,Nat.reduceAdd,Nat.reduceSub,Nat.reduceMul,Nat.reduceLT,Nat.reduceLeDiff,Nat.reduceEqDiff,Nat.reduceGT,Int.reduceToNat,Int.reduceBEq,Int.reduceBNe];try simp (disch := omega) only [wrapI,wrapU,half_sum,toNat_sub1,toNat_add1,Int.toNat_natCast])
        (repeat' (first|with_reducible refine T_seq_drawT (id := 5) Γ_ok drawsAny pl5_5 (by kernel_rfl) (fun K hK=>?_)|with_reducible refine T_last_drawT (id := 5) Γ_ok drawsAny pl5_5 (by kernel_rfl) (fun K hK=>?_)|with_reducible refine T_seq_drawT (id := 25) Γ_ok drawsAny pl5_25 (by kernel_rfl) (fun K hK=>?_)|with_reducible refine T_last_drawT (id := 25) Γ_ok drawsAny pl5_25 (by kernel_rfl) (fun K hK=>?_)|((refine goR0 _ _ _ _ _ _ _ _ ?_ ?_ ?_ ?_ ?_ ?_ ?_ ?_) <;> (repeat intro hb) <;> first|exact True.intro|refine Lf.mk ?_)))
    · clear hT
      (refine TC_of_T Γ_ok Tryd.func5 rfl (by kernel_rfl) ?_;simp only [Tryd.ntmps5,Tryd.results5,List.length_cons,List.length_nil,Nat.reduceSub,Nat.reduceAdd,List.replicate,List.cons_append,List.nil_append])
      (have cl1 := c0;have dl1 := c1;have dm1 := m1;have dm2 := m2;have dm3 := m3;have dm4 := t2;have cm1 := m0;have cm2 := t1;have dl2 := s0;have dl3 := v1;have sx1 := e1;have sx2 := e2;have sx3 := e3;have sx4 := e4;have sx5 := e6;have sx6 := e7;repeat' (first|with_reducible refine T_seq_drawT (id := 5) Γ_ok drawsAny pl5_5 (by kernel_rfl) (fun K hK=>?_)|with_reducible refine T_last_drawT (id := 5) Γ_ok drawsAny pl5_5 (by kernel_rfl) (fun K hK=>?_)|with_reducible refine T_seq_drawT (id := 25) Γ_ok drawsAny pl5_25 (by kernel_rfl) (fun K hK=>?_)|with_reducible refine T_last_drawT (id := 25) Γ_ok drawsAny pl5_25 (by kernel_rfl) (fun K hK=>?_)|((have sx7 : (0 : Nat) + 0 = 0 := rfl;have sx8 : (0 : Nat) + 0 = 0 := rfl;have sx9 : (0 : Nat) + 0 = 0 := rfl;refine goR9 _ _ _ _ _ _ _ _ ?_ ?_ ?_ ?_ ?_ ?_ ?_ ?_) <;> (repeat intro hb) <;> first|exact True.intro|refine Lf.mk ?_)))
  · clear hT
    rcases h5 with rfl | rfl
    · (refine TC_of_T Γ_ok Tryd.func5 rfl (by kernel_rfl) ?_;simp only [Tryd.ntmps5,Tryd.results5,List.length_cons,List.length_nil,Nat.reduceSub,Nat.reduceAdd,List.replicate,List.cons_append,List.nil_append])
      (have cl1 := c0;have dl1 := c1;have dm1 := m1;have dm2 := m2;have dm3 := m3;have dm4 := t2;have cm1 := m0;have cm2 := t1;have dl2 := s0;have dl3 := v1;have sx1 := e1;have sx2 := e2;have sx3 := e3;have sx4 := e4;have sx5 := e6;have sx6 := e7;repeat' (first|with_reducible refine T_seq_drawT (id := 5) Γ_ok drawsAny pl5_5 (by kernel_rfl) (fun K hK=>?_)|with_reducible refine T_last_drawT (id := 5) Γ_ok drawsAny pl5_5 (by kernel_rfl) (fun K hK=>?_)|with_reducible refine T_seq_drawT (id := 25) Γ_ok drawsAny pl5_25 (by kernel_rfl) (fun K hK=>?_)|with_reducible refine T_last_drawT (id := 25) Γ_ok drawsAny pl5_25 (by kernel_rfl) (fun K hK=>?_)|((have sx7 : (0 : Nat) + 0 = 0 := rfl;have sx8 : (0 : Nat) + 0 = 0 := rfl;have sx9 : (0 : Nat) + 0 = 0 := rfl;refine goR9 _ _ _ _ _ _ _ _ ?_ ?_ ?_ ?_ ?_ ?_ ?_ ?_) <;> (repeat intro hb) <;> first|exact True.intro|refine Lf.mk ?_)))
    · (refine TC_of_T Γ_ok Tryd.func5 rfl (by kernel_rfl) ?_;simp only [Tryd.ntmps5,Tryd.results5,List.length_cons,List.length_nil,Nat.reduceSub,Nat.reduceAdd,List.replicate,List.cons_append,List.nil_append])
      (have cl1 := c0;have dl1 := c1;have dm1 := m1;have dm2 := m2;have dm3 := m3;have dm4 := t2;have cm1 := m0;have cm2 := t1;have dl2 := s0;have dl3 := v1;have sx1 := e1;have sx2 := e2;have sx3 := e3;have sx4 := e4;have sx5 := e6;have sx6 := e7;repeat' (first|with_reducible refine T_seq_drawT (id := 5) Γ_ok drawsAny pl5_5 (by kernel_rfl) (fun K hK=>?_)|with_reducible refine T_last_drawT (id := 5) Γ_ok drawsAny pl5_5 (by kernel_rfl) (fun K hK=>?_)|with_reducible refine T_seq_drawT (id := 25) Γ_ok drawsAny pl5_25 (by kernel_rfl) (fun K hK=>?_)|with_reducible refine T_last_drawT (id := 25) Γ_ok drawsAny pl5_25 (by kernel_rfl) (fun K hK=>?_)|((have sx7 : (0 : Nat) + 0 = 0 := rfl;have sx8 : (0 : Nat) + 0 = 0 := rfl;have sx9 : (0 : Nat) + 0 = 0 := rfl;refine goR9 _ _ _ _ _ _ _ _ ?_ ?_ ?_ ?_ ?_ ?_ ?_ ?_) <;> (repeat intro hb) <;> first|exact True.intro|refine Lf.mk ?_)))
set_option maxRecDepth 100000 in
set_option maxHeartbeats 8000000 in
theorem modes_c (s m o1 o2 T1 T2 : List P6) (h0 : s.length ≤ 9223372036854775807) (d k a b : Nat) (hd : d < 256) (hk9 : k < 256) (h16 : s.length ≤ 16) (hn : 0 < s.length) (ha : a < s.length) (hb9 : b < s.length)
    (e2 : (d : Int).tmod (s.length : Int) = (a : Int)) (e3 : (k : Int).tmod (s.length : Int) = (b : Int)) (hl : m.length = s.length)
    (c1 : Look Tryd.prog 18 [pts s] (.imm (.bool true))) (m0 : Makes Tryd.prog 21 [pts s,.imm (.int .i64 0)] (.tup [.own 0 0 s.length none,.imm (.int .i64 0)]) [ptO s]) (s0 : Look Tryd.prog 16 [pts s,pts s] (.imm (.bool true)))
    (m1 : Makes Tryd.prog 21 [pts s,.imm (.int .i64 a)] (.tup [.own 0 0 m.length none,.imm (.int .i64 0)]) [ptO m]) (v1 : Look Tryd.prog 17 [pts m] (.imm (.bool true)))
    (x1 x2 : Int) (hx : x1 ≠ 0) (m2 : Makes Tryd.prog 21 [pts m,.imm (.int .i64 b)] (.tup [.own 0 0 o1.length none,.imm (.int .i64 x1)]) [ptO o1]) (m3 : Makes Tryd.prog 21 [pts s,.imm (.int .i64 ((a + b) % s.length : Nat))] (.tup [.own 0 0 o2.length none,.imm (.int .i64 x2)]) [ptO o2]) (g1 g2 : Int)
    (t1 : Makes Tryd.prog 19 [pts s] (.tup [.own 0 0 T1.length none,.imm (.int .i64 g1)]) [ptO T1]) (t2 : Makes Tryd.prog 19 [pts m] (.tup [.own 0 0 T2.length none,.imm (.int .i64 g2)]) [ptO T2])
    (h4 : g1 = 0 ∨ g1 = 3) (h5 : g2 = 0 ∨ g2 = 3) (hT : g1 = 0 → g2 = 0 → T1.length = s.length ∧ T2.length = s.length ∧ ∀ j,j < s.length → gP T2 j = gP T1 ((a + j) % s.length)) :
    Look Tryd.prog 5 [pts s, .imm (.int .u8 d), .imm (.int .u8 k)] (.imm (.bool true)) := by
  refine Look.mk trivial ?_
  have c0 := head_tc
  have e1 : decide ((s.length : Int) > 16) = false := decide_eq_false (by omega)
  have e4 : ((a : Int) + (b : Int)).tmod (s.length : Int) = (((a + b) % s.length : Nat) : Int) := rfl
  have e6 : ((s.length : Int) == (s.length : Int)) = true := by simp
  simp only [pts, hl] at v1 m1 m2 t2
  have e7 : (x1 == 0) = false := by rw [beq_eq_false_iff_ne]; exact hx
  rcases h4 with rfl | rfl
  · rcases h5 with rfl | rfl
    · obtain ⟨l1, l2, hq⟩ := hT rfl rfl
      clear hT
      have e8 : ((s.length : Int) != (s.length : Int)) = false := by simp
      rw [l1] at t1
      rw [l2] at t2
      (refine TC_of_T Γ_ok Tryd.func5 rfl (by kernel_rfl) ?_;simp only [Tryd.ntmps5,Tryd.results5,List.length_cons,List.length_nil,Nat.reduceSub,Nat.reduceAdd,List.replicate,List.cons_append,List.nil_append])
      (have cl1 := c0;have dl1 := c1;have dm1 := m1;have dm2 := m2;have dm3 := m3;have dm4 := t2;have cm1 := m0;have cm2 := t1;have dl2 := s0;have dl3 := v1;have sx1 := e1;have sx2 := e2;have sx3 := e3;have sx4 := e4;have sx5 := e6;have sx6 := e7;have sx7 := e8;have sx8 : (0 : Nat) + 0 = 0 := rfl;have sx9 : (0 : Nat) + 0 = 0 := rfl;repeat' (first|with_reducible refine T_seq_drawT (id := 5) Γ_ok drawsAny pl5_5 (by kernel_rfl) (fun K hK=>?_)|with_reducible refine T_last_drawT (id := 5) Γ_ok drawsAny pl5_5 (by kernel_rfl) (fun K hK=>?_)|with_reducible refine T_seq_drawT (id := 25) Γ_ok drawsAny pl5_25 (by kernel_rfl) (fun K hK=>?_)|with_reducible refine T_last_drawT (id := 25) Γ_ok drawsAny pl5_25 (by kernel_rfl) (fun K hK=>?_)|((refine goR9 _ _ _ _ _ _ _ _ ?_ ?_ ?_ ?_ ?_ ?_ ?_ ?_) <;> (repeat intro hb) <;> first|exact True.intro|refine Lf.mk ?_)))
      refine T_loopW (fun w st => ∃ j : Nat,j ≤ s.length ∧ w + j = s.length ∧ st = ⟨enZm s.length a j,[ptO T1,ptO T2]⟩)
        s.length ⟨_, ?_, 0, by omega, rfl, rfl⟩ ?_
      · ((try simp only [List.length_append,List.length_cons,List.length_nil,Nat.zero_add]);refine Wk.intro [4,5] (by decide) (by decide) (by intro o ho;simp at ho ⊢ <;> omega) ?_ ?_ <;> repeat' (first|exact WkVL.nil|refine WkVL.cons ?_ ?_|exact WkV.top|exact WkV.imm rfl|exact WkV.imm (by simp)|exact WkV.optr rfl|exact WkV.own rfl (by simp)|exact WkV.nil_own (.inl rfl)|exact WkV.map rfl|(refine WkV.free ?_;simp [Free,FreeL] <;> assumption)|(refine WkV.free (fun _ _=>FreeL_nth ?_ _);simp [Free,FreeL];done)|refine WkV.agg ?_|refine WkV.tup ?_|refine WkV.fn ?_ ?_|exact WkO.dead|exact WkO.raw|refine WkO.ghost ?_|exact WkO.mpE rfl trivial|refine WkO.box ?_ rfl|refine WkO.arr ?_|refine And.intro ?_ (And.intro (by first|exact fun h=>h|exact fun _=>rfl|exact nofun) ?_)|exact trivial|(intro i j hi hj)))
      rintro w st ⟨j, r0, r1, rfl⟩
      by_cases hj : j < s.length
      · have e9 : ((a : Int) + (j : Int)).tmod (s.length : Int) = (((a + j) % s.length : Nat) : Int) := rfl
        have hr := Nat.mod_lt (a + j) hn
        have hqj := hq j hj
        generalize (a + j) % s.length = r at e9 hr hqj
        have hbn : ∀ x : Int, (x == x) = true := fun x => beq_self_eq_true x
        clear c0 c1 m0 s0 m1 v1 m2 m3 t1 t2 hq e1 e2 e3 e4 e6
        (simp only [go_sem,↓reduceIte,Nat.reduceAdd,Nat.reduceSub,Nat.reduceMul,Nat.reduceLT,Nat.reduceLeDiff,Nat.reduceEqDiff,Nat.reduceGT,Int.reduceToNat,Int.reduceBEq,Int.reduceBNe];try simp (disch := omega) only [wrapI,wrapU,half_sum,toNat_sub1,toNat_add1,Int.toNat_natCast])
        (have sx1 := e9;have sx2 := hqj;have sx3 := hbn;have sx4 : (0 : Nat) + 0 = 0 := rfl;repeat' (first|with_reducible refine T_seq_drawT (id := 5) Γ_ok drawsAny pl5_5 (by kernel_rfl) (fun K hK=>?_)|with_reducible refine T_last_drawT (id := 5) Γ_ok drawsAny pl5_5 (by kernel_rfl) (fun K hK=>?_)|with_reducible refine T_seq_drawT (id := 25) Γ_ok drawsAny pl5_25 (by kernel_rfl) (fun K hK=>?_)|with_reducible refine T_last_drawT (id := 25) Γ_ok drawsAny pl5_25 (by kernel_rfl) (fun K hK=>?_)|((have sx5 : (0 : Nat) + 0 = 0 := rfl;have sx6 : (0 : Nat) + 0 = 0 := rfl;have sx7 : (0 : Nat) + 0 = 0 := rfl;have sx8 : (0 : Nat) + 0 = 0 := rfl;have sx9 : (0 : Nat) + 0 = 0 := rfl;refine goR9 _ _ _ _ _ _ _ _ ?_ ?_ ?_ ?_ ?_ ?_ ?_ ?_) <;> (repeat intro hb) <;> first|exact True.intro|refine Lf.mk ?_)))
        refine ⟨s.length - (j + 1), by omega, _, ?_, j + 1, by omega, by omega, rfl⟩
        ((try simp only [List.length_append,List.length_cons,List.length_nil,Nat.zero_add]);refine Wk.intro [0,1] (by decide) (by decide) (by intro o ho;simp at ho ⊢ <;> omega) ?_ ?_ <;> repeat' (first|(refine WkV.imm ?_;congr 1;omega)|exact WkVL.nil|refine WkVL.cons ?_ ?_|exact WkV.top|exact WkV.imm rfl|exact WkV.imm (by simp)|exact WkV.optr rfl|exact WkV.own rfl (by simp)|exact WkV.nil_own (.inl rfl)|exact WkV.map rfl|(refine WkV.free ?_;simp [Free,FreeL] <;> assumption)|(refine WkV.free (fun _ _=>FreeL_nth ?_ _);simp [Free,FreeL];done)|refine WkV.agg ?_|refine WkV.tup ?_|refine WkV.fn ?_ ?_|exact WkO.dead|exact WkO.raw|refine WkO.ghost ?_|exact WkO.mpE rfl trivial|refine WkO.box ?_ rfl|refine WkO.arr ?_|refine And.intro ?_ (And.intro (by first|exact fun h=>h|exact fun _=>rfl|exact nofun) ?_)|exact trivial|(intro i j hi hj)))
      · clear c0 c1 m0 s0 m1 v1 m2 m3 t1 t2 hq e1 e2 e3 e4 e6
        (simp only [go_sem,↓reduceIte,Nat.reduceAdd,Nat.reduceSub,Nat.reduceMul,Nat.reduceLT,Nat.reduceLeDiff,Nat.reduceEqDiff,Nat.reduceGT,Int.reduceToNat,Int.reduceBEq,Int.reduceBNe];try simp (disch := omega) only [wrapI,wrapU,half_sum,toNat_sub1,toNat_add1,Int.toNat_natCast])
        (repeat' (first|with_reducible refine T_seq_drawT (id := 5) Γ_ok drawsAny pl5_5 (by kernel_rfl) (fun K hK=>?_)|with_reducible refine T_last_drawT (id := 5) Γ_ok drawsAny pl5_5 (by kernel_rfl) (fun K hK=>?_)|with_reducible refine T_seq_drawT (id := 25) Γ_ok drawsAny pl5_25 (by kernel_rfl) (fun K hK=>?_)|with_reducible refine T_last_drawT (id := 25) Γ_ok drawsAny pl5_25 (by kernel_rfl) (fun K hK=>?_)|((refine goR0 _ _ _ _ _ _ _ _ ?_ ?_ ?_ ?_ ?_ ?_ ?_ ?_) <;> (repeat intro hb) <;> first|exact True.intro|refine Lf.mk ?_)))
    · clear hT
      (refine TC_of_T Γ_ok Tryd.func5 rfl (by kernel_rfl) ?_;simp only [Tryd.ntmps5,Tryd.results5,List.length_cons,List.length_nil,Nat.reduceSub,Nat.reduceAdd,List.replicate,List.cons_append,List.nil_append])
      (have cl1 := c0;have dl1 := c1;have dm1 := m1;have dm2 := m2;have dm3 := m3;have dm4 := t2;have cm1 := m0;have cm2 := t1;have dl2 := s0;have dl3 := v1;have sx1 := e1;have sx2 := e2;have sx3 := e3;have sx4 := e4;have sx5 := e6;have sx6 := e7;repeat' (first|with_reducible refine T_seq_drawT (id := 5) Γ_ok drawsAny pl5_5 (by kernel_rfl) (fun K hK=>?_)|with_reducible refine T_last_drawT (id := 5) Γ_ok drawsAny pl5_5 (by kernel_rfl) (fun K hK=>?_)|with_reducible refine T_seq_drawT (id := 25) Γ_ok drawsAny pl5_25 (by kernel_rfl) (fun K hK=>?_)|with_reducible refine T_last_drawT (id := 25) Γ_ok drawsAny pl5_25 (by kernel_rfl) (fun K hK=>?_)|((have sx7 : (0 : Nat) + 0 = 0 := rfl;have sx8 : (0 : Nat) + 0 = 0 := rfl;have sx9 : (0 : Nat) + 0 = 0 := rfl;refine goR9 _ _ _ _ _ _ _ _ ?_ ?_ ?_ ?_ ?_ ?_ ?_ ?_) <;> (repeat intro hb) <;> first|exact True.intro|refine Lf.mk ?_)))
  · clear hT
    rcases h5 with rfl | rfl
    · (refine TC_of_T Γ_ok Tryd.func5 rfl (by kernel_rfl) ?_;simp only [Tryd.ntmps5,Tryd.results5,List.length_cons,List.length_nil,Nat.reduceSub,Nat.reduceAdd,List.replicate,List.cons_append,List.nil_append])
      (have cl1 := c0;have dl1 := c1;have dm1 := m1;have dm2 := m2;have dm3 := m3;have dm4 := t2;have cm1 := m0;have cm2 := t1;have dl2 := s0;have dl3 := v1;have sx1 := e1;have sx2 := e2;have sx3 := e3;have sx4 := e4;have sx5 := e6;have sx6 := e7;repeat' (first|with_reducible refine T_seq_drawT (id := 5) Γ_ok drawsAny pl5_5 (by kernel_rfl) (fun K hK=>?_)|with_reducible refine T_last_drawT (id := 5) Γ_ok drawsAny pl5_5 (by kernel_rfl) (fun K hK=>?_)|with_reducible refine T_seq_drawT (id := 25) Γ_ok drawsAny pl5_25 (by kernel_rfl) (fun K hK=>?_)|with_reducible refine T_last_drawT (id := 25) Γ_ok drawsAny pl5_25 (by kernel_rfl) (fun K hK=>?_)|((have sx7 : (0 : Nat) + 0 = 0 := rfl;have sx8 : (0 : Nat) + 0 = 0 := rfl;have sx9 : (0 : Nat) + 0 = 0 := rfl;refine goR9 _ _ _ _ _ _ _ _ ?_ ?_ ?_ ?_ ?_ ?_ ?_ ?_) <;> (repeat intro hb) <;> first|exact True.intro|refine Lf.mk ?_)))
    · (refine TC_of_T Γ_ok Tryd.func5 rfl (by kernel_rfl) ?_;simp only [Tryd.ntmps5,Tryd.results5,List.length_cons,List.length_nil,Nat.reduceSub,Nat.reduceAdd,List.replicate,List.cons_append,List.nil_append])
      (have cl1 := c0;have dl1 := c1;have dm1 := m1;have dm2 := m2;have dm3 := m3;have dm4 := t2;have cm1 := m0;have cm2 := t1;have dl2 := s0;have dl3 := v1;have sx1 := e1;have sx2 := e2;have sx3 := e3;have sx4 := e4;have sx5 := e6;have sx6 := e7;repeat' (first|with_reducible refine T_seq_drawT (id := 5) Γ_ok drawsAny pl5_5 (by kernel_rfl) (fun K hK=>?_)|with_reducible refine T_last_drawT (id := 5) Γ_ok drawsAny pl5_5 (by kernel_rfl) (fun K hK=>?_)|with_reducible refine T_seq_drawT (id := 25) Γ_ok drawsAny pl5_25 (by kernel_rfl) (fun K hK=>?_)|with_reducible refine T_last_drawT (id := 25) Γ_ok drawsAny pl5_25 (by kernel_rfl) (fun K hK=>?_)|((have sx7 : (0 : Nat) + 0 = 0 := rfl;have sx8 : (0 : Nat) + 0 = 0 := rfl;have sx9 : (0 : Nat) + 0 = 0 := rfl;refine goR9 _ _ _ _ _ _ _ _ ?_ ?_ ?_ ?_ ?_ ?_ ?_ ?_) <;> (repeat intro hb) <;> first|exact True.intro|refine Lf.mk ?_)))
end Go.Proofs.YtdglbjjenihdlaaDoor
