/-
  Parts joined: T14 T15.
-/
import Derived.Test.YtngfnogoicfmaaaGreatDoorQGo
import Derived.Test.YtngfnogoicfmaaaGreatDoorQV5
import Derived.Test.YtngfnogoicfmaaaGreatDoorQU4
set_option linter.unusedSimpArgs false
set_option linter.unusedVariables false
namespace Go.Proofs.YtngfnogoicfmaaaGreatDoor
open Go.Ab
set_option maxRecDepth 100000 in
set_option maxHeartbeats 4000000 in
theorem sameT_tc (a b : List Tk) (hl : a.length ≤ 9223372036854775807) (hb' : b.length ≤ 9223372036854775807) : Look Tryz.prog 8 [tks a,tks b] (.imm (.bool (decide (a = b)))) := by
  refine Look.mk trivial ?_
  (refine TC_of_T Γ_ok Tryz.func8 rfl (by kernel_rfl) ?_;simp only [Tryz.ntmps8,Tryz.results8,List.length_cons,List.length_nil,Nat.reduceSub,Nat.reduceAdd,List.replicate,List.cons_append,List.nil_append])
  (repeat' (first|with_reducible refine T_seq_drawT (id := 6) Γ_ok drawsAny pl8_6 (by kernel_rfl) (fun K hK=>?_)|with_reducible refine T_last_drawT (id := 6) Γ_ok drawsAny pl8_6 (by kernel_rfl) (fun K hK=>?_)|((refine goR0 _ _ _ _ _ _ _ _ ?_ ?_ ?_ ?_ ?_ ?_ ?_ ?_) <;> (repeat intro hb) <;> first|exact True.intro|refine Lf.mk ?_)))
  · congr 2
    rw [decide_eq_false]
    intro h; subst h; exact hb rfl
  · have hlen : a.length = b.length := by omega
    refine T_loopW (fun m st => ∃ k : Nat, k ≤ a.length ∧ m + k = a.length ∧ (∀ j, j < k → gt a j = gt b j) ∧
      st = ⟨[tks a, tks b, .top, .top, .imm (.bool false), .imm (.int .i64 k)] ++ List.replicate 20 .top, []⟩)
      a.length ⟨_, ?_, 0, by omega, rfl, fun j hj => by omega, rfl⟩ ?_
    · ((try simp only [List.length_append,List.length_cons,List.length_nil,Nat.zero_add]);refine Wk.intro [] (by decide) (by decide) (by intro o ho;simp at ho ⊢ <;> omega) ?_ ?_ <;> repeat' (first|exact WkVL.nil|refine WkVL.cons ?_ ?_|exact WkV.top|exact WkV.imm rfl|exact WkV.imm (by simp)|exact WkV.optr rfl|exact WkV.own rfl (by simp)|exact WkV.nil_own (.inl rfl)|exact WkV.map rfl|(refine WkV.free ?_;simp [Free,FreeL] <;> assumption)|(refine WkV.free (fun _ _=>FreeL_nth ?_ _);simp [Free,FreeL];done)|refine WkV.agg ?_|refine WkV.tup ?_|refine WkV.fn ?_ ?_|exact WkO.dead|exact WkO.raw|refine WkO.ghost ?_|exact WkO.mpE rfl trivial|refine WkO.box ?_ rfl|refine WkO.arr ?_|refine And.intro ?_ (And.intro (by first|exact fun h=>h|exact fun _=>rfl|exact nofun) ?_)|exact trivial|(intro i j hi hj)))
    rintro m st ⟨k, h1, h2, h3, rfl⟩
    (simp only [go_sem,↓reduceIte,Nat.reduceAdd,Nat.reduceSub,Nat.reduceMul,Nat.reduceLT,Nat.reduceLeDiff,Nat.reduceEqDiff,Nat.reduceGT,Int.reduceToNat,Int.reduceBEq,Int.reduceBNe];try simp (disch := omega) only [wrapI,wrapU,half_sum,toNat_sub1,toNat_add1,Int.toNat_natCast])
    (repeat' (first|with_reducible refine T_seq_drawT (id := 6) Γ_ok drawsAny pl8_6 (by kernel_rfl) (fun K hK=>?_)|with_reducible refine T_last_drawT (id := 6) Γ_ok drawsAny pl8_6 (by kernel_rfl) (fun K hK=>?_)|((refine goR0 _ _ _ _ _ _ _ _ ?_ ?_ ?_ ?_ ?_ ?_ ?_ ?_) <;> (repeat intro hb) <;> first|exact True.intro|refine Lf.mk ?_)))
    · congr 2
      rw [decide_eq_false]
      intro h; subst h; exact hb rfl rfl rfl rfl
    · refine ⟨a.length - (k + 1), by omega, _, ?_, k + 1, by omega, by omega, fun j hj => ?_, rfl⟩
      · ((try simp only [List.length_append,List.length_cons,List.length_nil,Nat.zero_add]);refine Wk.intro [] (by decide) (by decide) (by intro o ho;simp at ho ⊢ <;> omega) ?_ ?_ <;> repeat' (first|(refine WkV.imm ?_;congr 1;omega)|exact WkVL.nil|refine WkVL.cons ?_ ?_|exact WkV.top|exact WkV.imm rfl|exact WkV.imm (by simp)|exact WkV.optr rfl|exact WkV.own rfl (by simp)|exact WkV.nil_own (.inl rfl)|exact WkV.map rfl|(refine WkV.free ?_;simp [Free,FreeL] <;> assumption)|(refine WkV.free (fun _ _=>FreeL_nth ?_ _);simp [Free,FreeL];done)|refine WkV.agg ?_|refine WkV.tup ?_|refine WkV.fn ?_ ?_|exact WkO.dead|exact WkO.raw|refine WkO.ghost ?_|exact WkO.mpE rfl trivial|refine WkO.box ?_ rfl|refine WkO.arr ?_|refine And.intro ?_ (And.intro (by first|exact fun h=>h|exact fun _=>rfl|exact nofun) ?_)|exact trivial|(intro i j hi hj)))
      · by_cases e : j = k
        · subst e
          obtain ⟨q1, q2, q3, q4⟩ := hb
          generalize gt a j = x at *
          generalize gt b j = y at *
          cases x; cases y; simp_all
        · exact h3 j (by omega)
    · congr 2
      rw [decide_eq_true]
      apply List.ext_getElem hlen
      intro j h4 h5
      have := h3 j (by omega)
      simpa [gt, List.getD_eq_getElem?_getD, List.getElem?_eq_getElem h4, List.getElem?_eq_getElem h5] using this
set_option maxRecDepth 100000 in
set_option maxHeartbeats 4000000 in
theorem ints_tc (a b : List Int) (hl : a.length ≤ 1000000) (hb' : b.length ≤ 1000000) : Look Tryz.prog 13 [its a,its b] (.imm (.bool (decide (a = b)))) := by
  refine Look.mk trivial ?_
  (refine TC_of_T Γ_ok Tryz.func13 rfl (by kernel_rfl) ?_;simp only [Tryz.ntmps13,Tryz.results13,List.length_cons,List.length_nil,Nat.reduceSub,Nat.reduceAdd,List.replicate,List.cons_append,List.nil_append])
  (repeat' (first|with_reducible refine T_seq_drawT (id := 6) Γ_ok drawsAny pl13_6 (by kernel_rfl) (fun K hK=>?_)|with_reducible refine T_last_drawT (id := 6) Γ_ok drawsAny pl13_6 (by kernel_rfl) (fun K hK=>?_)|((refine goR0 _ _ _ _ _ _ _ _ ?_ ?_ ?_ ?_ ?_ ?_ ?_ ?_) <;> (repeat intro hb) <;> first|exact True.intro|refine Lf.mk ?_)))
  · congr 2
    rw [decide_eq_false]
    intro h; subst h; exact hb rfl
  · have hlen : a.length = b.length := by omega
    refine T_loopW (fun m st => ∃ k : Nat, k ≤ a.length ∧ m + k = a.length ∧ (∀ j, j < k → gI a j = gI b j) ∧
      st = ⟨[its a, its b, .top, .top, .imm (.bool false), .imm (.int .i64 k)] ++ List.replicate 20 .top, []⟩)
      a.length ⟨_, ?_, 0, by omega, rfl, fun j hj => by omega, rfl⟩ ?_
    · ((try simp only [List.length_append,List.length_cons,List.length_nil,Nat.zero_add]);refine Wk.intro [] (by decide) (by decide) (by intro o ho;simp at ho ⊢ <;> omega) ?_ ?_ <;> repeat' (first|exact WkVL.nil|refine WkVL.cons ?_ ?_|exact WkV.top|exact WkV.imm rfl|exact WkV.imm (by simp)|exact WkV.optr rfl|exact WkV.own rfl (by simp)|exact WkV.nil_own (.inl rfl)|exact WkV.map rfl|(refine WkV.free ?_;simp [Free,FreeL] <;> assumption)|(refine WkV.free (fun _ _=>FreeL_nth ?_ _);simp [Free,FreeL];done)|refine WkV.agg ?_|refine WkV.tup ?_|refine WkV.fn ?_ ?_|exact WkO.dead|exact WkO.raw|refine WkO.ghost ?_|exact WkO.mpE rfl trivial|refine WkO.box ?_ rfl|refine WkO.arr ?_|refine And.intro ?_ (And.intro (by first|exact fun h=>h|exact fun _=>rfl|exact nofun) ?_)|exact trivial|(intro i j hi hj)))
    rintro m st ⟨k, h1, h2, h3, rfl⟩
    (simp only [go_sem,↓reduceIte,Nat.reduceAdd,Nat.reduceSub,Nat.reduceMul,Nat.reduceLT,Nat.reduceLeDiff,Nat.reduceEqDiff,Nat.reduceGT,Int.reduceToNat,Int.reduceBEq,Int.reduceBNe];try simp (disch := omega) only [wrapI,wrapU,half_sum,toNat_sub1,toNat_add1,Int.toNat_natCast])
    (repeat' (first|with_reducible refine T_seq_drawT (id := 6) Γ_ok drawsAny pl13_6 (by kernel_rfl) (fun K hK=>?_)|with_reducible refine T_last_drawT (id := 6) Γ_ok drawsAny pl13_6 (by kernel_rfl) (fun K hK=>?_)|((refine goR0 _ _ _ _ _ _ _ _ ?_ ?_ ?_ ?_ ?_ ?_ ?_ ?_) <;> (repeat intro hb) <;> first|exact True.intro|refine Lf.mk ?_)))
    · congr 2
      rw [decide_eq_false]
      intro h; subst h; exact hb rfl
    · refine ⟨a.length - (k + 1), by omega, _, ?_, k + 1, by omega, by omega, fun j hj => ?_, rfl⟩
      · ((try simp only [List.length_append,List.length_cons,List.length_nil,Nat.zero_add]);refine Wk.intro [] (by decide) (by decide) (by intro o ho;simp at ho ⊢ <;> omega) ?_ ?_ <;> repeat' (first|(refine WkV.imm ?_;congr 1;omega)|exact WkVL.nil|refine WkVL.cons ?_ ?_|exact WkV.top|exact WkV.imm rfl|exact WkV.imm (by simp)|exact WkV.optr rfl|exact WkV.own rfl (by simp)|exact WkV.nil_own (.inl rfl)|exact WkV.map rfl|(refine WkV.free ?_;simp [Free,FreeL] <;> assumption)|(refine WkV.free (fun _ _=>FreeL_nth ?_ _);simp [Free,FreeL];done)|refine WkV.agg ?_|refine WkV.tup ?_|refine WkV.fn ?_ ?_|exact WkO.dead|exact WkO.raw|refine WkO.ghost ?_|exact WkO.mpE rfl trivial|refine WkO.box ?_ rfl|refine WkO.arr ?_|refine And.intro ?_ (And.intro (by first|exact fun h=>h|exact fun _=>rfl|exact nofun) ?_)|exact trivial|(intro i j hi hj)))
      · by_cases e : j = k
        · subst e; assumption
        · exact h3 j (by omega)
    · congr 2
      rw [decide_eq_true]
      apply List.ext_getElem hlen
      intro j h4 h5
      have := h3 j (by omega)
      simpa [gI, List.getD_eq_getElem?_getD, List.getElem?_eq_getElem h4, List.getElem?_eq_getElem h5] using this
set_option maxRecDepth 100000 in
set_option maxHeartbeats 4000000 in
theorem dvalid_tc (l : List Nm) (ts : List Tk) : Look Tryz.prog 28 [nmV l,tks ts] (.imm (.bool (decide ((wkR l ts).2 ≠ 1)))) := by
  refine Look.mk trivial ?_
  have h := walk_tc l ts
  (refine TC_of_T Γ_ok Tryz.func28 rfl (by kernel_rfl) ?_;simp only [Tryz.ntmps28,Tryz.results28,List.length_cons,List.length_nil,Nat.reduceSub,Nat.reduceAdd,List.replicate,List.cons_append,List.nil_append])
  (have cm1 := h;((refine goR0 _ _ _ _ _ _ _ _ ?_ ?_ ?_ ?_ ?_ ?_ ?_ ?_) <;> (repeat intro hb) <;> first | exact True.intro | refine Lf.mk ?_))
  congr 2
  rw [Bool.eq_iff_iff]
  simp
def prT (t : Tk) : Nat × Int := (t.c.toNat, t.n)
def acL (l : List Nm) (ts : List Tk) : List Int := accK l.length (ts.map prT)
structure WkOk (l : List Nm) (ts : List Tk) : Prop where
  cv : cvB l = true
  len : ts.length < 16
  wr : ∀ k, k < ts.length → wrB l.length (k : Int) (gt ts k) = false
theorem wk_ok {l : List Nm} {ts : List Tk} (h : (wkR l ts).2 ≠ 1) : WkOk l ts := by
  unfold wkR at h
  split at h
  · rename_i hh
    refine ⟨hh.1, hh.2.1, fun k hk => ?_⟩
    have := List.all_eq_true.1 hh.2.2 k (List.mem_range.2 hk)
    simpa using this
  · exact absurd rfl h
theorem WkOk.ne {l : List Nm} {ts : List Tk} (h : WkOk l ts) : (wkR l ts).2 ≠ 1 := by
  unfold wkR
  rw [if_pos ⟨h.cv, h.len, List.all_eq_true.2 fun k hk => by rw [h.wr k (List.mem_range.1 hk)]; rfl⟩]
  split <;> simp
theorem WkOk.acc_len (l : List Nm) (ts : List Tk) : (acL l ts).length = l.length := accK_len _ _
theorem WkOk.acc_bd {l : List Nm} {ts : List Tk} (h : WkOk l ts) (i : Nat) (hi : i ≤ ts.length) (j : Nat) : -15 ≤ gI (acL l (ts.take i)) j ∧ gI (acL l (ts.take i)) j ≤ 15 := by
  have := accK_bd (n := l.length) ((ts.take i).map prT) (fun t ht => by
    obtain ⟨x, hx, rfl⟩ := List.mem_map.1 ht
    obtain ⟨k, hk, rfl⟩ := List.getElem_of_mem (List.mem_of_mem_take hx)
    have := (wr_ok (h.wr k hk)).2.2.2
    simpa [gt, hk, prT] using this) j
  have hl := h.len
  simp only [List.length_map, List.length_take] at this
  have e : gK (accK l.length ((ts.take i).map prT)) j = gI (acL l (ts.take i)) j := rfl
  rw [e] at this
  omega
theorem take_gt {l : List Tk} {i : Nat} (h : i < l.length) : l.take (i + 1) = l.take i ++ [gt l i] := by
  rw [List.take_add_one, List.getElem?_eq_getElem h]; simp [gt, h]
theorem acL_s (l : List Nm) {ts : List Tk} {i : Nat} (hi : i < ts.length) : acL l (ts.take (i + 1)) = (acL l (ts.take i)).set (gt ts i).c.toNat (gI (acL l (ts.take i)) (gt ts i).c.toNat + (gt ts i).n) := by
  unfold acL
  rw [take_gt hi, List.map_append, List.map_singleton, accK_snoc]
  rfl
theorem it_upd {l : List Int} {k : Nat} (hk : k < l.length) (x : Int) (i j : Nat) (hj : j < 1) : updE (itE l) k 0 [.imm (.int .i64 x)] i j = itE (l.set k x) i j := by
  obtain rfl : j = 0 := by omega
  unfold updE itE gI
  by_cases h : i = k
  · subst h
    rw [if_pos ⟨rfl, by omega, by simp⟩]
    simp [nth, hk]
  · rw [if_neg (fun hh => h hh.1)]
    simp [List.getElem?_set, Ne.symm h]
set_option maxRecDepth 100000 in
set_option maxHeartbeats 4000000 in
theorem account_raw (l : List Nm) (ts : List Tk) (h : WkOk l ts) : TC Tryz.prog 9 [nmV l,tks ts] [] (fun v σ'=>∃ c t,v = .tup [.own 0 0 l.length c,.imm (.int .i64 0)] ∧ σ' = .arr 3 1 l.length (itE (acL l ts)) :: t) := by
  have h1 := dvalid_tc l ts
  rw [decide_eq_true h.ne] at h1
  have hcv := cvB_ok h.cv
  have hl6 := hcv.l6
  have hlt := h.len
  (refine TC_of_T Γ_ok Tryz.func9 rfl (by kernel_rfl) ?_;simp only [Tryz.ntmps9,Tryz.results9,List.length_cons,List.length_nil,Nat.reduceSub,Nat.reduceAdd,List.replicate,List.cons_append,List.nil_append])
  (have cl1 := h1;((refine goR0 _ _ _ _ _ _ _ _ ?_ ?_ ?_ ?_ ?_ ?_ ?_ ?_) <;> (repeat intro hb) <;> first | exact True.intro | refine Lf.mk ?_))
  refine T_loopW (fun m st=>∃ i : Nat,i ≤ ts.length ∧ m + i = ts.length ∧ st = ⟨[nmV l,tks ts,.top,.top,.imm (.slice none 0 0),.imm (.int .i64 0),.own 0 0 l.length (some l.length)] ++ List.replicate 9 .top ++ [tks ts,.imm (.int .i64 ts.length),.imm (.int .i64 i)] ++ List.replicate 14 .top,[.arr 3 1 l.length (itE (acL l (ts.take i)))]⟩)
    ts.length ⟨_, ?_, 0, by omega, rfl, rfl⟩ ?_
  · have h0 : ∀ i j,i < l.length → j < 1 → nth [AV.imm (.int .i64 0)] j = itE (acL l (ts.take 0)) i j := fun i j hi hj => by
      obtain rfl : j = 0 := by omega
      unfold itE gI acL accK
      simp [hi, nth]
    ((try simp only [List.length_append,List.length_cons,List.length_nil,Nat.zero_add]);refine Wk.intro [0] (by decide) (by decide) (by intro o ho;simp at ho ⊢ <;> omega) ?_ ?_ <;> repeat' (first|(exact WkV.eqF (h0 _ _ hi hj) (by simp))|exact WkVL.nil|refine WkVL.cons ?_ ?_|exact WkV.top|exact WkV.imm rfl|exact WkV.imm (by simp)|exact WkV.optr rfl|exact WkV.own rfl (by simp)|exact WkV.nil_own (.inl rfl)|exact WkV.map rfl|(refine WkV.free ?_;simp [Free,FreeL] <;> assumption)|(refine WkV.free (fun _ _=>FreeL_nth ?_ _);simp [Free,FreeL];done)|refine WkV.agg ?_|refine WkV.tup ?_|refine WkV.fn ?_ ?_|exact WkO.dead|exact WkO.raw|refine WkO.ghost ?_|exact WkO.mpE rfl trivial|refine WkO.box ?_ rfl|refine WkO.arr ?_|refine And.intro ?_ (And.intro (by first|exact fun h=>h|exact fun _=>rfl|exact nofun) ?_)|exact trivial|(intro i j hi hj)))
  rintro m st ⟨i, g0, g1, rfl⟩
  (simp only [go_sem,↓reduceIte,Nat.reduceAdd,Nat.reduceSub,Nat.reduceMul,Nat.reduceLT,Nat.reduceLeDiff,Nat.reduceEqDiff,Nat.reduceGT,Int.reduceToNat,Int.reduceBEq,Int.reduceBNe];try simp (disch := omega) only [wrapI,wrapU,half_sum,toNat_sub1,toNat_add1,Int.toNat_natCast])
  by_cases hi : i < ts.length
  · obtain ⟨w1, w2, w3, w4⟩ := wr_ok (h.wr i hi)
    have hbd := h.acc_bd i (by omega) (gt ts i).c.toNat
    have hup := fun p q => it_upd (l := acL l (ts.take i)) (k := (gt ts i).c.toNat) (by rw [WkOk.acc_len];omega) (gI (acL l (ts.take i)) (gt ts i).c.toNat + (gt ts i).n) p q
    rw [← acL_s l hi] at hup
    (repeat' (first|with_reducible refine T_seq_drawT (id := 7) Γ_ok drawsAny pl9_7 (by kernel_rfl) (fun K hK=>?_)|with_reducible refine T_last_drawT (id := 7) Γ_ok drawsAny pl9_7 (by kernel_rfl) (fun K hK=>?_)|((refine goR0 _ _ _ _ _ _ _ _ ?_ ?_ ?_ ?_ ?_ ?_ ?_ ?_) <;> (repeat intro hb) <;> first|exact True.intro|refine Lf.mk ?_)))
    refine ⟨ts.length - (i + 1), by omega, _, ?_, i + 1, by omega, by omega, rfl⟩
    ((try simp only [List.length_append,List.length_cons,List.length_nil,Nat.zero_add]);refine Wk.intro [0] (by decide) (by decide) (by intro o ho;simp at ho ⊢ <;> omega) ?_ ?_ <;> repeat' (first|(exact WkV.eqF (hup _ _ hj) (by simp))|exact WkVL.nil|refine WkVL.cons ?_ ?_|exact WkV.top|exact WkV.imm rfl|exact WkV.imm (by simp)|exact WkV.optr rfl|exact WkV.own rfl (by simp)|exact WkV.nil_own (.inl rfl)|exact WkV.map rfl|(refine WkV.free ?_;simp [Free,FreeL] <;> assumption)|(refine WkV.free (fun _ _=>FreeL_nth ?_ _);simp [Free,FreeL];done)|refine WkV.agg ?_|refine WkV.tup ?_|refine WkV.fn ?_ ?_|exact WkO.dead|exact WkO.raw|refine WkO.ghost ?_|exact WkO.mpE rfl trivial|refine WkO.box ?_ rfl|refine WkO.arr ?_|refine And.intro ?_ (And.intro (by first|exact fun h=>h|exact fun _=>rfl|exact nofun) ?_)|exact trivial|(intro i j hi hj)))
  · have hie : i = ts.length := by omega
    subst hie
    (((refine goR0 _ _ _ _ _ _ _ _ ?_ ?_ ?_ ?_ ?_ ?_ ?_ ?_) <;> (repeat intro hb) <;> first | exact True.intro | refine Lf.mk ?_))
    exact ⟨_, _, rfl, by rw [List.take_length]⟩
theorem daccount_tc (l : List Nm) (ts : List Tk) (h : WkOk l ts) : Makes Tryz.prog 9 [nmV l,tks ts] (.tup [.own 0 0 l.length none,.imm (.int .i64 0)]) [.arr 3 1 l.length (itE (acL l ts))] :=
  Makes.gen [] (by simp [VF,VFL]) (fun a h => by simp only [List.mem_singleton] at h;subst h;exact itE_pl _) ((account_raw l ts h).mono fun v σ' ⟨c,t,hv,hs⟩ => ⟨[0],by simp,fun o ho => by
    simp only [List.mem_singleton] at ho
    subst ho
    rw [hs];simp,by rw [hv];exact WkV.tup (WkVL.cons (WkV.own rfl (by simp)) (WkVL.cons (WkV.imm rfl) WkVL.nil)),by rw [hs];exact ⟨WkO.arr fun i j _ _ => WkV.free trivial,fun h => h,trivial⟩⟩)
end Go.Proofs.YtngfnogoicfmaaaGreatDoor
namespace Go.Proofs.YtngfnogoicfmaaaGreatDoor
open Go.Ab
@[go_sem, reducible] def byF (d : Int) : AV := .fn (.func 34) [] [.rptr 1 (nth [.imm (.int .i64 d)])]
@[simp] theorem byF_free (d : Int) (j : Nat) : Free (nth [AV.imm (.int .i64 d)] j) := nth1_free (v := .imm _) trivial j
set_option maxRecDepth 100000 in
set_option maxHeartbeats 4000000 in
theorem by1_tc (t : Tk) (d : Int) : Look Tryz.prog 34 [tkA t,.rptr 1 (nth [.imm (.int .i64 d)])] (.imm (.bool (t.d == d))) := by
  refine Look.mk trivial ?_
  (refine TC_of_T Γ_ok Tryz.func34 rfl (by kernel_rfl) ?_;simp only [Tryz.ntmps34,Tryz.results34,List.length_cons,List.length_nil,Nat.reduceSub,Nat.reduceAdd,List.replicate,List.cons_append,List.nil_append])
  (((refine goR0 _ _ _ _ _ _ _ _ ?_ ?_ ?_ ?_ ?_ ?_ ?_ ?_) <;> (repeat intro hb) <;> first | exact True.intro | refine Lf.mk ?_))
def filD (d : Int) (ts : List Tk) : List Tk := ts.filter fun t => t.d == d
theorem filD_s (d : Int) {ts : List Tk} {i : Nat} (h : i < ts.length) : filD d (ts.take (i + 1)) = if ((gt ts i).d == d) = true then filD d (ts.take i) ++ [gt ts i] else filD d (ts.take i) := by
  unfold filD
  rw [take_gt h, List.filter_append]
  by_cases e : ((gt ts i).d == d) = true
  · rw [if_pos e]; simp only [List.filter_cons, e, if_true, List.filter_nil]
  · rw [if_neg e]; simp only [List.filter_cons, e, List.filter_nil]; simp
theorem filD_le (d : Int) (ts : List Tk) : (filD d ts).length ≤ ts.length := List.length_filter_le _ _
theorem tk_sn (l : List Tk) (x : Tk) {i j : Nat} (h : i < l.length + 1) (hj : j < 4) : catE l.length (tkE l) (fun i j => nth (tkL x) (i * 4 + j)) i j = tkE (l ++ [x]) i j := by
  unfold catE tkE gt
  split
  · rename_i h1; simp [List.getElem?_append_left h1]
  · rename_i h1
    have e : i = l.length := by omega
    subst e
    simp
set_option maxRecDepth 100000 in
set_option maxHeartbeats 4000000 in
theorem filter_raw (ts : List Tk) (d : Int) (hl : ts.length ≤ 1000) : TC Tryz.prog 33 [tks ts,byF d] [] (fun v σ'=>∃ t,v = .own 0 0 (filD d ts).length none ∧ σ' = .arr 47 4 (filD d ts).length (tkE (filD d ts)) :: t) := by
  (refine TC_of_T Γ_ok Tryz.func33 rfl (by kernel_rfl) ?_;simp only [Tryz.ntmps33,Tryz.results33,List.length_cons,List.length_nil,Nat.reduceSub,Nat.reduceAdd,List.replicate,List.cons_append,List.nil_append])
  (((refine goR0 _ _ _ _ _ _ _ _ ?_ ?_ ?_ ?_ ?_ ?_ ?_ ?_) <;> (repeat intro hb) <;> first | exact True.intro | refine Lf.mk ?_))
  refine T_loopW (fun m st=>∃ i : Nat,i ≤ ts.length ∧ m + i = ts.length ∧ st = ⟨[tks ts,byF d,.top,.top,.imm (.slice none 0 0),.own 0 0 (filD d (ts.take i)).length none,.top,.top,tks ts,.imm (.int .i64 ts.length),.imm (.int .i64 i)] ++ List.replicate 12 .top,[.arr 47 4 (filD d (ts.take i)).length (tkE (filD d (ts.take i)))]⟩)
    ts.length ⟨_, Wk.trans (Wk.push 47 4 (tkE [])) ?_, 0, by omega, rfl, rfl⟩ ?_
  · ((try simp only [List.length_append,List.length_cons,List.length_nil,Nat.zero_add]);refine Wk.intro [0] (by decide) (by decide) (by intro o ho;simp at ho ⊢ <;> omega) ?_ ?_ <;> repeat' (first|(exact WkV.free fun j=>byF_free d j)|exact WkVL.nil|refine WkVL.cons ?_ ?_|exact WkV.top|exact WkV.imm rfl|exact WkV.imm (by simp)|exact WkV.optr rfl|exact WkV.own rfl (by simp)|exact WkV.nil_own (.inl rfl)|exact WkV.map rfl|(refine WkV.free ?_;simp [Free,FreeL] <;> assumption)|(refine WkV.free (fun _ _=>FreeL_nth ?_ _);simp [Free,FreeL];done)|refine WkV.agg ?_|refine WkV.tup ?_|refine WkV.fn ?_ ?_|exact WkO.dead|exact WkO.raw|refine WkO.ghost ?_|exact WkO.mpE rfl trivial|refine WkO.box ?_ rfl|refine WkO.arr ?_|refine And.intro ?_ (And.intro (by first|exact fun h=>h|exact fun _=>rfl|exact nofun) ?_)|exact trivial|(intro i j hi hj)))
  rintro m st ⟨i, g0, g1, rfl⟩
  (simp only [go_sem,↓reduceIte,Nat.reduceAdd,Nat.reduceSub,Nat.reduceMul,Nat.reduceLT,Nat.reduceLeDiff,Nat.reduceEqDiff,Nat.reduceGT,Int.reduceToNat,Int.reduceBEq,Int.reduceBNe];try simp (disch := omega) only [wrapI,wrapU,half_sum,toNat_sub1,toNat_add1,Int.toNat_natCast])
  by_cases hi : i < ts.length
  · have hb1 := by1_tc (gt ts i) d
    have hfs := filD_s d hi
    have hle := filD_le d (ts.take i)
    have hle2 : (ts.take i).length = i := by simp; omega
    have hsn := fun p q => tk_sn (filD d (ts.take i)) (gt ts i) (i := p) (j := q)
    cases hd : ((gt ts i).d == d) with
    | true =>
      rw [hd] at hb1 hfs
      rw [if_pos rfl] at hfs
      rw [← hfs] at hsn
      have hll : (filD d (ts.take (i + 1))).length = (filD d (ts.take i)).length + 1 := by rw [hfs]; simp
      (have cl1 := hb1;((refine goR0 _ _ _ _ _ _ _ _ ?_ ?_ ?_ ?_ ?_ ?_ ?_ ?_) <;> (repeat intro hb) <;> first | exact True.intro | refine Lf.mk ?_))
      refine ⟨ts.length - (i + 1), by omega, _, ?_, i + 1, by omega, by omega, rfl⟩
      rw [hll]
      ((try simp only [List.length_append,List.length_cons,List.length_nil,Nat.zero_add]);refine Wk.intro [3] (by decide) (by decide) (by intro o ho;simp at ho ⊢ <;> omega) ?_ ?_ <;> repeat' (first|(exact WkV.free fun j=>byF_free d j)|(exact WkV.eqF (hsn _ _ hi hj) (by simp))|exact WkVL.nil|refine WkVL.cons ?_ ?_|exact WkV.top|exact WkV.imm rfl|exact WkV.imm (by simp)|exact WkV.optr rfl|exact WkV.own rfl (by simp)|exact WkV.nil_own (.inl rfl)|exact WkV.map rfl|(refine WkV.free ?_;simp [Free,FreeL] <;> assumption)|(refine WkV.free (fun _ _=>FreeL_nth ?_ _);simp [Free,FreeL];done)|refine WkV.agg ?_|refine WkV.tup ?_|refine WkV.fn ?_ ?_|exact WkO.dead|exact WkO.raw|refine WkO.ghost ?_|exact WkO.mpE rfl trivial|refine WkO.box ?_ rfl|refine WkO.arr ?_|refine And.intro ?_ (And.intro (by first|exact fun h=>h|exact fun _=>rfl|exact nofun) ?_)|exact trivial|(intro i j hi hj)))
    | false =>
      rw [hd] at hb1 hfs
      rw [if_neg (by simp)] at hfs
      (have cl1 := hb1;((refine goR0 _ _ _ _ _ _ _ _ ?_ ?_ ?_ ?_ ?_ ?_ ?_ ?_) <;> (repeat intro hb) <;> first | exact True.intro | refine Lf.mk ?_))
      refine ⟨ts.length - (i + 1), by omega, _, ?_, i + 1, by omega, by omega, rfl⟩
      rw [hfs]
      ((try simp only [List.length_append,List.length_cons,List.length_nil,Nat.zero_add]);refine Wk.intro [0] (by decide) (by decide) (by intro o ho;simp at ho ⊢ <;> omega) ?_ ?_ <;> repeat' (first|(exact WkV.free fun j=>byF_free d j)|exact WkVL.nil|refine WkVL.cons ?_ ?_|exact WkV.top|exact WkV.imm rfl|exact WkV.imm (by simp)|exact WkV.optr rfl|exact WkV.own rfl (by simp)|exact WkV.nil_own (.inl rfl)|exact WkV.map rfl|(refine WkV.free ?_;simp [Free,FreeL] <;> assumption)|(refine WkV.free (fun _ _=>FreeL_nth ?_ _);simp [Free,FreeL];done)|refine WkV.agg ?_|refine WkV.tup ?_|refine WkV.fn ?_ ?_|exact WkO.dead|exact WkO.raw|refine WkO.ghost ?_|exact WkO.mpE rfl trivial|refine WkO.box ?_ rfl|refine WkO.arr ?_|refine And.intro ?_ (And.intro (by first|exact fun h=>h|exact fun _=>rfl|exact nofun) ?_)|exact trivial|(intro i j hi hj)))
  · have hie : i = ts.length := by omega
    subst hie
    (((refine goR0 _ _ _ _ _ _ _ _ ?_ ?_ ?_ ?_ ?_ ?_ ?_ ?_) <;> (repeat intro hb) <;> first | exact True.intro | refine Lf.mk ?_))
    rw [List.take_length]
    exact ⟨_, rfl, rfl⟩
theorem filter_tc (ts : List Tk) (d : Int) (hl : ts.length ≤ 1000) : Makes Tryz.prog 33 [tks ts,byF d] (.own 0 0 (filD d ts).length none) [.arr 47 4 (filD d ts).length (tkE (filD d ts))] :=
  Makes.gen [] trivial (fun a h => by simp only [List.mem_singleton] at h;subst h;exact tkE_pl _) ((filter_raw ts d hl).mono fun v σ' ⟨t,hv,hs⟩ => ⟨[0],by simp,fun o ho => by
    simp only [List.mem_singleton] at ho
    subst ho
    rw [hs];simp,by rw [hv];exact WkV.own rfl (by simp),by rw [hs];exact ⟨WkO.arr fun i j _ _ => WkV.free (by simp),fun h => h,trivial⟩⟩)
def rnL (L : List Tk) (k : Nat) : List Tk := L.mapIdx fun i t => if i < k then ⟨(i : Int) + 1, t.c, t.n, t.d⟩ else t
theorem rnL_len (L : List Tk) (k : Nat) : (rnL L k).length = L.length := by simp [rnL]
theorem rnL_at {L : List Tk} (k : Nat) {i : Nat} (h : i < L.length) : gt (rnL L k) i = if i < k then ⟨(i : Int) + 1,(gt L i).c,(gt L i).n,(gt L i).d⟩ else gt L i := by
  simp [gt, rnL, h]
theorem rnL_0 (L : List Tk) : rnL L 0 = L := by
  refine List.ext_getElem (by simp [rnL]) fun i h1 h2 => ?_
  simp [rnL]
theorem rnL_upd {L : List Tk} {k : Nat} (hk : k < L.length) (i j : Nat) (hi : i < L.length) (hj : j < 4) : updE (tkE (rnL L k)) k 0 [.imm (.int .i64 ((k : Int) + 1))] i j = tkE (rnL L (k + 1)) i j := by
  unfold updE
  by_cases h : i = k ∧ 0 ≤ j ∧ j < 0 + [AV.imm (.int .i64 ((k : Int) + 1))].length
  · obtain ⟨rfl, _, h2⟩ := h
    obtain rfl : j = 0 := by simp at h2; omega
    rw [if_pos (by simp), tkE_0, rnL_at _ hi, if_pos (by omega)]
    rfl
  · rw [if_neg h]
    unfold tkE
    rw [rnL_at _ hi, rnL_at _ hi]
    by_cases h2 : i < k
    · rw [if_pos h2, if_pos (by omega)]
    · rw [if_neg h2]
      by_cases h3 : i = k
      · subst h3
        rw [if_pos (by omega)]
        have hj0 : j ≠ 0 := fun e => h ⟨rfl, Nat.zero_le _, by subst e; simp⟩
        rcases j with _ | _ | _ | _ | j <;> first | rfl | omega
      · rw [if_neg (by omega)]
theorem rnL_ac (l : List Nm) (L : List Tk) (k : Nat) : acL l (rnL L k) = acL l L := by
  unfold acL
  congr 1
  refine List.ext_getElem (by simp [rnL]) fun i h1 h2 => ?_
  simp only [rnL, List.getElem_map, List.getElem_mapIdx]
  split <;> rfl
theorem WkOk.by {l : List Nm} {ts : List Tk} (h : WkOk l ts) (d : Int) : WkOk l (rnL (filD d ts) (filD d ts).length) where
  cv := h.cv
  len := by rw [rnL_len]; have := filD_le d ts; have := h.len; omega
  wr := fun k hk => by
    rw [rnL_len] at hk
    rw [rnL_at _ hk, if_pos hk]
    have hm : gt (filD d ts) k ∈ filD d ts := by simp [gt, hk]
    obtain ⟨j, hj, e⟩ := List.getElem_of_mem (List.mem_filter.1 hm).1
    have hw := h.wr j hj
    have e2 : gt ts j = gt (filD d ts) k := by rw [← e]; simp [gt, hj]
    rw [e2] at hw
    generalize gt (filD d ts) k = x at *
    unfold wrB at hw ⊢
    split at hw
    · cases hw
    · rename_i h1
      rw [if_neg (by simp only []; omega)]
      exact hw
set_option maxRecDepth 100000 in
set_option maxHeartbeats 4000000 in
theorem by_raw (l : List Nm) (ts : List Tk) (d : Int) (h : WkOk l ts) (hd : 0 ≤ d ∧ d < 8) : TC Tryz.prog 14 [nmV l,tks ts,.imm (.int .i64 d)] [] (fun v σ'=>∃ k c,v = .tup [.own k 0 l.length c,.imm (.int .i64 0)] ∧ nthO σ' k = .arr 3 1 l.length (itE (acL l (filD d ts)))) := by
  have h1 := walk_tc l ts
  have hlt := h.len
  have h2 := filter_tc ts d (by omega)
  have h3 := daccount_tc l _ (h.by d)
  rw [rnL_ac] at h3
  have hne : ((wkR l ts).2 == 1) = false := by rw [beq_eq_false_iff_ne]; exact h.ne
  have hd1 : decide (d < 0) = false := decide_eq_false (by omega)
  have hd2 : decide (d ≥ 8) = false := decide_eq_false (by omega)
  have hrl := rnL_len (filD d ts)
  have hfl := filD_le d ts
  unfold tks at h3
  rw [hrl] at h3
  have hr0 := rnL_0 (filD d ts)
  generalize hL : filD d ts = L at *
  (refine TC_of_T Γ_ok Tryz.func14 rfl (by kernel_rfl) ?_;simp only [Tryz.ntmps14,Tryz.results14,List.length_cons,List.length_nil,Nat.reduceSub,Nat.reduceAdd,List.replicate,List.cons_append,List.nil_append])
  repeat' (first
    | (with_reducible refine hK _ ?_; clear hK K)
    | ((with_reducible apply callGoal_makeA (h1));(case hC=>first|exact trivial|(simp only [go_sem,and_self];done)|(simp only [go_sem];omega));(case hc=>((repeat' (first|exact CvL.nil|exact Cv.nil_view|refine CvL.cons ?_ ?_|exact Cv.imm rfl|(refine Cv.free ?_;simp [Free,FreeL] <;> assumption)|(refine Cv.free (fun _ _=>FreeL_nth ?_ _);simp [Free,FreeL];done)|refine Cv.agg ?_|(apply Cv.own;(case hob=>(with_unfolding_all exact rfl));(case hz=>decide);(case hE=>(first|(intro _ _ _ _;rfl)|(intro i j hi hj;exact hv5 i j hi hj)|(intro i j hi hj;(rcases i with _ | _|i) <;> (rcases j with _ | _ | _ | _|j) <;> first|rfl|(exfalso;omega))));(case hf=>(intro _ _;simp;done)))|(refine Cv.pvE ?_ ?_ (by decide);(focus (first|(intro _ _ _ _;rfl)|(intro i j hi hj;exact hv5 i j hi hj)|(intro i j hi hj;(rcases i with _ | _|i) <;> (rcases j with _ | _ | _ | _|j) <;> first|rfl|(exfalso;omega))));(focus (intro _ _;simp;done)))|(apply Cv.ownS;(case hob=>(with_unfolding_all exact rfl));(case hz=>decide);(case hle=>(first|omega|(simp only [decide_eq_true_eq] at hg;omega)|(simp;omega)));(case hE=>(intro _ _ _ _;first|(rw [Nat.zero_add];done)|(rw [Nat.zero_add];rfl)|(simpa using hv1 _ _ (by assumption) (by assumption))|(simpa using hv2 _ _ (by assumption) (by assumption))|(simpa using hv3 _ _ (by assumption) (by assumption))|(simpa using hv4 _ _ (by assumption) (by assumption))));(case hf=>(intro _ _;simp;done)))|(refine Cv.viewE (by decide) ?_ ?_;(focus (intro _ _ _ _;first|rfl|(simpa using hv1 _ _ (by assumption) (by assumption))|(simpa using hv2 _ _ (by assumption) (by assumption))|(simpa using hv3 _ _ (by assumption) (by assumption))|(simpa using hv4 _ _ (by assumption) (by assumption))));(focus (intro _ _;simp;done)))|refine Cv.ptr (by with_unfolding_all rfl) (by with_unfolding_all rfl) ?_|refine Cv.fn ?_ ?_));done));(case' hn=>(simp only [go_sem,↓reduceIte,Nat.reduceAdd,Nat.reduceSub,Nat.reduceMul,Nat.reduceLT,Nat.reduceLeDiff,Nat.reduceEqDiff,Nat.reduceGT,Int.reduceToNat,Int.reduceBEq,Int.reduceBNe];try simp (disch := omega) only [wrapI,wrapU,half_sum,toNat_sub1,toNat_add1,Int.toNat_natCast])))
    | ((with_reducible apply dCall_makeA (h1));(case hC=>first|exact trivial|(simp only [go_sem,and_self];done)|(simp only [go_sem];omega));(case hc=>((repeat' (first|exact CvL.nil|exact Cv.nil_view|refine CvL.cons ?_ ?_|exact Cv.imm rfl|(refine Cv.free ?_;simp [Free,FreeL] <;> assumption)|(refine Cv.free (fun _ _=>FreeL_nth ?_ _);simp [Free,FreeL];done)|refine Cv.agg ?_|(apply Cv.own;(case hob=>(with_unfolding_all exact rfl));(case hz=>decide);(case hE=>(first|(intro _ _ _ _;rfl)|(intro i j hi hj;exact hv5 i j hi hj)|(intro i j hi hj;(rcases i with _ | _|i) <;> (rcases j with _ | _ | _ | _|j) <;> first|rfl|(exfalso;omega))));(case hf=>(intro _ _;simp;done)))|(refine Cv.pvE ?_ ?_ (by decide);(focus (first|(intro _ _ _ _;rfl)|(intro i j hi hj;exact hv5 i j hi hj)|(intro i j hi hj;(rcases i with _ | _|i) <;> (rcases j with _ | _ | _ | _|j) <;> first|rfl|(exfalso;omega))));(focus (intro _ _;simp;done)))|(apply Cv.ownS;(case hob=>(with_unfolding_all exact rfl));(case hz=>decide);(case hle=>(first|omega|(simp only [decide_eq_true_eq] at hg;omega)|(simp;omega)));(case hE=>(intro _ _ _ _;first|(rw [Nat.zero_add];done)|(rw [Nat.zero_add];rfl)|(simpa using hv1 _ _ (by assumption) (by assumption))|(simpa using hv2 _ _ (by assumption) (by assumption))|(simpa using hv3 _ _ (by assumption) (by assumption))|(simpa using hv4 _ _ (by assumption) (by assumption))));(case hf=>(intro _ _;simp;done)))|(refine Cv.viewE (by decide) ?_ ?_;(focus (intro _ _ _ _;first|rfl|(simpa using hv1 _ _ (by assumption) (by assumption))|(simpa using hv2 _ _ (by assumption) (by assumption))|(simpa using hv3 _ _ (by assumption) (by assumption))|(simpa using hv4 _ _ (by assumption) (by assumption))));(focus (intro _ _;simp;done)))|refine Cv.ptr (by with_unfolding_all rfl) (by with_unfolding_all rfl) ?_|refine Cv.fn ?_ ?_));done));(case' hn=>(simp only [go_sem,↓reduceIte,Nat.reduceAdd,Nat.reduceSub,Nat.reduceMul,Nat.reduceLT,Nat.reduceLeDiff,Nat.reduceEqDiff,Nat.reduceGT,Int.reduceToNat,Int.reduceBEq,Int.reduceBNe];try simp (disch := omega) only [wrapI,wrapU,half_sum,toNat_sub1,toNat_add1,Int.toNat_natCast])))
    | ((with_reducible apply callGoal_makeA h2);(case hC=>first|exact trivial|(simp only [go_sem,and_self];done)|(simp only [go_sem];omega));(case hc=>(exact CvL.cons (Cv.free (by simp [Free])) (CvL.cons (Cv.fn CvL.nil (CvL.cons (Cv.ptr rfl rfl (CvL.cons (Cv.imm rfl) CvL.nil)) CvL.nil)) CvL.nil)));(case' hn=>(simp only [go_sem,↓reduceIte,Nat.reduceAdd,Nat.reduceSub,Nat.reduceMul,Nat.reduceLT,Nat.reduceLeDiff,Nat.reduceEqDiff,Nat.reduceGT,Int.reduceToNat,Int.reduceBEq,Int.reduceBNe];try simp (disch := omega) only [wrapI,wrapU,half_sum,toNat_sub1,toNat_add1,Int.toNat_natCast])))
    | ((with_reducible apply DC_call);(focus exact rfl);(focus exact rfl);(focus exact rfl);intro N hN;(simp only [go_sem,hne,hd1,hd2,↓reduceIte,Nat.reduceAdd,Nat.reduceSub,Nat.reduceMul,Nat.reduceLT,Nat.reduceLeDiff,Nat.reduceEqDiff,Nat.reduceGT,Int.reduceToNat,Int.reduceBEq,Int.reduceBNe];try simp (disch := omega) only [wrapI,wrapU,half_sum,toNat_sub1,toNat_add1,Int.toNat_natCast]))
    | ((with_reducible first|refine T_seq_region Γ_ok (fun K hK=>?_)|refine T_last_region Γ_ok (fun K hK=>?_)|refine TO_callN rfl (fun N hN=>?_)|refine DCT_fork Γ_ok (fun K2 hK2=>?_)|refine DCT_last Γ_ok ?_|refine DC_ev Γ_ok ?_|refine TO_ev Γ_ok ?_|refine retQ_r ?_|refine retQ_n ?_);(simp only [go_sem,hne,hd1,hd2,↓reduceIte,Nat.reduceAdd,Nat.reduceSub,Nat.reduceMul,Nat.reduceLT,Nat.reduceLeDiff,Nat.reduceEqDiff,Nat.reduceGT,Int.reduceToNat,Int.reduceBEq,Int.reduceBNe];try simp (disch := omega) only [wrapI,wrapU,half_sum,toNat_sub1,toNat_add1,Int.toNat_natCast]))
    | (with_reducible refine hK2 _ ?_ ?_ <;> clear hK2 K2)
    | with_reducible refine gC_false ?_ | with_reducible refine gC_true ?_ | with_reducible refine dCall_true ?_
    | (with_reducible refine hN _ _ ?_; clear hN N)
    | (with_reducible refine hN _ _ (dInl rfl) ?_; clear hN N)
    | ((with_reducible refine hN _ _ (.inr ?_) ?_);(focus (simp only [go_sem,hne,hd1,hd2,↓reduceIte,Nat.reduceAdd,Nat.reduceSub,Nat.reduceMul,Nat.reduceLT,Nat.reduceLeDiff,Nat.reduceEqDiff,Nat.reduceGT,Int.reduceToNat,Int.reduceBEq,Int.reduceBNe];try simp (disch := omega) only [wrapI,wrapU,half_sum,toNat_sub1,toNat_add1,Int.toNat_natCast]));all_goals (try clear hN N))
    | with_reducible refine T_seq ?_|with_reducible refine T_block ?_|with_reducible refine T_ret ?_|with_reducible refine T_exit ?_|with_reducible refine T_skip ?_|with_reducible refine T_label ?_
    | with_reducible refine thenQ_n ?_|with_reducible refine thenQ_e ?_|with_reducible refine thenQ_r ?_|with_reducible refine blockQ_n ?_|with_reducible refine blockQ_e ?_|with_reducible refine blockQ_r ?_
    | with_reducible refine blockQ_o (by decide) ?_
    | ((with_reducible refine T_cond _ rfl (fun hb=>?_) (fun hb=>?_)) <;> first|(cases hb;done)|(simp only [decide_eq_true_eq,decide_eq_false_iff_not,Bool.and_eq_true,Bool.or_eq_true,Bool.and_eq_false_imp,Bool.or_eq_false_iff,Bool.not_eq_true',Bool.not_eq_false',beq_iff_eq,bne_iff_ne,ne_eq,beq_eq_false_iff_ne,bne_eq_false_iff_eq,Int.not_lt,Int.not_le,ge_iff_le,gt_iff_lt] at hb)|skip)
    | (with_reducible refine And.intro (by first | exact trivial | omega | (intro hg;simp at hg ⊢ <;> omega) | (simp <;> omega)) ?_)
    | assumption | omega)
  refine T_loopW (fun m st=>∃ i : Nat,i ≤ L.length ∧ m + i = L.length ∧ st = ⟨[nmV l,tks ts,.top,.top,.top,.top,.imm (.slice none 0 0),.imm (.int .i64 0),.top,.top,.own 0 0 L.length none] ++ List.replicate 20 .top ++ [.own 0 0 L.length none,.imm (.int .i64 L.length),.imm (.int .i64 i)] ++ List.replicate 14 .top,[.arr 47 4 L.length (tkE (rnL L i))]⟩)
    L.length ⟨_, ?_, 0, by omega, rfl, rfl⟩ ?_
  · rw [hr0]
    ((try simp only [List.length_append,List.length_cons,List.length_nil,Nat.zero_add]);refine Wk.intro [2] (by decide) (by decide) (by intro o ho;simp at ho ⊢ <;> omega) ?_ ?_ <;> repeat' (first|exact WkVL.nil|refine WkVL.cons ?_ ?_|exact WkV.top|exact WkV.imm rfl|exact WkV.imm (by simp)|exact WkV.optr rfl|exact WkV.own rfl (by simp)|exact WkV.nil_own (.inl rfl)|exact WkV.map rfl|(refine WkV.free ?_;simp [Free,FreeL] <;> assumption)|(refine WkV.free (fun _ _=>FreeL_nth ?_ _);simp [Free,FreeL];done)|refine WkV.agg ?_|refine WkV.tup ?_|refine WkV.fn ?_ ?_|exact WkO.dead|exact WkO.raw|refine WkO.ghost ?_|exact WkO.mpE rfl trivial|refine WkO.box ?_ rfl|refine WkO.arr ?_|refine And.intro ?_ (And.intro (by first|exact fun h=>h|exact fun _=>rfl|exact nofun) ?_)|exact trivial|(intro i j hi hj)))
  rintro m st ⟨i, g0, g1, rfl⟩
  (simp only [go_sem,↓reduceIte,Nat.reduceAdd,Nat.reduceSub,Nat.reduceMul,Nat.reduceLT,Nat.reduceLeDiff,Nat.reduceEqDiff,Nat.reduceGT,Int.reduceToNat,Int.reduceBEq,Int.reduceBNe];try simp (disch := omega) only [wrapI,wrapU,half_sum,toNat_sub1,toNat_add1,Int.toNat_natCast])
  by_cases hi : i < L.length
  · have hup := fun p q => rnL_upd hi p q
    (((refine goR0 _ _ _ _ _ _ _ _ ?_ ?_ ?_ ?_ ?_ ?_ ?_ ?_) <;> (repeat intro hb) <;> first | exact True.intro | refine Lf.mk ?_))
    refine ⟨L.length - (i + 1), by omega, _, ?_, i + 1, by omega, by omega, rfl⟩
    ((try simp only [List.length_append,List.length_cons,List.length_nil,Nat.zero_add]);refine Wk.intro [0] (by decide) (by decide) (by intro o ho;simp at ho ⊢ <;> omega) ?_ ?_ <;> repeat' (first|(exact WkV.eqF (hup _ _ hi hj) (by simp))|exact WkVL.nil|refine WkVL.cons ?_ ?_|exact WkV.top|exact WkV.imm rfl|exact WkV.imm (by simp)|exact WkV.optr rfl|exact WkV.own rfl (by simp)|exact WkV.nil_own (.inl rfl)|exact WkV.map rfl|(refine WkV.free ?_;simp [Free,FreeL] <;> assumption)|(refine WkV.free (fun _ _=>FreeL_nth ?_ _);simp [Free,FreeL];done)|refine WkV.agg ?_|refine WkV.tup ?_|refine WkV.fn ?_ ?_|exact WkO.dead|exact WkO.raw|refine WkO.ghost ?_|exact WkO.mpE rfl trivial|refine WkO.box ?_ rfl|refine WkO.arr ?_|refine And.intro ?_ (And.intro (by first|exact fun h=>h|exact fun _=>rfl|exact nofun) ?_)|exact trivial|(intro i j hi hj)))
  · have hie : i = L.length := by omega
    subst hie
    (have cm1 := h3;((refine goR0 _ _ _ _ _ _ _ _ ?_ ?_ ?_ ?_ ?_ ?_ ?_ ?_) <;> (repeat intro hb) <;> first | exact True.intro | refine Lf.mk ?_))
    exact ⟨_, _, rfl, rfl⟩
theorem by_tc (l : List Nm) (ts : List Tk) (d : Int) (h : WkOk l ts) (hd : 0 ≤ d ∧ d < 8) : Makes Tryz.prog 14 [nmV l,tks ts,.imm (.int .i64 d)] (.tup [.own 0 0 l.length none,.imm (.int .i64 0)]) [.arr 3 1 l.length (itE (acL l (filD d ts)))] :=
  Makes.gen [] (by simp [VF,VFL]) (fun a h => by simp only [List.mem_singleton] at h;subst h;exact itE_pl _) ((by_raw l ts d h hd).mono fun v σ' ⟨k,c,hv,hs⟩ => by
    refine ⟨[k], by simp, fun o ho => ?_, ?_, ?_⟩
    · simp only [List.mem_singleton] at ho
      subst ho
      simpa using nthO_lt2 (by simp) hs
    · rw [hv]; exact WkV.tup (WkVL.cons (WkV.own rfl (by simp)) (WkVL.cons (WkV.imm rfl) WkVL.nil))
    · simp only [List.map_nil, List.append_nil]
      refine ⟨?_, fun _ => by rw [hs]; rfl, trivial⟩
      rw [hs]
      exact WkO.arr fun i j _ _ => WkV.free (by simp))
structure WkIn (l : List Nm) (ts : List Tk) : Prop extends WkOk l ts where
  rg : ∀ k, k < ts.length → Bd6 48 (shfK l ts (k + 1))
theorem wk_in {l : List Nm} {ts : List Tk} (h : (wkR l ts).2 = 0) : WkIn l ts where
  toWkOk := wk_ok (by omega)
  rg := fun k hk => by
    have h0 := wk_ok (l := l) (ts := ts) (by omega)
    unfold wkR at h
    rw [if_pos ⟨h0.cv, h0.len, List.all_eq_true.2 fun k hk => by rw [h0.wr k (List.mem_range.1 hk)]; rfl⟩] at h
    split at h
    · rename_i ha
      exact of_decide_eq_true (List.all_eq_true.1 ha k (List.mem_range.2 hk))
    · cases h
theorem WkIn.eq {l : List Nm} {ts : List Tk} (h : WkIn l ts) : wkR l ts = (shfs l ts ts.length, 0) := by
  unfold wkR
  rw [if_pos ⟨h.cv, h.len, List.all_eq_true.2 fun k hk => by rw [h.wr k (List.mem_range.1 hk)]; rfl⟩, if_pos]
  exact List.all_eq_true.2 fun k hk => decide_eq_true (h.rg k (List.mem_range.1 hk))
theorem gt_take {ts : List Tk} {n k : Nat} (h : k < n) : gt (ts.take n) k = gt ts k := by simp [gt, h]
theorem shfK_take (l : List Nm) (ts : List Tk) (n : Nat) : ∀ k, k ≤ n → shfK l (ts.take n) k = shfK l ts k
  | 0, _ => rfl
  | k + 1, h => by rw [shfK, shfK, shfK_take l ts n k (by omega), gt_take (by omega)]
theorem WkIn.take {l : List Nm} {ts : List Tk} (h : WkIn l ts) (n : Nat) : WkIn l (ts.take n) where
  cv := h.cv
  len := by have := h.len; simp; omega
  wr := fun k hk => by simp at hk; rw [gt_take (by omega)]; exact h.wr k (by omega)
  rg := fun k hk => by simp at hk; rw [shfK_take l ts n _ (by omega)]; exact h.rg k (by omega)
theorem shfs_at (l : List Nm) (ts : List Tk) {k n : Nat} (h : k ≤ n) : gP (shfs l ts n) k = shfK l ts k := by
  unfold gP shfs
  rw [List.getD_eq_getElem?_getD, List.getElem?_map, List.getElem?_range (by omega)]
  rfl
set_option maxRecDepth 100000 in
set_option maxHeartbeats 4000000 in
theorem distance_tc (l : List Nm) (ts : List Tk) (s : Nat) (h : WkIn l ts) (hs : s ≤ ts.length) : Look Tryz.prog 10 [nmV l,tks ts,.imm (.int .i64 (s : Int))] (.tup [p6A (shfK l ts s),.imm (.int .i64 0)]) := by
  refine Look.mk (by simp [Pl, PlL]) ?_
  have h1 := walk_tc l ts
  have h2 := walk_tc l (ts.take s)
  have hlt := h.len
  rw [h.eq] at h1
  rw [(h.take s).eq] at h2
  have hl2 : (ts.take s).length = s := by simp; omega
  rw [hl2] at h2
  simp only [shfs_len] at h1 h2
  unfold tks at h2
  rw [hl2] at h2
  have hv1 : ∀ i j, i < s → j < 4 → tkE ts i j = tkE (ts.take s) i j := fun i j hi _ => by unfold tkE; rw [gt_take hi]
  have hat := shfs_at l (ts.take s) (k := s) (n := s) (Nat.le_refl _)
  rw [shfK_take l ts s s (Nat.le_refl _)] at hat
  have hRl := shfs_len l (ts.take s) s
  generalize shfs l (ts.take s) s = R at *
  (refine TC_of_T Γ_ok Tryz.func10 rfl (by kernel_rfl) ?_;simp only [Tryz.ntmps10,Tryz.results10,List.length_cons,List.length_nil,Nat.reduceSub,Nat.reduceAdd,List.replicate,List.cons_append,List.nil_append])
  (have dm1 := h1;have cm1 := h2;((refine goR0 _ _ _ _ _ _ _ _ ?_ ?_ ?_ ?_ ?_ ?_ ?_ ?_) <;> (repeat intro hb) <;> first | exact True.intro | refine Lf.mk ?_))
  rw [hat]
theorem rwP_inj {p q : P6} (h : rwP p = rwP q) : p = q := by
  obtain ⟨a, b, c, d, e, f⟩ := p
  obtain ⟨a', b', c', d', e', f'⟩ := q
  have h0 : a = a' := congrFun h 0
  have h1 : b = b' := congrFun h 1
  have h2 : c = c' := congrFun h 2
  have h3 : d = d' := congrFun h 3
  have h4 : e = e' := congrFun h 4
  have h5 : f = f' := congrFun h 5
  subst h0 h1 h2 h3 h4 h5
  rfl
theorem rowsN_at (l : List Nm) (i : Nat) : gRw (rowsR (vsN l)) i = rwP (gN l i).v := by
  unfold gRw
  rw [rowsR_at, gP_vs]
theorem rwP_sum (l : List Nm) (ks : List Int) (hk : ks.length = l.length) : ∀ k,k ≤ l.length → ∀ j,rwP (sumK l ks k) j = lin (ks.take k) ((rowsR (vsN l)).take k) j
  | 0, _, j => rwP_z j
  | k + 1, h, j => by
    have h1 := rwP_sum l ks hk k (by omega) j
    have e1 : ks.take (k + 1) = ks.take k ++ [gI ks k] := by rw [List.take_add_one,List.getElem?_eq_getElem (by omega)];simp [gI,show k < ks.length by omega]
    have e2 : (rowsR (vsN l)).take (k + 1) = (rowsR (vsN l)).take k ++ [rwP (gN l k).v] := by
      have hl : k < (rowsR (vsN l)).length := by simp [rowsR, vsN]; omega
      rw [List.take_add_one, List.getElem?_eq_getElem hl]
      simp [rowsR, vsN, gN, show k < l.length by omega]
    rw [e1, e2, lin_app _ _ (by simp [rowsR, vsN, hk]), sumK, rwP_addN, h1]
    show _ = _ + (gI ks k * rwP (gN l k).v j + 0)
    omega
theorem rwP_shf (l : List Nm) (ts : List Tk) : ∀ k,k ≤ ts.length → rwP (shfK l ts k) = shfV (rowsR (vsN l)) ((ts.take k).map prT)
  | 0, _ => funext fun j => rwP_z j
  | k + 1, h => funext fun j => by
    rw [shfK, rwP_addN, take_gt (by omega), List.map_append, List.map_singleton, shfV_snoc, rwP_shf l ts k (by omega)]
    show _ = _ + (gt ts k).n * gRw (rowsR (vsN l)) (gt ts k).c.toNat j
    rw [rowsN_at]
theorem WkOk.lin {l : List Nm} {ts : List Tk} (h : WkOk l ts) : rwP (shfK l ts ts.length) = Go.Proofs.YtngfnogoicfmaaaGreatDoor.lin (acL l ts) (rowsR (vsN l)) := by
  rw [rwP_shf l ts _ (Nat.le_refl _), List.take_length, shf_lin]
  · unfold acL
    simp [rowsR, vsN]
  · intro t ht
    obtain ⟨x, hx, rfl⟩ := List.mem_map.1 ht
    obtain ⟨k, hk, rfl⟩ := List.getElem_of_mem hx
    have := (wr_ok (h.wr k hk)).2.1
    have e : gt ts k = ts[k] := by simp [gt, hk]
    rw [e] at this
    simp [rowsR, vsN, prT]
    omega
theorem WkIn.ac {l : List Nm} {ts : List Tk} (h : WkIn l ts) : AcOf l (shfK l ts ts.length) (acL l ts) where
  cv := h.cv
  bv := by
    cases hn : ts.length with
    | zero => exact z6_bd (by omega)
    | succ n => exact h.rg n (by omega)
  len := WkOk.acc_len l ts
  sm := List.all_eq_true.2 fun x hx => by
    obtain ⟨k, hk, rfl⟩ := List.getElem_of_mem hx
    have := h.toWkOk.acc_bd ts.length (Nat.le_refl _) k
    rw [List.take_length] at this
    have e : gI (acL l ts) k = (acL l ts)[k] := by simp [gI, hk]
    rw [e] at this
    exact decide_eq_true (by omega)
  eq := h.toWkOk.lin
theorem AcOf.sum {l : List Nm} {v : P6} {ks : List Int} (h : AcOf l v ks) : smR l ks = (v, 0) := by
  have e : sumK l ks ks.length = v := rwP_inj (funext fun j => by
    rw [h.len,rwP_sum l ks h.len _ (Nat.le_refl _),List.take_of_length_le (by have := h.len;omega),List.take_of_length_le (by simp [rowsR,vsN]),h.eq])
  unfold smR acB
  rw [h.sm, decide_eq_true h.len, h.cv, e]
  show (if Bd6 48 v then (v, (0 : Int)) else (z6, 3)) = (v, 0)
  rw [if_pos h.bv]
set_option maxRecDepth 100000 in
set_option maxHeartbeats 4000000 in
theorem check_tc (l : List Nm) (ts : List Tk) (h : WkIn l ts) : Look Tryz.prog 11 [nmV l,tks ts,p6A (shfK l ts ts.length)] (.tup [.imm (.bool true),.imm (.int .i64 0)]) := by
  refine Look.mk (by simp [Pl, PlL]) ?_
  have h1 := daccount_tc l ts h.toWkOk
  have hac := h.ac
  have h2 := interval_tc (shfK l ts ts.length)
  rw [decide_eq_true hac.bv] at h2
  have hl := WkOk.acc_len l ts
  have hl6 := (cvB_ok h.cv).l6
  have h3 := sum_tcC l (acL l ts) (by omega)
  rw [hac.sum] at h3
  unfold its at h3
  rw [hl] at h3
  generalize shfK l ts ts.length = v at *
  (refine TC_of_T Γ_ok Tryz.func11 rfl (by kernel_rfl) ?_;simp only [Tryz.ntmps11,Tryz.results11,List.length_cons,List.length_nil,Nat.reduceSub,Nat.reduceAdd,List.replicate,List.cons_append,List.nil_append])
  (have cm1 := h1;have cl1 := h2;have cl2 := h3;((refine goR0 _ _ _ _ _ _ _ _ ?_ ?_ ?_ ?_ ?_ ?_ ?_ ?_) <;> (repeat intro hb) <;> first | exact True.intro | refine Lf.mk ?_))
  simp
end Go.Proofs.YtngfnogoicfmaaaGreatDoor
