/-
  The reference's Notes, Pairs, Valid (scores).
-/
import Derived.Test.YtmglcamgpgkblaaQGo
import Derived.Test.YtmglcamgpgkblaaQB5
set_option linter.unusedSimpArgs false
set_option linter.unusedVariables false
namespace Go.Proofs.Ytmglcamgpgkblaa
open Go.Ab
theorem ahead_pl {s : Sc} (hn : NsOk s) (hv : VsOk s) {i : Nat} (hi : i < s.notes.length) (ht : (gn s.notes i).tied = true) : ∃ k,ahead s.notes (gn s.notes i).v (gn s.notes i).f = some k ∧ (gn s.notes k).pl = (gn s.notes i).pl := by
  obtain ⟨k, k1, k2, k3, k4⟩ := hv.tied i hi ht
  cases hf : ahead s.notes (gn s.notes i).v (gn s.notes i).f with
  | none =>
    unfold ahead at hf
    have := List.find?_eq_none.1 hf k (List.mem_range.2 k1)
    simp [k2, k3] at this
  | some b =>
    obtain ⟨h1, h2, h3⟩ := ahead_some hf
    have e1 := hn.one b h1
    have e2 := hn.one k k1
    unfold NtOk at e1 e2
    have hkb : k = b := by
      rcases Nat.lt_trichotomy k b with e | e | e
      · have := hv.over b k e h1 (by rw [k2, h2]); omega
      · exact e
      · have := hv.over k b e k1 (by rw [k2, h2]); omega
    subst hkb
    exact ⟨_, rfl, k4⟩
theorem aheadI_cases (l : List Nt) (v t : Int) : (ahead l v t = none ∧ aheadI l v t = -1) ∨ ∃ k : Nat,k < l.length ∧ ahead l v t = some k ∧ aheadI l v t = k ∧ (gn l k).v = v ∧ (gn l k).u = t := by
  unfold aheadI
  cases h : ahead l v t with
  | none => exact .inl ⟨rfl, rfl⟩
  | some k => obtain ⟨h1, h2, h3⟩ := ahead_some h; exact .inr ⟨k, h1, rfl, rfl, h2, h3⟩
@[go_sem,reducible] def enRN (i : Nat) : List AV := [.top,.optr 0 0 0,.imm (.bool false),.imm (.int .i64 i)] ++ List.replicate 119 .top
@[go_sem,reducible] def enRK (i k : Nat) : List AV := [.top,.optr 0 0 0,.imm (.bool false),.imm (.int .i64 i),.optr 1 0 0,.imm (.int .i64 k)] ++ List.replicate 117 .top
@[go_sem,reducible] def enRM (i : Nat) : List AV := [.top,.optr 0 0 0,.imm (.bool false),.top,.top,.top,.imm (.int .i64 i)] ++ List.replicate 116 .top
set_option maxRecDepth 100000 in
set_option maxHeartbeats 4000000 in
theorem rnotes_tc (s : Sc) (hl : s.notes.length ≤ 200) : Look Try.prog 24 [scA s] (.imm (.bool (tf (NsOk s ∧ VsOk s)))) := by
  refine Look.mk trivial ?_
  generalize hR : tf (NsOk s ∧ VsOk s) = R
  (refine TC_of_T Γ_ok Try.func24 rfl (by kernel_rfl) ?_;simp only [Try.ntmps24,Try.results24,List.length_cons,List.length_nil,Nat.reduceSub,Nat.reduceAdd,List.replicate,List.cons_append,List.nil_append])
  (((have sx1 := Nat.add_zero 0;refine goU1 _ _ _ _ _ _ _ _ _ _ _ _ ?_ ?_ ?_ ?_ ?_ ?_ ?_ ?_ ?_ ?_ ?_ ?_) <;> (repeat intro hb) <;> first | exact True.intro | refine Lf.mk ?_))
  refine T_loopW (fun m st => ∃ i : Nat,i ≤ s.notes.length ∧ m + i = s.notes.length ∧ (∀ j,j < i → NtOk s.voices (gn s.notes j)) ∧ (∀ j,1 ≤ j → j < i → ltN (gn s.notes (j - 1)) (gn s.notes j)) ∧
      (∀ j k,k < j → j < i → (gn s.notes k).v = (gn s.notes j).v → (gn s.notes k).u ≤ (gn s.notes j).f) ∧ st = ⟨enRN i,[.box 26 (scL s)]⟩)
    s.notes.length ⟨_, ?_, 0, by omega, rfl, by omega, by omega, by omega, rfl⟩ ?_
  · ((try simp only [List.length_append,List.length_cons,List.length_nil,Nat.zero_add]);refine Wk.intro [0] (by decide) (by decide) (by intro o ho;simp at ho ⊢ <;> omega) ?_ ?_ <;> repeat' (first|exact WkVL.nil|refine WkVL.cons ?_ ?_|exact WkV.top|exact WkV.imm rfl|exact WkV.imm (by simp)|exact WkV.optr rfl|exact WkV.own rfl (by simp)|exact WkV.nil_own (.inl rfl)|exact WkV.map rfl|(refine WkV.free ?_;simp [Free,FreeL] <;> assumption)|(refine WkV.free (fun _ _=>FreeL_nth ?_ _);simp [Free,FreeL];done)|refine WkV.agg ?_|refine WkV.tup ?_|refine WkV.fn ?_ ?_|exact WkO.dead|exact WkO.raw|refine WkO.ghost ?_|exact WkO.mpE rfl trivial|refine WkO.box ?_ rfl|refine WkO.arr ?_|refine And.intro ?_ (And.intro (by first|exact fun h=>h|exact fun _=>rfl|exact nofun) ?_)|exact trivial|(intro i j hi hj)))
  rintro m st ⟨i, h0, h1, h2, h3, h4, rfl⟩
  by_cases hi : i < s.notes.length
  · have c1 := rnote_tc s (gn s.notes i)
    (simp only [go_sem,↓reduceIte,Nat.reduceAdd,Nat.reduceSub,Nat.reduceMul,Nat.reduceLT,Nat.reduceLeDiff,Nat.reduceEqDiff,Nat.reduceGT,Int.reduceToNat,Int.reduceBEq,Int.reduceBNe];try simp (disch := omega) only [wrapI,wrapU,half_sum,toNat_sub1,toNat_add1,Int.toNat_natCast])
    (have cl1 := c1;have sx1 := Nat.add_zero 0;repeat' (first|with_reducible refine T_seq_drawT (id := 7) Γ_ok drawsAny pl24_7 (by kernel_rfl) (fun K hK=>?_)|with_reducible refine T_last_drawT (id := 7) Γ_ok drawsAny pl24_7 (by kernel_rfl) (fun K hK=>?_)|with_reducible refine T_seq_drawT (id := 12) Γ_ok drawsAny pl24_12 (by kernel_rfl) (fun K hK=>?_)|with_reducible refine T_last_drawT (id := 12) Γ_ok drawsAny pl24_12 (by kernel_rfl) (fun K hK=>?_)|with_reducible refine T_seq_drawT (id := 19) Γ_ok drawsAny pl24_19 (by kernel_rfl) (fun K hK=>?_)|with_reducible refine T_last_drawT (id := 19) Γ_ok drawsAny pl24_19 (by kernel_rfl) (fun K hK=>?_)|((refine goU1 _ _ _ _ _ _ _ _ _ _ _ _ ?_ ?_ ?_ ?_ ?_ ?_ ?_ ?_ ?_ ?_ ?_ ?_) <;> (repeat intro hb) <;> first|exact True.intro|refine Lf.mk ?_)))
    · rw [← hR, tf_f fun h => ?_]
      rw [tf_t (h.1.one i hi)] at hb; cases hb
    · rw [← hR, tf_f fun h => ?_]
      have := h.1.rise i (by omega) hi
      unfold ltN at this; omega
    have hok : NtOk s.voices (gn s.notes i) := tf_iff.1 (by assumption)
    have hrise := hb
    refine T_loopW (fun m st=>∃ k : Nat,k ≤ i ∧ m + k = i ∧ (∀ q,q < k → (gn s.notes q).v = (gn s.notes i).v → (gn s.notes q).u ≤ (gn s.notes i).f) ∧ st = ⟨enRK i k,[.box 26 (scL s),.box 47 (ntL (gn s.notes i))]⟩)
      i ⟨_, ?_, 0, by omega, rfl, by omega, rfl⟩ ?_
    · ((try simp only [List.length_append,List.length_cons,List.length_nil,Nat.zero_add]);refine Wk.intro [0,1] (by decide) (by decide) (by intro o ho;simp at ho ⊢ <;> omega) ?_ ?_ <;> repeat' (first|exact WkVL.nil|refine WkVL.cons ?_ ?_|exact WkV.top|exact WkV.imm rfl|exact WkV.imm (by simp)|exact WkV.optr rfl|exact WkV.own rfl (by simp)|exact WkV.nil_own (.inl rfl)|exact WkV.map rfl|(refine WkV.free ?_;simp [Free,FreeL] <;> assumption)|(refine WkV.free (fun _ _=>FreeL_nth ?_ _);simp [Free,FreeL];done)|refine WkV.agg ?_|refine WkV.tup ?_|refine WkV.fn ?_ ?_|exact WkO.dead|exact WkO.raw|refine WkO.ghost ?_|exact WkO.mpE rfl trivial|refine WkO.box ?_ rfl|refine WkO.arr ?_|refine And.intro ?_ (And.intro (by first|exact fun h=>h|exact fun _=>rfl|exact nofun) ?_)|exact trivial|(intro i j hi hj)))
    rintro m2 st ⟨k, k0, k1, k2, rfl⟩
    (simp only [go_sem,↓reduceIte,Nat.reduceAdd,Nat.reduceSub,Nat.reduceMul,Nat.reduceLT,Nat.reduceLeDiff,Nat.reduceEqDiff,Nat.reduceGT,Int.reduceToNat,Int.reduceBEq,Int.reduceBNe];try simp (disch := omega) only [wrapI,wrapU,half_sum,toNat_sub1,toNat_add1,Int.toNat_natCast])
    (have sx1 := Nat.add_zero 0;repeat' (first|with_reducible refine T_seq_drawT (id := 7) Γ_ok drawsAny pl24_7 (by kernel_rfl) (fun K hK=>?_)|with_reducible refine T_last_drawT (id := 7) Γ_ok drawsAny pl24_7 (by kernel_rfl) (fun K hK=>?_)|with_reducible refine T_seq_drawT (id := 12) Γ_ok drawsAny pl24_12 (by kernel_rfl) (fun K hK=>?_)|with_reducible refine T_last_drawT (id := 12) Γ_ok drawsAny pl24_12 (by kernel_rfl) (fun K hK=>?_)|with_reducible refine T_seq_drawT (id := 19) Γ_ok drawsAny pl24_19 (by kernel_rfl) (fun K hK=>?_)|with_reducible refine T_last_drawT (id := 19) Γ_ok drawsAny pl24_19 (by kernel_rfl) (fun K hK=>?_)|((refine goU1 _ _ _ _ _ _ _ _ _ _ _ _ ?_ ?_ ?_ ?_ ?_ ?_ ?_ ?_ ?_ ?_ ?_ ?_) <;> (repeat intro hb) <;> first|exact True.intro|refine Lf.mk ?_)))
    · rw [← hR, tf_f fun h => ?_]
      have := h.2.over i k (by omega) hi hb.1
      omega
    · refine ⟨i - (k + 1), by omega, _, ?_, k + 1, by omega, by omega, fun q hq hv => ?_, rfl⟩
      · ((try simp only [List.length_append,List.length_cons,List.length_nil,Nat.zero_add]);refine Wk.intro [0,1] (by decide) (by decide) (by intro o ho;simp at ho ⊢ <;> omega) ?_ ?_ <;> repeat' (first|(refine WkV.imm ?_;congr 1;omega)|exact WkVL.nil|refine WkVL.cons ?_ ?_|exact WkV.top|exact WkV.imm rfl|exact WkV.imm (by simp)|exact WkV.optr rfl|exact WkV.own rfl (by simp)|exact WkV.nil_own (.inl rfl)|exact WkV.map rfl|(refine WkV.free ?_;simp [Free,FreeL] <;> assumption)|(refine WkV.free (fun _ _=>FreeL_nth ?_ _);simp [Free,FreeL];done)|refine WkV.agg ?_|refine WkV.tup ?_|refine WkV.fn ?_ ?_|exact WkO.dead|exact WkO.raw|refine WkO.ghost ?_|exact WkO.mpE rfl trivial|refine WkO.box ?_ rfl|refine WkO.arr ?_|refine And.intro ?_ (And.intro (by first|exact fun h=>h|exact fun _=>rfl|exact nofun) ?_)|exact trivial|(intro i j hi hj)))
      · by_cases e : q = k
        · subst e; exact hb hv
        · exact k2 q (by omega) hv
    · have hki : k = i := by omega
      subst hki
      refine ⟨s.notes.length - (k + 1),by omega,_,?_,k + 1,by omega,by omega,fun j hj => ?_,fun j j1 hj => ?_,fun j q hq hj hv => ?_,rfl⟩
      · ((try simp only [List.length_append,List.length_cons,List.length_nil,Nat.zero_add]);refine Wk.intro [0] (by decide) (by decide) (by intro o ho;simp at ho ⊢ <;> omega) ?_ ?_ <;> repeat' (first|(refine WkV.imm ?_;congr 1;omega)|exact WkVL.nil|refine WkVL.cons ?_ ?_|exact WkV.top|exact WkV.imm rfl|exact WkV.imm (by simp)|exact WkV.optr rfl|exact WkV.own rfl (by simp)|exact WkV.nil_own (.inl rfl)|exact WkV.map rfl|(refine WkV.free ?_;simp [Free,FreeL] <;> assumption)|(refine WkV.free (fun _ _=>FreeL_nth ?_ _);simp [Free,FreeL];done)|refine WkV.agg ?_|refine WkV.tup ?_|refine WkV.fn ?_ ?_|exact WkO.dead|exact WkO.raw|refine WkO.ghost ?_|exact WkO.mpE rfl trivial|refine WkO.box ?_ rfl|refine WkO.arr ?_|refine And.intro ?_ (And.intro (by first|exact fun h=>h|exact fun _=>rfl|exact nofun) ?_)|exact trivial|(intro i j hi hj)))
      · by_cases e : j = k
        · subst e; exact hok
        · exact h2 j (by omega)
      · by_cases e : j = k
        · subst e
          have := hrise (by omega)
          unfold ltN; omega
        · exact h3 j j1 (by omega)
      · by_cases e : j = k
        · subst e; exact k2 q (by omega) hv
        · exact h4 j q hq (by omega) hv
  · obtain rfl : i = s.notes.length := by omega
    have hns : NsOk s := ⟨h2, fun j j1 j2 => h3 j j1 j2⟩
    (simp only [go_sem,↓reduceIte,Nat.reduceAdd,Nat.reduceSub,Nat.reduceMul,Nat.reduceLT,Nat.reduceLeDiff,Nat.reduceEqDiff,Nat.reduceGT,Int.reduceToNat,Int.reduceBEq,Int.reduceBNe];try simp (disch := omega) only [wrapI,wrapU,half_sum,toNat_sub1,toNat_add1,Int.toNat_natCast])
    (have sx1 := Nat.add_zero 0;repeat' (first|with_reducible refine T_seq_drawT (id := 7) Γ_ok drawsAny pl24_7 (by kernel_rfl) (fun K hK=>?_)|with_reducible refine T_last_drawT (id := 7) Γ_ok drawsAny pl24_7 (by kernel_rfl) (fun K hK=>?_)|with_reducible refine T_seq_drawT (id := 12) Γ_ok drawsAny pl24_12 (by kernel_rfl) (fun K hK=>?_)|with_reducible refine T_last_drawT (id := 12) Γ_ok drawsAny pl24_12 (by kernel_rfl) (fun K hK=>?_)|with_reducible refine T_seq_drawT (id := 19) Γ_ok drawsAny pl24_19 (by kernel_rfl) (fun K hK=>?_)|with_reducible refine T_last_drawT (id := 19) Γ_ok drawsAny pl24_19 (by kernel_rfl) (fun K hK=>?_)|((refine goU1 _ _ _ _ _ _ _ _ _ _ _ _ ?_ ?_ ?_ ?_ ?_ ?_ ?_ ?_ ?_ ?_ ?_ ?_) <;> (repeat intro hb) <;> first|exact True.intro|refine Lf.mk ?_)))
    refine T_loopW (fun m st=>∃ i : Nat,i ≤ s.notes.length ∧ m + i = s.notes.length ∧ (∀ j,j < i → (gn s.notes j).tied = true → ∃ k,k < s.notes.length ∧ (gn s.notes k).v = (gn s.notes j).v ∧ (gn s.notes k).u = (gn s.notes j).f ∧ (gn s.notes k).pl = (gn s.notes j).pl) ∧ st = ⟨enRM i,[.box 26 (scL s)]⟩)
      s.notes.length ⟨_, ?_, 0, by omega, rfl, by omega, rfl⟩ ?_
    · ((try simp only [List.length_append,List.length_cons,List.length_nil,Nat.zero_add]);refine Wk.intro [0] (by decide) (by decide) (by intro o ho;simp at ho ⊢ <;> omega) ?_ ?_ <;> repeat' (first|exact WkVL.nil|refine WkVL.cons ?_ ?_|exact WkV.top|exact WkV.imm rfl|exact WkV.imm (by simp)|exact WkV.optr rfl|exact WkV.own rfl (by simp)|exact WkV.nil_own (.inl rfl)|exact WkV.map rfl|(refine WkV.free ?_;simp [Free,FreeL] <;> assumption)|(refine WkV.free (fun _ _=>FreeL_nth ?_ _);simp [Free,FreeL];done)|refine WkV.agg ?_|refine WkV.tup ?_|refine WkV.fn ?_ ?_|exact WkO.dead|exact WkO.raw|refine WkO.ghost ?_|exact WkO.mpE rfl trivial|refine WkO.box ?_ rfl|refine WkO.arr ?_|refine And.intro ?_ (And.intro (by first|exact fun h=>h|exact fun _=>rfl|exact nofun) ?_)|exact trivial|(intro i j hi hj)))
    rintro m2 st ⟨i, k0, k1, k2, rfl⟩
    by_cases hi : i < s.notes.length
    · have c1 := rahead_tc s (gn s.notes i).v (gn s.notes i).f (by omega)
      rcases aheadI_cases s.notes (gn s.notes i).v (gn s.notes i).f with ⟨a1, a2⟩ | ⟨k, a0, a1, a2, a3, a4⟩
      · rw [a2] at c1
        (simp only [go_sem,↓reduceIte,Nat.reduceAdd,Nat.reduceSub,Nat.reduceMul,Nat.reduceLT,Nat.reduceLeDiff,Nat.reduceEqDiff,Nat.reduceGT,Int.reduceToNat,Int.reduceBEq,Int.reduceBNe];try simp (disch := omega) only [wrapI,wrapU,half_sum,toNat_sub1,toNat_add1,Int.toNat_natCast])
        (have cl1 := c1;have sx1 := Nat.add_zero 0;repeat' (first|with_reducible refine T_seq_drawT (id := 7) Γ_ok drawsAny pl24_7 (by kernel_rfl) (fun K hK=>?_)|with_reducible refine T_last_drawT (id := 7) Γ_ok drawsAny pl24_7 (by kernel_rfl) (fun K hK=>?_)|with_reducible refine T_seq_drawT (id := 12) Γ_ok drawsAny pl24_12 (by kernel_rfl) (fun K hK=>?_)|with_reducible refine T_last_drawT (id := 12) Γ_ok drawsAny pl24_12 (by kernel_rfl) (fun K hK=>?_)|with_reducible refine T_seq_drawT (id := 19) Γ_ok drawsAny pl24_19 (by kernel_rfl) (fun K hK=>?_)|with_reducible refine T_last_drawT (id := 19) Γ_ok drawsAny pl24_19 (by kernel_rfl) (fun K hK=>?_)|((refine goU1 _ _ _ _ _ _ _ _ _ _ _ _ ?_ ?_ ?_ ?_ ?_ ?_ ?_ ?_ ?_ ?_ ?_ ?_) <;> (repeat intro hb) <;> first|exact True.intro|refine Lf.mk ?_)))
        · rw [← hR, tf_f fun h => ?_]
          obtain ⟨k, e1, _⟩ := ahead_pl h.1 h.2 hi (by first | exact hb | exact hb.1)
          rw [a1] at e1; cases e1
        · refine ⟨s.notes.length - (i + 1), by omega, _, ?_, i + 1, by omega, by omega, fun j hj ht => ?_, rfl⟩
          · ((try simp only [List.length_append,List.length_cons,List.length_nil,Nat.zero_add]);refine Wk.intro [0] (by decide) (by decide) (by intro o ho;simp at ho ⊢ <;> omega) ?_ ?_ <;> repeat' (first|(refine WkV.imm ?_;congr 1;omega)|exact WkVL.nil|refine WkVL.cons ?_ ?_|exact WkV.top|exact WkV.imm rfl|exact WkV.imm (by simp)|exact WkV.optr rfl|exact WkV.own rfl (by simp)|exact WkV.nil_own (.inl rfl)|exact WkV.map rfl|(refine WkV.free ?_;simp [Free,FreeL] <;> assumption)|(refine WkV.free (fun _ _=>FreeL_nth ?_ _);simp [Free,FreeL];done)|refine WkV.agg ?_|refine WkV.tup ?_|refine WkV.fn ?_ ?_|exact WkO.dead|exact WkO.raw|refine WkO.ghost ?_|exact WkO.mpE rfl trivial|refine WkO.box ?_ rfl|refine WkO.arr ?_|refine And.intro ?_ (And.intro (by first|exact fun h=>h|exact fun _=>rfl|exact nofun) ?_)|exact trivial|(intro i j hi hj)))
          · by_cases e : j = i
            · subst e
              first
                | (have h9 := hb ht; omega)
                | (rw [hb] at ht; cases ht)
            · exact k2 j (by omega) ht
      · rw [a2] at c1
        (simp only [go_sem,↓reduceIte,Nat.reduceAdd,Nat.reduceSub,Nat.reduceMul,Nat.reduceLT,Nat.reduceLeDiff,Nat.reduceEqDiff,Nat.reduceGT,Int.reduceToNat,Int.reduceBEq,Int.reduceBNe];try simp (disch := omega) only [wrapI,wrapU,half_sum,toNat_sub1,toNat_add1,Int.toNat_natCast])
        (have cl1 := c1;have sx1 := Nat.add_zero 0;repeat' (first|with_reducible refine T_seq_drawT (id := 7) Γ_ok drawsAny pl24_7 (by kernel_rfl) (fun K hK=>?_)|with_reducible refine T_last_drawT (id := 7) Γ_ok drawsAny pl24_7 (by kernel_rfl) (fun K hK=>?_)|with_reducible refine T_seq_drawT (id := 12) Γ_ok drawsAny pl24_12 (by kernel_rfl) (fun K hK=>?_)|with_reducible refine T_last_drawT (id := 12) Γ_ok drawsAny pl24_12 (by kernel_rfl) (fun K hK=>?_)|with_reducible refine T_seq_drawT (id := 19) Γ_ok drawsAny pl24_19 (by kernel_rfl) (fun K hK=>?_)|with_reducible refine T_last_drawT (id := 19) Γ_ok drawsAny pl24_19 (by kernel_rfl) (fun K hK=>?_)|((refine goU1 _ _ _ _ _ _ _ _ _ _ _ _ ?_ ?_ ?_ ?_ ?_ ?_ ?_ ?_ ?_ ?_ ?_ ?_) <;> (repeat intro hb) <;> first|exact True.intro|refine Lf.mk ?_)))
        · rw [← hR, tf_f fun h => ?_]
          obtain ⟨k', e1, e2⟩ := ahead_pl h.1 h.2 hi hb.1
          rw [a1] at e1
          cases e1
          rcases hb.2 with h9 | h9
          · omega
          · rw [e2] at h9; exact h9 rfl rfl rfl rfl rfl rfl
        · refine ⟨s.notes.length - (i + 1), by omega, _, ?_, i + 1, by omega, by omega, fun j hj ht => ?_, rfl⟩
          · ((try simp only [List.length_append,List.length_cons,List.length_nil,Nat.zero_add]);refine Wk.intro [0] (by decide) (by decide) (by intro o ho;simp at ho ⊢ <;> omega) ?_ ?_ <;> repeat' (first|(refine WkV.imm ?_;congr 1;omega)|exact WkVL.nil|refine WkVL.cons ?_ ?_|exact WkV.top|exact WkV.imm rfl|exact WkV.imm (by simp)|exact WkV.optr rfl|exact WkV.own rfl (by simp)|exact WkV.nil_own (.inl rfl)|exact WkV.map rfl|(refine WkV.free ?_;simp [Free,FreeL] <;> assumption)|(refine WkV.free (fun _ _=>FreeL_nth ?_ _);simp [Free,FreeL];done)|refine WkV.agg ?_|refine WkV.tup ?_|refine WkV.fn ?_ ?_|exact WkO.dead|exact WkO.raw|refine WkO.ghost ?_|exact WkO.mpE rfl trivial|refine WkO.box ?_ rfl|refine WkO.arr ?_|refine And.intro ?_ (And.intro (by first|exact fun h=>h|exact fun _=>rfl|exact nofun) ?_)|exact trivial|(intro i j hi hj)))
          · by_cases e : j = i
            · subst e
              have h9 := hb ht
              exact ⟨k, a0, a3, a4, P6.ext' h9.2.1 h9.2.2.1 h9.2.2.2.1 h9.2.2.2.2.1 h9.2.2.2.2.2.1 h9.2.2.2.2.2.2⟩
            · exact k2 j (by omega) ht
    · (simp only [go_sem,↓reduceIte,Nat.reduceAdd,Nat.reduceSub,Nat.reduceMul,Nat.reduceLT,Nat.reduceLeDiff,Nat.reduceEqDiff,Nat.reduceGT,Int.reduceToNat,Int.reduceBEq,Int.reduceBNe];try simp (disch := omega) only [wrapI,wrapU,half_sum,toNat_sub1,toNat_add1,Int.toNat_natCast])
      (have sx1 := Nat.add_zero 0;repeat' (first|with_reducible refine T_seq_drawT (id := 7) Γ_ok drawsAny pl24_7 (by kernel_rfl) (fun K hK=>?_)|with_reducible refine T_last_drawT (id := 7) Γ_ok drawsAny pl24_7 (by kernel_rfl) (fun K hK=>?_)|with_reducible refine T_seq_drawT (id := 12) Γ_ok drawsAny pl24_12 (by kernel_rfl) (fun K hK=>?_)|with_reducible refine T_last_drawT (id := 12) Γ_ok drawsAny pl24_12 (by kernel_rfl) (fun K hK=>?_)|with_reducible refine T_seq_drawT (id := 19) Γ_ok drawsAny pl24_19 (by kernel_rfl) (fun K hK=>?_)|with_reducible refine T_last_drawT (id := 19) Γ_ok drawsAny pl24_19 (by kernel_rfl) (fun K hK=>?_)|((refine goU1 _ _ _ _ _ _ _ _ _ _ _ _ ?_ ?_ ?_ ?_ ?_ ?_ ?_ ?_ ?_ ?_ ?_ ?_) <;> (repeat intro hb) <;> first|exact True.intro|refine Lf.mk ?_)))
      rw [← hR, tf_t ⟨hns, ⟨fun j k hk hj hv => h4 j k hk hj hv, fun j hj ht => k2 j (by omega) ht⟩⟩]
theorem prv_iff {s : Sc} (hns : NsOk s) {p : Pr} (h1 : 0 ≤ p.a) (h2 : p.a < p.b) (h3 : p.b < s.notes.length) : ((gn s.notes p.a.toNat).v = (gn s.notes p.b.toNat).v ∨
    (if (gn s.notes p.b.toNat).u < (gn s.notes p.a.toNat).u then (gn s.notes p.b.toNat).u else (gn s.notes p.a.toNat).u) ≤ (if (gn s.notes p.a.toNat).f < (gn s.notes p.b.toNat).f then (gn s.notes p.b.toNat).f else (gn s.notes p.a.toNat).f)) ↔ ¬ PrV s p := by
  have e1 := f_mono hns (j := p.a.toNat) (k := p.b.toNat) (by omega) (by omega)
  have e2 := hns.one p.b.toNat (by omega)
  have e3 := hns.one p.a.toNat (by omega)
  unfold NtOk at e2 e3
  unfold PrV
  split <;> split <;> omega
@[go_sem,reducible] def enRP (i : Nat) : List AV := [.top,.optr 0 0 0,.imm (.bool false),.imm (.int .i64 i)] ++ List.replicate 117 .top
set_option maxRecDepth 100000 in
set_option maxHeartbeats 4000000 in
theorem rpairs_tc (s : Sc) (hl : s.notes.length ≤ 200) (hp : s.pairs.length ≤ 400) (hns : NsOk s) : Look Try.prog 25 [scA s] (.imm (.bool (tf (PsOk s)))) := by
  have c1 := fun p : P6 => rbounded_tc p 16 (by omega) (by omega)
  refine Look.mk trivial ?_
  generalize hR : tf (PsOk s) = R
  (refine TC_of_T Γ_ok Try.func25 rfl (by kernel_rfl) ?_;simp only [Try.ntmps25,Try.results25,List.length_cons,List.length_nil,Nat.reduceSub,Nat.reduceAdd,List.replicate,List.cons_append,List.nil_append])
  (((have sx1 := Nat.add_zero 0;refine goU1 _ _ _ _ _ _ _ _ _ _ _ _ ?_ ?_ ?_ ?_ ?_ ?_ ?_ ?_ ?_ ?_ ?_ ?_) <;> (repeat intro hb) <;> first | exact True.intro | refine Lf.mk ?_))
  refine T_loopW (fun m st=>∃ i : Nat,i ≤ s.pairs.length ∧ m + i = s.pairs.length ∧ (∀ j,j < i → PrB s.notes.length (gp s.pairs j) ∧ PrV s (gp s.pairs j)) ∧ (∀ j,1 ≤ j → j < i → ltP (gp s.pairs (j - 1)) (gp s.pairs j)) ∧ st = ⟨enRP i,[.box 26 (scL s)]⟩)
    s.pairs.length ⟨_, ?_, 0, by omega, rfl, by omega, by omega, rfl⟩ ?_
  · ((try simp only [List.length_append,List.length_cons,List.length_nil,Nat.zero_add]);refine Wk.intro [0] (by decide) (by decide) (by intro o ho;simp at ho ⊢ <;> omega) ?_ ?_ <;> repeat' (first|exact WkVL.nil|refine WkVL.cons ?_ ?_|exact WkV.top|exact WkV.imm rfl|exact WkV.imm (by simp)|exact WkV.optr rfl|exact WkV.own rfl (by simp)|exact WkV.nil_own (.inl rfl)|exact WkV.map rfl|(refine WkV.free ?_;simp [Free,FreeL] <;> assumption)|(refine WkV.free (fun _ _=>FreeL_nth ?_ _);simp [Free,FreeL];done)|refine WkV.agg ?_|refine WkV.tup ?_|refine WkV.fn ?_ ?_|exact WkO.dead|exact WkO.raw|refine WkO.ghost ?_|exact WkO.mpE rfl trivial|refine WkO.box ?_ rfl|refine WkO.arr ?_|refine And.intro ?_ (And.intro (by first|exact fun h=>h|exact fun _=>rfl|exact nofun) ?_)|exact trivial|(intro i j hi hj)))
  rintro m st ⟨i, h0, h1, h2, h3, rfl⟩
  by_cases hi : i < s.pairs.length
  · (simp only [go_sem,↓reduceIte,Nat.reduceAdd,Nat.reduceSub,Nat.reduceMul,Nat.reduceLT,Nat.reduceLeDiff,Nat.reduceEqDiff,Nat.reduceGT,Int.reduceToNat,Int.reduceBEq,Int.reduceBNe];try simp (disch := omega) only [wrapI,wrapU,half_sum,toNat_sub1,toNat_add1,Int.toNat_natCast])
    (have cl1 := fun u1=>c1 u1;have sx1 := Nat.add_zero 0;repeat' (first|with_reducible refine T_seq_drawT (id := 11) Γ_ok drawsAny pl25_11 (by kernel_rfl) (fun K hK=>?_)|with_reducible refine T_last_drawT (id := 11) Γ_ok drawsAny pl25_11 (by kernel_rfl) (fun K hK=>?_)|((refine goU1 _ _ _ _ _ _ _ _ _ _ _ _ ?_ ?_ ?_ ?_ ?_ ?_ ?_ ?_ ?_ ?_ ?_ ?_) <;> (repeat intro hb) <;> first|exact True.intro|refine Lf.mk ?_)))
    · rw [← hR, tf_f fun h => ?_]
      have := (h.one i hi).1
      unfold PrB at this
      rcases hb with ((((hb | hb) | hb) | hb) | hb) | hb <;> first | omega | (rw [hb] at this;exact absurd this.2.2.2.1 (by simp))
    · rename_i q
      have hx := prv_iff hns (show 0 ≤ (gp s.pairs i).a by omega) (show (gp s.pairs i).a < (gp s.pairs i).b by omega) (show (gp s.pairs i).b < s.notes.length by omega)
      rw [← hR, tf_f fun h => hx.1 hb (h.one i hi).2]
    · rw [← hR, tf_f fun h => ?_]
      have := h.rise i (by omega) hi
      unfold ltP at this; omega
    · rename_i q1 q2
      have hx := prv_iff hns (show 0 ≤ (gp s.pairs i).a by omega) (show (gp s.pairs i).a < (gp s.pairs i).b by omega) (show (gp s.pairs i).b < s.notes.length by omega)
      have hv : PrV s (gp s.pairs i) := Classical.byContradiction fun h => by
        rcases hx.2 h with h9 | h9
        · exact q2.1 h9
        · have := q2.2; omega
      refine ⟨s.pairs.length - (i + 1),by omega,_,?_,i + 1,by omega,by omega,fun j hj => ?_,fun j j1 hj => ?_,rfl⟩
      · ((try simp only [List.length_append,List.length_cons,List.length_nil,Nat.zero_add]);refine Wk.intro [0] (by decide) (by decide) (by intro o ho;simp at ho ⊢ <;> omega) ?_ ?_ <;> repeat' (first|(refine WkV.imm ?_;congr 1;omega)|exact WkVL.nil|refine WkVL.cons ?_ ?_|exact WkV.top|exact WkV.imm rfl|exact WkV.imm (by simp)|exact WkV.optr rfl|exact WkV.own rfl (by simp)|exact WkV.nil_own (.inl rfl)|exact WkV.map rfl|(refine WkV.free ?_;simp [Free,FreeL] <;> assumption)|(refine WkV.free (fun _ _=>FreeL_nth ?_ _);simp [Free,FreeL];done)|refine WkV.agg ?_|refine WkV.tup ?_|refine WkV.fn ?_ ?_|exact WkO.dead|exact WkO.raw|refine WkO.ghost ?_|exact WkO.mpE rfl trivial|refine WkO.box ?_ rfl|refine WkO.arr ?_|refine And.intro ?_ (And.intro (by first|exact fun h=>h|exact fun _=>rfl|exact nofun) ?_)|exact trivial|(intro i j hi hj)))
      · by_cases e : j = i
        · subst e; exact ⟨⟨q1.1.1.1.1.1, q1.1.1.1.1.2, q1.1.1.1.2, q1.1.1.2, q1.1.2, q1.2⟩, hv⟩
        · exact h2 j (by omega)
      · by_cases e : j = i
        · subst e
          have := hb (by omega)
          unfold ltP; omega
        · exact h3 j j1 (by omega)
  · obtain rfl : i = s.pairs.length := by omega
    (simp only [go_sem,↓reduceIte,Nat.reduceAdd,Nat.reduceSub,Nat.reduceMul,Nat.reduceLT,Nat.reduceLeDiff,Nat.reduceEqDiff,Nat.reduceGT,Int.reduceToNat,Int.reduceBEq,Int.reduceBNe];try simp (disch := omega) only [wrapI,wrapU,half_sum,toNat_sub1,toNat_add1,Int.toNat_natCast])
    (have sx1 := Nat.add_zero 0;repeat' (first|with_reducible refine T_seq_drawT (id := 11) Γ_ok drawsAny pl25_11 (by kernel_rfl) (fun K hK=>?_)|with_reducible refine T_last_drawT (id := 11) Γ_ok drawsAny pl25_11 (by kernel_rfl) (fun K hK=>?_)|((refine goU1 _ _ _ _ _ _ _ _ _ _ _ _ ?_ ?_ ?_ ?_ ?_ ?_ ?_ ?_ ?_ ?_ ?_ ?_) <;> (repeat intro hb) <;> first|exact True.intro|refine Lf.mk ?_)))
    rw [← hR, tf_t ⟨h2, fun j j1 j2 => h3 j j1 j2⟩]
set_option maxRecDepth 100000 in
set_option maxHeartbeats 4000000 in
theorem rvalid_tc (s : Sc) (hl : ScL s) : Look Try.prog 13 [scA s] (.imm (.bool (tf (ScOk s)))) := by
  refine Look.mk trivial ?_
  generalize hR : tf (ScOk s) = R
  by_cases hz : SzOk s
  · have hz2 := hz
    unfold SzOk at hz2
    have c1 := rnotes_tc s (by omega)
    (refine TC_of_T Γ_ok Try.func13 rfl (by kernel_rfl) ?_;simp only [Try.ntmps13,Try.results13,List.length_cons,List.length_nil,Nat.reduceSub,Nat.reduceAdd,List.replicate,List.cons_append,List.nil_append])
    (have sx1 := Nat.add_zero 0;repeat' (first|with_reducible refine T_seq_drawT (id := 6) Γ_ok drawsAny pl13_6 (by kernel_rfl) (fun K hK=>?_)|with_reducible refine T_last_drawT (id := 6) Γ_ok drawsAny pl13_6 (by kernel_rfl) (fun K hK=>?_)|((refine goU1 _ _ _ _ _ _ _ _ _ _ _ _ ?_ ?_ ?_ ?_ ?_ ?_ ?_ ?_ ?_ ?_ ?_ ?_) <;> (repeat intro hb) <;> first|exact True.intro|refine Lf.mk ?_)))
    refine T_loopW (fun m st=>∃ i : Nat,i ≤ s.cads.length ∧ m + i = s.cads.length ∧ (∀ j,j < i → 1 ≤ gi s.cads j ∧ gi s.cads j < 100000) ∧ (∀ j,1 ≤ j → j < i → gi s.cads (j - 1) < gi s.cads j) ∧ st = ⟨[.top,.optr 0 0 0,.imm (.bool false),.imm (.int .i64 i)] ++ List.replicate 71 .top,[.box 26 (scL s)]⟩)
      s.cads.length ⟨_, ?_, 0, by omega, rfl, by omega, by omega, rfl⟩ ?_
    · ((try simp only [List.length_append,List.length_cons,List.length_nil,Nat.zero_add]);refine Wk.intro [0] (by decide) (by decide) (by intro o ho;simp at ho ⊢ <;> omega) ?_ ?_ <;> repeat' (first|exact WkVL.nil|refine WkVL.cons ?_ ?_|exact WkV.top|exact WkV.imm rfl|exact WkV.imm (by simp)|exact WkV.optr rfl|exact WkV.own rfl (by simp)|exact WkV.nil_own (.inl rfl)|exact WkV.map rfl|(refine WkV.free ?_;simp [Free,FreeL] <;> assumption)|(refine WkV.free (fun _ _=>FreeL_nth ?_ _);simp [Free,FreeL];done)|refine WkV.agg ?_|refine WkV.tup ?_|refine WkV.fn ?_ ?_|exact WkO.dead|exact WkO.raw|refine WkO.ghost ?_|exact WkO.mpE rfl trivial|refine WkO.box ?_ rfl|refine WkO.arr ?_|refine And.intro ?_ (And.intro (by first|exact fun h=>h|exact fun _=>rfl|exact nofun) ?_)|exact trivial|(intro i j hi hj)))
    rintro m st ⟨i, h0, h1, h2, h3, rfl⟩
    by_cases hi : i < s.cads.length
    · (simp only [go_sem,↓reduceIte,Nat.reduceAdd,Nat.reduceSub,Nat.reduceMul,Nat.reduceLT,Nat.reduceLeDiff,Nat.reduceEqDiff,Nat.reduceGT,Int.reduceToNat,Int.reduceBEq,Int.reduceBNe];try simp (disch := omega) only [wrapI,wrapU,half_sum,toNat_sub1,toNat_add1,Int.toNat_natCast])
      (have sx1 := Nat.add_zero 0;repeat' (first|with_reducible refine T_seq_drawT (id := 6) Γ_ok drawsAny pl13_6 (by kernel_rfl) (fun K hK=>?_)|with_reducible refine T_last_drawT (id := 6) Γ_ok drawsAny pl13_6 (by kernel_rfl) (fun K hK=>?_)|((refine goU1 _ _ _ _ _ _ _ _ _ _ _ _ ?_ ?_ ?_ ?_ ?_ ?_ ?_ ?_ ?_ ?_ ?_ ?_) <;> (repeat intro hb) <;> first|exact True.intro|refine Lf.mk ?_)))
      · rw [← hR, tf_f fun h => ?_]
        have e1 := h.cs.one i hi
        have e2 := fun q => h.cs.rise i q hi
        rcases hb with (hb | hb) | hb
        · omega
        · omega
        · have := e2 (by omega); omega
      · refine ⟨s.cads.length - (i + 1),by omega,_,?_,i + 1,by omega,by omega,fun j hj => ?_,fun j j1 hj => ?_,rfl⟩
        · ((try simp only [List.length_append,List.length_cons,List.length_nil,Nat.zero_add]);refine Wk.intro [0] (by decide) (by decide) (by intro o ho;simp at ho ⊢ <;> omega) ?_ ?_ <;> repeat' (first|(refine WkV.imm ?_;congr 1;omega)|exact WkVL.nil|refine WkVL.cons ?_ ?_|exact WkV.top|exact WkV.imm rfl|exact WkV.imm (by simp)|exact WkV.optr rfl|exact WkV.own rfl (by simp)|exact WkV.nil_own (.inl rfl)|exact WkV.map rfl|(refine WkV.free ?_;simp [Free,FreeL] <;> assumption)|(refine WkV.free (fun _ _=>FreeL_nth ?_ _);simp [Free,FreeL];done)|refine WkV.agg ?_|refine WkV.tup ?_|refine WkV.fn ?_ ?_|exact WkO.dead|exact WkO.raw|refine WkO.ghost ?_|exact WkO.mpE rfl trivial|refine WkO.box ?_ rfl|refine WkO.arr ?_|refine And.intro ?_ (And.intro (by first|exact fun h=>h|exact fun _=>rfl|exact nofun) ?_)|exact trivial|(intro i j hi hj)))
        · by_cases e : j = i
          · subst e; omega
          · exact h2 j (by omega)
        · by_cases e : j = i
          · subst e
            have := hb.2 (by omega)
            omega
          · exact h3 j j1 (by omega)
    · obtain rfl : i = s.cads.length := by omega
      have hcs : CsOk s := ⟨h2, fun j j1 j2 => h3 j j1 j2⟩
      have c2 := fun h : tf (NsOk s ∧ VsOk s) = true => rpairs_tc s (by omega) (by omega) (tf_iff.1 h).1
      (simp only [go_sem,↓reduceIte,Nat.reduceAdd,Nat.reduceSub,Nat.reduceMul,Nat.reduceLT,Nat.reduceLeDiff,Nat.reduceEqDiff,Nat.reduceGT,Int.reduceToNat,Int.reduceBEq,Int.reduceBNe];try simp (disch := omega) only [wrapI,wrapU,half_sum,toNat_sub1,toNat_add1,Int.toNat_natCast])
      (have cl1 := c1;have cl2 := c2;have sx1 := Nat.add_zero 0;repeat' (first|with_reducible refine T_seq_drawT (id := 6) Γ_ok drawsAny pl13_6 (by kernel_rfl) (fun K hK=>?_)|with_reducible refine T_last_drawT (id := 6) Γ_ok drawsAny pl13_6 (by kernel_rfl) (fun K hK=>?_)|((refine goU1 _ _ _ _ _ _ _ _ _ _ _ _ ?_ ?_ ?_ ?_ ?_ ?_ ?_ ?_ ?_ ?_ ?_ ?_) <;> (repeat intro hb) <;> first|exact True.intro|refine Lf.mk ?_)))
      rw [← hR]
      refine congrArg (fun b => AV.imm (.bool b)) ?_
      rw [Bool.eq_iff_iff, Bool.and_eq_true, tf_iff, tf_iff, tf_iff]
      exact ⟨fun ⟨h1, h2⟩ => ⟨hz, h1.1, h1.2, h2, hcs⟩, fun h => ⟨⟨h.ns, h.vs⟩, h.ps⟩⟩
  · have hz2 := hz
    unfold SzOk at hz2
    (refine TC_of_T Γ_ok Try.func13 rfl (by kernel_rfl) ?_;simp only [Try.ntmps13,Try.results13,List.length_cons,List.length_nil,Nat.reduceSub,Nat.reduceAdd,List.replicate,List.cons_append,List.nil_append])
    (have sx1 := Nat.add_zero 0;repeat' (first|with_reducible refine T_seq_drawT (id := 6) Γ_ok drawsAny pl13_6 (by kernel_rfl) (fun K hK=>?_)|with_reducible refine T_last_drawT (id := 6) Γ_ok drawsAny pl13_6 (by kernel_rfl) (fun K hK=>?_)|((refine goU1 _ _ _ _ _ _ _ _ _ _ _ _ ?_ ?_ ?_ ?_ ?_ ?_ ?_ ?_ ?_ ?_ ?_ ?_) <;> (repeat intro hb) <;> first|exact True.intro|refine Lf.mk ?_)))
    · rw [← hR, tf_f fun h => hz h.sz]
end Go.Proofs.Ytmglcamgpgkblaa
