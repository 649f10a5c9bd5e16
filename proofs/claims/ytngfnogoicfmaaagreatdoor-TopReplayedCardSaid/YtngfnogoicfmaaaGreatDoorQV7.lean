/-
  Parts joined: T20 T21.
-/
import Derived.Test.YtngfnogoicfmaaaGreatDoorQU7
import Derived.Test.YtngfnogoicfmaaaGreatDoorQS15
import Derived.Test.YtngfnogoicfmaaaGreatDoorQV6
import Derived.Test.YtngfnogoicfmaaaGreatDoorQGo
set_option linter.unusedSimpArgs false
set_option linter.unusedVariables false
namespace Go.Proofs.YtngfnogoicfmaaaGreatDoor
open Go.Ab
theorem framesN_len {l : List Rcd} (h : allOk l = true) : (framesN l).length ≤ 13 * l.length := by
  induction l with
  | nil => simp [framesN]
  | cons r l ih =>
    have ho : r.ok = true ∧ allOk l = true := by simpa [allOk] using h
    have h1 := frameN_len ho.1
    have h2 := ih ho.2
    have e : (framesN (r :: l)).length = (frameN r).length + (framesN l).length := by simp [framesN]
    rw [e, List.length_cons]
    omega
theorem frames_step {l : List Rcd} {i : Nat} (h : i < l.length) : framesN (l.take (i + 1)) = framesN (l.take i) ++ frameN (gR l i) := by
  rw [gR_take h, framesN_app]; simp [framesN]
theorem frameN_ok {r : Rcd} (h : r.ok = true) : ByOk (frameN r) := sealN_ok (bodyN_ok h).1 (by have := (bodyN_ok h).2;omega)
theorem framesN_ok {l : List Rcd} (h : allOk l = true) : ByOk (framesN l) := by
  intro x hx
  unfold framesN at hx
  rw [List.mem_flatMap] at hx
  obtain ⟨r, hr, hx⟩ := hx
  exact frameN_ok ((List.all_eq_true.1 h) r hr) x hx
theorem append_step {l : List Rcd} {r : Rcd} {s : Int} (h : allOk l = true) (hr : r.ok = true) (hl : l.length < 500) (hs : 0 ≤ s ∧ s ≤ (framesN l).length) : appendR ⟨framesN l,s⟩ r = (⟨framesN l ++ frameN r,s⟩,0) := by
  have h1 := framesN_len h
  have h2 := frameN_len hr
  have h3 := wholeN_all h
  unfold appendR
  rw [if_pos ⟨by unfold soundB; simp only [Bool.and_eq_true, decide_eq_true_eq]; omega, hr⟩]
  simp only [h3]
  rw [if_neg (by omega), if_neg (by rw [List.length_append]; omega)]
theorem sync_frames {b : List Nat} {s : Int} (h : soundB ⟨b,s⟩ = true) : syncR ⟨b,s⟩ = (⟨b,b.length⟩,0) := by unfold syncR;rw [if_pos h];simp
def tkR (t : Tk) : Rcd := ⟨3, t.s, 0, t⟩
def tkRs (ts : List Tk) : List Rcd := ts.map tkR
theorem tkRs_len (ts : List Tk) : (tkRs ts).length = ts.length := by simp [tkRs]
theorem gR_tk {ts : List Tk} {i : Nat} (h : i < ts.length) : gR (tkRs ts) i = tkR (gt ts i) := by simp [gR, gt, tkRs, h]
theorem wr_take {n : Nat} {k : Int} {t : Tk} (h : wrB n k t = false) (hn : n ≤ 6) (hk : 0 ≤ k ∧ k < 15) : takeB t.s t.c t.n t.d = true := by
  obtain ⟨h1, h2, h3, h4⟩ := wr_ok h
  unfold wrB at h
  rw [if_neg (by omega)] at h
  unfold takeB
  rw [if_neg (by omega)]
  split at h
  · rename_i h0
    rw [if_pos h0]
    have := of_decide_eq_false h
    exact decide_eq_true (by omega)
  · rename_i h0
    rw [if_neg h0]
    exact decide_eq_true (by omega)
structure TkSeq (ts : List Tk) : Prop where
  len : ts.length < 16
  ok : ∀ k, k < ts.length → OkT (gt ts k) ∧ (gt ts k).s = k + 1
theorem WkOk.seq {l : List Nm} {ts : List Tk} (h : WkOk l ts) : TkSeq ts where
  len := h.len
  ok := fun k hk => by
    have hw := h.wr k hk
    have hl := h.len
    exact ⟨wr_take hw (cvB_ok h.cv).l6 (by omega), (wr_ok hw).1⟩
theorem TkSeq.take {ts : List Tk} (h : TkSeq ts) (n : Nat) : TkSeq (ts.take n) where
  len := by have := h.len; simp; omega
  ok := fun k hk => by simp at hk; rw [gt_take (by omega)]; exact h.ok k (by omega)
theorem tkR_ok {t : Tk} (h : OkT t) (hs : 1 ≤ t.s ∧ t.s < 16) : (tkR t).ok = true := by
  unfold Rcd.ok tkR
  simp only []
  rw [if_neg (by omega), if_neg (by decide), if_neg (by decide), if_pos trivial]
  unfold OkT at h
  rw [h]
  simp
theorem TkSeq.all {ts : List Tk} (h : TkSeq ts) : allOk (tkRs ts) = true := allOk_of fun j hj => by
  rw [tkRs_len] at hj
  rw [gR_tk hj]
  obtain ⟨h1, h2⟩ := h.ok j hj
  have := h.len
  exact tkR_ok h1 (by omega)
theorem tk_frame (t : Tk) : (frameN (tkR t)).length = 10 := by
  unfold frameN
  rw [sealN_length]
  rfl
theorem tk_frames (ts : List Tk) : (framesN (tkRs ts)).length = 10 * ts.length := by
  induction ts with
  | nil => rfl
  | cons t ts ih =>
    have e : (framesN (tkRs (t :: ts))).length = (frameN (tkR t)).length + (framesN (tkRs ts)).length := by simp [framesN,tkRs]
    rw [e, tk_frame, ih, List.length_cons]
    omega
theorem tkRs_take (ts : List Tk) (k : Nat) : (tkRs ts).take k = tkRs (ts.take k) := by unfold tkRs; rw [List.map_take]
theorem lrn_end {l : List Tk} {x : Tk} (h : ∀ j, j < l.length → (gt l j).s < x.s) : lrn l x = l ++ [x] := by
  have e : low l x.s = l.length := low_eq (Nat.le_refl _) h fun j h1 h2 => by omega
  unfold lrn ins
  rw [e, List.take_length, List.drop_length]
theorem TkSeq.val {ts : List Tk} (h : TkSeq ts) : Val ts := ⟨fun i hi => (h.ok i hi).1, fun i hi => by
  have h1 := (h.ok i (by omega)).2
  have h2 := (h.ok (i + 1) hi).2
  rw [h1, h2]; omega⟩
theorem TkSeq.mem {ts : List Tk} (h : TkSeq ts) : MemOk ⟨[], ts⟩ where
  len := by simp
  acc i := mem0_ok.acc i
  log := h.val
  last h := absurd rfl h
theorem run_tk {ts : List Tk} (h : TkSeq ts) : ∀ m i,m + i = ts.length → runM ((tkRs ts).drop i) ⟨[],ts.take i⟩ = (⟨[],ts⟩,0)
  | 0, i, hi => by
    rw [List.drop_of_length_le (by rw [tkRs_len]; omega), List.take_of_length_le (by omega)]
    rfl
  | m + 1, i, hi => by
    have hlt : i < ts.length := by omega
    obtain ⟨ho, hsi⟩ := h.ok i hlt
    have hlen := h.len
    have hro := tkR_ok ho (by omega)
    rw [runM_drop (by rw [tkRs_len]; exact hlt), gR_tk hlt]
    have hm := (h.take i).mem
    have hlow : ∀ j, j < (ts.take i).length → (gt (ts.take i) j).s < (gt ts i).s := fun j hj => by
      simp at hj
      rw [gt_take (by omega), (h.ok j (by omega)).2, hsi]
      omega
    have hnk : ¬ knows (ts.take i) (gt ts i).s := fun hk => by
      have := hlow _ hk.1
      rw [hk.2] at this
      omega
    obtain ⟨_, _, h3⟩ := doR_3 hm hro rfl
    rcases h3 with ⟨hk, _⟩ | ⟨hk, _⟩ | ⟨_, e⟩
    · exact absurd hk hnk
    · exact absurd hk hnk
    · rw [e, if_pos rfl]
      have e2 : lrn (ts.take i) (tkR (gt ts i)).x = ts.take (i + 1) := by
        rw [take_gt hlt]
        exact lrn_end hlow
      simp only [e2]
      exact run_tk h m (i + 1) (by omega)
theorem fold_tk {ts : List Tk} (h : TkSeq ts) : foldR (tkRs ts) = (⟨[], ts⟩, 0) := by
  unfold foldR
  rw [if_pos ⟨by rw [tkRs_len]; have := h.len; omega, h.all⟩]
  have := run_tk h ts.length 0 (by omega)
  simpa using this
def keepN (n k keep : Nat) : Nat := k + min (keep / 10) (n - k)
theorem recover_tk {ts : List Tk} (h : TkSeq ts) {k : Nat} (hk : k ≤ ts.length) (keep : Nat) :
    ∃ d,recoverR ⟨(framesN (tkRs ts)).take (10 * k + min keep (10 * ts.length - 10 * k)),((10 * k + min keep (10 * ts.length - 10 * k) : Nat) : Int)⟩ = (tkRs (ts.take (keepN ts.length k keep)),d,0) := by
  have hlen := h.len
  generalize hn : 10 * k + min keep (10 * ts.length - 10 * k) = n
  obtain ⟨k', g1, g2, g3, g4⟩ := wholeN_cut h.all n
  rw [tkRs_len] at g1 g4
  rw [tkRs_take, tk_frames] at g3
  rw [tkRs_take, tk_frames] at g4
  simp only [List.length_take] at g3 g4
  have hkk : k' = keepN ts.length k keep := by
    unfold keepN
    by_cases h : k' < ts.length
    · have := g4 h; omega
    · omega
  have hso : soundB ⟨(framesN (tkRs ts)).take n,(n : Nat)⟩ = true := by unfold soundB;simp only [Bool.and_eq_true,decide_eq_true_eq,List.length_take,tk_frames];omega
  unfold recoverR
  rw [if_pos hso]
  simp only [g2]
  rw [if_neg (by rw [tkRs_take, tkRs_len]; simp; omega), tkRs_take, hkk]
  exact ⟨_, rfl⟩
end Go.Proofs.YtngfnogoicfmaaaGreatDoor
namespace Go.Proofs.YtngfnogoicfmaaaGreatDoor
open Go.Ab
def syT (c i : Nat) : Nat := if c < i then 10 * c else 0
theorem syT_s (c i : Nat) : syT c (i + 1) = if c = i then 10 * i else syT c i := by
  unfold syT
  by_cases h : c = i
  · rw [if_pos (by omega), if_pos h, h]
  · rw [if_neg h]
    by_cases h2 : c < i
    · rw [if_pos (by omega), if_pos h2]
    · rw [if_neg (by omega), if_neg h2]
set_option maxRecDepth 100000 in
set_option maxHeartbeats 8000000 in
theorem log_raw (ts : List Tk) (c keep : Nat) (h : TkSeq ts) (hc : c ≤ ts.length) : TC Tryz.prog 7 [tks ts,.imm (.int .i64 (c : Int)),.imm (.int .i64 (keep : Int))] []
    (fun v σ' => ∃ k,v = .tup [.own k 0 (keepN ts.length c keep) none,.imm (.bool true)] ∧ nthO σ' k = .arr 47 4 (keepN ts.length c keep) (tkE (ts.take (keepN ts.length c keep)))) := by
  have hlen := h.len
  (refine TC_of_T Γ_ok Tryz.func7 rfl (by kernel_rfl) ?_;simp only [Tryz.ntmps7,Tryz.results7,List.length_cons,List.length_nil,Nat.reduceSub,Nat.reduceAdd,List.replicate,List.cons_append,List.nil_append])
  (((refine goR0 _ _ _ _ _ _ _ _ ?_ ?_ ?_ ?_ ?_ ?_ ?_ ?_) <;> (repeat intro hb) <;> first | exact True.intro | refine Lf.mk ?_))
  refine T_loopW (fun m st => ∃ (i : Nat), i ≤ ts.length + 1 ∧ m + i = ts.length + 1 ∧
      st = ⟨[tks ts,.imm (.int .i64 (c : Int)),.imm (.int .i64 (keep : Int)),.top,.top,.top,.imm (.slice none 0 0),.imm (.bool false),.optr 0 0 0,.imm (.int .i64 i)] ++ List.replicate 79 .top,
        [.box 68 [.own 1 0 (framesN (tkRs (ts.take i))).length none,.imm (.int .i64 (syT c i : Nat))],byO (framesN (tkRs (ts.take i)))]⟩)
    (ts.length + 1) ⟨_, Wk.trans (Wk.push 5 1 (byE [])) ?_, 0, by omega, rfl, rfl⟩ ?_
  · have e0 : syT c 0 = 0 := by unfold syT; rw [if_neg (by omega)]
    rw [e0]
    ((try simp only [List.length_append,List.length_cons,List.length_nil,Nat.zero_add]);refine Wk.intro [0,1] (by decide) (by decide) (by intro o ho;simp at ho ⊢ <;> omega) ?_ ?_ <;> repeat' (first|exact WkVL.nil|refine WkVL.cons ?_ ?_|exact WkV.top|exact WkV.imm rfl|exact WkV.imm (by simp)|exact WkV.optr rfl|exact WkV.own rfl (by simp)|exact WkV.nil_own (.inl rfl)|exact WkV.map rfl|(refine WkV.free ?_;simp [Free,FreeL] <;> assumption)|(refine WkV.free (fun _ _=>FreeL_nth ?_ _);simp [Free,FreeL];done)|refine WkV.agg ?_|refine WkV.tup ?_|refine WkV.fn ?_ ?_|exact WkO.dead|exact WkO.raw|refine WkO.ghost ?_|exact WkO.mpE rfl trivial|refine WkO.box ?_ rfl|refine WkO.arr ?_|refine And.intro ?_ (And.intro (by first|exact fun h=>h|exact fun _=>rfl|exact nofun) ?_)|exact trivial|(intro i j hi hj)))
  rintro m st ⟨i, h1, h2, rfl⟩
  (simp only [go_sem,↓reduceIte,Nat.reduceAdd,Nat.reduceSub,Nat.reduceMul,Nat.reduceLT,Nat.reduceLeDiff,Nat.reduceEqDiff,Nat.reduceGT,Int.reduceToNat,Int.reduceBEq,Int.reduceBNe];try simp (disch := omega) only [wrapI,wrapU,half_sum,toNat_sub1,toNat_add1,Int.toNat_natCast])
  have hot := (h.take i).all
  have hbt := framesN_ok hot
  have hfl := tk_frames (ts.take i)
  have htl : (ts.take i).length ≤ 15 := by simp; omega
  have hss := syT_s c i
  by_cases hle : i ≤ ts.length
  · have hti : (ts.take i).length = i := by simp; omega
    have hsy : syT c i ≤ 10 * i := by unfold syT; split <;> omega
    have hsn : soundB ⟨framesN (tkRs (ts.take i)),(syT c i : Nat)⟩ = true := by unfold soundB;simp only [Bool.and_eq_true,decide_eq_true_eq];omega
    have hsync := sync_tc ⟨framesN (tkRs (ts.take i)), (syT c i : Nat)⟩ (by simp only []; omega)
    rw [sync_frames hsn] at hsync
    by_cases hlt : i < ts.length
    · obtain ⟨ho, hsi⟩ := h.ok i hlt
      have hro := tkR_ok ho (by omega)
      have hst : framesN (tkRs (ts.take (i + 1))) = framesN (tkRs (ts.take i)) ++ frameN (tkR (gt ts i)) := by
        have := frames_step (l := tkRs ts) (i := i) (by rw [tkRs_len]; exact hlt)
        rw [tkRs_take, tkRs_take, gR_tk hlt] at this
        exact this
      by_cases hci : c = i
      · rw [if_pos hci] at hss
        have hap := append_tc ⟨framesN (tkRs (ts.take i)),((framesN (tkRs (ts.take i))).length : Nat)⟩ (tkR (gt ts i)) hbt (by simp only [];omega)
        rw [append_step hot hro (by rw [tkRs_len]; omega) (by omega), ← hst] at hap
        simp only [rcA, rcL, tkR] at hap
        have hcb : ((i : Int) == (c : Int)) = true := by rw [hci]; exact beq_self_eq_true _
        rw [show 10 * i = (framesN (tkRs (ts.take i))).length by rw [hfl, hti]] at hss
        generalize hA : framesN (tkRs (ts.take (i + 1))) = B' at *
        generalize framesN (tkRs (ts.take i)) = B at *
        (have cm1 := hsync;have cm2 := hap;have sx1 := hcb;have sx2 : (0 : Nat) + 0 = 0 := rfl;repeat' (first|with_reducible refine T_seq_drawT (id := 11) Γ_ok drawsAny pl7_11 (by kernel_rfl) (fun K hK=>?_)|with_reducible refine T_last_drawT (id := 11) Γ_ok drawsAny pl7_11 (by kernel_rfl) (fun K hK=>?_)|((have sx3 : (0 : Nat) + 0 = 0 := rfl;have sx4 : (0 : Nat) + 0 = 0 := rfl;have sx5 : (0 : Nat) + 0 = 0 := rfl;have sx6 : (0 : Nat) + 0 = 0 := rfl;have sx7 : (0 : Nat) + 0 = 0 := rfl;have sx8 : (0 : Nat) + 0 = 0 := rfl;have sx9 : (0 : Nat) + 0 = 0 := rfl;refine goR9 _ _ _ _ _ _ _ _ ?_ ?_ ?_ ?_ ?_ ?_ ?_ ?_) <;> (repeat intro hb) <;> first|exact True.intro|refine Lf.mk ?_)))
        all_goals refine ⟨ts.length + 1 - (i + 1), by omega, _, ?_, i + 1, by omega, by omega, rfl⟩
        all_goals rw [hA, hss]
        · ((try simp only [List.length_append,List.length_cons,List.length_nil,Nat.zero_add]);refine Wk.intro [0,4] (by decide) (by decide) (by intro o ho;simp at ho ⊢ <;> omega) ?_ ?_ <;> repeat' (first|exact WkVL.nil|refine WkVL.cons ?_ ?_|exact WkV.top|exact WkV.imm rfl|exact WkV.imm (by simp)|exact WkV.optr rfl|exact WkV.own rfl (by simp)|exact WkV.nil_own (.inl rfl)|exact WkV.map rfl|(refine WkV.free ?_;simp [Free,FreeL] <;> assumption)|(refine WkV.free (fun _ _=>FreeL_nth ?_ _);simp [Free,FreeL];done)|refine WkV.agg ?_|refine WkV.tup ?_|refine WkV.fn ?_ ?_|exact WkO.dead|exact WkO.raw|refine WkO.ghost ?_|exact WkO.mpE rfl trivial|refine WkO.box ?_ rfl|refine WkO.arr ?_|refine And.intro ?_ (And.intro (by first|exact fun h=>h|exact fun _=>rfl|exact nofun) ?_)|exact trivial|(intro i j hi hj)))
        · ((try simp only [List.length_append,List.length_cons,List.length_nil,Nat.zero_add]);refine Wk.intro [0,5] (by decide) (by decide) (by intro o ho;simp at ho ⊢ <;> omega) ?_ ?_ <;> repeat' (first|exact WkVL.nil|refine WkVL.cons ?_ ?_|exact WkV.top|exact WkV.imm rfl|exact WkV.imm (by simp)|exact WkV.optr rfl|exact WkV.own rfl (by simp)|exact WkV.nil_own (.inl rfl)|exact WkV.map rfl|(refine WkV.free ?_;simp [Free,FreeL] <;> assumption)|(refine WkV.free (fun _ _=>FreeL_nth ?_ _);simp [Free,FreeL];done)|refine WkV.agg ?_|refine WkV.tup ?_|refine WkV.fn ?_ ?_|exact WkO.dead|exact WkO.raw|refine WkO.ghost ?_|exact WkO.mpE rfl trivial|refine WkO.box ?_ rfl|refine WkO.arr ?_|refine And.intro ?_ (And.intro (by first|exact fun h=>h|exact fun _=>rfl|exact nofun) ?_)|exact trivial|(intro i j hi hj)))
      · rw [if_neg hci] at hss
        have hcb : ((i : Int) == (c : Int)) = false := by rw [beq_eq_false_iff_ne]; omega
        have hap := append_tc ⟨framesN (tkRs (ts.take i)), (syT c i : Nat)⟩ (tkR (gt ts i)) hbt (by simp only []; omega)
        rw [append_step hot hro (by rw [tkRs_len]; omega) (by omega), ← hst] at hap
        simp only [rcA, rcL, tkR] at hap
        generalize hA : framesN (tkRs (ts.take (i + 1))) = B' at *
        generalize framesN (tkRs (ts.take i)) = B at *
        generalize syT c i = s at *
        (have cm1 := hap;have sx1 := hcb;have sx2 : (0 : Nat) + 0 = 0 := rfl;repeat' (first|with_reducible refine T_seq_drawT (id := 11) Γ_ok drawsAny pl7_11 (by kernel_rfl) (fun K hK=>?_)|with_reducible refine T_last_drawT (id := 11) Γ_ok drawsAny pl7_11 (by kernel_rfl) (fun K hK=>?_)|((have sx3 : (0 : Nat) + 0 = 0 := rfl;have sx4 : (0 : Nat) + 0 = 0 := rfl;have sx5 : (0 : Nat) + 0 = 0 := rfl;have sx6 : (0 : Nat) + 0 = 0 := rfl;have sx7 : (0 : Nat) + 0 = 0 := rfl;have sx8 : (0 : Nat) + 0 = 0 := rfl;have sx9 : (0 : Nat) + 0 = 0 := rfl;refine goR9 _ _ _ _ _ _ _ _ ?_ ?_ ?_ ?_ ?_ ?_ ?_ ?_) <;> (repeat intro hb) <;> first|exact True.intro|refine Lf.mk ?_)))
        all_goals refine ⟨ts.length + 1 - (i + 1), by omega, _, ?_, i + 1, by omega, by omega, rfl⟩
        all_goals rw [hA, hss]
        · ((try simp only [List.length_append,List.length_cons,List.length_nil,Nat.zero_add]);refine Wk.intro [0,2] (by decide) (by decide) (by intro o ho;simp at ho ⊢ <;> omega) ?_ ?_ <;> repeat' (first|exact WkVL.nil|refine WkVL.cons ?_ ?_|exact WkV.top|exact WkV.imm rfl|exact WkV.imm (by simp)|exact WkV.optr rfl|exact WkV.own rfl (by simp)|exact WkV.nil_own (.inl rfl)|exact WkV.map rfl|(refine WkV.free ?_;simp [Free,FreeL] <;> assumption)|(refine WkV.free (fun _ _=>FreeL_nth ?_ _);simp [Free,FreeL];done)|refine WkV.agg ?_|refine WkV.tup ?_|refine WkV.fn ?_ ?_|exact WkO.dead|exact WkO.raw|refine WkO.ghost ?_|exact WkO.mpE rfl trivial|refine WkO.box ?_ rfl|refine WkO.arr ?_|refine And.intro ?_ (And.intro (by first|exact fun h=>h|exact fun _=>rfl|exact nofun) ?_)|exact trivial|(intro i j hi hj)))
        · ((try simp only [List.length_append,List.length_cons,List.length_nil,Nat.zero_add]);refine Wk.intro [0,3] (by decide) (by decide) (by intro o ho;simp at ho ⊢ <;> omega) ?_ ?_ <;> repeat' (first|exact WkVL.nil|refine WkVL.cons ?_ ?_|exact WkV.top|exact WkV.imm rfl|exact WkV.imm (by simp)|exact WkV.optr rfl|exact WkV.own rfl (by simp)|exact WkV.nil_own (.inl rfl)|exact WkV.map rfl|(refine WkV.free ?_;simp [Free,FreeL] <;> assumption)|(refine WkV.free (fun _ _=>FreeL_nth ?_ _);simp [Free,FreeL];done)|refine WkV.agg ?_|refine WkV.tup ?_|refine WkV.fn ?_ ?_|exact WkO.dead|exact WkO.raw|refine WkO.ghost ?_|exact WkO.mpE rfl trivial|refine WkO.box ?_ rfl|refine WkO.arr ?_|refine And.intro ?_ (And.intro (by first|exact fun h=>h|exact fun _=>rfl|exact nofun) ?_)|exact trivial|(intro i j hi hj)))
    · have hA : ts.take (i + 1) = ts.take i := by rw [List.take_of_length_le (by omega),List.take_of_length_le (by omega)]
      by_cases hci : c = i
      · rw [if_pos hci] at hss
        have hcb : ((i : Int) == (c : Int)) = true := by rw [hci]; exact beq_self_eq_true _
        rw [show 10 * i = (framesN (tkRs (ts.take i))).length by rw [hfl, hti]] at hss
        generalize hB : framesN (tkRs (ts.take i)) = B at *
        (have cm1 := hsync;have sx1 := hcb;have sx2 : (0 : Nat) + 0 = 0 := rfl;repeat' (first|with_reducible refine T_seq_drawT (id := 11) Γ_ok drawsAny pl7_11 (by kernel_rfl) (fun K hK=>?_)|with_reducible refine T_last_drawT (id := 11) Γ_ok drawsAny pl7_11 (by kernel_rfl) (fun K hK=>?_)|((have sx3 : (0 : Nat) + 0 = 0 := rfl;have sx4 : (0 : Nat) + 0 = 0 := rfl;have sx5 : (0 : Nat) + 0 = 0 := rfl;have sx6 : (0 : Nat) + 0 = 0 := rfl;have sx7 : (0 : Nat) + 0 = 0 := rfl;have sx8 : (0 : Nat) + 0 = 0 := rfl;have sx9 : (0 : Nat) + 0 = 0 := rfl;refine goR9 _ _ _ _ _ _ _ _ ?_ ?_ ?_ ?_ ?_ ?_ ?_ ?_) <;> (repeat intro hb) <;> first|exact True.intro|refine Lf.mk ?_)))
        all_goals refine ⟨ts.length + 1 - (i + 1), by omega, _, ?_, i + 1, by omega, by omega, rfl⟩
        all_goals rw [hA, hB, hss]
        all_goals ((try simp only [List.length_append,List.length_cons,List.length_nil,Nat.zero_add]);refine Wk.intro [0,2] (by decide) (by decide) (by intro o ho;simp at ho ⊢ <;> omega) ?_ ?_ <;> repeat' (first|exact WkVL.nil|refine WkVL.cons ?_ ?_|exact WkV.top|exact WkV.imm rfl|exact WkV.imm (by simp)|exact WkV.optr rfl|exact WkV.own rfl (by simp)|exact WkV.nil_own (.inl rfl)|exact WkV.map rfl|(refine WkV.free ?_;simp [Free,FreeL] <;> assumption)|(refine WkV.free (fun _ _=>FreeL_nth ?_ _);simp [Free,FreeL];done)|refine WkV.agg ?_|refine WkV.tup ?_|refine WkV.fn ?_ ?_|exact WkO.dead|exact WkO.raw|refine WkO.ghost ?_|exact WkO.mpE rfl trivial|refine WkO.box ?_ rfl|refine WkO.arr ?_|refine And.intro ?_ (And.intro (by first|exact fun h=>h|exact fun _=>rfl|exact nofun) ?_)|exact trivial|(intro i j hi hj)))
      · rw [if_neg hci] at hss
        have hcb : ((i : Int) == (c : Int)) = false := by rw [beq_eq_false_iff_ne]; omega
        generalize syT c i = s at *
        (have sx1 := hcb;have sx2 : (0 : Nat) + 0 = 0 := rfl;repeat' (first|with_reducible refine T_seq_drawT (id := 11) Γ_ok drawsAny pl7_11 (by kernel_rfl) (fun K hK=>?_)|with_reducible refine T_last_drawT (id := 11) Γ_ok drawsAny pl7_11 (by kernel_rfl) (fun K hK=>?_)|((have sx3 : (0 : Nat) + 0 = 0 := rfl;have sx4 : (0 : Nat) + 0 = 0 := rfl;have sx5 : (0 : Nat) + 0 = 0 := rfl;have sx6 : (0 : Nat) + 0 = 0 := rfl;have sx7 : (0 : Nat) + 0 = 0 := rfl;have sx8 : (0 : Nat) + 0 = 0 := rfl;have sx9 : (0 : Nat) + 0 = 0 := rfl;refine goR9 _ _ _ _ _ _ _ _ ?_ ?_ ?_ ?_ ?_ ?_ ?_ ?_) <;> (repeat intro hb) <;> first|exact True.intro|refine Lf.mk ?_)))
        all_goals refine ⟨ts.length + 1 - (i + 1), by omega, _, ?_, i + 1, by omega, by omega, rfl⟩
        all_goals rw [hA, hss]
        ((try simp only [List.length_append,List.length_cons,List.length_nil,Nat.zero_add]);refine Wk.intro [0,1] (by decide) (by decide) (by intro o ho;simp at ho ⊢ <;> omega) ?_ ?_ <;> repeat' (first|exact WkVL.nil|refine WkVL.cons ?_ ?_|exact WkV.top|exact WkV.imm rfl|exact WkV.imm (by simp)|exact WkV.optr rfl|exact WkV.own rfl (by simp)|exact WkV.nil_own (.inl rfl)|exact WkV.map rfl|(refine WkV.free ?_;simp [Free,FreeL] <;> assumption)|(refine WkV.free (fun _ _=>FreeL_nth ?_ _);simp [Free,FreeL];done)|refine WkV.agg ?_|refine WkV.tup ?_|refine WkV.fn ?_ ?_|exact WkO.dead|exact WkO.raw|refine WkO.ghost ?_|exact WkO.mpE rfl trivial|refine WkO.box ?_ rfl|refine WkO.arr ?_|refine And.intro ?_ (And.intro (by first|exact fun h=>h|exact fun _=>rfl|exact nofun) ?_)|exact trivial|(intro i j hi hj)))
  · have hi : i = ts.length + 1 := by omega
    have e1 : ts.take i = ts := List.take_of_length_le (by omega)
    have hall := h.all
    have hF := tk_frames ts
    have hso : soundB ⟨framesN (tkRs ts),((10 * c : Nat) : Int)⟩ = true := by unfold soundB;simp only [Bool.and_eq_true,decide_eq_true_eq];omega
    have hcr := crash_tc ⟨framesN (tkRs ts), ((10 * c : Nat) : Int)⟩ keep (by simp only []; omega)
    have ecr : crashR ⟨framesN (tkRs ts),((10 * c : Nat) : Int)⟩ keep = (⟨(framesN (tkRs ts)).take (10 * c + min keep (10 * ts.length - 10 * c)),(10 * c + min keep (10 * ts.length - 10 * c) : Nat)⟩,0) := by
      unfold crashR; rw [if_pos ⟨hso, by omega⟩]; simp only [Int.toNat_natCast, hF]
    rw [ecr] at hcr
    obtain ⟨d, hrc⟩ := recover_tk h hc keep
    have hre := recover_tc ⟨(framesN (tkRs ts)).take (10 * c + min keep (10 * ts.length - 10 * c)),((10 * c + min keep (10 * ts.length - 10 * c) : Nat) : Int)⟩ ((framesN_ok hall).take _) (by simp;omega)
    rw [hrc] at hre
    have hKs := h.take (keepN ts.length c keep)
    have hfo := fold_tc (tkRs (ts.take (keepN ts.length c keep))) (by rw [tkRs_len]; have := hKs.len; omega)
    rw [fold_tk hKs] at hfo
    have hKl : (ts.take (keepN ts.length c keep)).length = keepN ts.length c keep := by unfold keepN; simp; omega
    have esy : syT c (ts.length + 1) = 10 * c := by unfold syT; rw [if_pos (by omega)]
    rw [e1, hi, esy]
    generalize (framesN (tkRs ts)).take (10 * c + min keep (10 * ts.length - 10 * c)) = C at *
    generalize 10 * c + min keep (10 * ts.length - 10 * c) = N at *
    generalize framesN (tkRs ts) = F at *
    (have cm1 := hcr;have cm2 := hre;have cm3 := hfo;repeat' (first|with_reducible refine T_seq_drawT (id := 11) Γ_ok drawsAny pl7_11 (by kernel_rfl) (fun K hK=>?_)|with_reducible refine T_last_drawT (id := 11) Γ_ok drawsAny pl7_11 (by kernel_rfl) (fun K hK=>?_)|((refine goR0 _ _ _ _ _ _ _ _ ?_ ?_ ?_ ?_ ?_ ?_ ?_ ?_) <;> (repeat intro hb) <;> first|exact True.intro|refine Lf.mk ?_)))
    rw [hKl]
    exact ⟨8, rfl, rfl⟩
theorem log_tc (ts : List Tk) (c keep : Nat) (h : TkSeq ts) (hc : c ≤ ts.length) : Makes Tryz.prog 7 [tks ts,.imm (.int .i64 (c : Int)),.imm (.int .i64 (keep : Int))] (.tup [.own 0 0 (keepN ts.length c keep) none,.imm (.bool true)]) [.arr 47 4 (keepN ts.length c keep) (tkE (ts.take (keepN ts.length c keep)))] :=
  Makes.gen [] (by simp [VF,VFL]) (fun a h => by simp only [List.mem_singleton] at h;subst h;exact tkE_pl _) ((log_raw ts c keep h hc).mono fun v σ' ⟨k,hv,hs⟩ => by
    refine ⟨[k], by simp, fun o ho => ?_, ?_, ?_⟩
    · simp only [List.mem_singleton] at ho
      subst ho
      simpa using nthO_lt2 (by simp) hs
    · rw [hv]; exact WkV.tup (WkVL.cons (WkV.own rfl (by simp)) (WkVL.cons (WkV.imm rfl) WkVL.nil))
    · simp only [List.map_nil, List.append_nil]
      refine ⟨?_, fun _ => by rw [hs]; rfl, trivial⟩
      rw [hs]
      exact WkO.arr fun i j _ _ => WkV.free (by simp))
end Go.Proofs.YtngfnogoicfmaaaGreatDoor
