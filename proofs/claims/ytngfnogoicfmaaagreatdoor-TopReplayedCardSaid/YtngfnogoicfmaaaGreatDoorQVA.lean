/-
  Parts joined: T22 T23.
-/
import Derived.Test.YtngfnogoicfmaaaGreatDoorQGo
import Derived.Test.YtngfnogoicfmaaaGreatDoorQV7
import Derived.Test.YtngfnogoicfmaaaGreatDoorQV9
set_option linter.unusedSimpArgs false
set_option linter.unusedVariables false
namespace Go.Proofs.YtngfnogoicfmaaaGreatDoor
open Go.Ab
def synL : List UInt8 := [115, 121, 110, 116, 111, 110, 105, 99]
@[go_sem] theorem syn_lit : (⟨#[115, 121, 110, 116, 111, 110, 105, 99]⟩ : ByteArray) = sB synL := rfl
def nmH : List Nm := [⟨synL, ⟨-4, 4, -1, 0, 0, 0⟩⟩]
def tsH : List Tk := [⟨1, 0, 1, 0⟩, ⟨2, 0, 1, 1⟩]
theorem wkH : (wkR nmH tsH).2 = 0 := by decide +kernel
theorem inH : WkIn nmH tsH := wk_in wkH
theorem seqH : TkSeq tsH := inH.toWkOk.seq
theorem logH1 : Makes Tryz.prog 7 [tks tsH,.imm (.int .i64 1),.imm (.int .i64 9)] (.tup [.own 0 0 1 none,.imm (.bool true)]) [.arr 47 4 1 (tkE (tsH.take 1))] := log_tc tsH 1 9 seqH (by decide)
theorem logH2 : Makes Tryz.prog 7 [tks tsH,.imm (.int .i64 1),.imm (.int .i64 10)] (.tup [.own 0 0 2 none,.imm (.bool true)]) [.arr 47 4 2 (tkE tsH)] := log_tc tsH 1 10 seqH (by decide)
theorem distH : Look Tryz.prog 10 [nmV nmH,.view 2 4 (tkE tsH),.imm (.int .i64 2)] (.tup [.agg [.imm (.int .i64 (-8)),.imm (.int .i64 8),.imm (.int .i64 (-2)),.imm (.int .i64 0),.imm (.int .i64 0),.imm (.int .i64 0)],.imm (.int .i64 0)]) := by
  have h := distance_tc nmH tsH 2 inH (by decide)
  have e : shfK nmH tsH 2 = ⟨-8, 8, -2, 0, 0, 0⟩ := by decide +kernel
  rw [e] at h
  exact h
theorem sameH1 : Look Tryz.prog 8 [.view 1 4 (tkE (tsH.take 1)), .view 1 4 (tkE (tsH.take 1))] (.imm (.bool true)) := by
  have h := sameT_tc (tsH.take 1) (tsH.take 1) (by decide) (by decide)
  rw [@decide_eq_true _ (_) rfl] at h
  exact h
theorem sameH2 : Look Tryz.prog 8 [.view 2 4 (tkE tsH), .view 2 4 (tkE tsH)] (.imm (.bool true)) := by
  have h := sameT_tc tsH tsH (by decide) (by decide)
  rw [@decide_eq_true _ (_) rfl] at h
  exact h
set_option maxRecDepth 100000 in
set_option maxHeartbeats 4000000 in
theorem head_tc : Look Tryz.prog 4 [] (.imm (.bool true)) := by
  refine Look.mk trivial ?_
  have h1 := logH1
  have h2 := logH2
  have h3 := distH
  have h4 := sameH1
  have h5 := sameH2
  have hv1 : ∀ i j,i < 1 → j < 4 → nth [AV.imm (.int .i64 1),.imm (.int .i64 0),.imm (.int .i64 1),.imm (.int .i64 0),.imm (.int .i64 2),.imm (.int .i64 0),.imm (.int .i64 1),.imm (.int .i64 1)] (i * 4 + j) = tkE (tsH.take 1) i j := fun i j hi hj=>by
    obtain rfl : i = 0 := by omega
    rcases j with _ | _ | _ | _ | j <;> first | rfl | omega
  (refine TC_of_T Γ_ok Tryz.func4 rfl (by kernel_rfl) ?_;simp only [Tryz.ntmps4,Tryz.results4,List.length_cons,List.length_nil,Nat.reduceSub,Nat.reduceAdd,List.replicate,List.cons_append,List.nil_append])
  (have dm1 := h1;have dm2 := h2;have cl1 := h3;have dl1 := h4;have dl2 := h5;((refine goL0 _ _ _ _ _ _ _ _ ?_ ?_ ?_ ?_ ?_ ?_ ?_ ?_) <;> (repeat intro hb) <;> first|exact True.intro|refine Lf.mk ?_))
end Go.Proofs.YtngfnogoicfmaaaGreatDoor
namespace Go.Proofs.YtngfnogoicfmaaaGreatDoor
open Go.Ab
def suK (l : List Nm) (ts : List Tk) (d : Nat) (c : Nat) : Int := ((List.range d).map fun (i : Nat) => gI (acL l (filD (i : Int) ts)) c).foldl (· + ·) 0
theorem suK_s (l : List Nm) (ts : List Tk) (d c : Nat) : suK l ts (d + 1) c = suK l ts d c + gI (acL l (filD (d : Int) ts)) c := by
  unfold suK
  rw [List.range_succ, List.map_append, List.foldl_append]
  rfl
theorem acF_bd {l : List Nm} {ts : List Tk} (h : WkOk l ts) (d : Int) (c : Nat) : -15 ≤ gI (acL l (filD d ts)) c ∧ gI (acL l (filD d ts)) c ≤ 15 := by
  have h1 := (h.by d).acc_bd (filD d ts).length (by rw [rnL_len]; exact Nat.le_refl _) c
  rw [List.take_of_length_le (by rw [rnL_len]; exact Nat.le_refl _), rnL_ac] at h1
  exact h1
theorem suK_bd {l : List Nm} {ts : List Tk} (h : WkOk l ts) (c : Nat) : ∀ d : Nat,-(15 * (d : Int)) ≤ suK l ts d c ∧ suK l ts d c ≤ 15 * d
  | 0 => by simp [suK]
  | d + 1 => by
    have h1 := suK_bd h c d
    have h2 := acF_bd h (d : Int) c
    rw [suK_s]
    omega
theorem suK_end {l : List Nm} {ts : List Tk} (h : WkOk l ts) {c : Nat} (hc : c < l.length) : suK l ts 8 c = gI (acL l ts) c := by
  have hd : ∀ t ∈ ts, 0 ≤ t.d ∧ t.d < 8 := fun t ht => by
    obtain ⟨k, hk, rfl⟩ := List.getElem_of_mem ht
    have := (wr_ok (h.wr k hk)).2.2.1
    simpa [gt, hk] using this
  have h1 := desks_sum (α := Tk) (fun t => t.d.toNat) prT (n := l.length) (j := c) hc (d := 8) (ts := ts) fun t ht => by have := hd t ht;omega
  have e : ∀ i : Nat,filD (i : Int) ts = ts.filter fun t => decide (t.d.toNat = i) := fun i => List.filter_congr fun t ht => by
    have := hd t ht
    rw [Bool.eq_iff_iff]
    simp
    omega
  unfold suK
  have h2 : ((List.range 8).map fun (i : Nat) => gI (acL l (filD (i : Int) ts)) c) = (List.range 8).map fun i => gK (accK l.length ((ts.filter fun t => decide (t.d.toNat = i)).map prT)) c := by
    refine List.map_congr_left fun i _ => ?_
    rw [e i]
    rfl
  rw [h2, h1]
  rfl
def suE (l : List Nm) (ts : List Tk) (d k : Nat) (i _j : Nat) : AV := .imm (.int .i64 (if i < k then suK l ts (d + 1) i else suK l ts d i))
@[simp] theorem suE_free (l : List Nm) (ts : List Tk) (d k i j : Nat) : Free (suE l ts d k i j) := trivial
theorem suE_eq (l : List Nm) (ts : List Tk) (d k i j : Nat) : suE l ts d k i j = .imm (.int .i64 (if i < k then suK l ts (d + 1) i else suK l ts d i)) := rfl
theorem suE_upd (l : List Nm) (ts : List Tk) (d k i j : Nat) (hj : j < 1) : updE (suE l ts d k) k 0 [.imm (.int .i64 (suK l ts d k + gI (acL l (filD (d : Int) ts)) k))] i j = suE l ts d (k + 1) i j := by
  obtain rfl : j = 0 := by omega
  unfold updE suE
  by_cases h : i = k
  · subst h
    rw [if_pos ⟨rfl, by omega, by simp⟩, if_pos (by omega), suK_s]
    rfl
  · rw [if_neg (fun hh => h hh.1)]
    by_cases h2 : i < k
    · rw [if_pos h2, if_pos (by omega)]
    · rw [if_neg h2, if_neg (by omega)]
theorem suE_next (l : List Nm) (ts : List Tk) (d n i j : Nat) (h : i < n) : suE l ts d n i j = suE l ts (d + 1) 0 i j := by
  unfold suE
  rw [if_pos h, if_neg (by omega)]
theorem keepN_le {n k keep : Nat} (h : k ≤ n) : k ≤ keepN n k keep ∧ keepN n k keep ≤ n := by unfold keepN; omega
end Go.Proofs.YtngfnogoicfmaaaGreatDoor
