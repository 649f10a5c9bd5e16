/-
  The arguments of the laws as data.
-/
import Derived.Test.YthikkiacgmgdhaaQM25
import Derived.Test.YthikkiacgmgdhaaQA5
import Derived.Test.YthikkiacgmgdhaaRows
import Derived.ProofKit
set_option linter.unusedSimpArgs false
set_option linter.unusedVariables false
namespace Go.Proofs.Ythikkiacgmgdhaa
open Go.Ab

theorem Rv_view_imp {ρ : Rho} {w : World} {n esz : Nat} {e e2 : Nat → Nat → AV} (h : ∀ i j, i < n → j < esz → ∀ y, Rv ρ w (e i j) y → Rv ρ w (e2 i j) y) {x : Value} (hx : Rv ρ w (.view n esz e) x) : Rv ρ w (.view n esz e2) x := by
  simp only [Rv] at hx ⊢
  obtain ⟨a, cap, rfl, hl, hc⟩ := hx
  refine ⟨a, cap, rfl, hl, fun hp => ?_⟩
  obtain ⟨ad, rfl, h1, h2, h3⟩ := hc hp
  refine ⟨ad, rfl, h1, h2, fun i hi j hj => ?_⟩
  obtain ⟨y, a, b, c⟩ := h3 i hi j hj
  exact ⟨y, a, b, h i j hi hj y c⟩

def inD (n : Int) : Dat := .int .i64 n
def etD (x : En) : Dat := .strct [.strct [.int .i64 x.s, .int .i64 x.c, .int .i64 x.n, .int .i64 x.d], .int .i64 x.b, .slice 1 (x.v.map inD)]
def jrD (j : Jn) : Dat := .strct [.int .i64 j.d, .slice 6 (j.e.map etD)]
def EnOk (x : En) : Prop := x.v.length ≤ 9223372036854775807

theorem fits_int {D : Dat} (h : Fits Γ 3 D) : ∃ n, D = .int .i64 n := by
  cases D <;> simp [Fits, Γ_3] at h
  rename_i k n
  exact ⟨n, by rw [← h.1]⟩
theorem fits_ints_aux : ∀ {Ds : List Dat}, FitsA Γ 3 Ds → ∃ l : List Int, Ds = l.map inD
  | [], _ => ⟨[], rfl⟩
  | D :: Ds, h => by
    simp only [FitsA] at h
    obtain ⟨n, rfl⟩ := fits_int h.1
    obtain ⟨l, rfl⟩ := fits_ints_aux h.2
    exact ⟨n :: l, rfl⟩
theorem fits_ints {D : Dat} (h : Fits Γ 25 D) : ∃ l : List Int, l.length ≤ 9223372036854775807 ∧ D = .slice 1 (l.map inD) := by
  cases D <;> simp [Fits, Γ_25, Γ_3] at h
  rename_i z Ds
  obtain ⟨rfl, hl, h⟩ := h
  obtain ⟨l, rfl⟩ := fits_ints_aux h
  exact ⟨l, by simpa [maxLen] using hl, rfl⟩
theorem fits_take {D : Dat} (h : Fits Γ 24 D) : ∃ s c n d : Int, D = .strct [.int .i64 s, .int .i64 c, .int .i64 n, .int .i64 d] := by
  cases D <;> simp [Fits, Γ_24] at h
  rename_i fs
  match fs, h with
  | [a, b, c, d], h =>
    simp only [FitsL] at h
    obtain ⟨h1, h2, h3, h4, _⟩ := h
    obtain ⟨s, rfl⟩ := fits_int h1
    obtain ⟨c, rfl⟩ := fits_int h2
    obtain ⟨n, rfl⟩ := fits_int h3
    obtain ⟨d, rfl⟩ := fits_int h4
    exact ⟨s, c, n, d, rfl⟩
  | [], h => simp [FitsL] at h
  | [_], h => simp [FitsL] at h
  | [_, _], h => simp [FitsL] at h
  | [_, _, _], h => simp [FitsL] at h
  | _ :: _ :: _ :: _ :: _ :: _, h => simp [FitsL] at h
theorem fits_entry {D : Dat} (h : Fits Γ 27 D) : ∃ x : En, EnOk x ∧ D = etD x := by
  cases D <;> simp [Fits, Γ_27] at h
  rename_i fs
  match fs, h with
  | [a, b, c], h =>
    simp only [FitsL] at h
    obtain ⟨h1, h2, h3, _⟩ := h
    obtain ⟨s, c, n, d, rfl⟩ := fits_take h1
    obtain ⟨b, rfl⟩ := fits_int h2
    obtain ⟨l, hl, rfl⟩ := fits_ints h3
    exact ⟨⟨s, c, n, d, b, l⟩, hl, rfl⟩
  | [], h => simp [FitsL] at h
  | [_], h => simp [FitsL] at h
  | [_, _], h => simp [FitsL] at h
  | _ :: _ :: _ :: _ :: _, h => simp [FitsL] at h
theorem fits_entries_aux : ∀ {Ds : List Dat}, FitsA Γ 27 Ds → ∃ l : List En, (∀ x ∈ l, EnOk x) ∧ Ds = l.map etD
  | [], _ => ⟨[], (fun _ h => nomatch h), rfl⟩
  | D :: Ds, h => by
    simp only [FitsA] at h
    obtain ⟨x, hx, rfl⟩ := fits_entry h.1
    obtain ⟨l, hl, rfl⟩ := fits_entries_aux h.2
    exact ⟨x :: l, fun y hy => by rcases List.mem_cons.1 hy with rfl | hy; exact hx; exact hl y hy, rfl⟩
theorem fits_journal {D : Dat} (h : Fits Γ 31 D) : ∃ j : Jn, JnOk j ∧ D = jrD j := by
  cases D <;> simp [Fits, Γ_31] at h
  rename_i fs
  match fs, h with
  | [a, b], h =>
    simp only [FitsL] at h
    obtain ⟨h1, h2, _⟩ := h
    obtain ⟨d, rfl⟩ := fits_int h1
    cases b <;> simp [Fits, Γ_29, Γ_27] at h2
    rename_i z Ds
    obtain ⟨rfl, hl, h2⟩ := h2
    obtain ⟨l, hlx, rfl⟩ := fits_entries_aux h2
    exact ⟨⟨d, l⟩, jnOk_of (by simpa [maxLen] using hl) hlx, rfl⟩
  | [], h => simp [FitsL] at h
  | [_], h => simp [FitsL] at h
  | _ :: _ :: _ :: _, h => simp [FitsL] at h
theorem fits_journals_aux : ∀ {Ds : List Dat}, FitsA Γ 31 Ds → ∃ l : List Jn, (∀ j ∈ l, JnOk j) ∧ Ds = l.map jrD
  | [], _ => ⟨[], (fun _ h => nomatch h), rfl⟩
  | D :: Ds, h => by
    simp only [FitsA] at h
    obtain ⟨x, hx, rfl⟩ := fits_journal h.1
    obtain ⟨l, hl, rfl⟩ := fits_journals_aux h.2
    exact ⟨x :: l, fun y hy => by rcases List.mem_cons.1 hy with rfl | hy; exact hx; exact hl y hy, rfl⟩
theorem fits_journals {D : Dat} (h : Fits Γ 22 D) : ∃ l : List Jn, JsOk l ∧ D = .slice 2 (l.map jrD) := by
  cases D <;> simp [Fits, Γ_22, Γ_31] at h
  rename_i z Ds
  obtain ⟨rfl, hl, h⟩ := h
  obtain ⟨l, hlx, rfl⟩ := fits_journals_aux h
  exact ⟨l, jsOk_of (by simpa [maxLen] using hl) hlx, rfl⟩
theorem fits_u8 {D : Dat} (h : Fits Γ 5 D) : ∃ n : Nat, n < 256 ∧ D = .int .u8 n := by
  cases D <;> simp [Fits, Γ_5] at h
  rename_i k n
  obtain ⟨rfl, h⟩ := h
  have h2 : 0 ≤ n ∧ n ≤ 255 := by
    simp [Lit.wf, IntKind.min, IntKind.max, IntKind.bits, IntKind.signed] at h
    omega
  exact ⟨n.toNat, by omega, by rw [Int.toNat_of_nonneg h2.1]⟩

theorem ints_imp {l : List Int} {w : World} {x : Value} (h : Rv [] w (.view (l.map inD).length 1 (fun i j => nth (nthL (cellsLL (l.map inD)) i) j)) x) : Rv [] w (ints l) x := by
  rw [List.length_map] at h
  refine Rv_view_imp (fun i j hi hj y hy => ?_) h
  rw [cellsLL_get _ _ (by simpa using hi), List.getElem_map] at hy
  obtain rfl : j = 0 := by omega
  simpa [inD, Dat.cells, nth, inE, gi, hi] using hy
theorem etD_imp {x : En} {w : World} {xs : List Value} (h : RvL [] w (etD x).cells xs) : RvL [] w (enL x) xs := by
  simp only [etD, Dat.cells, cellsL, List.cons_append, List.nil_append, List.append_nil] at h
  match xs, h with
  | [a, b, c, d, e, f], h =>
    simp only [RvL, enL] at h ⊢
    exact ⟨h.1, h.2.1, h.2.2.1, h.2.2.2.1, h.2.2.2.2.1, ints_imp h.2.2.2.2.2.1, trivial⟩
  | [], h => simp [RvL] at h
  | [_], h => simp [RvL] at h
  | [_, _], h => simp [RvL] at h
  | [_, _, _], h => simp [RvL] at h
  | [_, _, _, _], h => simp [RvL] at h
  | [_, _, _, _, _], h => simp [RvL] at h
  | _ :: _ :: _ :: _ :: _ :: _ :: _ :: _, h => simp [RvL] at h
theorem ens_imp {l : List En} {w : World} {x : Value} (h : Rv [] w (.view (l.map etD).length 6 (fun i j => nth (nthL (cellsLL (l.map etD)) i) j)) x) : Rv [] w (ens l) x := by
  rw [List.length_map] at h
  refine Rv_view_imp (fun i j hi hj y hy => ?_) h
  rw [cellsLL_get _ _ (by simpa using hi), List.getElem_map] at hy
  have e : ge l i = l[i] := by simp [ge, hi]
  unfold enE
  rw [e]
  generalize l[i] = z at hy
  simp only [etD, Dat.cells, cellsL, List.cons_append, List.nil_append, List.append_nil] at hy
  rcases j with _ | _ | _ | _ | _ | _ | j
  · exact hy
  · exact hy
  · exact hy
  · exact hy
  · exact hy
  · exact ints_imp hy
  · omega
theorem jns_val {l : List Jn} {w : World} {x : Value} (h : Rv [] w (Dat.val false (.slice 2 (l.map jrD))) x) : Rv [] w (jns l) x := by
  simp only [Dat.val, Dat.cells, nth, Bool.false_eq_true, if_false] at h
  rw [List.length_map] at h
  refine Rv_view_imp (fun i j hi hj y hy => ?_) h
  rw [cellsLL_get _ _ (by simpa using hi), List.getElem_map] at hy
  have e : gj l i = l[i] := by simp [gj, hi]
  unfold jnE
  rw [e]
  generalize l[i] = z at hy
  simp only [jrD, Dat.cells, cellsL, List.cons_append, List.nil_append, List.append_nil] at hy
  rcases j with _ | _ | j
  · exact hy
  · exact ens_imp hy
  · omega
theorem en_val {x : En} {w : World} {v : Value} (h : Rv [] w (Dat.val true (etD x)) v) : Rv [] w (enA x) v := by
  simp only [Dat.val, if_true, Rv] at h ⊢
  obtain ⟨cs, rfl, h⟩ := h
  exact ⟨cs, rfl, etD_imp h⟩

theorem own : ownKnob Try.prog.godebug = none := by kernel_rfl
theorem laid : laidOutB Try.prog = true := by kernel_rfl
end Go.Proofs.Ythikkiacgmgdhaa
