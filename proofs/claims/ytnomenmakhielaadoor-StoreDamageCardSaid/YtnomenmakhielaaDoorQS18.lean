/-
  The reference's records: validity, frames.
-/
import Derived.Test.YtnomenmakhielaaDoorQGo
import Derived.Test.YtnomenmakhielaaDoorQS16
set_option linter.unusedSimpArgs false
set_option linter.unusedVariables false
namespace Go.Proofs.YtnomenmakhielaaDoor
open Go.Ab

set_option maxRecDepth 100000 in
set_option maxHeartbeats 400000 in
theorem rrec_tc (r : Rcd) : Look Tryd.prog 31 [rcA r] (.imm (.bool r.ok)) := by
  refine Look.mk trivial ?_
  obtain ⟨k, s, b, ⟨s', c, n, d⟩⟩ := r
  (refine TC_of_T Γ_ok Tryd.func31 rfl (by kernel_rfl) ?_; simp only [Tryd.ntmps31, Tryd.results31, List.length_cons, List.length_nil, Nat.reduceSub, Nat.reduceAdd, List.replicate, List.cons_append, List.nil_append])
  (have cl1 := fun u1 u2 u3 u4 => rtake_tc u1 u2 u3 u4; have cl2 := fun u1 => rballot_tc u1; ((refine goR0 _ _ _ _ _ _ _ _ ?_ ?_ ?_ ?_ ?_ ?_ ?_ ?_) <;> (repeat intro hb) <;> first | exact True.intro | refine Lf.mk ?_))
  all_goals (congr 2; unfold Rcd.ok; simp only [])
  · rw [if_pos (by omega)]
  · rw [if_neg (by omega), if_pos (by omega)]
    simp [balB]
  · rw [if_neg (by omega), if_neg (by omega), if_pos (by omega)]
    simp [balB, Bool.and_assoc]
  · rw [if_neg (by omega), if_neg (by omega), if_neg (by omega)]
    by_cases h3 : k = 3 <;> simp [h3, Bool.and_assoc]
theorem rrec_e (k s b s' c n d : Int) : Look Tryd.prog 31 [.agg [.imm (.int .i64 k), .imm (.int .i64 s), .imm (.int .i64 b), .imm (.int .i64 s'), .imm (.int .i64 c), .imm (.int .i64 n), .imm (.int .i64 d)]] (.imm (.bool (Rcd.ok ⟨k, s, b, ⟨s', c, n, d⟩⟩))) := rrec_tc ⟨k, s, b, ⟨s', c, n, d⟩⟩

@[go_sem] theorem wr8k5 : IntKind.u8.wrap 5 = 5 := rfl
@[go_sem] theorem wr8k8 : IntKind.u8.wrap 8 = 8 := rfl
theorem ctF {q : List Nat} {n : Nat} (hn : n = q.length) {f : Nat → Nat → AV} {c : List AV} (hc : c = lit8 [sumN q / 16777216 % 256, sumN q / 65536 % 256, sumN q / 256 % 256, sumN q % 256]) (hf : ∀ i j, i < n → j < 1 → f i j = byE q i j) :
    ∀ i j, i < n + 4 → j < 1 → catE n f (fun i j => nth c (i * 1 + j)) i j = byE (q ++ [sumN q / 16777216 % 256, sumN q / 65536 % 256, sumN q / 256 % 256, sumN q % 256]) i j := by
  intro i j hi hj
  exact byE_app (a := q) (fun i j hi hj => hf i j (by omega) hj) (lit8_E hc) hn i j (by simp; omega) hj
set_option maxRecDepth 100000 in
set_option maxHeartbeats 400000 in
theorem rframe_raw (r : Rcd) (h : r.ok = true) : TC Tryd.prog 45 [rcA r] [] (fun v σ' => ∃ k E', v = .own k 0 (frameN r).length none ∧ nthO σ' k = .arr 5 1 (frameN r).length E' ∧ ∀ i j, i < (frameN r).length → j < 1 → E' i j = byE (frameN r) i j) := by
  have hbo := bodyN_ok h
  have hb1 : ByOk ((bodyN r).length :: bodyN r) := fun x hx => by rcases List.mem_cons.1 hx with rfl | hx; omega; exact hbo.1 x hx
  have hs := rsum_tc ((bodyN r).length :: bodyN r) hb1 (by simp; omega)
  unfold frameN
  (refine TC_of_T Γ_ok Tryd.func45 rfl (by kernel_rfl) ?_; simp only [Tryd.ntmps45, Tryd.results45, List.length_cons, List.length_nil, Nat.reduceSub, Nat.reduceAdd, List.replicate, List.cons_append, List.nil_append])
  rcases Rcd.ok_cases h with ⟨s, b, h1, h2, rfl⟩ | ⟨s, b, c, n, d, h1, h2, h3, rfl⟩ | ⟨s, c, n, d, h1, h3, rfl⟩
  · rw [bodyN_1] at hs ⊢
    simp only [List.length_cons, List.length_nil, Nat.zero_add, Nat.reduceAdd] at hs
    have hv4 : ∀ i j, i < 5 → j < 1 → catE 2 (fun i j => nth [AV.imm (.int .u8 1), AV.imm (.int .u8 ((s % 256 : Nat) : Int))] (i * 1 + j)) (fun i j => nth [AV.imm (.int .u8 ((b / 65536 % 256 : Nat) : Int)), AV.imm (.int .u8 ((b / 256 % 256 : Nat) : Int)), AV.imm (.int .u8 ((b % 256 : Nat) : Int))] (i * 1 + j)) i j = byE [1, s, b / 65536 % 256, b / 256 % 256, b % 256] i j :=
      byE_app (a := [1, s]) (b := [b / 65536 % 256, b / 256 % 256, b % 256]) (lit8_E (by rw [Nat.mod_eq_of_lt (by omega)]; rfl)) (lit8_E rfl) rfl
    have hv5 := byE_app (a := [5]) (b := [1, s, b / 65536 % 256, b / 256 % 256, b % 256]) (n := 1) (f := fun i j => nth [AV.imm (.int .u8 5)] (i * 1 + j)) (lit8_E rfl) hv4 rfl
    clear hv4
    (have cl1 := hs; ((refine goR0 _ _ _ _ _ _ _ _ ?_ ?_ ?_ ?_ ?_ ?_ ?_ ?_) <;> (repeat intro hb) <;> first | exact True.intro | refine Lf.mk ?_))
    exact ⟨_, _, rfl, rfl, ctF (q := [5, 1, s, b / 65536 % 256, b / 256 % 256, b % 256]) rfl rfl hv5⟩
  · rw [bodyN_2] at hs ⊢
    simp only [List.length_cons, List.length_nil, Nat.zero_add, Nat.reduceAdd] at hs
    have hv4 : ∀ i j, i < 5 → j < 1 → catE 2 (fun i j => nth [AV.imm (.int .u8 2), AV.imm (.int .u8 ((s % 256 : Nat) : Int))] (i * 1 + j)) (fun i j => nth [AV.imm (.int .u8 ((b / 65536 % 256 : Nat) : Int)), AV.imm (.int .u8 ((b / 256 % 256 : Nat) : Int)), AV.imm (.int .u8 ((b % 256 : Nat) : Int))] (i * 1 + j)) i j = byE [2, s, b / 65536 % 256, b / 256 % 256, b % 256] i j :=
      byE_app (a := [2, s]) (b := [b / 65536 % 256, b / 256 % 256, b % 256]) (lit8_E (by rw [Nat.mod_eq_of_lt (by omega)]; rfl)) (lit8_E rfl) rfl
    have hv3 := byE_app (a := [2, s, b / 65536 % 256, b / 256 % 256, b % 256]) (b := [c, n, d]) (n := 5) hv4 (g := fun i j => nth [AV.imm (.int .u8 ((c % 256 : Nat) : Int)), AV.imm (.int .u8 ((n % 256 : Nat) : Int)), AV.imm (.int .u8 ((d % 256 : Nat) : Int))] (i * 1 + j)) (lit8_E (by rw [Nat.mod_eq_of_lt (by omega), Nat.mod_eq_of_lt (by omega), Nat.mod_eq_of_lt (by omega)]; rfl)) rfl
    have hv5 := byE_app (a := [8]) (b := [2, s, b / 65536 % 256, b / 256 % 256, b % 256, c, n, d]) (n := 1) (f := fun i j => nth [AV.imm (.int .u8 8)] (i * 1 + j)) (lit8_E rfl) hv3 rfl
    clear hv4 hv3
    (have cl1 := hs; ((refine goR0 _ _ _ _ _ _ _ _ ?_ ?_ ?_ ?_ ?_ ?_ ?_ ?_) <;> (repeat intro hb) <;> first | exact True.intro | refine Lf.mk ?_))
    exact ⟨_, _, rfl, rfl, ctF (q := [8, 2, s, b / 65536 % 256, b / 256 % 256, b % 256, c, n, d]) rfl rfl hv5⟩
  · rw [bodyN_3] at hs ⊢
    simp only [List.length_cons, List.length_nil, Nat.zero_add, Nat.reduceAdd] at hs
    have hv4 := byE_app (a := [3, s]) (b := [c, n, d]) (n := 2) (f := fun i j => nth [AV.imm (.int .u8 3), AV.imm (.int .u8 ((s % 256 : Nat) : Int))] (i * 1 + j)) (g := fun i j => nth [AV.imm (.int .u8 ((c % 256 : Nat) : Int)), AV.imm (.int .u8 ((n % 256 : Nat) : Int)), AV.imm (.int .u8 ((d % 256 : Nat) : Int))] (i * 1 + j))
      (lit8_E (by rw [Nat.mod_eq_of_lt (by omega)]; rfl)) (lit8_E (by rw [Nat.mod_eq_of_lt (by omega), Nat.mod_eq_of_lt (by omega), Nat.mod_eq_of_lt (by omega)]; rfl)) rfl
    have hv5 := byE_app (a := [5]) (b := [3, s, c, n, d]) (n := 1) (f := fun i j => nth [AV.imm (.int .u8 5)] (i * 1 + j)) (lit8_E rfl) hv4 rfl
    clear hv4
    (have cl1 := hs; ((refine goR0 _ _ _ _ _ _ _ _ ?_ ?_ ?_ ?_ ?_ ?_ ?_ ?_) <;> (repeat intro hb) <;> first | exact True.intro | refine Lf.mk ?_))
    exact ⟨_, _, rfl, rfl, ctF (q := [5, 3, s, c, n, d]) rfl rfl hv5⟩
theorem rframe_tc (r : Rcd) (h : r.ok = true) : Makes Tryd.prog 45 [rcA r] (ownB (frameN r)) [byO (frameN r)] :=
  Makes.lst1J (byE_pl _) ((rframe_raw r h).mono fun v σ' ⟨k, E, h1, h2, h3⟩ => .inr ⟨k, E, h1, h2, h3⟩)
end Go.Proofs.YtnomenmakhielaaDoor
