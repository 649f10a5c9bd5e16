/-
 Parts joined: Ab6 Ab7 Ab8 Ab8b.
-/
import Derived.Test.YtonmienclploaaaGreatDoorQA1
import Derived.Lib.AppendZerosOnto
import Derived.Deep.DeepAppendWide
import Derived.MapKept
set_option linter.unusedSimpArgs false
set_option linter.unusedVariables false
namespace Go.Ab
section
variable {P : Program} {Γ : Tab}
def eMake (Γ : Tab) (σ : List AObj) (t : TypeId) (l c : AV) : Option (AV × List AObj × Prop) :=
 match l, c with
 | .imm (.int _ l), .imm (.int _ c) =>
  match Γ.get t with
  | some ti =>
   match ti.d with
   | .slice e =>
    match Γ.get e with
    | some te => some (.own σ.length 0 l.toNat (some c.toNat),σ ++ [.arr e te.size l.toNat (fun _ j => nth (zeroL te.zero) j)],
      0 ≤ l ∧ l ≤ c ∧ c ≤ 1099511627776 ∧ te.bytes ≤ 256 ∧ te.zero.length = te.size)
    | none => none
   | _ => none
  | none => none
 | _, _ => none
theorem eMake_sound (hΓ : TabOk P Γ) {ρ : Rho} {w : World} {σ σ' : List AObj} (hH : RH ρ w σ) {t : TypeId} {l c v : AV} {C : Prop} (h : eMake Γ σ t l c = some (v,σ',C)) (hC : C) {vl vc : Value} (hl : Rv ρ w l vl) (hc : Rv ρ w c vc) :
  ∃ r ρ' w', (Instr.makeSlice t vl vc).run P w = .ok r w' ∧ Rv ρ' w' v r ∧ RH ρ' w' σ' ∧ Step ρ w ρ' w' := by
 unfold eMake at h
 split at h
 ·rename_i kl l kc c
  simp only [Rv] at hl hc
  subst hl; subst hc
  split at h
  ·rename_i ti hti
   have hd := (hΓ t ti hti).desc
   split at h
   ·rename_i e hfs
    rw [hfs] at hd
    simp only [TD.holds] at hd
    split at h
    ·rename_i te hte
     have hte := hΓ e te hte
     simp only [Option.some.injEq, Prod.mk.injEq] at h
     obtain ⟨rfl, rfl, rfl⟩ := h
     obtain ⟨h0, hlc, hc1, hb, hzl⟩ := hC
     obtain ⟨i, z, hi, hs, hby, hz, hzc⟩ := hte.info
     have hbc : (i.bytes : Int) * c ≤ 281474976710656 := by
      rw [hby]
      have h1 : (te.bytes : Int) ≤ 256 := by omega
      have h2 : (te.bytes : Int) * c ≤ 256 * c := Int.mul_le_mul_of_nonneg_right h1 (by omega)
      omega
     have hr := run_make (P := P) w t e i z hd hi hz kl kc l c h0 hlc hbc (by omega)
     have hmk : madeCells z.cells (c.toNat * i.size) = (List.replicate c.toNat (te.zero.map ZC.val)).flatten.toArray := by
      have := made_eq (te.zero.map ZC.val) c.toNat
      simp only [List.length_map, hzl] at this
      rw [← this, madeCells, hzc, hs]
      simp [hzl]
     have hlen : ((List.replicate c.toNat (te.zero.map ZC.val)).flatten).length = c.toNat * te.size := by simp [List.length_flatten,hzl]
     have hnew := new_arr hH e te.size l.toNat c.toNat (fun _ j => nth (zeroL te.zero) j) (List.replicate c.toNat (te.zero.map ZC.val)).flatten hlen (by omega) (fun y hy => by
      simp only [List.mem_flatten, List.mem_replicate] at hy
      obtain ⟨l2, ⟨_, rfl⟩, hy⟩ := hy
      exact zeroL_one _ y hy) (fun w' hs i hi j hj => by
      have hzs := zeroL_sound ρ w te.zero
      have hzlen : (zeroL te.zero).length = te.size := by rw [hzs.length]; simp [hzl]
      obtain ⟨y, hy, hv⟩ := RvL.get hzs (nth_eq (l := zeroL te.zero) (i := j) (by omega))
      refine ⟨y, ?_, zeroL_one _ y (List.mem_of_getElem? hy), Rv.mono hs _ hv⟩
      have hic : i < c.toNat := by omega
      have key : ∀ (n i : Nat),i < n → ((List.replicate n (te.zero.map ZC.val)).flatten)[i * te.size + j]? = some y := by
       intro n
       induction n with
       | zero => intro i hi; omega
       | succ n ih =>
        intro i hi
        rw [List.replicate_succ, List.flatten_cons]
        cases i with
        | zero => rw [Nat.zero_mul, Nat.zero_add, List.getElem?_append_left (by simp [hzl]; omega)]; exact hy
        | succ i =>
         rw [List.getElem?_append_right (by simp [hzl, Nat.succ_mul]; omega)]
         rw [← ih i (by omega)]
         congr 1
         simp [hzl, Nat.succ_mul]
         omega
      exact key c.toNat i hic)
     rw [hmk] at hr
     exact ⟨_, _, _, hr, hnew.2.2 (some c.toNat) (by simp), hnew.1, hnew.2.1⟩
    ·cases h
   ·cases h
  ·cases h
 ·cases h
def src (σ : List AObj) : AV → Option (Nat × Nat × (Nat → Nat → AV) × Prop)
 | .own o s n _ =>
  match nthO σ o with
  | .arr _ esz len elem => some (n, esz, fun i j => elem (s + i) j, s + n ≤ len)
  | _ => none
 | .emp => some (0, 0, fun _ _ => .top, True)
 | .view n esz elem => some (n, esz, elem, True)
 | .pv n esz _ elem => some (n, esz, elem, True)
 | .imm (.slice _ 0 _) => some (0, 0, fun _ _ => .top, True)
 | .bsl o off esz n _ =>
  match nthO σ o with
  | .box _ cells => some (n, esz, fun i j => nth cells (off + (i * esz + j)), off + n * esz ≤ cells.length)
  | _ => none
 | _ => none
theorem src_sound {ρ : Rho} {w : World} {σ : List AObj} (hH : RH ρ w σ) {x : AV} {n esz : Nat} {f : Nat → Nat → AV} {c : Prop} (h : src σ x = some (n,esz,f,c)) (hc : c) {vx : Value} (hx : Rv ρ w x vx) :
  ∃ (a : Option Addr) (cap : Nat),vx = .slice a n cap ∧ n ≤ cap ∧ (0 < n → ∃ ad,a = some ad ∧ ∀ i,i < n → ∀ j,j < esz → ∃ y,w.cell? (ad.add (i * esz + j)) = some y ∧ y.oneCell' = true ∧ Rv ρ w (f i j) y) := by
 unfold src at h
 split at h
 ·rename_i o s n' c'
  simp only [Rv] at hx
  ·split at h
   ·rename_i ety esz' len elem hob
    simp only [Option.some.injEq, Prod.mk.injEq] at h
    obtain ⟨rfl, rfl, rfl, rfl⟩ := h
    rcases hx with ⟨l, cap, hl, rfl, h1, h2, h3⟩ | ⟨rfl, ⟨a, rfl⟩, _⟩
    ·refine ⟨_, _, rfl, h1, fun h0 => ⟨_, rfl, fun i hi j hj => ?_⟩⟩
     rcases hH.obj o _ (nthO_eq hob rfl) with ⟨l', cs, hl', he, hh, ⟨hcs, _⟩, hd, hr⟩ | ⟨hn, h0'⟩
     ·rw [hl] at hl'
      simp only [Option.some.injEq] at hl'
      subst hl'
      obtain ⟨y, hy, hy1, hv⟩ := hr (s + i) (by omega) j hj
      refine ⟨y, ?_, hy1, hv⟩
      rw [add_lit, cell_of_row w l.b _ cs ety (0, 0) hh, he, ← hy, Nat.add_mul]
      congr 1
      omega
     ·rw [hl] at hn; simp at hn
    ·exact ⟨_, _, rfl, Nat.le_refl _, fun h0 => by omega⟩
   ·cases h
 ·simp only [Option.some.injEq, Prod.mk.injEq] at h
  obtain ⟨rfl, rfl, rfl, rfl⟩ := h
  simp only [Rv] at hx
  obtain ⟨a, rfl⟩ := hx
  exact ⟨_, _, rfl, Nat.le_refl _, fun h0 => by omega⟩
 ·rename_i n' esz' elem
  simp only [Option.some.injEq, Prod.mk.injEq] at h
  obtain ⟨rfl, rfl, rfl, rfl⟩ := h
  simp only [Rv] at hx
  obtain ⟨a, cap, rfl, h1, hr⟩ := hx
  refine ⟨a, cap, rfl, h1, fun h0 => ?_⟩
  obtain ⟨ad, rfl, _, _, hr⟩ := hr h0
  exact ⟨ad, rfl, hr⟩
 ·rename_i n' esz' q elem
  simp only [Option.some.injEq, Prod.mk.injEq] at h
  obtain ⟨rfl, rfl, rfl, rfl⟩ := h
  obtain ⟨a, cap, rfl, h1, hr⟩ := pv_view hx
  refine ⟨a, cap, rfl, h1, fun h0 => ?_⟩
  obtain ⟨ad, rfl, _, _, hr⟩ := hr h0
  exact ⟨ad, rfl, hr⟩
 ·simp only [Option.some.injEq, Prod.mk.injEq] at h
  obtain ⟨rfl, rfl, rfl, rfl⟩ := h
  simp only [Rv] at hx
  subst hx
  exact ⟨_, _, rfl, Nat.zero_le _, fun h0 => by omega⟩
 ·rename_i o off esz' n' c'
  simp only [Rv] at hx
  obtain ⟨hnc, l, hl, rfl⟩ := hx
  split at h
  ·rename_i ety cells hob
   simp only [Option.some.injEq, Prod.mk.injEq] at h
   obtain ⟨rfl, rfl, rfl, rfl⟩ := h
   refine ⟨_, _, rfl, hnc, fun h0 => ⟨_, rfl, fun i hi j hj => ?_⟩⟩
   obtain ⟨l', cs, hl', h0', h1, h2, hh, h3, hr⟩ := hH.obj o _ (nthO_eq hob rfl)
   rw [hl] at hl'
   simp only [Option.some.injEq] at hl'
   subst hl'
   have hlt : i * esz' + j < n' * esz' := by
    have := Nat.mul_le_mul_right esz' (Nat.succ_le_of_lt hi)
    rw [Nat.succ_mul] at this
    omega
   obtain ⟨y, hy, hv⟩ := RvL.get hr (nth_eq (l := cells) (i := off + (i * esz' + j)) (by omega))
   refine ⟨y, ?_, h3 y (List.mem_of_getElem? hy), hv⟩
   rw [add_lit, cell_of_row w l.b _ cs ety (0, 0) hh, h0']
   have : cs[off + (i * esz' + j)]? = some y := by simpa using hy
   rw [← this]
   congr 1
   omega
  ·cases h
 ·cases h
theorem src_cells {ρ : Rho} {w : World} {n esz : Nat} {f : Nat → Nat → AV} {ad : Addr} (h : ∀ i,i < n → ∀ j,j < esz → ∃ y,w.cell? (ad.add (i * esz + j)) = some y ∧ y.oneCell' = true ∧ Rv ρ w (f i j) y) :
  ∃ ys : List Value,ys.length = n * esz ∧ (∀ j u,ys[j]? = some u → w.cell? (ad.add j) = some u) ∧ (∀ u ∈ ys,u.oneCell' = true) ∧ ∀ i,i < n → ∀ j,j < esz → ∃ y,ys[i * esz + j]? = some y ∧ y.oneCell' = true ∧ Rv ρ w (f i j) y := by
 have split : ∀ k, k < n * esz → ∃ i j, i < n ∧ j < esz ∧ k = i * esz + j := by
  intro k hk
  have he : 0 < esz := by
   rcases Nat.eq_zero_or_pos esz with h0 | h0
   ·subst h0; simp at hk
   ·exact h0
  refine ⟨k / esz, k % esz, (Nat.div_lt_iff_lt_mul he).2 hk, Nat.mod_lt _ he, ?_⟩
  rw [Nat.mul_comm]; exact (Nat.div_add_mod k esz).symm
 have all : ∀ k, k < n * esz → ∃ y, w.cell? (ad.add k) = some y ∧ y.oneCell' = true := by
  intro k hk
  obtain ⟨i, j, hi, hj, rfl⟩ := split k hk
  obtain ⟨y, h1, h2, _⟩ := h i hi j hj
  exact ⟨y, h1, h2⟩
 refine ⟨(List.range (n * esz)).map (fun k => (w.cell? (ad.add k)).getD undef),by simp,fun j u hu => ?_,fun u hu => ?_,fun i hi j hj => ?_⟩
 ·have hj : j < n * esz := by have := (List.getElem?_eq_some_iff.1 hu).1; simpa using this
  obtain ⟨y, hy, _⟩ := all j hj
  simp [hj, hy] at hu
  rw [hy, hu]
 ·simp only [List.mem_map, List.mem_range] at hu
  obtain ⟨k, hk, rfl⟩ := hu
  obtain ⟨y, hy, h1⟩ := all k hk
  simpa [hy] using h1
 ·obtain ⟨y, hy, h1, hv⟩ := h i hi j hj
  have hlt : i * esz + j < n * esz := by
   have := Nat.mul_le_mul_right esz (Nat.succ_le_of_lt hi)
   rw [Nat.succ_mul] at this
   omega
  exact ⟨y, by simp [hlt, hy], h1, hv⟩
def catE (n : Nat) (f g : Nat → Nat → AV) : Nat → Nat → AV := fun i j => if i < n then f i j else g (i - n) j
def eApp (Γ : Tab) (σ : List AObj) (t : TypeId) (s x : AV) : Option (AV × List AObj × Prop) :=
 match Γ.get t with
 | some ti =>
  match ti.d with
  | .slice e =>
   match Γ.get e with
   | some te =>
    match src σ x with
    | some (m, ez, g, cx) =>
     match s with
     | .imm (.slice none 0 0)=>some (.own σ.length 0 m none,σ ++ [.arr e te.size m g],cx ∧ m * te.bytes ≤ 150000000000000 ∧ (0 < te.bytes ∧ te.bytes ≤ 4096) ∧ 0 < te.size ∧ te.zero.length = te.size ∧ (m = 0 ∨ ez = te.size))
     | .emp=>some (.own σ.length 0 m none,σ ++ [.arr e te.size m g],cx ∧ m * te.bytes ≤ 150000000000000 ∧ (0 < te.bytes ∧ te.bytes ≤ 4096) ∧ 0 < te.size ∧ te.zero.length = te.size ∧ (m = 0 ∨ ez = te.size))
     | .own o s0 n _ =>
       match nthO σ o with
       | .arr ety esz len elem => some (.own σ.length 0 (n + m) none,σ.set o .dead ++ [.arr e te.size (n + m) (catE n (fun i j => elem (s0 + i) j) g)],
         cx ∧ (n + m) * te.bytes ≤ 150000000000000 ∧ (0 < te.bytes ∧ te.bytes ≤ 4096) ∧ 0 < te.size ∧ te.zero.length = te.size ∧ (m = 0 ∨ ez = te.size) ∧ esz = te.size ∧ ety = e ∧ s0 + n ≤ len)
       | _ => none
     | .pv n esz (some c) elem => some (.own σ.length 0 (n + m) none,σ ++ [.arr e te.size (n + m) (catE n elem g)],
       (c < n + m ∨ n + c = 0) ∧ cx ∧ (n + m) * te.bytes ≤ 150000000000000 ∧ (0 < te.bytes ∧ te.bytes ≤ 4096) ∧ 0 < te.size ∧ te.zero.length = te.size ∧ (m = 0 ∨ ez = te.size) ∧ esz = te.size)
     | _ => none
    | none => none
   | none => none
  | _ => none
 | none => none
theorem wide_fits {k b : Nat} (h : k * b ≤ 150000000000000) (hb : b ≤ 4096) : (k + k / 4 + 192) * b ≤ 281474976710656 := by
 have h1 : 4 * (k / 4 * b) ≤ k * b := by rw [← Nat.mul_assoc]; exact Nat.mul_le_mul_right _ (by omega)
 have h2 : (k + k / 4 + 192) * b = k * b + k / 4 * b + 192 * b := by rw [Nat.add_mul, Nat.add_mul]
 omega
theorem le_of_bytes {k b : Nat} (h : k * b ≤ 150000000000000) (hb : 0 < b) : k ≤ 150000000000000 := Nat.le_trans (Nat.le_mul_of_pos_right k hb) h
theorem RH.pushNone {ρ : Rho} {w : World} {σ : List AObj} (h : RH ρ w σ) (e : TypeId) (esz : Nat) (f : Nat → Nat → AV) : RH (ρ ++ [none]) w (σ ++ [.arr e esz 0 f]) ∧ Step ρ w (ρ ++ [none]) w := by
 have key : ∀ (o : Nat) (l : Loc), (ρ ++ [none])[o]? = some (some l) → ρ[o]? = some (some l) := by
  intro o l hl
  rw [List.getElem?_append] at hl
  split at hl
  ·exact hl
  ·have h0 : o - ρ.length = 0 := by
    rcases Nat.eq_zero_or_pos (o - ρ.length) with h0 | h0
    ·exact h0
    ·rw [List.getElem?_eq_none (by simp; omega)] at hl; cases hl
   rw [h0] at hl
   simp at hl
 have hs : Step ρ w (ρ ++ [none]) w := ⟨rfl,rfl,rfl,Nat.le_refl _,fun _ _ _ => rfl,List.prefix_append _ _,fun b hb => by
  obtain ⟨o, l, hl, rfl⟩ := hb
  exact .inl ⟨o, l, key o l hl, rfl⟩⟩
 refine ⟨⟨by simp [h.len],fun o l hl => h.lt o l (key o l hl),fun o a ha => ?_,fun o o' l l' a a' hne h1 k1 h2 k2 r1 r2 => ?_,h.glob.step hs⟩,hs⟩
 ·rw [List.getElem?_append] at ha
  split at ha
  ·exact RO.keep hs (h.obj o a ha) fun _ _ => rfl
  ·have h0 : o - σ.length = 0 := by
    rcases Nat.eq_zero_or_pos (o - σ.length) with h0 | h0
    ·exact h0
    ·rw [List.getElem?_eq_none (by simp; omega)] at ha; cases ha
   rw [h0] at ha
   simp at ha
   subst ha
   have ho : o = ρ.length := by rw [h.len]; omega
   subst ho
   exact .inr ⟨by simp, rfl⟩
 ·have q1 := key o l r1
  have q2 := key o' l' r2
  have lt1 : o < σ.length := by rw [← h.len]; exact (List.getElem?_eq_some_iff.1 q1).1
  have lt2 : o' < σ.length := by rw [← h.len]; exact (List.getElem?_eq_some_iff.1 q2).1
  rw [List.getElem?_append_left lt1] at h1
  rw [List.getElem?_append_left lt2] at h2
  exact h.apart o o' l l' a a' hne h1 k1 h2 k2 q1 q2
theorem snoc_cases {α : Type} {l : List α} {x y : α} {i : Nat} (h : (l ++ [x])[i]? = some y) : (i < l.length ∧ l[i]? = some y) ∨ (i = l.length ∧ y = x) := by
 rw [List.getElem?_append] at h
 split at h
 ·rename_i hlt; exact .inl ⟨hlt, h⟩
 ·have h0 : i - l.length = 0 := by
   rcases Nat.eq_zero_or_pos (i - l.length) with h0 | h0
   ·exact h0
   ·rw [List.getElem?_eq_none (by simp; omega)] at h; cases h
  rw [h0] at h
  simp at h
  exact .inr ⟨by omega, h.symm⟩
theorem RH.add {ρ : Rho} {w : World} {σ : List AObj} (h : RH ρ w σ) (l : Loc) (a : AObj) (hlt : l.b < w.heap.size) (hhas : ρ.has l.b)
  (hap : ∀ (o : Nat) (l' : Loc) (a' : AObj),σ[o]? = some a' → a'.alive = true → ρ[o]? = some (some l') → l'.b ≠ l.b) (ro : RO (ρ ++ [some l]) w ρ.length a) :
  RH (ρ ++ [some l]) w (σ ++ [a]) ∧ Step ρ w (ρ ++ [some l]) w := by
 have hs : Step ρ w (ρ ++ [some l]) w := ⟨rfl,rfl,rfl,Nat.le_refl _,fun _ _ _ => rfl,List.prefix_append _ _,fun b hb => by
  obtain ⟨q, lq, hlq, rfl⟩ := hb
  rcases snoc_cases hlq with ⟨_, h1⟩ | ⟨_, h1⟩
  ·exact .inl ⟨q, lq, h1, rfl⟩
  ·simp at h1; subst h1; exact .inl hhas⟩
 refine ⟨⟨by simp [h.len],fun o l' hl' => ?_,fun o a' ha' => ?_,fun o o' l1 l2 a1 a2 hne h1 k1 h2 k2 r1 r2 => ?_,h.glob.step hs⟩,hs⟩
 ·rcases snoc_cases hl' with ⟨_, h1⟩ | ⟨_, h1⟩
  ·exact h.lt o l' h1
  ·simp at h1; subst h1; exact hlt
 ·rcases snoc_cases ha' with ⟨_, h1⟩ | ⟨h0, rfl⟩
  ·exact RO.keep hs (h.obj o a' h1) fun _ _ => rfl
  ·rw [h0, ← h.len]; exact ro
 ·rcases snoc_cases h1 with ⟨q1,p1⟩ | ⟨q1,rfl⟩ <;> rcases snoc_cases h2 with ⟨q2,p2⟩ | ⟨q2,rfl⟩ <;> rcases snoc_cases r1 with ⟨u1,v1⟩ | ⟨u1,v1⟩ <;> rcases snoc_cases r2 with ⟨u2,v2⟩ | ⟨u2,v2⟩ <;>
   (try (have := h.len; omega))
  ·exact h.apart o o' l1 l2 a1 a2 hne p1 k1 p2 k2 v1 v2
  ·simp at v2; subst v2; exact hap o l1 a1 p1 k1 v1
  ·simp at v1; subst v1; exact fun e => hap o' l2 a2 p2 k2 v2 e.symm
theorem RH.rehome {ρ : Rho} {w w' : World} {σ : List AObj} (h : RH ρ w σ) {o : Nat} {a a' : AObj} (ho : σ[o]? = some a) (hal : a.alive = true) {l l2 : Loc} (hl : ρ[o]? = some (some l)) (hb : l2.b = l.b) (hs : Step ρ w ρ w')
  (hold : ∀ b,b ≠ l.b → w'.heap[b]? = w.heap[b]?) (ro : Step ρ w (ρ ++ [some l2]) w' → RO (ρ ++ [some l2]) w' ρ.length a') :
  RH (ρ ++ [some l2]) w' (σ.set o .dead ++ [a']) ∧ Step ρ w (ρ ++ [some l2]) w' := by
 have h1 : RH ρ w' (σ.set o .dead) := RH.turn h ho hal hl hs hold trivial
 have hst : Step ρ w' (ρ ++ [some l2]) w' := ⟨rfl,rfl,rfl,Nat.le_refl _,fun _ _ _ => rfl,List.prefix_append _ _,fun b hb' => by
  obtain ⟨q, lq, hlq, rfl⟩ := hb'
  rcases snoc_cases hlq with ⟨_, h1⟩ | ⟨_, h1⟩
  ·exact .inl ⟨q, lq, h1, rfl⟩
  ·simp at h1; subst h1; exact .inl ⟨o, l, hl, hb.symm⟩⟩
 obtain ⟨g1, g2⟩ := RH.add h1 l2 a' (by rw [hb]; exact h1.lt o l hl) ⟨o, l, hl, hb.symm⟩ (fun q lq aq hq hk hr => by
  rw [List.getElem?_set] at hq
  split at hq
  ·split at hq
   ·simp at hq; subst hq; simp [AObj.alive] at hk
   ·cases hq
  ·rename_i hne
   rw [hb]
   exact h.apart q o lq l aq a (fun e => hne e.symm) hq hk ho hal hr hl) (ro (hs.trans hst))
 exact ⟨g1, hs.trans g2⟩
theorem run_append_zero (w : World) (t ty e : TypeId) (i : TypeInfo) (ht : P.underlying t = some (.slice e)) (hi : P.info? e = some i) (base a : Option Addr) (n cap c : Nat) (hnc : n ≤ cap) :
  (Builtin.append_ #[t, t] ty #[.slice base n cap, .slice a 0 c]).run P w = .ok (.slice base n cap) w := by
 have hf : (Builtin.firstCells i.size 0 (.slice a 0 c)).run P w = .ok #[] w := by
  cases a <;> simp [Builtin.firstCells, loadCells, loadCellsFrom]
 cases base <;> simp [Builtin.append_, run_underlying ht, sizeOf, typeInfo, hi, Builtin.lenOf, hnc, hf, storeCells]
theorem grownCap_ge' (w : World) (need old : Nat) (e : TypeId) : need ≤ grownCap w need old e := by simp [grownCap,Question.cut]
theorem run_append_new (w : World) (t ty e : TypeId) (i : TypeInfo) (z : Value) (ht : P.underlying t = some (.slice e)) (hi : P.info? e = some i) (hz : i.zero = some z)
  (base : Option Addr) (n cap : Nat) (olds : List Value) (hlo : olds.length = n * i.size) (holds : 0 < n → ∃ b,base = some b ∧ ∀ j v,olds[j]? = some v → w.cell? (b.add j) = some v)
  (a : Addr) (m c : Nat) (news : List Value) (hl : news.length = m * i.size) (hnews : ∀ j v,news[j]? = some v → w.cell? (a.add j) = some v)
  (hg : cap < n + m) (h63 : ((n + m : Nat) : Int) ≤ 9223372036854775807) (hfit : Builtin.nextslicecap (n + m) cap * i.bytes ≤ 281474976710656) :
  (Builtin.append_ #[t, t] ty #[.slice base n cap, .slice (some a) m c]).run P w =
   .ok (.slice (some ⟨w.heap.size, 0, none⟩) (n + m) (grownCap w (n + m) cap e))
    (w.drew.alloc (.cells (olds ++ news ++ (Builtin.zeroCells z.cells (grownCap w (n + m) cap e - (n + m))).toList).toArray e)) := by
 have hn : ¬ (n + m ≤ cap) := by omega
 have h63' : ¬ (9223372036854775807 < ((n : Int) + (m : Int))) := by omega
 have h48' : ¬ (281474976710656 < Builtin.nextslicecap (n + m) cap * i.bytes) := by omega
 have hf := run_firstCells_some (P := P) w.drew i.size m a m c news hl (by simpa using hnews)
 have hfo : (Builtin.firstCells i.size n (.slice base n cap)).run P w.drew = .ok olds.toArray w.drew := by
  rcases Nat.eq_zero_or_pos n with h0 | h0
  ·subst h0
   have : olds = [] := List.eq_nil_of_length_eq_zero (by simpa using hlo)
   subst this
   cases base <;> simp [Builtin.firstCells, loadCells, loadCellsFrom]
  ·obtain ⟨b, rfl, hb⟩ := holds h0
   exact run_firstCells_some (P := P) w.drew i.size n b n cap olds hlo (by simpa using hb)
 simp [Builtin.append_,run_underlying ht,sizeOf,typeInfo,zeroValue,hi,hz,Builtin.lenOf,hn,h63',h48',Question.forced,hf,hfo,newRow,grownCap]
 congr 2
 apply Array.ext'
 simp
theorem run_append_in (w : World) (t ty e : TypeId) (i : TypeInfo) (ht : P.underlying t = some (.slice e)) (hi : P.info? e = some i)
  (g d n cap : Nat) (ety : TypeId) (cur : Array Value) (hg : w.heap[g]? = some (.cells cur ety (0, 0)))
  (a : Addr) (m c : Nat) (news : List Value) (hl : news.length = m * i.size) (hnews : ∀ j u,news[j]? = some u → w.cell? (a.add j) = some u) (h1 : ∀ u ∈ news,u.oneCell' = true)
  (hroom : n + m ≤ cap) (hfit : d + n * i.size + news.length ≤ cur.size) :
  (Builtin.append_ #[t, t] ty #[.slice (some ⟨g, d, none⟩) n cap, .slice (some a) m c]).run P w =
   .ok (.slice (some ⟨g,d,none⟩) (n + m) cap) (w.setRow g (cur.toList.take (d + n * i.size) ++ news ++ cur.toList.drop (d + n * i.size + news.length)).toArray) := by
 have hf := run_firstCells_some (P := P) w i.size m a m c news hl hnews
 have hst := run_storeCells_at P g (d + n * i.size) ety news 0 cur w hg (by simpa using hfit) h1
 simp only [Nat.add_zero] at hst
 simp [Builtin.append_, run_underlying ht, sizeOf, typeInfo, hi, Builtin.lenOf, hroom, hf, add_lit, hst]
theorem zeroCells_one {z : Value} {zs : List ZC} (hz : z.cells = (zs.map ZC.val).toArray) {k : Nat} : ∀ y ∈ (Builtin.zeroCells z.cells k).toList,y.oneCell' = true := by
 intro y hy
 have h := made_eq (zs.map ZC.val) k
 unfold Builtin.zeroCells at hy
 rw [hz, show (zs.map ZC.val).toArray.size = (zs.map ZC.val).length by simp, h] at hy
 simp only [List.mem_flatten, List.mem_replicate] at hy
 obtain ⟨l2, ⟨_, rfl⟩, hy⟩ := hy
 exact zeroL_one _ y hy
theorem rep_flat_get {α : Type} (zs : List α) : ∀ (n i j : Nat),i < n → j < zs.length → (List.replicate n zs).flatten[i * zs.length + j]? = zs[j]?
 | n + 1,0,j,_,hj => by rw [List.replicate_succ,List.flatten_cons,Nat.zero_mul,Nat.zero_add,List.getElem?_append_left hj]
 | n + 1, i + 1, j, hi, hj => by
  rw [List.replicate_succ,List.flatten_cons,List.getElem?_append_right (by rw [Nat.succ_mul];omega),Nat.succ_mul,show i * zs.length + zs.length + j - zs.length = i * zs.length + j by omega]
  exact rep_flat_get zs n i j (by omega) hj
theorem zeroCells_get {z : Value} {zs : List ZC} {size : Nat} (hz : z.cells = (zs.map ZC.val).toArray) (hl : zs.length = size) {k i j : Nat} (h : i * size + j < k * size) (hj : j < size) : (Builtin.zeroCells z.cells k).toList[i * size + j]? = (zs.map ZC.val)[j]? := by
 have h1 := made_eq (zs.map ZC.val) k
 unfold Builtin.zeroCells
 rw [hz, show (zs.map ZC.val).toArray.size = (zs.map ZC.val).length by simp, h1]
 have e : size = (zs.map ZC.val).length := by simp [hl]
 have hik : i < k := by
  rcases Nat.lt_or_ge i k with h0 | h0
  ·exact h0
  ·have := Nat.mul_le_mul_right size h0; omega
 rw [e]
 exact rep_flat_get _ k i j hik (by rw [← e]; exact hj)
theorem app_new {ρ : Rho} {w : World} {σ : List AObj} (hH : RH ρ w σ) (e : TypeId) (esz len cap : Nat) (elem : Nat → Nat → AV) (cs : List Value) (hlen : cs.length = cap * esz) (hlc : len ≤ cap) (hone : ∀ y ∈ cs,y.oneCell' = true)
  (hr : ∀ i, i < len → ∀ j, j < esz → ∃ y, cs[i * esz + j]? = some y ∧ y.oneCell' = true ∧ Rv ρ w (elem i j) y) :
  ∃ ρ',RH ρ' (w.drew.alloc (.cells cs.toArray e)) (σ ++ [.arr e esz len elem]) ∧ Step ρ w ρ' (w.drew.alloc (.cells cs.toArray e)) ∧
   Rv ρ' (w.drew.alloc (.cells cs.toArray e)) (.own σ.length 0 len none) (.slice (some ⟨w.heap.size,0,none⟩) len cap) := by
 have hd : Step ρ w ρ w.drew := (Step.refl ρ w).drewN 1
 have hH' : RH ρ w.drew σ := hH.drewN 1
 obtain ⟨a, b, c⟩ := new_arr hH' e esz len cap elem cs hlen hlc hone (fun w' hs i hi j hj => by
  obtain ⟨y, h1, h2, h3⟩ := hr i hi j hj
  exact ⟨y, h1, h2, Rv.mono (hd.trans hs) _ h3⟩)
 exact ⟨_, a, hd.trans b, c none (by simp)⟩
theorem eApp_fresh {ρ : Rho} {w : World} {σ : List AObj} (hH : RH ρ w σ) {t ty e : TypeId} {te : TI} (ht : P.underlying t = some (.slice e)) (hte : TIok P e te) {m ez : Nat} {g : Nat → Nat → AV} (hm : m * te.bytes ≤ 150000000000000) (hb : 0 < te.bytes ∧ te.bytes ≤ 4096)
  (hzl : te.zero.length = te.size) (hez : m = 0 ∨ ez = te.size) {a : Option Addr} {cap : Nat}
  (hx : 0 < m → ∃ ad,a = some ad ∧ ∀ i,i < m → ∀ j,j < ez → ∃ y,w.cell? (ad.add (i * ez + j)) = some y ∧ y.oneCell' = true ∧ Rv ρ w (g i j) y) (base : Option Addr) :
  ∃ r ρ' w',(Builtin.append_ #[t,t] ty #[.slice base 0 0,.slice a m cap]).run P w = .ok r w' ∧ Rv ρ' w' (.own σ.length 0 m none) r ∧ RH ρ' w' (σ ++ [.arr e te.size m g]) ∧ Step ρ w ρ' w' := by
 obtain ⟨i, z, hi, hs, hby, hz, hzc⟩ := hte.info
 rcases Nat.eq_zero_or_pos m with h0 | h0
 ·subst h0
  have hp := RH.pushNone hH e te.size g
  refine ⟨_, _, _, run_append_zero w t ty e i ht hi base a 0 0 cap (Nat.le_refl _), ?_, hp.1, hp.2⟩
  simp only [Rv]
  exact .inr ⟨by simp, ⟨base, rfl⟩, by simp⟩
 ·have hez : ez = te.size := by omega
  subst hez
  obtain ⟨ad, rfl, hr⟩ := hx h0
  obtain ⟨ys, hl, h1, h2, h3⟩ := src_cells hr
  have hmb : (m + m / 4 + 192) * i.bytes ≤ 281474976710656 := by rw [hby]; exact wide_fits hm hb.2
  have hm1 := le_of_bytes hm hb.1
  have hrun := run_append_new (P := P) w t ty e i z ht hi hz base 0 0 [] (by simp) (by omega) ad m cap ys (by rw [hs];exact hl) h1 (by omega) (by omega) (growslice_fits_wide (by omega) (by rw [Nat.zero_add];exact hmb))
  simp only [Nat.zero_add, List.nil_append] at hrun
  have hzs : z.cells.size = te.size := by rw [hzc]; simp [hzl]
  have hge := grownCap_ge' w m 0 e
  obtain ⟨ρ',g1,g2,g3⟩ := app_new hH e te.size m (grownCap w m 0 e) g (ys ++ (Builtin.zeroCells z.cells (grownCap w m 0 e - m)).toList)
   (by rw [List.length_append,hl,Array.length_toList,size_zeroCells,hzs,← Nat.add_mul];congr 1;omega) hge (fun y hy => by
    rcases List.mem_append.1 hy with hy | hy
    ·exact h2 y hy
    ·exact zeroCells_one hzc y hy) (fun i' hi' j hj => by
    obtain ⟨y, q1, q2, q3⟩ := h3 i' hi' j hj
    have hlt : i' * te.size + j < ys.length := (List.getElem?_eq_some_iff.1 q1).1
    exact ⟨y, by rw [List.getElem?_append_left hlt]; exact q1, q2, q3⟩)
  exact ⟨_, ρ', _, hrun, g3, g1, g2⟩
theorem eApp_sound (hΓ : TabOk P Γ) {ρ : Rho} {w : World} {σ σ' : List AObj} (hH : RH ρ w σ) {t ty : TypeId} {s x v : AV} {C : Prop} (h : eApp Γ σ t s x = some (v,σ',C)) (hC : C) {vs vx : Value} (hs : Rv ρ w s vs) (hx : Rv ρ w x vx) :
  ∃ r ρ' w',(Builtin.append_ #[t,t] ty #[vs,vx]).run P w = .ok r w' ∧ Rv ρ' w' v r ∧ RH ρ' w' σ' ∧ Step ρ w ρ' w' := by
 unfold eApp at h
 split at h
 case h_2 => cases h
 rename_i ti hti
 have hd := (hΓ t ti hti).desc
 split at h
 case h_2 => cases h
 rename_i e hfs
 rw [hfs] at hd
 simp only [TD.holds] at hd
 split at h
 case h_2 => cases h
 rename_i te hte
 have hte := hΓ e te hte
 split at h
 case h_2 => cases h
 rename_i m ez g cx hsrc
 split at h
 ·simp only [Option.some.injEq, Prod.mk.injEq] at h
  obtain ⟨rfl, rfl, rfl⟩ := h
  obtain ⟨c1, c2, c3, c4, c5, c6⟩ := hC
  obtain ⟨a, cap, rfl, hnc, hr⟩ := src_sound hH hsrc c1 hx
  simp only [Rv] at hs
  subst hs
  exact eApp_fresh hH hd hte c2 c3 c5 c6 hr none
 ·simp only [Option.some.injEq, Prod.mk.injEq] at h
  obtain ⟨rfl, rfl, rfl⟩ := h
  obtain ⟨c1, c2, c3, c4, c5, c6⟩ := hC
  obtain ⟨a, cap, rfl, hnc, hr⟩ := src_sound hH hsrc c1 hx
  simp only [Rv] at hs
  obtain ⟨b, rfl⟩ := hs
  exact eApp_fresh hH hd hte c2 c3 c5 c6 hr _
 ·rename_i o s0 n c
  ·split at h
   case h_2 => cases h
   rename_i ety esz len elem hob
   simp only [Option.some.injEq, Prod.mk.injEq] at h
   obtain ⟨rfl, rfl, rfl⟩ := h
   obtain ⟨c1, c2, c3, c4, c5, c6, rfl, rfl, c8⟩ := hC
   obtain ⟨a, cap, rfl, hnc, hr⟩ := src_sound hH hsrc c1 hx
   have hso := nthO_eq hob rfl
   have hkill := RH.kill hH o
   simp only [Rv] at hs
   rcases hs with ⟨l, cap', hl, rfl, hs1, hs2, _⟩ | ⟨rfl, ⟨b, rfl⟩, _⟩
   case inr =>
    have := eApp_fresh (P := P) (ty := ty) (g := catE 0 (fun i j => elem (s0 + i) j) g) hkill hd hte (m := m) (by simpa using c2) c3 c5 c6 (a := a) (cap := cap) (fun h0 => by
     obtain ⟨ad, rfl, hr2⟩ := hr h0
     exact ⟨ad, rfl, fun i hi j hj => by simpa [catE] using hr2 i hi j hj⟩) b
    simpa using this
   case inl =>
    rcases hH.obj o _ hso with ⟨l', cs, hl', he, hh, ⟨hcs, hc1⟩, hdl, hro⟩ | ⟨hn, _⟩
    case inr => rw [hl] at hn; simp at hn
    rw [hl] at hl'
    simp only [Option.some.injEq] at hl'
    subst hl'
    obtain ⟨i, z, hi, hsz, hby, hz, hzc⟩ := hte.info
    have holdc : ∀ i',i' < n → ∀ j,j < te.size → ∃ y,w.cell? ((⟨l.b,l.d + s0 * l.esz,none⟩ : Addr).add (i' * te.size + j)) = some y ∧ y.oneCell' = true ∧ Rv ρ w (elem (s0 + i') j) y := by
     intro i' hi' j hj
     obtain ⟨y, hy, hy1, hv⟩ := hro (s0 + i') (by omega) j hj
     refine ⟨y, ?_, hy1, hv⟩
     rw [add_lit, cell_of_row w l.b _ cs _ (0, 0) hh, he, ← hy, Nat.add_mul]
     congr 1
     omega
    have hsl : s0 * te.size + n * te.size ≤ len * te.size := by rw [← Nat.add_mul]; exact Nat.mul_le_mul_right _ c8
    rw [he] at hs2 holdc ⊢
    rw [Nat.add_mul] at hs2
    rcases Nat.eq_zero_or_pos m with h0 | h0
    · -- nothing is added
     subst h0
     have hrun := run_append_zero (P := P) w t ty _ i hd hi (some ⟨l.b, l.d + s0 * te.size, none⟩) a n cap' cap hs1
     obtain ⟨g1,g2⟩ := RH.rehome hH (l2 := ⟨l.b,l.d + s0 * te.size,l.n,te.size⟩) (a' := .arr _ te.size (n + 0) (catE n (fun i j=>elem (s0 + i) j) g)) hso rfl hl rfl (Step.refl ρ w) (fun _ _=>rfl) (fun hst=>by
      refine .inl ⟨_,cs,getElem?_snoc _ _,rfl,hh,⟨hcs,hc1⟩,by simp only [Nat.add_zero];omega,fun i' hi' j hj => ?_⟩
      obtain ⟨y, hy, hy1, hv⟩ := hro (s0 + i') (by omega) j hj
      refine ⟨y, ?_, hy1, ?_⟩
      ·rw [← hy, Nat.add_mul]; congr 1; simp only []; omega
      ·unfold catE
       rw [if_pos (by omega)]
       exact Rv.mono hst _ hv)
     refine ⟨_, _, _, hrun, ?_, g1, g2⟩
     simp only [Rv]
     exact .inl ⟨_,cap',by rw [← hH.len];exact getElem?_snoc _ _,by simp,by omega,by simp only [Nat.zero_add];omega,by simp⟩
    ·have hez : ez = te.size := by omega
     subst hez
     obtain ⟨ad, rfl, hr2⟩ := hr h0
     obtain ⟨ys, hyl, hy1, hy2, hy3⟩ := src_cells hr2
     have hcat : ∀ (ρ' : Rho) (w' : World),Step ρ w ρ' w' → ∀ (pre : List Value),pre.length = n * te.size → (∀ i',i' < n → ∀ j,j < te.size → ∃ y,pre[i' * te.size + j]? = some y ∧ y.oneCell' = true ∧ Rv ρ w (elem (s0 + i') j) y) →
       ∀ i',i' < n + m → ∀ j,j < te.size → ∃ y,(pre ++ ys)[i' * te.size + j]? = some y ∧ y.oneCell' = true ∧ Rv ρ' w' (catE n (fun i j => elem (s0 + i) j) g i' j) y := by
      intro ρ' w' hst pre hpl hpr i' hi' j hj
      unfold catE
      by_cases hin : i' < n
      ·obtain ⟨y, q1, q2, q3⟩ := hpr i' hin j hj
       have hlt := (List.getElem?_eq_some_iff.1 q1).1
       refine ⟨y, by rw [List.getElem?_append_left hlt]; exact q1, q2, ?_⟩
       rw [if_pos hin]
       exact Rv.mono hst _ q3
      ·obtain ⟨y, q1, q2, q3⟩ := hy3 (i' - n) (by omega) j hj
       have e1 : i' * te.size = n * te.size + (i' - n) * te.size := by rw [← Nat.add_mul]; congr 1; omega
       refine ⟨y, by rw [List.getElem?_append_right (by omega), ← q1]; congr 1; omega, q2, ?_⟩
       rw [if_neg hin]
       exact Rv.mono hst _ q3
     by_cases hroom : n + m ≤ cap'
     ·have hms : n * te.size + m * te.size ≤ cap' * te.size := by rw [← Nat.add_mul];exact Nat.mul_le_mul_right _ hroom
      have hcsl : cs.toList.length = cs.size := by simp
      have hrun := run_append_in (P := P) w t ty _ i hd hi l.b (l.d + s0 * te.size) n cap' _ cs hh ad m cap ys (by rw [hsz];exact hyl) hy1 hy2 hroom (by rw [hsz,hyl,hcs];omega)
      rw [hsz] at hrun
      have hstep := setRow_step (w := w) hl ((cs.toList.take (l.d + s0 * te.size + n * te.size) ++ ys ++ cs.toList.drop (l.d + s0 * te.size + n * te.size + ys.length)).toArray)
      obtain ⟨g1,g2⟩ := RH.rehome hH (l2 := ⟨l.b,l.d + s0 * te.size,l.n,te.size⟩) (a' := .arr _ te.size (n + m) (catE n (fun i j=>elem (s0 + i) j) g)) hso rfl hl rfl hstep (fun b hb=>setRow_other w l.b b _ (by omega)) (fun hst=>by
       refine .inl ⟨_, _, getElem?_snoc _ _, rfl, setRow_heap w l.b cs _ _ _ hh, ?_, ?_, fun i' hi' j hj => ?_⟩
       ·exact ⟨by simp only [List.size_toArray,List.length_append,List.length_take,List.length_drop];omega,fun y hy => by
        simp only [List.mem_append] at hy
        rcases hy with (hy | hy) | hy
        ·exact hc1 y (List.mem_of_mem_take hy)
        ·exact hy2 y hy
        ·exact hc1 y (List.mem_of_mem_drop hy)⟩
       ·simp only [Nat.add_mul]; omega
       ·have hlt : i' * te.size + j < n * te.size + m * te.size := by
         have := Nat.mul_le_mul_right te.size (Nat.succ_le_of_lt hi')
         rw [Nat.succ_mul, Nat.add_mul] at this
         omega
        obtain ⟨y,q1,q2,q3⟩ := hcat _ _ hst ((cs.toList.drop (l.d + s0 * te.size)).take (n * te.size)) (by simp only [List.length_take,List.length_drop];omega) (fun i2 hi2 j2 hj2 => by
         obtain ⟨y, q1, q2, q3⟩ := hro (s0 + i2) (by omega) j2 hj2
         have hlt2 : i2 * te.size + j2 < n * te.size := by
          have := Nat.mul_le_mul_right te.size (Nat.succ_le_of_lt hi2)
          rw [Nat.succ_mul] at this
          omega
         refine ⟨y, ?_, q2, q3⟩
         rw [List.getElem?_take, if_pos hlt2, List.getElem?_drop]
         have : cs.toList[l.d + (s0 + i2) * te.size + j2]? = some y := by simpa using q1
         rw [← this, Nat.add_mul]
         congr 1
         omega) i' hi' j hj
        refine ⟨y, ?_, q2, q3⟩
        rw [← q1]
        simp only [List.getElem?_toArray]
        have hpre : cs.toList.take (l.d + s0 * te.size + n * te.size) = cs.toList.take (l.d + s0 * te.size) ++ (cs.toList.drop (l.d + s0 * te.size)).take (n * te.size) := by
         rw [List.take_add]
        rw [hpre,List.append_assoc,List.append_assoc,List.getElem?_append_right (by simp only [List.length_take];omega)]
        rw [← List.append_assoc,List.getElem?_append_left (by simp only [List.length_append,List.length_take,List.length_drop];omega)]
        congr 1
        simp only [List.length_take]
        omega)
      refine ⟨_, _, _, hrun, ?_, g1, g2⟩
      simp only [Rv]
      exact .inl ⟨_,cap',by rw [← hH.len];exact getElem?_snoc _ _,by simp,hroom,by simp only [Nat.zero_add];omega,by simp⟩
     ·obtain ⟨olds, ol, o1, o2, o3⟩ := src_cells holdc
      have hmb : ((n + m) + (n + m) / 4 + 192) * i.bytes ≤ 281474976710656 := by rw [hby]; exact wide_fits c2 c3.2
      have hm1 := le_of_bytes c2 c3.1
      have hrun := run_append_new (P := P) w t ty _ i z hd hi hz (some ⟨l.b,l.d + s0 * te.size,none⟩) n cap' olds (by rw [hsz];exact ol) (fun _=>⟨_,rfl,o1⟩) ad m cap ys (by rw [hsz];exact hyl) hy1 (by omega) (by omega) (growslice_fits_wide (by omega) hmb)
      have hzs : z.cells.size = te.size := by rw [hzc]; simp [c5]
      have hge := grownCap_ge' w (n + m) cap' ety
      have hkl : (σ.set o .dead).length = σ.length := by simp
      obtain ⟨ρ',g1,g2,g3⟩ := app_new hkill ety te.size (n + m) (grownCap w (n + m) cap' ety) (catE n (fun i j=>elem (s0 + i) j) g) (olds ++ ys ++ (Builtin.zeroCells z.cells (grownCap w (n + m) cap' ety - (n + m))).toList)
       (by rw [List.length_append,List.length_append,ol,hyl,Array.length_toList,size_zeroCells,hzs,← Nat.add_mul,← Nat.add_mul];congr 1;omega) hge (fun y hy => by
       rcases List.mem_append.1 hy with hy | hy
       ·rcases List.mem_append.1 hy with hy | hy
        ·exact o2 y hy
        ·exact hy2 y hy
       ·exact zeroCells_one hzc y hy) (fun i' hi' j hj => by
        obtain ⟨y, q1, q2, q3⟩ := hcat ρ w (Step.refl ρ w) olds ol o3 i' hi' j hj
        have hlt := (List.getElem?_eq_some_iff.1 q1).1
        exact ⟨y, by rw [List.getElem?_append_left hlt]; exact q1, q2, q3⟩)
      rw [hkl] at g3
      exact ⟨_, ρ', _, hrun, g3, g1, g2⟩
 ·rename_i n esz c elem
  simp only [Option.some.injEq, Prod.mk.injEq] at h
  obtain ⟨rfl, rfl, rfl⟩ := h
  obtain ⟨c0, c1, c2, c3, c4, c5, c6, rfl⟩ := hC
  obtain ⟨a, cap, rfl, hnc, hr⟩ := src_sound hH hsrc c1 hx
  simp only [Rv] at hs
  obtain ⟨b, d, cap', cs, ety, rfl, ⟨hs1, hcc⟩, q1, q2, q3⟩ := hs
  have hcap := hcc _ rfl
  subst hcap
  rcases c0 with c0 | c00
  case inr =>
   obtain ⟨h1, h2⟩ : n = 0 ∧ cap' = 0 := by omega
   subst h1 h2
   have := eApp_fresh (P := P) (ty := ty) (g := catE 0 elem g) hH hd hte (m := m) (by simpa using c2) c3 c5 c6 (a := a) (cap := cap) (fun h0 => by
    obtain ⟨ad, rfl, hr2⟩ := hr h0
    exact ⟨ad, rfl, fun i hi j hj => by simpa [catE] using hr2 i hi j hj⟩) (some ⟨b, d, none⟩)
   simpa using this
  obtain ⟨i, z, hi, hsz, hby, hz, hzc⟩ := hte.info
  have holdc : ∀ i',i' < n → ∀ j,j < te.size → ∃ y,w.cell? ((⟨b,d,none⟩ : Addr).add (i' * te.size + j)) = some y ∧ y.oneCell' = true ∧ Rv ρ w (elem i' j) y := by
   intro i' hi' j hj
   obtain ⟨y, hy, hy1, hv⟩ := q3 i' hi' j hj
   exact ⟨y, by rw [cell_plain q2]; exact hy, hy1, hv⟩
  obtain ⟨olds, ol, o1, o2, o3⟩ := src_cells holdc
  have hzs : z.cells.size = te.size := by rw [hzc]; simp [c5]
  have hmb : ((n + m) + (n + m) / 4 + 192) * i.bytes ≤ 281474976710656 := by rw [hby]; exact wide_fits c2 c3.2
  have hm1 := le_of_bytes c2 c3.1
  have h0 : 0 < m := by omega
  have hez : ez = te.size := by omega
  subst hez
  obtain ⟨ad, rfl, hr2⟩ := hr h0
  obtain ⟨ys, hyl, hy1, hy2, hy3⟩ := src_cells hr2
  have hrun := run_append_new (P := P) w t ty _ i z hd hi hz (some ⟨b,d,none⟩) n cap' olds (by rw [hsz];exact ol) (fun _=>⟨_,rfl,o1⟩) ad m cap ys (by rw [hsz];exact hyl) hy1 c0 (by omega) (growslice_fits_wide (by omega) hmb)
  have hge := grownCap_ge' w (n + m) cap' e
  obtain ⟨ρ',g1,g2,g3⟩ := app_new hH e te.size (n + m) (grownCap w (n + m) cap' e) (catE n elem g) (olds ++ ys ++ (Builtin.zeroCells z.cells (grownCap w (n + m) cap' e - (n + m))).toList)
   (by rw [List.length_append,List.length_append,ol,hyl,Array.length_toList,size_zeroCells,hzs,← Nat.add_mul,← Nat.add_mul];congr 1;omega) hge (fun y hy => by
   rcases List.mem_append.1 hy with hy | hy
   ·rcases List.mem_append.1 hy with hy | hy
    ·exact o2 y hy
    ·exact hy2 y hy
   ·exact zeroCells_one hzc y hy) (fun i' hi' j hj => by
    have hcat : ∃ y,(olds ++ ys)[i' * te.size + j]? = some y ∧ y.oneCell' = true ∧ Rv ρ w (catE n elem g i' j) y := by
     unfold catE
     by_cases hin : i' < n
     ·obtain ⟨y, q1, q2, q3⟩ := o3 i' hin j hj
      have hlt := (List.getElem?_eq_some_iff.1 q1).1
      refine ⟨y, by rw [List.getElem?_append_left hlt]; exact q1, q2, ?_⟩
      rw [if_pos hin]
      exact q3
     ·obtain ⟨y, q1, q2, q3⟩ := hy3 (i' - n) (by omega) j hj
      have e1 : i' * te.size = n * te.size + (i' - n) * te.size := by rw [← Nat.add_mul]; congr 1; omega
      refine ⟨y, by rw [List.getElem?_append_right (by omega), ← q1]; congr 1; omega, q2, ?_⟩
      rw [if_neg hin]
      exact q3
    obtain ⟨y, q1, q2, q3⟩ := hcat
    have hlt := (List.getElem?_eq_some_iff.1 q1).1
    exact ⟨y, by rw [List.getElem?_append_left hlt]; exact q1, q2, q3⟩)
  exact ⟨_, ρ', _, hrun, g3, g1, g2⟩
 ·cases h
theorem Oapp {w : World} {n esz : Nat} {b : Addr} {olds : List Value} (hl : olds.length = n * esz) (h : ∀ j v,olds[j]? = some v → w.cell? (b.add j) = some v) {cap : Nat} :
  (Builtin.firstCells esz n (.slice (some b) n cap)).run P w.drew = .ok olds.toArray w.drew := run_firstCells_some (P := P) w.drew esz n b n cap olds hl (by simpa using h)
def eAppZ (Γ : Tab) (σ : List AObj) (t t' : TypeId) (s x : AV) : Option (AV × List AObj × Prop) :=
 match Γ.get t, Γ.get t' with
 | some ti, some ti' =>
  match ti.d, ti'.d, x with
  | .slice e, .int _, .imm (.int _ k) =>
   match Γ.get e with
   | some te =>
    match s with
    | .own o s0 n (some c) =>
     match nthO σ o with
     | .arr ety esz len elem => some (.own σ.length 0 (n + k.toNat) none,σ ++ [.arr e te.size (n + k.toNat) (catE n (fun i j => elem (s0 + i) j) (fun _ j => nth (zeroL te.zero) j))],
       0 < k ∧ c < n + k.toNat ∧ n + k.toNat ≤ 1099511627776 ∧ te.bytes ≤ 128 ∧ 0 < te.size ∧ te.zero.length = te.size ∧ esz = te.size ∧ ety = e ∧ s0 + n ≤ len)
     | _ => none
    | _ => none
   | none => none
  | _, _, _ => none
 | _, _ => none
theorem eAppZ_sound (hΓ : TabOk P Γ) {ρ : Rho} {w : World} {σ σ' : List AObj} (hH : RH ρ w σ) {t t' ty : TypeId} {s x v : AV} {C : Prop} (h : eAppZ Γ σ t t' s x = some (v,σ',C)) (hC : C) {vs vx : Value} (hs : Rv ρ w s vs) (hx : Rv ρ w x vx) :
  ∃ r ρ' w',(Builtin.append_ #[t,t'] ty #[vs,vx]).run P w = .ok r w' ∧ Rv ρ' w' v r ∧ RH ρ' w' σ' ∧ Step ρ w ρ' w' := by
 unfold eAppZ at h
 split at h
 case h_2 => cases h
 rename_i ti ti' hti hti'
 have hd := (hΓ t ti hti).desc
 have hd' := (hΓ t' ti' hti').desc
 split at h
 case h_2 => cases h
 rename_i e kn kq k hfs hfs'
 rw [hfs] at hd
 rw [hfs'] at hd'
 simp only [TD.holds] at hd hd'
 split at h
 case h_2 => cases h
 rename_i te hte
 have hte := hΓ e te hte
 split at h
 case h_2 => cases h
 rename_i o s0 n c
 split at h
 case h_2 => cases h
 rename_i ety esz len elem hob
 simp only [Option.some.injEq, Prod.mk.injEq] at h
 obtain ⟨rfl, rfl, rfl⟩ := h
 obtain ⟨k0, c0, c2, c3, c4, c5, rfl, rfl, c8⟩ := hC
 simp only [Rv] at hx hs
 subst hx
 obtain ⟨K, rfl⟩ : ∃ K : Nat, k = K := ⟨k.toNat, by omega⟩
 simp only [Int.toNat_natCast] at c0 c2 ⊢
 obtain ⟨i, z, hi, hsz, hby, hz, hzc⟩ := hte.info
 have hzs : z.cells.size = te.size := by rw [hzc]; simp [c5]
 -- the old elements
 obtain ⟨base,cap,olds,rfl,hcc,ol,o2,o3,hold⟩ : ∃ (base : Option Addr) (cap : Nat) (olds : List Value),vs = .slice base n cap ∧ cap = c ∧ olds.length = n * te.size ∧ (∀ y ∈ olds,y.oneCell' = true) ∧
   (∀ i',i' < n → ∀ j,j < te.size → ∃ y,olds[i' * te.size + j]? = some y ∧ y.oneCell' = true ∧ Rv ρ w (elem (s0 + i') j) y) ∧ (Builtin.firstCells i.size n (.slice base n cap)).run P w.drew = .ok olds.toArray w.drew := by
  rcases hs with ⟨l, cap', hl, rfl, hs1, hs2, hc'⟩ | ⟨rfl, ⟨b, rfl⟩, hc'⟩
  ·rcases hH.obj o _ (nthO_eq hob rfl) with ⟨l', cs, hl', he, hh, ⟨hcs, hc1⟩, hdl, hro⟩ | ⟨hn, _⟩
   ·rw [hl] at hl'
    simp only [Option.some.injEq] at hl'
    subst hl'
    have holdc : ∀ i',i' < n → ∀ j,j < te.size → ∃ y,w.cell? ((⟨l.b,l.d + s0 * l.esz,none⟩ : Addr).add (i' * te.size + j)) = some y ∧ y.oneCell' = true ∧ Rv ρ w (elem (s0 + i') j) y := by
     intro i' hi' j hj
     obtain ⟨y, hy, hy1, hv⟩ := hro (s0 + i') (by omega) j hj
     refine ⟨y, ?_, hy1, hv⟩
     rw [cell_plain hh, he, ← hy, Nat.add_mul]
     congr 1
     omega
    obtain ⟨olds, ol, o1, o2, o3⟩ := src_cells holdc
    exact ⟨_, cap', olds, rfl, hc' c rfl, ol, o2, o3, Oapp (by rw [hsz]; exact ol) o1⟩
   ·rw [hl] at hn; simp at hn
  ·refine ⟨b, 0, [], rfl, (hc' c rfl).symm, by simp, by simp, fun i' hi' => by omega, ?_⟩
   cases b <;> simp [Builtin.firstCells, loadCells, loadCellsFrom]
 subst hcc
 have hmb : (n + K) * i.bytes ≤ 140737488355328 := by rw [hby]; exact Nat.le_trans (Nat.mul_le_mul c2 c3) (by decide)
 have hkb : K * i.bytes ≤ 281474976710656 := Nat.le_trans (Nat.mul_le_mul_right _ (by omega : K ≤ n + K)) (by omega)
 have hrun := Go.Lib.run_append_grow_zeros (P := P) w t t' ty _ i z kq kn hd hd' hi hz base n cap olds hold K (by omega) (by omega) c0 (by omega) hkb (growslice_fits (by omega) hmb)
 have hge := grownCap_ge' w (n + K) cap ety
 obtain ⟨ρ',g1,g2,g3⟩ := app_new hH ety te.size (n + K) (grownCap w (n + K) cap ety) (catE n (fun i j=>elem (s0 + i) j) (fun _ j=>nth (zeroL te.zero) j)) (olds ++ (Builtin.zeroCells z.cells K).toList ++ (Builtin.zeroCells z.cells (grownCap w (n + K) cap ety - (n + K))).toList)
  (by rw [List.length_append,List.length_append,ol,Array.length_toList,size_zeroCells,Array.length_toList,size_zeroCells,hzs,← Nat.add_mul,← Nat.add_mul];congr 1;omega) hge (fun y hy=>by
  rcases List.mem_append.1 hy with hy | hy
  ·rcases List.mem_append.1 hy with hy | hy
   ·exact o2 y hy
   ·exact zeroCells_one hzc y hy
  ·exact zeroCells_one hzc y hy) (fun i' hi' j hj => by
   unfold catE
   by_cases hin : i' < n
   ·obtain ⟨y, q1, q2, q3⟩ := o3 i' hin j hj
    have hlt := (List.getElem?_eq_some_iff.1 q1).1
    refine ⟨y, by rw [List.append_assoc, List.getElem?_append_left hlt]; exact q1, q2, ?_⟩
    rw [if_pos hin]
    exact q3
   ·have e1 : i' * te.size = n * te.size + (i' - n) * te.size := by rw [← Nat.add_mul]; congr 1; omega
    have hlt : (i' - n) * te.size + j < K * te.size := by
     have := Nat.mul_le_mul_right te.size (show (i' - n) + 1 ≤ K by omega)
     rw [Nat.succ_mul] at this
     omega
    obtain ⟨y,hy,hv⟩ := RvL.get (zeroL_sound ρ w te.zero) (nth_eq (l := zeroL te.zero) (i := j) (by have := (zeroL_sound ρ w te.zero).length;simp at this;omega))
    refine ⟨y, ?_, zeroL_one te.zero y (List.mem_of_getElem? hy), ?_⟩
    ·rw [List.getElem?_append_left (by rw [List.length_append,ol,Array.length_toList,size_zeroCells,hzs];omega),List.getElem?_append_right (by omega),ol,show i' * te.size + j - n * te.size = (i' - n) * te.size + j by omega,zeroCells_get hzc c5 hlt hj]
     exact hy
    ·rw [if_neg hin]; exact hv)
 refine ⟨_, ρ', _, hrun, g3, ?_, ?_⟩
 ·have e : (olds.toArray ++ Builtin.zeroCells z.cells K ++ Builtin.zeroCells z.cells (grownCap w (n + K) cap ety - (n + K))) = (olds ++ (Builtin.zeroCells z.cells K).toList ++ (Builtin.zeroCells z.cells (grownCap w (n + K) cap ety - (n + K))).toList).toArray := by
   apply Array.ext'; simp
  rw [e]; exact g1
 ·have e : (olds.toArray ++ Builtin.zeroCells z.cells K ++ Builtin.zeroCells z.cells (grownCap w (n + K) cap ety - (n + K))) = (olds ++ (Builtin.zeroCells z.cells K).toList ++ (Builtin.zeroCells z.cells (grownCap w (n + K) cap ety - (n + K))).toList).toArray := by
   apply Array.ext'; simp
  rw [e]; exact g2
end
end Go.Ab
namespace Go.Ab
section
variable {P : Program} {Γ : Tab}
def nthF : List (TypeId × Nat) → Nat → Option (TypeId × Nat)
 | [], _ => none
 | x :: _, 0 => some x
 | _ :: xs, n + 1 => nthF xs n
theorem nthF_eq : ∀ (l : List (TypeId × Nat)) (i : Nat), nthF l i = l[i]?
 | [], i => by simp [nthF]
 | x :: xs, 0 => by simp [nthF]
 | x :: xs, i + 1 => by simp [nthF, nthF_eq xs i]
def eFieldAddr (Γ : Tab) (t : TypeId) (p : AV) (f : Nat) : Option (AV × Prop) :=
 match Γ.get t with
 | some ti =>
  match ti.d with
  | .strct fs =>
   match nthF fs f with
   | some (ft, off) =>
    match Γ.get ft with
    | some tf =>
     match p with
     | .optr o i off' => some (.optr o i (off' + off), tf.size ≠ 0)
     | .rptr n cell => some (.rptr (n - off) (fun j => cell (off + j)), tf.size ≠ 0)
     | _ => none
    | none => none
   | none => none
  | _ => none
 | none => none
theorem eFieldAddr_sound (hΓ : TabOk P Γ) {ρ : Rho} {w : World} {t : TypeId} {p v : AV} {f : Nat} {C : Prop} (h : eFieldAddr Γ t p f = some (v,C)) (hC : C) {x : Value} (hx : Rv ρ w p x) :
  ∃ r, (Instr.fieldAt t x f).run P w = .ok r w ∧ Rv ρ w v r := by
 unfold eFieldAddr at h
 split at h
 case h_2 => cases h
 rename_i ti hti
 have hd := (hΓ t ti hti).desc
 split at h
 case h_2 => cases h
 rename_i fs hfs
 rw [hfs] at hd
 simp only [TD.holds] at hd
 obtain ⟨F, hu, rfl⟩ := hd
 split at h
 case h_2 => cases h
 rename_i ft off hf
 rw [nthF_eq, List.getElem?_map] at hf
 cases hF : F.toList[f]? with
 | none => simp [hF] at hf
 | some fd =>
  simp only [hF, Option.map_some, Option.some.injEq, Prod.mk.injEq] at hf
  obtain ⟨rfl, rfl⟩ := hf
  have hF' : F[f]? = some fd := by simpa using hF
  split at h
  case h_2 => cases h
  rename_i tf htf
  have htf := hΓ _ tf htf
  split at h
  ·simp only [Option.some.injEq, Prod.mk.injEq] at h
   obtain ⟨rfl, rfl⟩ := h
   simp only [Rv] at hx
   obtain ⟨l, hl, rfl⟩ := hx
   refine ⟨_,by simp [Instr.fieldAt,run_underlying hu,hF',Instr.sureAddr,fieldPlace,htf.sizeOf,hC,add_lit];rfl,?_⟩
   simp only [Rv]
   exact ⟨l, hl, by rw [Nat.add_assoc]⟩
  ·simp only [Option.some.injEq, Prod.mk.injEq] at h
   obtain ⟨rfl, rfl⟩ := h
   simp only [Rv] at hx
   obtain ⟨ad, rfl, h1, h2, h3⟩ := hx
   refine ⟨_, by simp [Instr.fieldAt, run_underlying hu, hF', Instr.sureAddr, fieldPlace, htf.sizeOf, hC]; rfl, ?_⟩
   simp only [Rv]
   refine ⟨_, rfl, by rw [add_block]; exact h1, by rw [add_block]; exact h2, fun j hj => ?_⟩
   rw [add_add]
   exact h3 _ (by omega)
  ·cases h
def eIndexAddr (Γ : Tab) (σ : List AObj) (t : TypeId) (p ix : AV) : Option (AV × Prop) :=
 match ix with
 | .imm (.int _ i) =>
  match Γ.get t with
  | some ti =>
   match ti.d with
   | .slice e =>
    match Γ.get e with
    | some te =>
     match p with
     | .own o s n _ =>
      match nthO σ o with
      | .arr _ esz _ _ => some (.optr o (s + i.toNat) 0, 0 ≤ i ∧ i < n ∧ esz = te.size)
      | _ => none
     | .view n esz elem => some (.rptr esz (fun j => elem i.toNat j), 0 ≤ i ∧ i < n ∧ esz = te.size)
     | .pv n esz _ elem => some (.rptr esz (fun j => elem i.toNat j), 0 ≤ i ∧ i < n ∧ esz = te.size)
     | .bsl o off _ n _ => some (.optr o 0 (off + i.toNat * te.size), 0 ≤ i ∧ i < n)
     | _ => none
    | none => none
   | .array len e =>
    match Γ.get e with
    | some te =>
     match p with
     | .optr o k off => some (.optr o k (off + i.toNat * te.size), 0 ≤ i ∧ i < len)
     | .rptr n cell => some (.rptr te.size (fun j => cell (i.toNat * te.size + j)),0 ≤ i ∧ i < len ∧ len * te.size ≤ n)
     | _ => none
    | none => none
   | _ => none
  | none => none
 | _ => none
theorem eIndexAddr_sound (hΓ : TabOk P Γ) {ρ : Rho} {w : World} {σ : List AObj} (hH : RH ρ w σ) {t : TypeId} {p ix v : AV} {C : Prop} (h : eIndexAddr Γ σ t p ix = some (v,C)) (hC : C) {x y : Value} (hx : Rv ρ w p x) (hy : Rv ρ w ix y) :
  ∃ r, (Instr.indexAt t x y).run P w = .ok r w ∧ Rv ρ w v r := by
 unfold eIndexAddr at h
 split at h
 case h_2 => cases h
 rename_i k i
 simp only [Rv] at hy
 subst hy
 split at h
 case h_2 => cases h
 rename_i ti hti
 have hd := (hΓ t ti hti).desc
 split at h
 ·rename_i e hfs
  rw [hfs] at hd
  simp only [TD.holds] at hd
  split at h
  case h_2 => cases h
  rename_i te hte
  have hte := hΓ e te hte
  have run : ∀ (ad : Addr) (n c : Nat),0 ≤ i → i < n → (Instr.indexAt t (.slice (some ad) n c) (.int k i)).run P w = .ok (.pointer (some (ad.add (i.toNat * te.size)))) w := by
   intro ad n c h0 h1
   simp [Instr.indexAt, asIntOf, run_underlying hd, h0, h1, hte.sizeOf]
  split at h
  ·rename_i o s n c
   simp only [Rv] at hx
   split at h
   case h_2 => cases h
   rename_i ety esz len elem hob
   simp only [Option.some.injEq, Prod.mk.injEq] at h
   obtain ⟨rfl, rfl⟩ := h
   obtain ⟨h0, h1, h2⟩ := hC
   rcases hx with ⟨l, cap, hl, rfl, hn, _, _⟩ | ⟨h3, _⟩
   ·refine ⟨_, run _ _ _ h0 h1, ?_⟩
    rcases hH.obj o _ (nthO_eq hob rfl) with ⟨l', cs, hl', he, _⟩ | ⟨hn', _⟩
    ·rw [hl] at hl'
     simp only [Option.some.injEq] at hl'
     subst hl'
     simp only [Rv]
     exact ⟨l, hl, by rw [add_lit, he, ← h2, Nat.add_mul]; congr 3; omega⟩
    ·rw [hl] at hn'; simp at hn'
   ·omega
  ·simp only [Option.some.injEq, Prod.mk.injEq] at h
   obtain ⟨rfl, rfl⟩ := h
   obtain ⟨h0, h1, h2⟩ := hC
   simp only [Rv] at hx
   obtain ⟨a, cap, rfl, hn, hr⟩ := hx
   obtain ⟨ad, rfl, q1, q2, q3⟩ := hr (by omega)
   refine ⟨_, run _ _ _ h0 h1, ?_⟩
   simp only [Rv]
   refine ⟨_, rfl, by rw [add_block]; exact q1, by rw [add_block]; exact q2, fun j hj => ?_⟩
   rw [add_add, ← h2]
   exact q3 _ (by omega) j hj
  ·simp only [Option.some.injEq, Prod.mk.injEq] at h
   obtain ⟨rfl, rfl⟩ := h
   obtain ⟨h0, h1, h2⟩ := hC
   have hx := pv_view hx
   simp only [Rv] at hx
   obtain ⟨a, cap, rfl, hn, hr⟩ := hx
   obtain ⟨ad, rfl, q1, q2, q3⟩ := hr (by omega)
   refine ⟨_, run _ _ _ h0 h1, ?_⟩
   simp only [Rv]
   refine ⟨_, rfl, by rw [add_block]; exact q1, by rw [add_block]; exact q2, fun j hj => ?_⟩
   rw [add_add, ← h2]
   exact q3 _ (by omega) j hj
  ·simp only [Option.some.injEq, Prod.mk.injEq] at h
   obtain ⟨rfl, rfl⟩ := h
   obtain ⟨h0, h1⟩ := hC
   simp only [Rv] at hx
   obtain ⟨_, l, hl, rfl⟩ := hx
   refine ⟨_, run _ _ _ h0 h1, ?_⟩
   simp only [Rv]
   exact ⟨l, hl, by rw [add_lit]; congr 3; omega⟩
  ·cases h
 ·rename_i len e hfs
  rw [hfs] at hd
  simp only [TD.holds] at hd
  split at h
  case h_2 => cases h
  rename_i te hte
  have hte := hΓ e te hte
  have run : ∀ (ad : Addr),0 ≤ i → i < len → (Instr.indexAt t (.pointer (some ad)) (.int k i)).run P w = .ok (.pointer (some (ad.add (i.toNat * te.size)))) w := by
   intro ad h0 h1
   simp [Instr.indexAt, asIntOf, run_underlying hd, h0, h1, hte.sizeOf, Instr.sureAddr]
  split at h
  ·simp only [Option.some.injEq, Prod.mk.injEq] at h
   obtain ⟨rfl, rfl⟩ := h
   obtain ⟨h0, h1⟩ := hC
   simp only [Rv] at hx
   obtain ⟨l, hl, rfl⟩ := hx
   refine ⟨_, run _ h0 h1, ?_⟩
   simp only [Rv]
   exact ⟨l, hl, by rw [add_lit]; congr 3; omega⟩
  ·simp only [Option.some.injEq, Prod.mk.injEq] at h
   obtain ⟨rfl, rfl⟩ := h
   obtain ⟨h0, h1, h2⟩ := hC
   simp only [Rv] at hx
   obtain ⟨ad, rfl, q1, q2, q3⟩ := hx
   refine ⟨_, run _ h0 h1, ?_⟩
   simp only [Rv]
   refine ⟨_, rfl, by rw [add_block]; exact q1, by rw [add_block]; exact q2, fun j hj => ?_⟩
   rw [add_add]
   have hlt : i.toNat * te.size + j < len * te.size := by
    have := Nat.mul_le_mul_right te.size (Nat.succ_le_of_lt (show i.toNat < len by omega))
    rw [Nat.succ_mul] at this
    omega
   exact q3 _ (by omega)
  ·cases h
 ·cases h
def takeL (xs : List AV) (off n : Nat) : List AV := (xs.drop off).take n
def ePart (Γ : Tab) (t : TypeId) (xs : List AV) (off : Nat) : Option (AV × Prop) :=
 match Γ.get t with
 | some ti => if ti.d.isAgg then some (.agg (takeL xs off ti.size),off + ti.size ≤ xs.length) else some (nth xs off,off < xs.length)
 | none => none
theorem ePart_sound (hΓ : TabOk P Γ) {ρ : Rho} {w : World} {t : TypeId} {xs : List AV} {off : Nat} {v : AV} {C : Prop} (h : ePart Γ t xs off = some (v,C)) (hC : C) {cs : List Value} (hx : RvL ρ w xs cs) :
  ∃ r, (part t cs.toArray off).run P w = .ok r w ∧ Rv ρ w v r := by
 unfold ePart at h
 split at h
 case h_2 => cases h
 rename_i ti hti
 have hti := hΓ t ti hti
 split at h
 ·rename_i hag
  simp only [Option.some.injEq, Prod.mk.injEq] at h
  obtain ⟨rfl, rfl⟩ := h
  refine ⟨.agg ((cs.drop off).take ti.size).toArray, ?_, ?_⟩
  ·simp only [part, Sem.run_bind, hti.isAgg, hag, Result.andThen_ok, if_true, hti.sizeOf, Sem.run_pure]
   congr 2
   apply Array.ext'
   simp [List.extract_eq_take_drop]
  ·simp only [Rv]
   exact ⟨_, rfl, RvL.take _ (RvL.drop _ hx)⟩
 ·rename_i hag
  simp only [Option.some.injEq, Prod.mk.injEq] at h
  obtain ⟨rfl, rfl⟩ := h
  obtain ⟨y, hy, hv⟩ := RvL.get hx (nth_eq hC)
  refine ⟨y, ?_, hv⟩
  simp [part, hti.isAgg, hag, hy]
def eField (Γ : Tab) (t : TypeId) (x : AV) (f : Nat) : Option (AV × Prop) :=
 match x with
 | .agg xs =>
  match Γ.get t with
  | some ti =>
   match ti.d with
   | .strct fs => match nthF fs f with | some (ft, off) => ePart Γ ft xs off | none => none
   | _ => none
  | none => none
 | _ => none
theorem eField_sound (hΓ : TabOk P Γ) {ρ : Rho} {w : World} {t : TypeId} {x v : AV} {f : Nat} {C : Prop} (h : eField Γ t x f = some (v,C)) (hC : C) {vx : Value} (hx : Rv ρ w x vx) :
  ∃ r, (Instr.field t vx f).run P w = .ok r w ∧ Rv ρ w v r := by
 unfold eField at h
 split at h
 case h_2 => cases h
 rename_i xs
 simp only [Rv] at hx
 obtain ⟨cs, rfl, hcs⟩ := hx
 split at h
 case h_2 => cases h
 rename_i ti hti
 have hd := (hΓ t ti hti).desc
 split at h
 case h_2 => cases h
 rename_i fs hfs
 rw [hfs] at hd
 simp only [TD.holds] at hd
 obtain ⟨F, hu, rfl⟩ := hd
 split at h
 case h_2 => cases h
 rename_i ft off hf
 rw [nthF_eq, List.getElem?_map] at hf
 cases hF : F.toList[f]? with
 | none => simp [hF] at hf
 | some fd =>
  simp only [hF, Option.map_some, Option.some.injEq, Prod.mk.injEq] at hf
  obtain ⟨rfl, rfl⟩ := hf
  have hF' : F[f]? = some fd := by simpa using hF
  obtain ⟨r, hr, hv⟩ := ePart_sound hΓ h hC hcs
  exact ⟨r, by simp [Instr.field, run_underlying hu, hF', asAgg, hr], hv⟩
def strAt (s : ByteArray) (i : Int) : Int := match s[i.toNat]? with | some b => (b.toNat : Int) | none => 0
def eIndex (Γ : Tab) (t : TypeId) (x ix : AV) : Option (AV × Prop) :=
 match x, ix with
 | .imm (.string s), .imm (.int _ i) =>
  match Γ.get t with
  | some ti =>
   match ti.d with
   | .str => some (.imm (.int .u8 (strAt s i)), 0 ≤ i ∧ i < s.size)
   | _ => none
  | none => none
 | .agg xs, .imm (.int _ i) =>
  match Γ.get t with
  | some ti =>
   match ti.d with
   | .array len e =>
    match Γ.get e with
    | some te => match ePart Γ e xs (i.toNat * te.size) with | some (v,c) => some (v,0 ≤ i ∧ i < len ∧ c) | none => none
    | none => none
   | _ => none
  | none => none
 | _, _ => none
theorem eIndex_sound (hΓ : TabOk P Γ) {ρ : Rho} {w : World} {t : TypeId} {x ix v : AV} {C : Prop} (h : eIndex Γ t x ix = some (v,C)) (hC : C) {vx vi : Value} (hx : Rv ρ w x vx) (hi : Rv ρ w ix vi) :
  ∃ r, (Instr.index t vx vi).run P w = .ok r w ∧ Rv ρ w v r := by
 unfold eIndex at h
 split at h
 case h_3 => cases h
 case h_1 =>
  rename_i s k i
  simp only [Rv] at hx hi
  subst hi; subst hx
  split at h
  case h_2 => cases h
  rename_i ti hti
  have hd := (hΓ t ti hti).desc
  split at h
  case h_2 => cases h
  rename_i hfs
  rw [hfs] at hd
  simp only [TD.holds] at hd
  simp only [Option.some.injEq, Prod.mk.injEq] at h
  obtain ⟨rfl, rfl⟩ := h
  obtain ⟨h0, h1⟩ := hC
  have hn : i.toNat < s.size := by omega
  have e : s[i.toNat]? = some s[i.toNat] := getElem?_pos s i.toNat hn
  refine ⟨.int .u8 (strAt s i), ?_, by simp only [Rv]⟩
  simp [Instr.index, asIntOf, run_underlying hd, h0, e, strAt]
 rename_i xs k i
 simp only [Rv] at hx hi
 subst hi
 obtain ⟨cs, rfl, hcs⟩ := hx
 split at h
 case h_2 => cases h
 rename_i ti hti
 have hd := (hΓ t ti hti).desc
 split at h
 case h_2 => cases h
 rename_i len e hfs
 rw [hfs] at hd
 simp only [TD.holds] at hd
 split at h
 case h_2 => cases h
 rename_i te hte
 split at h
 case h_2 => cases h
 rename_i v' c hp
 simp only [Option.some.injEq, Prod.mk.injEq] at h
 obtain ⟨rfl, rfl⟩ := h
 obtain ⟨h0, h1, hc⟩ := hC
 obtain ⟨r, hr, hv⟩ := ePart_sound hΓ hp hc hcs
 exact ⟨r, by simp [Instr.index, asIntOf, run_underlying hd, h0, h1, (hΓ e te hte).sizeOf, hr], hv⟩
def eExtract (x : AV) (i : Nat) : Option (AV × Prop) :=
 match x with
 | .tup xs => some (nth xs i, i < xs.length)
 | _ => none
theorem eExtract_sound {ρ : Rho} {w : World} {x v : AV} {i : Nat} {C : Prop} (h : eExtract x i = some (v,C)) (hC : C) {vx : Value} (hx : Rv ρ w x vx) : ∃ r,(Instr.extract vx i).run P w = .ok r w ∧ Rv ρ w v r := by
 unfold eExtract at h
 split at h
 case h_2 => cases h
 simp only [Option.some.injEq, Prod.mk.injEq] at h
 obtain ⟨rfl, rfl⟩ := h
 simp only [Rv] at hx
 obtain ⟨cs, rfl, hcs⟩ := hx
 obtain ⟨y, hy, hv⟩ := RvL.get hcs (nth_eq hC)
 exact ⟨y, by simp [Instr.extract, hy], hv⟩
def eNilCheck (x : AV) : Option (AV × Prop) :=
 match x with
 | .optr o i off => some (.optr o i off, True)
 | .rptr n c => some (.rptr n c, True)
 | .fn (.func f) a b => some (.fn (.func f) a b, True)
 | _ => none
def bnd : Option AV → Option (Option Int)
 | none => some none
 | some (.imm (.int _ n)) => some (some n)
 | _ => none
def RvO (ρ : Rho) (w : World) : Option AV → Option Value → Prop
 | none, none => True
 | some a, some x => Rv ρ w a x
 | _, _ => False
theorem bnd_sound {ρ : Rho} {w : World} {a : Option AV} {x : Option Value} {b : Option Int} (h : bnd a = some b) (hx : RvO ρ w a x) : (b = none ∧ x = none) ∨ ∃ k n,b = some n ∧ x = some (.int k n) := by
 unfold bnd at h
 split at h
 ·simp only [Option.some.injEq] at h
  subst h
  cases x
  ·exact .inl ⟨rfl, rfl⟩
  ·simp [RvO] at hx
 ·rename_i k n
  simp only [Option.some.injEq] at h
  subst h
  cases x
  ·simp [RvO] at hx
  ·simp only [RvO, Rv] at hx
   subst hx
   exact .inr ⟨k, n, rfl, rfl⟩
 ·cases h
def loOf : Option Int → Int
 | none => 0
 | some n => n
def hiOf (d : Nat) : Option Int → Int
 | none => d
 | some n => n
def capLe (c : Option Nat) (n : Nat) (h : Int) : Prop :=
 match c with
 | some cap => h ≤ cap
 | none => h ≤ n
def eSlice (Γ : Tab) (σ : List AObj) (t : TypeId) (x : AV) (lo hi mx : Option AV) : Option (AV × Prop) :=
 match bnd lo, bnd hi, bnd mx with
 | some lo, some hi, some (some m) =>
  match Γ.get t with
  | some ti =>
   match ti.d with
   | .slice e =>
    match Γ.get e with
    | some te =>
     match x with
     | .own o s n c =>
      match nthO σ o with
      | .arr _ esz _ _ =>
       match hi with
       | some hv => some (.own o (s + (loOf lo).toNat) (hv.toNat - (loOf lo).toNat) (some (m.toNat - (loOf lo).toNat)),esz = te.size ∧ 0 ≤ loOf lo ∧ loOf lo ≤ hv ∧ hv ≤ m ∧ capLe c n m)
       | none => none
      | _ => none
     | .view _ _ _ | .imm (.slice none 0 0) => some (.emp, loOf lo = 0 ∧ hi = some 0 ∧ m = 0)
     | _ => none
    | none => none
   | _ => none
  | none => none
 | some lo, some hi, some none =>
  match Γ.get t with
  | some ti =>
   match ti.d with
   | .slice e =>
    match Γ.get e with
    | some te =>
     match x with
     | .own o s n c =>
      match nthO σ o with
      | .arr _ esz _ _ => some (.own o (s + (loOf lo).toNat) ((hiOf n hi).toNat - (loOf lo).toNat) (match c with | some c => some (c - (loOf lo).toNat) | none => none),
        esz = te.size ∧ 0 ≤ loOf lo ∧ loOf lo ≤ hiOf n hi ∧ capLe c n (hiOf n hi))
      | _ => none
     | .view n esz elem => some (.view ((hiOf n hi).toNat - (loOf lo).toNat) esz (fun i j => elem ((loOf lo).toNat + i) j),esz = te.size ∧ 0 ≤ loOf lo ∧ loOf lo ≤ hiOf n hi ∧ hiOf n hi ≤ n)
     | .pv n esz c elem=>some (.pv ((hiOf n hi).toNat - (loOf lo).toNat) esz (match c with|some c=>some (c - (loOf lo).toNat)|none=>none) (fun i j=>elem ((loOf lo).toNat + i) j),esz = te.size ∧ 0 ≤ loOf lo ∧ loOf lo ≤ hiOf n hi ∧ hiOf n hi ≤ n)
     | .emp => some (.emp, loOf lo = 0 ∧ hiOf 0 hi = 0)
     | .imm (.slice none 0 0) => some (.imm (.slice none 0 0), loOf lo = 0 ∧ hiOf 0 hi = 0)
     | .bsl o off esz n c=>some (.bsl o (off + (loOf lo).toNat * te.size) esz ((hiOf n hi).toNat - (loOf lo).toNat) (c - (loOf lo).toNat),0 ≤ loOf lo ∧ loOf lo ≤ hiOf n hi ∧ hiOf n hi ≤ c ∧ loOf lo < c)
     | _ => none
    | none => none
   | .array len e =>
    match Γ.get e with
    | some te =>
     match x with
     | .optr o i off=>some (.bsl o (off + (loOf lo).toNat * te.size) te.size ((hiOf len hi).toNat - (loOf lo).toNat) (len - (loOf lo).toNat),i = 0 ∧ 0 ≤ loOf lo ∧ loOf lo ≤ hiOf len hi ∧ hiOf len hi ≤ len ∧ loOf lo < len)
     | .rptr n cell=>some (.view ((hiOf len hi).toNat - (loOf lo).toNat) te.size (fun i j=>cell (((loOf lo).toNat + i) * te.size + j)),0 ≤ loOf lo ∧ loOf lo ≤ hiOf len hi ∧ hiOf len hi ≤ len ∧ len * te.size ≤ n)
     | _ => none
    | none => none
   | .str =>
    match x with
    | .imm (.string s) => some (.imm (.string (s.extract (loOf lo).toNat (hiOf s.size hi).toNat)),0 ≤ loOf lo ∧ loOf lo ≤ hiOf s.size hi ∧ hiOf s.size hi ≤ s.size)
    | _ => none
   | _ => none
  | none => none
 | _, _, _ => none
theorem run_bounds {w : World} {ρ : Rho} (isSlice : Bool) (n cap : Nat) {lo hi : Option AV} {l h : Option Int} {vl vh : Option Value} (h1 : bnd lo = some l) (h2 : bnd hi = some h) (r1 : RvO ρ w lo vl) (r2 : RvO ρ w hi vh)
  (q1 : 0 ≤ loOf l) (q2 : loOf l ≤ hiOf n h) (q3 : hiOf n h ≤ cap) : (Instr.sliceBounds isSlice n cap vl vh none).run P w = .ok ((loOf l).toNat,(hiOf n h).toNat,cap) w := by
 rcases bnd_sound h1 r1 with ⟨rfl,rfl⟩ | ⟨k,a,rfl,rfl⟩ <;> rcases bnd_sound h2 r2 with ⟨rfl,rfl⟩ | ⟨k2,b,rfl,rfl⟩ <;> simp only [loOf,hiOf] at q1 q2 q3 ⊢
 ·simp [Instr.sliceBounds]
 ·have e0 : 0 ≤ b := by omega
  simp [Instr.sliceBounds, run_sliceBound (P := P) w k2 b cap _ e0 q3]
 ·simp [Instr.sliceBounds, run_sliceBound (P := P) w k a n _ q1 q2]
 ·have e0 : 0 ≤ b := by omega
  have e1 : a ≤ (b.toNat : Int) := by omega
  simp [Instr.sliceBounds, run_sliceBound (P := P) w k2 b cap _ e0 q3, run_sliceBound (P := P) w k a b.toNat _ q1 e1]
theorem eSlice_sound (hΓ : TabOk P Γ) {ρ : Rho} {w : World} {σ : List AObj} (hH : RH ρ w σ) {t : TypeId} {x v : AV} {lo hi mx : Option AV} {C : Prop} (h : eSlice Γ σ t x lo hi mx = some (v,C)) (hC : C)
  {vx : Value} {vl vh vm : Option Value} (hx : Rv ρ w x vx) (r1 : RvO ρ w lo vl) (r2 : RvO ρ w hi vh) (r3 : RvO ρ w mx vm) :
  ∃ r, (Instr.sliceAt t vx vl vh vm).run P w = .ok r w ∧ Rv ρ w v r := by
 unfold eSlice at h
 split at h
 · -- the full form: s[:0:0]
  rename_i l hb m hl hh hm
  rcases bnd_sound hm r3 with ⟨h0, _⟩ | ⟨k3, m', hm1, rfl⟩
  ·cases h0
  ·simp only [Option.some.injEq] at hm1
   subst hm1
   split at h
   case h_2 => cases h
   rename_i ti hti
   have hd := (hΓ t ti hti).desc
   split at h
   case h_2 => cases h
   rename_i e hfs
   rw [hfs] at hd
   simp only [TD.holds] at hd
   split at h
   case h_2 => cases h
   rename_i te hte
   have hte := hΓ e te hte
   have key : ∀ (a : Option Addr) (n cap : Nat),loOf l = 0 ∧ hb = some 0 ∧ m = 0 → (Instr.sliceAt t (.slice a n cap) vl vh (some (.int k3 m))).run P w = .ok (.slice a 0 0) w := by
    intro a n cap ⟨q1, q2, q3⟩
    subst q2; subst q3
    rcases bnd_sound hh r2 with ⟨h0, _⟩ | ⟨k2, b, hb1, rfl⟩
    ·cases h0
    ·simp only [Option.some.injEq] at hb1
     subst hb1
     rcases bnd_sound hl r1 with ⟨rfl, rfl⟩ | ⟨k1, a1, rfl, rfl⟩
     ·simp [Instr.sliceAt,run_underlying hd,Instr.slice,Instr.sliceBounds,Instr.sliceBound,asIntOf,hte.sizeOf]
     ·simp only [loOf] at q1
      subst q1
      simp [Instr.sliceAt,run_underlying hd,Instr.slice,Instr.sliceBounds,Instr.sliceBound,asIntOf,hte.sizeOf]
   have fin : ∀ a : Option Addr, Rv ρ w .emp (.slice a 0 0) := fun a => by simp only [Rv]; exact ⟨a, rfl⟩
   have key3 : ∀ (a : Option Addr) (n cap : Nat) (hv : Int),hb = some hv → 0 ≤ loOf l → loOf l ≤ hv → hv ≤ m → m ≤ cap → (Instr.sliceAt t (.slice a n cap) vl vh (some (.int k3 m))).run P w =
     .ok (.slice (if m.toNat = (loOf l).toNat then a else a.map (·.add ((loOf l).toNat * te.size))) (hv.toNat - (loOf l).toNat) (m.toNat - (loOf l).toNat)) w := by
    intro a n cap hv q0 q1 q2 q3 q4
    subst q0
    rcases bnd_sound hh r2 with ⟨h0, _⟩ | ⟨k2, b, hb1, rfl⟩
    ·cases h0
    ·simp only [Option.some.injEq] at hb1
     subst hb1
     have e1 : 0 ≤ m := by omega
     have e2 : hv ≤ (m.toNat : Int) := by omega
     have e3 : 0 ≤ hv := by omega
     rcases bnd_sound hl r1 with ⟨rfl, rfl⟩ | ⟨k1, a1, rfl, rfl⟩
     ·simp [Instr.sliceAt,run_underlying hd,Instr.slice,Instr.sliceBounds,run_sliceBound (P := P) w k3 m cap _ e1 q4,run_sliceBound (P := P) w k2 hv m.toNat _ e3 e2,hte.sizeOf,loOf]
     ·simp only [loOf] at q1 q2 ⊢
      have e4 : a1 ≤ (hv.toNat : Int) := by omega
      simp [Instr.sliceAt,run_underlying hd,Instr.slice,Instr.sliceBounds,run_sliceBound (P := P) w k3 m cap _ e1 q4,run_sliceBound (P := P) w k2 hv m.toNat _ e3 e2,run_sliceBound (P := P) w k1 a1 hv.toNat _ q1 e4,hte.sizeOf] <;> (by_cases h9 : m.toNat = a1.toNat <;> simp [h9])
   split at h
   ·rename_i o s n c
    split at h
    case h_2 => cases h
    rename_i ety esz len elem hob
    split at h
    case h_2 => cases h
    rename_i hv
    simp only [Option.some.injEq, Prod.mk.injEq] at h
    obtain ⟨rfl, rfl⟩ := h
    obtain ⟨c1, c2, c3, c4, c5⟩ := hC
    simp only [Rv] at hx
    rcases hx with ⟨l', cap, hl', rfl, hn, hcap, hcc⟩ | ⟨rfl, ⟨a, rfl⟩, hcc⟩
    ·have hle : m ≤ cap := by
      cases c with
      | none => simp only [capLe] at c5; omega
      | some c => simp only [capLe] at c5; have := hcc c rfl; omega
     refine ⟨_, key3 _ _ _ hv rfl c2 c3 c4 hle, ?_⟩
     have hesz : l'.esz = te.size := by
      rcases hH.obj o _ (nthO_eq hob rfl) with ⟨l2, cs, hl2, he, _⟩ | ⟨hn', _⟩
      ·rw [hl'] at hl2
       simp only [Option.some.injEq] at hl2
       subst hl2
       exact he.trans c1
      ·rw [hl'] at hn'; simp at hn'
     simp only [Rv]
     by_cases hcl : m.toNat = (loOf l).toNat
     ·rw [if_pos hcl]
      refine .inr ⟨by omega,⟨_,by rw [show hv.toNat - (loOf l).toNat = 0 by omega,show m.toNat - (loOf l).toNat = 0 by omega]⟩,fun c' hc' => ?_⟩
      simp only [Option.some.injEq] at hc'; omega
     ·rw [if_neg hcl]
      refine .inl ⟨l',m.toNat - (loOf l).toNat,hl',by simp only [Option.map_some,add_lit,hesz,Nat.add_mul,Nat.add_assoc],by omega,?_,fun c' hc' => ?_⟩
      ·have h9 : s + (loOf l).toNat + (m.toNat - (loOf l).toNat) ≤ s + cap := by omega
       have := Nat.mul_le_mul_right l'.esz h9
       omega
      ·simp only [Option.some.injEq] at hc'; omega
    ·have hle : m ≤ (0 : Nat) := by
      cases c with
      | none => simp only [capLe] at c5; omega
      | some c => simp only [capLe] at c5; have := hcc c rfl; omega
     refine ⟨_, key3 _ _ _ hv rfl c2 c3 c4 hle, ?_⟩
     simp only [Rv]
     refine .inr ⟨by omega,⟨if m.toNat = (loOf l).toNat then a else a.map (·.add ((loOf l).toNat * te.size)),by rw [show hv.toNat - (loOf l).toNat = 0 by omega,show m.toNat - (loOf l).toNat = 0 by omega]⟩,fun c' hc'=>?_⟩
     simp only [Option.some.injEq] at hc'; omega
   ·simp only [Option.some.injEq, Prod.mk.injEq] at h
    obtain ⟨rfl, rfl⟩ := h
    simp only [Rv] at hx
    obtain ⟨a, cap, rfl, _⟩ := hx
    exact ⟨_, key _ _ _ hC, fin _⟩
   ·simp only [Option.some.injEq, Prod.mk.injEq] at h
    obtain ⟨rfl, rfl⟩ := h
    simp only [Rv] at hx
    subst hx
    exact ⟨_, key _ _ _ hC, fin _⟩
   ·cases h
 ·rename_i l hb hl hh hm
  rcases bnd_sound hm r3 with ⟨_, rfl⟩ | ⟨k3, m', hm1, _⟩
  case inr => cases hm1
  split at h
  case h_2 => cases h
  rename_i ti hti
  have hd := (hΓ t ti hti).desc
  split at h
  ·rename_i e hfs
   rw [hfs] at hd
   simp only [TD.holds] at hd
   split at h
   case h_2 => cases h
   rename_i te hte
   have hte := hΓ e te hte
   have key : ∀ (a : Option Addr) (n cap : Nat),0 ≤ loOf l → loOf l ≤ hiOf n hb → hiOf n hb ≤ cap → (Instr.sliceAt t (.slice a n cap) vl vh none).run P w =
     .ok (.slice (if cap = (loOf l).toNat then a else a.map (·.add ((loOf l).toNat * te.size))) ((hiOf n hb).toNat - (loOf l).toNat) (cap - (loOf l).toNat)) w := by
    intro a n cap q1 q2 q3
    have hbd := run_bounds (P := P) true n cap hl hh r1 r2 q1 q2 q3
    simp only [Instr.sliceAt,Sem.run_bind,run_underlying hd,Result.andThen_ok,Instr.slice,hbd,hte.sizeOf,Sem.run_pure]
   split at h
   ·rename_i o s n c
    split at h
    case h_2 => cases h
    rename_i ety esz len elem hob
    simp only [Option.some.injEq, Prod.mk.injEq] at h
    obtain ⟨rfl, rfl⟩ := h
    obtain ⟨c1, c2, c3, c4⟩ := hC
    simp only [Rv] at hx
    rcases hx with ⟨l', cap, hl', rfl, hn, hcap, hcc⟩ | ⟨rfl, ⟨a, rfl⟩, hcc⟩
    ·have hle : hiOf n hb ≤ cap := by
      cases c with
      | none => simp only [capLe] at c4; omega
      | some c => simp only [capLe] at c4; have := hcc c rfl; omega
     refine ⟨_, key _ _ _ c2 c3 hle, ?_⟩
     have hesz : l'.esz = te.size := by
      rcases hH.obj o _ (nthO_eq hob rfl) with ⟨l2, cs, hl2, he, _⟩ | ⟨hn', _⟩
      ·rw [hl'] at hl2
       simp only [Option.some.injEq] at hl2
       subst hl2
       exact he.trans c1
      ·rw [hl'] at hn'; simp at hn'
     simp only [Rv]
     by_cases hcl : cap = (loOf l).toNat
     ·rw [if_pos hcl]
      refine .inr ⟨by omega,⟨_,by rw [show (hiOf n hb).toNat - (loOf l).toNat = 0 by omega,show cap - (loOf l).toNat = 0 by omega]⟩,fun c' hc' => ?_⟩
      cases c with
      | none => cases hc'
      | some c => simp only [Option.some.injEq] at hc'; have := hcc c rfl; omega
     ·rw [if_neg hcl]
      refine .inl ⟨l',cap - (loOf l).toNat,hl',by simp only [Option.map_some,add_lit,hesz,Nat.add_mul,Nat.add_assoc],by omega,?_,fun c' hc' => ?_⟩
      ·have : s + (loOf l).toNat + (cap - (loOf l).toNat) = s + cap := by omega
       rw [this]; exact hcap
      ·cases c with
       | none => cases hc'
       | some c => simp only [Option.some.injEq] at hc'; have := hcc c rfl; omega
    ·have hle : hiOf 0 hb ≤ (0 : Nat) := by
      cases c with
      | none => simp only [capLe] at c4; omega
      | some c => simp only [capLe] at c4; have := hcc c rfl; omega
     refine ⟨_, key _ _ _ c2 c3 hle, ?_⟩
     simp only [Rv]
     refine .inr ⟨by omega,⟨if (0 : Nat) = (loOf l).toNat then a else a.map (·.add ((loOf l).toNat * te.size)),by rw [show (hiOf 0 hb).toNat - (loOf l).toNat = 0 by omega,show 0 - (loOf l).toNat = 0 by omega]⟩,fun c' hc'=>?_⟩
     cases c with
     | none => cases hc'
     | some c => simp only [Option.some.injEq] at hc'; have := hcc c rfl; omega
   ·rename_i n esz elem
    simp only [Option.some.injEq, Prod.mk.injEq] at h
    obtain ⟨rfl, rfl⟩ := h
    obtain ⟨c1, c2, c3, c4⟩ := hC
    simp only [Rv] at hx
    obtain ⟨a, cap, rfl, hn, hr⟩ := hx
    refine ⟨_, key _ _ _ c2 c3 (by omega), ?_⟩
    simp only [Rv]
    refine ⟨_, _, rfl, by omega, fun hpos => ?_⟩
    have hlen : 0 < n := by clear hr; omega
    have hcl : ¬ cap = (loOf l).toNat := by clear hr; omega
    obtain ⟨ad, rfl, q1, q2, q3⟩ := hr hlen
    clear hr
    rw [if_neg hcl]
    refine ⟨_, rfl, by rw [add_block]; exact q1, by rw [add_block]; exact q2, fun i hi j hj => ?_⟩
    rw [add_add,← c1,show (loOf l).toNat * esz + (i * esz + j) = ((loOf l).toNat + i) * esz + j by rw [Nat.add_mul];omega]
    exact q3 _ (by omega) j hj
   ·rename_i n esz c elem
    simp only [Option.some.injEq, Prod.mk.injEq] at h
    obtain ⟨rfl, rfl⟩ := h
    obtain ⟨c1, c2, c3, c4⟩ := hC
    simp only [Rv] at hx
    obtain ⟨b, d, cap, cs, ety, rfl, ⟨hn, hcc⟩, q1, q2, q3⟩ := hx
    refine ⟨_, key _ _ _ c2 c3 (by omega), ?_⟩
    have hcq : ∀ c',(match c with | some c => some (c - (loOf l).toNat) | none => none) = some c' → cap - (loOf l).toNat = c' := by
     intro c' hc'
     cases c with
     | none => cases hc'
     | some c => simp only [Option.some.injEq] at hc'; have := hcc c rfl; omega
    simp only [Rv]
    by_cases hcl : cap = (loOf l).toNat
    ·rw [if_pos hcl]
     exact ⟨b, d, _, cs, ety, rfl, ⟨by omega, hcq⟩, q1, q2, fun i hi => by omega⟩
    ·rw [if_neg hcl]
     refine ⟨b,d + (loOf l).toNat * te.size,_,cs,ety,by simp only [Option.map_some,add_lit],⟨by omega,hcq⟩,q1,q2,fun i hi j hj => ?_⟩
     have := q3 ((loOf l).toNat + i) (by omega) j hj
     rw [Nat.add_mul] at this
     rw [← c1, show d + (loOf l).toNat * esz + (i * esz + j) = d + ((loOf l).toNat * esz + i * esz + j) by omega]
     exact this
   ·simp only [Option.some.injEq, Prod.mk.injEq] at h
    obtain ⟨rfl, rfl⟩ := h
    simp only [Rv] at hx
    obtain ⟨a, rfl⟩ := hx
    have e1 := hC.1
    have e2 := hC.2
    have hk := key a 0 0 (by omega) (by omega) (by omega)
    refine ⟨_, hk, ?_⟩
    simp [Rv, e1, e2]
   ·simp only [Option.some.injEq, Prod.mk.injEq] at h
    obtain ⟨rfl, rfl⟩ := h
    simp only [Rv] at hx
    subst hx
    have e1 := hC.1
    have e2 := hC.2
    have hk := key none 0 0 (by omega) (by omega) (by omega)
    refine ⟨_, hk, ?_⟩
    simp [Rv, e1, e2]
   ·rename_i o off esz n c
    simp only [Option.some.injEq, Prod.mk.injEq] at h
    obtain ⟨rfl, rfl⟩ := h
    obtain ⟨c2, c3, c4, c5⟩ := hC
    simp only [Rv] at hx
    obtain ⟨hnc, l', hl', rfl⟩ := hx
    refine ⟨_, key _ _ _ c2 c3 c4, ?_⟩
    rw [if_neg (by omega)]
    simp only [Rv]
    exact ⟨by omega, l', hl', by simp only [Option.map_some, add_lit, Nat.add_assoc]⟩
   ·cases h
  ·rename_i len e hfs
   rw [hfs] at hd
   simp only [TD.holds] at hd
   split at h
   case h_2 => cases h
   rename_i te hte
   have hte := hΓ e te hte
   have key : ∀ (a : Addr),0 ≤ loOf l → loOf l ≤ hiOf len hb → hiOf len hb ≤ len → (Instr.sliceAt t (.pointer (some a)) vl vh none).run P w =
     .ok (.slice (some (if len = (loOf l).toNat then a else a.add ((loOf l).toNat * te.size))) ((hiOf len hb).toNat - (loOf l).toNat) (len - (loOf l).toNat)) w := by
    intro a q1 q2 q3
    have hbd := run_bounds (P := P) false len len hl hh r1 r2 q1 q2 q3
    simp only [Instr.sliceAt,Sem.run_bind,run_underlying hd,Result.andThen_ok,Instr.sureAddr,hbd,hte.sizeOf,Sem.run_pure]
   split at h
   ·rename_i o i off
    simp only [Option.some.injEq, Prod.mk.injEq] at h
    obtain ⟨rfl, rfl⟩ := h
    obtain ⟨rfl, c2, c3, c4, c5⟩ := hC
    simp only [Rv] at hx
    obtain ⟨l', hl', rfl⟩ := hx
    refine ⟨_, key _ c2 c3 c4, ?_⟩
    rw [if_neg (by omega)]
    simp only [Rv]
    exact ⟨by omega, l', hl', by simp only [add_lit, Nat.zero_mul, Nat.add_zero, Nat.add_assoc]⟩
   ·rename_i n cell
    simp only [Option.some.injEq, Prod.mk.injEq] at h
    obtain ⟨rfl, rfl⟩ := h
    obtain ⟨c2, c3, c4, c5⟩ := hC
    simp only [Rv] at hx
    obtain ⟨ad, rfl, q1, q2, q3⟩ := hx
    refine ⟨_, key _ c2 c3 c4, ?_⟩
    simp only [Rv]
    refine ⟨_, _, rfl, by omega, fun hpos => ?_⟩
    rw [if_neg (by omega)]
    refine ⟨_, rfl, by rw [add_block]; exact q1, by rw [add_block]; exact q2, fun i hi j hj => ?_⟩
    rw [add_add,show (loOf l).toNat * te.size + (i * te.size + j) = ((loOf l).toNat + i) * te.size + j by rw [Nat.add_mul];omega]
    have hlt : ((loOf l).toNat + i) * te.size + j < len * te.size := by
     have := Nat.mul_le_mul_right te.size (Nat.succ_le_of_lt (show (loOf l).toNat + i < len by omega))
     rw [Nat.succ_mul] at this
     omega
    exact q3 _ (by omega)
   ·cases h
  ·rename_i hfs
   rw [hfs] at hd
   simp only [TD.holds] at hd
   split at h
   case h_2 => cases h
   rename_i q
   simp only [Option.some.injEq, Prod.mk.injEq] at h
   obtain ⟨rfl, rfl⟩ := h
   obtain ⟨c2, c3, c4⟩ := hC
   simp only [Rv] at hx
   subst hx
   have hbd := run_bounds (P := P) false q.size q.size hl hh r1 r2 c2 c3 c4
   exact ⟨.string (q.extract (loOf l).toNat (hiOf q.size hb).toNat),by simp only [Instr.sliceAt,Sem.run_bind,run_underlying hd,Result.andThen_ok,Instr.slice,hbd,Option.isSome_none,Bool.false_eq_true,↓reduceIte,Sem.run_pure],by simp only [Rv]⟩
  ·cases h
 ·cases h
end
end Go.Ab
namespace Go.Ab
section
variable {P : Program} {Γ : Tab}
def eLen (Γ : Tab) (σ : List AObj) (t : TypeId) (x : AV) : Option (AV × Prop) :=
 match Γ.get t with
 | some ti =>
  match ti.d with
  | .slice _ =>
   match x with
   | .own _ _ n _ => some (.imm (.int .i64 n), True)
   | .view n _ _ => some (.imm (.int .i64 n), True)
   | .pv n _ _ _ => some (.imm (.int .i64 n), True)
   | .emp => some (.imm (.int .i64 0), True)
   | .bsl _ _ _ n _ => some (.imm (.int .i64 n), True)
   | .imm (.slice none 0 0) => some (.imm (.int .i64 0), True)
   | _ => none
  | .array n _ => some (.imm (.int .i64 n), True)
  | .map _ _ =>
   match x with
   | .map o => match nthO σ o with | .mp _ es => some (.imm (.int .i64 es.length), True) | _ => none
   | .vmap _ ks _ => some (.imm (.int .i64 ks.length), True)
   | _ => none
  | .str =>
   match x with
   | .imm (.string s) => some (.imm (.int .i64 s.size), True)
   | _ => none
  | _ => none
 | none => none
theorem eLen_sound (hΓ : TabOk P Γ) {ρ : Rho} {w : World} {σ : List AObj} (hH : RH ρ w σ) {t ty : TypeId} {x v : AV} {C : Prop} (h : eLen Γ σ t x = some (v,C)) {vx : Value} (hx : Rv ρ w x vx) :
  ∃ r, (Builtin.len_ #[t] ty #[vx]).run P w = .ok r w ∧ Rv ρ w v r := by
 unfold eLen at h
 split at h
 case h_2 => cases h
 rename_i ti hti
 have hd := (hΓ t ti hti).desc
 split at h
 ·rename_i e hfs
  rw [hfs] at hd
  simp only [TD.holds] at hd
  have run : ∀ (a : Option Addr) (n c : Nat),(Builtin.len_ #[t] ty #[.slice a n c]).run P w = .ok (.int .i64 n) w := by
   intro a n c
   simp [Builtin.len_, run_underlying hd, goInt]
  split at h <;> simp only [Option.some.injEq,Prod.mk.injEq,reduceCtorEq] at h <;> (try exact h.elim) <;> obtain ⟨rfl,rfl⟩ := h <;> simp only [Rv] at hx
  ·rcases hx with ⟨l, cap, _, rfl, _⟩ | ⟨rfl, ⟨a, rfl⟩, _⟩
   ·exact ⟨_, run _ _ _, by simp [Rv]⟩
   ·exact ⟨_, run _ _ _, by simp [Rv]⟩
  ·obtain ⟨a, cap, rfl, _⟩ := hx
   exact ⟨_, run _ _ _, by simp [Rv]⟩
  ·obtain ⟨b, d, cap, c, ety, rfl, _⟩ := hx
   exact ⟨_, run _ _ _, by simp [Rv]⟩
  ·obtain ⟨a, rfl⟩ := hx
   exact ⟨_, run _ _ _, by simp [Rv]⟩
  ·obtain ⟨_, l, _, rfl⟩ := hx
   exact ⟨_, run _ _ _, by simp [Rv]⟩
  ·subst hx
   exact ⟨_, run _ _ _, by simp [Rv]⟩
 ·rename_i n e hfs
  rw [hfs] at hd
  simp only [TD.holds] at hd
  simp only [Option.some.injEq, Prod.mk.injEq] at h
  obtain ⟨rfl, rfl⟩ := h
  exact ⟨_, by simp [Builtin.len_, run_underlying hd, goInt]; rfl, by simp [Rv]⟩
 ·rename_i k e hfs
  rw [hfs] at hd
  simp only [TD.holds] at hd
  split at h
  case h_3 => cases h
  case h_2 =>
   rename_i sh ks vs
   simp only [Option.some.injEq, Prod.mk.injEq] at h
   obtain ⟨rfl, rfl⟩ := h
   simp only [Rv] at hx
   obtain ⟨b, a, clock, rfl, _, hh, _, _, hks, _⟩ := hx
   have hn : a.size = ks.length := by rw [← hks]; simp
   refine ⟨.int .i64 ks.length, ?_, by simp [Rv]⟩
   have hg : (getObj b).run P w = .ok (.map a clock) w := by simp [getObj, Sem.run, hh]
   simp [Builtin.len_, run_underlying hd, hg, goInt, hn]
  rename_i o
  split at h
  case h_2 => cases h
  rename_i sh es hob
  simp only [Option.some.injEq, Prod.mk.injEq] at h
  obtain ⟨rfl, rfl⟩ := h
  simp only [Rv] at hx
  obtain ⟨l, hl, rfl⟩ := hx
  obtain ⟨l', a, clock, hl', hh, _, _, hks, _⟩ := hH.obj o _ (nthO_eq hob rfl)
  have hn : a.size = es.length := by simpa using congrArg List.length hks
  rw [hl] at hl'
  simp only [Option.some.injEq] at hl'
  subst hl'
  refine ⟨.int .i64 es.length, ?_, by simp [Rv]⟩
  have hg : (getObj l.b).run P w = .ok (.map a clock) w := by simp [getObj, Sem.run, hh]
  simp [Builtin.len_, run_underlying hd, hg, goInt, hn]
 ·rename_i hfs
  rw [hfs] at hd
  simp only [TD.holds] at hd
  split at h
  case h_2 => cases h
  rename_i q
  simp only [Option.some.injEq, Prod.mk.injEq] at h
  obtain ⟨rfl, rfl⟩ := h
  simp only [Rv] at hx
  subst hx
  exact ⟨_, by simp [Builtin.len_, run_underlying hd, goInt]; rfl, by simp [Rv]⟩
 ·cases h
def eCap (Γ : Tab) (t : TypeId) (x : AV) : Option (AV × Prop) :=
 match Γ.get t with
 | some ti =>
  match ti.d with
  | .slice _ =>
   match x with
   | .own _ _ _ (some c) => some (.imm (.int .i64 c), True)
   | .pv _ _ (some c) _ => some (.imm (.int .i64 c), True)
   | .emp => some (.imm (.int .i64 0), True)
   | .bsl _ _ _ _ c => some (.imm (.int .i64 c), True)
   | .imm (.slice none 0 0) => some (.imm (.int .i64 0), True)
   | _ => none
  | _ => none
 | none => none
theorem eCap_sound (hΓ : TabOk P Γ) {ρ : Rho} {w : World} {t ty : TypeId} {x v : AV} {C : Prop} (h : eCap Γ t x = some (v,C)) {vx : Value} (hx : Rv ρ w x vx) :
  ∃ r, (Builtin.cap_ #[t] ty #[vx]).run P w = .ok r w ∧ Rv ρ w v r := by
 unfold eCap at h
 split at h
 case h_2 => cases h
 rename_i ti hti
 have hd := (hΓ t ti hti).desc
 split at h
 case h_2 => cases h
 rename_i e hfs
 rw [hfs] at hd
 simp only [TD.holds] at hd
 have run : ∀ (a : Option Addr) (n c : Nat), (Builtin.cap_ #[t] ty #[.slice a n c]).run P w = .ok (.int .i64 c) w := by
  intro a n c
  simp [Builtin.cap_, run_underlying hd, goInt]
 split at h <;> simp only [Option.some.injEq,Prod.mk.injEq,reduceCtorEq] at h <;> (try exact h.elim) <;> obtain ⟨rfl,rfl⟩ := h <;> simp only [Rv] at hx
 ·rcases hx with ⟨l, cap, _, rfl, _, _, hc⟩ | ⟨rfl, ⟨a, rfl⟩, hc⟩
  ·have := hc _ rfl
   subst this
   exact ⟨_, run _ _ _, by simp [Rv]⟩
  ·have := hc _ rfl
   subst this
   exact ⟨_, run _ _ _, by simp [Rv]⟩
 ·obtain ⟨b, d, cap, cs, ety, rfl, ⟨_, hc⟩, _⟩ := hx
  have := hc _ rfl
  subst this
  exact ⟨_, run _ _ _, by simp [Rv]⟩
 ·obtain ⟨a, rfl⟩ := hx
  exact ⟨_, run _ _ _, by simp [Rv]⟩
 ·obtain ⟨_, l, _, rfl⟩ := hx
  exact ⟨_, run _ _ _, by simp [Rv]⟩
 ·subst hx
  exact ⟨_, run _ _ _, by simp [Rv]⟩
def eMin : AV → AV → Option (AV × Prop)
 | .imm (.int k a), .imm (.int k' b) => if kEq k k' then some (.imm (.int k (if b < a then b else a)), True) else none
 | _, _ => none
def eMax : AV → AV → Option (AV × Prop)
 | .imm (.int k a), .imm (.int k' b) => if kEq k k' then some (.imm (.int k (if b > a then b else a)), True) else none
 | _, _ => none
theorem eMin_sound {ρ : Rho} {w : World} {ts : Array TypeId} {ty : TypeId} {x y v : AV} {C : Prop} (h : eMin x y = some (v,C)) {vx vy : Value} (hx : Rv ρ w x vx) (hy : Rv ρ w y vy) :
  ∃ r, (Builtin.min_ ts ty #[vx, vy]).run P w = .ok r w ∧ Rv ρ w v r := by
 unfold eMin at h
 split at h
 case h_2 => cases h
 simp only [Rv] at hx hy
 subst hx; subst hy
 split at h
 case isFalse => cases h
 rename_i hk
 have := kEq_eq hk
 subst this
 simp only [Option.some.injEq, Prod.mk.injEq] at h
 obtain ⟨rfl, rfl⟩ := h
 exact ⟨_, by simp [Builtin.min_, Builtin.min2]; rfl, by simp [Rv]⟩
theorem eMax_sound {ρ : Rho} {w : World} {ts : Array TypeId} {ty : TypeId} {x y v : AV} {C : Prop} (h : eMax x y = some (v,C)) {vx vy : Value} (hx : Rv ρ w x vx) (hy : Rv ρ w y vy) :
  ∃ r, (Builtin.max_ ts ty #[vx, vy]).run P w = .ok r w ∧ Rv ρ w v r := by
 unfold eMax at h
 split at h
 case h_2 => cases h
 simp only [Rv] at hx hy
 subst hx; subst hy
 split at h
 case isFalse => cases h
 rename_i hk
 have := kEq_eq hk
 subst this
 simp only [Option.some.injEq, Prod.mk.injEq] at h
 obtain ⟨rfl, rfl⟩ := h
 exact ⟨_, by simp [Builtin.max_, Builtin.max2]; rfl, by simp [Rv]⟩
def updR (elem : Nat → Nat → AV) (s k : Nat) (g : Nat → Nat → AV) : Nat → Nat → AV := fun i j => if s ≤ i ∧ i < s + k then g (i - s) j else elem i j
def rdE (g : Nat → Nat → AV) (esz : Nat) : Nat → Nat → List AV
 | _, 0 => []
 | i, k + 1 => rd (g i) 0 esz ++ rdE g esz (i + 1) k
def eCopy (Γ : Tab) (σ : List AObj) (t : TypeId) (d s : AV) : Option (AV × List AObj × Prop) :=
 match Γ.get t with
 | some ti =>
  match ti.d with
  | .slice e =>
   match Γ.get e with
   | some te =>
    match src σ s with
    | some (m, ez, g, cx) =>
     match d with
     | .own o s0 n _ =>
      match nthO σ o with
      | .arr ety esz len elem => some (.imm (.int .i64 (min m n : Nat)),σ.set o (.arr ety esz len (updR elem s0 (min m n) g)),cx ∧ esz = te.size ∧ (m = 0 ∨ ez = te.size) ∧ s0 + n ≤ len)
      | _ => none
     | .bsl o off _ n _ =>
      match nthO σ o with
      | .box ety cells => some (.imm (.int .i64 (min m n : Nat)),σ.set o (.box ety (setC cells off (rdE g te.size 0 (min m n)))),cx ∧ (m = 0 ∨ ez = te.size) ∧ off + n * te.size ≤ cells.length)
      | _ => none
     | _ => none
    | none => none
   | none => none
  | _ => none
 | none => none
theorem rdE_sound {ρ : Rho} {w : World} {g : Nat → Nat → AV} {esz : Nat} : ∀ (k i0 : Nat) (ys : List Value),ys.length = k * esz → (∀ i,i < k → ∀ j,j < esz → ∃ y,ys[i * esz + j]? = some y ∧ Rv ρ w (g (i0 + i) j) y) → RvL ρ w (rdE g esz i0 k) ys
 | 0, i0, ys, hl, _ => by
  have : ys = [] := List.eq_nil_of_length_eq_zero (by simpa using hl)
  subst this
  simp [rdE, RvL]
 | k + 1, i0, ys, hl, h => by
  simp only [rdE]
  rw [← List.take_append_drop esz ys]
  rw [Nat.succ_mul] at hl
  refine RvL.append (RvL.of_get (by simp only [rd_length,List.length_take];omega) fun j v x hv hx=>?_) (rdE_sound k (i0 + 1) (ys.drop esz) (by simp only [List.length_drop];omega) fun i hi j hj=>?_)
  ·have hj : j < esz := by
    have := (List.getElem?_eq_some_iff.1 hv).1
    simpa [rd_length] using this
   rw [rd_get _ _ _ _ hj] at hv
   simp only [Option.some.injEq, Nat.zero_add] at hv
   subst hv
   rw [List.getElem?_take, if_pos hj] at hx
   obtain ⟨y, hy, hv⟩ := h 0 (by omega) j hj
   rw [Nat.zero_mul, Nat.zero_add, hx] at hy
   simp only [Option.some.injEq] at hy
   subst hy
   exact hv
  ·obtain ⟨y, hy, hv⟩ := h (i + 1) (by omega) j hj
   refine ⟨y, ?_, by rw [show i0 + 1 + i = i0 + (i + 1) by omega]; exact hv⟩
   rw [List.getElem?_drop, ← hy]
   congr 1
   rw [Nat.succ_mul]
   omega
theorem eCopy_sound (hΓ : TabOk P Γ) {ρ : Rho} {w : World} {σ σ' : List AObj} (hH : RH ρ w σ) {t t2 ty : TypeId} {d s v : AV} {C : Prop} (h : eCopy Γ σ t d s = some (v,σ',C)) (hC : C) {vd vs : Value} (hd : Rv ρ w d vd) (hs : Rv ρ w s vs) :
  ∃ r w', (Builtin.copy_ #[t, t2] ty #[vd, vs]).run P w = .ok r w' ∧ Rv ρ w' v r ∧ RH ρ w' σ' ∧ Step ρ w ρ w' := by
 unfold eCopy at h
 split at h
 case h_2 => cases h
 rename_i ti hti
 have hdd := (hΓ t ti hti).desc
 split at h
 case h_2 => cases h
 rename_i e hfs
 rw [hfs] at hdd
 simp only [TD.holds] at hdd
 split at h
 case h_2 => cases h
 rename_i te hte
 have hte := hΓ e te hte
 split at h
 case h_2 => cases h
 rename_i m ez g cx hsrc
 have main : ∀ (n dcap : Nat) (base : Option Addr),cx → (m = 0 ∨ ez = te.size) → ∃ ys : List Value,ys.length = min m n * te.size ∧ (∀ u ∈ ys,u.oneCell' = true) ∧
   (∀ i,i < min m n → ∀ j,j < te.size → ∃ y,ys[i * te.size + j]? = some y ∧ y.oneCell' = true ∧ Rv ρ w (g i j) y) ∧
   (Builtin.copy_ #[t,t2] ty #[.slice base n dcap,vs]).run P w = ((match base with|some a=>storeCells a ys|none=>pure ()).run P w).andThen fun _ w'=>.ok (.int .i64 (min m n : Nat)) w' := by
  intro n dcap base hcx hez
  obtain ⟨a, cap, rfl, hnc, hr⟩ := src_sound hH hsrc hcx hs
  rcases Nat.eq_zero_or_pos (min m n) with h0 | h0
  ·refine ⟨[], by simp [h0], by simp, fun i hi => by omega, ?_⟩
   have hm : Nat.min m n = 0 := h0
   have hf : (Builtin.firstCells te.size 0 (.slice a m cap)).run P w = .ok #[] w := by cases a <;> simp [Builtin.firstCells,loadCells,loadCellsFrom]
   cases base <;> simp [Builtin.copy_, run_underlying hdd, Builtin.lenOf, hm, hte.sizeOf, hf, goInt]
  ·have hez : ez = te.size := by omega
   subst hez
   obtain ⟨ad, rfl, hr2⟩ := hr (by omega)
   obtain ⟨ys, hl, h1, h2, h3⟩ := src_cells (n := min m n) (fun i hi j hj => hr2 i (by omega) j hj)
   refine ⟨ys, hl, h2, h3, ?_⟩
   have hf := run_firstCells_some (P := P) w te.size (min m n) ad m cap ys hl h1
   have hmm : Nat.min m n = min m n := rfl
   cases base <;> simp [Builtin.copy_, run_underlying hdd, Builtin.lenOf, hte.sizeOf, hmm, hf, goInt]
 split at h
 ·rename_i o s0 n c
  split at h
  case h_2 => cases h
  rename_i ety esz len elem hob
  simp only [Option.some.injEq, Prod.mk.injEq] at h
  obtain ⟨rfl, rfl, rfl⟩ := h
  obtain ⟨c1, rfl, c3, c4⟩ := hC
  have hso := nthO_eq hob rfl
  simp only [Rv] at hd
  rcases hd with ⟨l, cap, hl, rfl, hn, hcap, _⟩ | ⟨rfl, ⟨a, rfl⟩, _⟩
  ·obtain ⟨ys, y1, y2, y3, y4⟩ := main n cap (some ⟨l.b, l.d + s0 * l.esz, none⟩) c1 c3
   rcases hH.obj o _ hso with ⟨l', cs, hl', he, hh, ⟨hcs, hc1⟩, hdl, hr⟩ | ⟨hn', _⟩
   case inr => rw [hl] at hn'; simp at hn'
   rw [hl] at hl'
   simp only [Option.some.injEq] at hl'
   subst hl'
   have hcsl : cs.toList.length = cs.size := by simp
   have hk : s0 * te.size + min m n * te.size ≤ len * te.size := by rw [← Nat.add_mul];exact Nat.mul_le_mul_right _ (by omega)
   rw [he] at y4
   have hst := run_storeCells_at P l.b (l.d + s0 * te.size) ety ys 0 cs w hh (by rw [Nat.add_zero,y1,hcs];omega) y2
   simp only [Nat.add_zero] at hst
   have hstep := setRow_step (w := w) hl ((cs.toList.take (l.d + s0 * te.size) ++ ys ++ cs.toList.drop (l.d + s0 * te.size + ys.length)).toArray)
   refine ⟨.int .i64 (min m n : Nat), _, by rw [he, y4]; simp only [hst, Result.andThen_ok], by simp [Rv], ?_, hstep⟩
   refine RH.turn hH hso rfl hl hstep (fun b hb => setRow_other w l.b b _ (by omega)) ?_
   refine .inl ⟨l, _, hl, he, setRow_heap w l.b cs _ ety _ hh, ?_, hdl, fun i' hi' j' hj' => ?_⟩
   ·exact ⟨by simp only [List.size_toArray,List.length_append,List.length_take,List.length_drop];omega,fun y hy => by
        simp only [List.mem_append] at hy
        rcases hy with (hy | hy) | hy
        ·exact hc1 y (List.mem_of_mem_take hy)
        ·exact y2 y hy
        ·exact hc1 y (List.mem_of_mem_drop hy)⟩
   ·simp only [List.getElem?_toArray]
    have hi'b : i' * te.size + te.size ≤ len * te.size := by
     have := Nat.mul_le_mul_right te.size (Nat.succ_le_of_lt hi')
     rwa [Nat.succ_mul] at this
    by_cases hin : s0 ≤ i' ∧ i' < s0 + min m n
    ·obtain ⟨y, q1, q2, q3⟩ := y3 (i' - s0) (by omega) j' hj'
     refine ⟨y, ?_, q2, ?_⟩
     ·have e1 : i' * te.size = s0 * te.size + (i' - s0) * te.size := by rw [← Nat.add_mul]; congr 1; omega
      have hlt := (List.getElem?_eq_some_iff.1 q1).1
      rw [List.append_assoc,List.getElem?_append_right (by simp only [List.length_take];omega),List.getElem?_append_left (by simp only [List.length_take];omega),← q1]
      congr 1
      simp only [List.length_take]
      omega
     ·unfold updR
      rw [if_pos hin]
      exact Rv.mono hstep _ q3
    ·obtain ⟨z, hz, hz1, hzv⟩ := hr i' hi' j' hj'
     refine ⟨z, ?_, hz1, ?_⟩
     ·have hz' : cs.toList[l.d + i' * te.size + j']? = some z := by simpa using hz
      rw [← hz']
      have hne : l.d + i' * te.size + j' < l.d + s0 * te.size ∨ l.d + s0 * te.size + ys.length ≤ l.d + i' * te.size + j' := by
       by_cases hlt : i' < s0
       ·have := Nat.mul_le_mul_right te.size (Nat.succ_le_of_lt hlt)
        rw [Nat.succ_mul] at this
        omega
       ·have : (s0 + min m n) * te.size ≤ i' * te.size := Nat.mul_le_mul_right _ (by omega)
        rw [Nat.add_mul] at this
        omega
      rcases hne with q | q
      ·rw [List.append_assoc,List.getElem?_append_left (by simp only [List.length_take];omega),List.getElem?_take,if_pos q]
      ·rw [List.getElem?_append_right (by simp only [List.length_append,List.length_take];omega),List.getElem?_drop]
       congr 1
       simp only [List.length_append, List.length_take]
       omega
     ·unfold updR
      rw [if_neg hin]
      exact Rv.mono hstep _ hzv
  ·obtain ⟨ys, y1, y2, y3, y4⟩ := main 0 0 a c1 c3
   have : ys = [] := List.eq_nil_of_length_eq_zero (by rw [y1]; simp)
   subst this
   refine ⟨.int .i64 (min m 0 : Nat), w, by rw [y4]; cases a <;> simp [storeCells], by simp [Rv], ?_, Step.refl _ _⟩
   have e : updR elem s0 (min m 0) g = elem := by
    funext i j
    unfold updR
    rw [if_neg (by omega)]
   rw [e]
   have e2 : σ.set o (.arr ety te.size len elem) = σ := by
    apply List.ext_getElem?
    intro k
    rw [List.getElem?_set]
    split
    ·rename_i hk; subst hk; rw [hso]; simp [(List.getElem?_eq_some_iff.1 hso).1]
    ·rfl
   rw [e2]
   exact hH
 ·rename_i o off esz n c
  split at h
  case h_2 => cases h
  rename_i ety cells hob
  simp only [Option.some.injEq, Prod.mk.injEq] at h
  obtain ⟨rfl, rfl, rfl⟩ := h
  obtain ⟨c1, c3, c4⟩ := hC
  have hso := nthO_eq hob rfl
  simp only [Rv] at hd
  obtain ⟨_, l, hl, rfl⟩ := hd
  obtain ⟨ys, y1, y2, y3, y4⟩ := main n c (some ⟨l.b, l.d + off, none⟩) c1 c3
  obtain ⟨l', cs, hl', h0, h1, h2, hh, h3, hr⟩ := hH.obj o _ hso
  rw [hl] at hl'
  simp only [Option.some.injEq] at hl'
  subst hl'
  have hcy := rdE_sound (ρ := ρ) (w := w) (g := g) (esz := te.size) (min m n) 0 ys y1 (fun i hi j hj => by
   obtain ⟨y, q1, _, q3⟩ := y3 i hi j hj
   exact ⟨y, q1, by rw [Nat.zero_add]; exact q3⟩)
  have hyl := hcy.length
  have hcl := hr.length
  have hmn : min m n * te.size ≤ n * te.size := Nat.mul_le_mul_right _ (Nat.min_le_right _ _)
  have hcsl : cs.toList.length = cs.size := by simp
  have hst := run_storeCells_at P l.b off ety ys 0 cs w hh (by omega) y2
  simp only [Nat.add_zero] at hst
  have hstep := setRow_step (w := w) hl ((cs.toList.take off ++ ys ++ cs.toList.drop (off + ys.length)).toArray)
  rw [h0, Nat.zero_add] at y4 ⊢
  refine ⟨.int .i64 (min m n : Nat), _, by rw [y4]; simp only [hst, Result.andThen_ok], by simp [Rv], ?_, hstep⟩
  refine RH.turn hH hso rfl hl hstep (fun b hb => setRow_other w l.b b _ (by omega)) ?_
  refine ⟨l, _, hl, h0, ?_, ?_, setRow_heap w l.b cs _ ety _ hh, ?_, ?_⟩
  ·rw [h1]; simp only [setC, List.length_append, List.length_take, List.length_drop]; omega
  ·rw [h2]; simp only [setC, List.length_append, List.length_take, List.length_drop]; omega
  ·intro z hz
   simp only [List.mem_append] at hz
   rcases hz with (hz | hz) | hz
   ·exact h3 z (List.mem_of_mem_take hz)
   ·exact y2 z hz
   ·exact h3 z (List.mem_of_mem_drop hz)
  ·have hr' := RvL.mono hstep _ hr
   have hcy' := RvL.mono hstep _ hcy
   have e : setC cells off (rdE g te.size 0 (min m n)) = cells.take off ++ rdE g te.size 0 (min m n) ++ cells.drop (off + ys.length) := by rw [setC,hyl]
   rw [e]
   exact RvL.append (RvL.append (RvL.take off hr') hcy') (RvL.drop _ hr')
 ·cases h
end
end Go.Ab
namespace Go.Ab
def keqL : List Value → List Value → Bool
 | [], [] => true
 | .int _ a :: xs, .int _ b :: ys => (a == b) && keqL xs ys
 | .bool a :: xs, .bool b :: ys => (a == b) && keqL xs ys
 | _, _ => false
def keq : Value → Value → Bool
 | .int _ a, .int _ b => a == b
 | .bool a, .bool b => a == b
 | .string a, .string b => a == b
 | .agg a, .agg b => keqL a.toList b.toList
 | _, _ => false
def mget : List (Value × AV) → Value → Option AV
 | [], _ => none
 | (k', v) :: r, k => if keq k k' then some v else mget r k
def mhas (es : List (Value × AV)) (k : Value) : Bool := (mget es k).isSome
def mval (es : List (Value × AV)) (z : AV) (k : Value) : AV := (mget es k).getD z
def mput : List (Value × AV) → Value → AV → List (Value × AV)
 | [], k, v => [(k, v)]
 | (k', v') :: r, k, v => if keq k k' then (k, v) :: r else (k', v') :: mput r k v
def mdel : List (Value × AV) → Value → List (Value × AV)
 | [], _ => []
 | (k', v') :: r, k => if keq k k' then r else (k', v') :: mdel r k
theorem leafK_keq : ∀ {ls : List (Option IntKind)} {xs ys : List Value},leafK ls xs → leafK ls ys → keqL xs ys = true → xs = ys
 | [], [], [], _, _, _ => rfl
 | some k :: ls, .int k1 a :: xs, .int k2 b :: ys, hx, hy, h => by
  simp only [leafK] at hx hy
  simp only [keqL, Bool.and_eq_true, beq_iff_eq] at h
  rw [hx.1, hy.1, h.1, leafK_keq hx.2 hy.2 h.2]
 | none :: ls, .bool a :: xs, .bool b :: ys, hx, hy, h => by
  simp only [leafK] at hx hy
  simp only [keqL, Bool.and_eq_true, beq_iff_eq] at h
  rw [h.1, leafK_keq hx hy h.2]
 | [], [], _ :: _, _, hy, _ => by simp [leafK] at hy
 | [], _ :: _, _, hx, _, _ => by simp [leafK] at hx
 | some _ :: _, [], _, hx, _, _ => by simp [leafK] at hx
 | none :: _, [], _, hx, _, _ => by simp [leafK] at hx
 | some _ :: _, .int _ _ :: _, [], _, hy, _ => by simp [leafK] at hy
 | none :: _, .bool _ :: _, [], _, hy, _ => by simp [leafK] at hy
theorem KS.eq {sh : KS} {a b : Value} (ha : sh.ok a) (hb : sh.ok b) (h : keq a b = true) : a = b := by
 cases sh <;> cases a <;> simp only [KS.ok] at ha <;> cases b <;> simp only [KS.ok] at hb <;> simp only [keq,beq_iff_eq] at h
 ·rw [ha, hb, h]
 ·rw [h]
 ·congr 1
  exact (MapKept.bytes_beq _ _).1 (by simpa using h)
 ·congr 1
  exact Array.ext' (leafK_keq ha hb h)
def entAt (k : Value) : List MapEntry → Nat → Option (Nat × Value)
 | [], _ => none
 | e :: es, i => if keq k e.key then some (i, e.val) else entAt k es (i + 1)
def KS.leaves : List (Option IntKind) → List Bool
 | [] => []
 | some _ :: ls => false :: KS.leaves ls
 | none :: ls => true :: KS.leaves ls
def shapeZ : List ZC → Option (List (Option IntKind))
 | [] => some []
 | .int k :: zs => (shapeZ zs).map (some k :: ·)
 | .bool :: zs => (shapeZ zs).map (none :: ·)
 | _ => none
def boolsEq : List Bool → List Bool → Bool
 | [], [] => true
 | true :: a, true :: b => boolsEq a b
 | false :: a, false :: b => boolsEq a b
 | _, _ => false
theorem boolsEq_eq : ∀ {a b : List Bool}, boolsEq a b = true → a = b
 | [], [], _ => rfl
 | true :: a, true :: b, h => by simp only [boolsEq] at h; rw [boolsEq_eq h]
 | false :: a, false :: b, h => by simp only [boolsEq] at h; rw [boolsEq_eq h]
 | [], _ :: _, h => by simp [boolsEq] at h
 | true :: _, [], h => by simp [boolsEq] at h
 | false :: _, [], h => by simp [boolsEq] at h
 | true :: _, false :: _, h => by simp [boolsEq] at h
 | false :: _, true :: _, h => by simp [boolsEq] at h
def shapeA (eqv : Option (List Bool)) (s : Option (List (Option IntKind))) : Option KS :=
 match eqv, s with
 | some ls, some s => if boolsEq ls (KS.leaves s) then some (.agg s) else none
 | _, _ => none
def shapeT (ti : TI) : Option KS :=
 match ti.d with
 | .int k => some (.int k)
 | .bool => some .bool
 | .str => some .str
 | .strct _ => shapeA ti.eqv (shapeZ ti.zero)
 | .array _ _ => shapeA ti.eqv (shapeZ ti.zero)
 | _ => none
def shapeOf (Γ : Tab) (t : TypeId) : Option KS :=
 match Γ.get t with
 | some ti => shapeT ti
 | none => none
theorem leafK_leafy : ∀ {ls : List (Option IntKind)} {xs : List Value}, leafK ls xs → Leafy (KS.leaves ls) xs
 | [], [], _ => trivial
 | some k :: ls, .int k1 a :: xs, h => by simp only [leafK] at h; exact ⟨trivial, leafK_leafy h.2⟩
 | none :: ls, .bool a :: xs, h => by simp only [leafK] at h; exact ⟨trivial, leafK_leafy h⟩
 | [], _ :: _, h => by simp [leafK] at h
 | some _ :: _, [], h => by simp [leafK] at h
 | none :: _, [], h => by simp [leafK] at h
theorem leafK_kind : ∀ {ls : List (Option IntKind)} {xs ys : List Value},leafK ls xs → leafK ls ys → kindL xs ys ∧ eqL xs ys = keqL xs ys
 | [], [], [], _, _ => ⟨trivial, rfl⟩
 | some k :: ls, .int k1 a :: xs, .int k2 b :: ys, hx, hy => by
  simp only [leafK] at hx hy
  obtain ⟨h1, h2⟩ := leafK_kind hx.2 hy.2
  exact ⟨⟨by rw [ckind]; exact hx.1.trans hy.1.symm, h1⟩, by simp [eqL, keqL, ceq, h2]⟩
 | none :: ls, .bool a :: xs, .bool b :: ys, hx, hy => by
  simp only [leafK] at hx hy
  obtain ⟨h1, h2⟩ := leafK_kind hx hy
  exact ⟨⟨trivial, h1⟩, by simp [eqL, keqL, ceq, h2]⟩
 | [], [], _ :: _, _, hy => by simp [leafK] at hy
 | [], _ :: _, _, hx, _ => by simp [leafK] at hx
 | some _ :: _, [], _, hx, _ => by simp [leafK] at hx
 | none :: _, [], _, hx, _ => by simp [leafK] at hx
 | some _ :: _, .int _ _ :: _, [], _, hy => by simp [leafK] at hy
 | none :: _, .bool _ :: _, [], _, hy => by simp [leafK] at hy
section
variable {P : Program} {Γ : Tab}
theorem run_part_flat {d : Nat} {t : TypeId} {ls : List Bool} (h : flatP P d t = some ls) (hsz : (P.info? t).map (·.size) = some ls.length) (pre mid post : List Value) (hm : mid.length = ls.length) (w : World) :
  (part t (pre ++ mid ++ post).toArray pre.length).run P w = .ok (mkVal (aggP P t) mid) w := by
 cases d with
 | zero => simp [flatP] at h
 | succ d =>
  have hu : (P.underlying t).isSome = true := by
   unfold flatP at h
   cases hq : P.underlying t with
   | none => simp [hq] at h
   | some _ => rfl
  refine run_part t ls.length hsz hu pre mid post hm (fun hg => ?_) w
  unfold flatP at h
  unfold aggP at hg
  cases hq : P.underlying t with
  | none => simp [hq] at h
  | some q => rw [hq] at h hg; cases q <;> simp at h hg <;> (subst h; rfl)
theorem run_checkKey_flat (em : Bool) : ∀ (d : Nat) (t : TypeId) (ls : List Bool),flatP P d t = some ls → (P.info? t).map (·.size) = some ls.length → ∀ (n : Nat) (xs : List Value),Leafy ls xs →
  ∀ w, (Instr.checkKey em (d + n) t (mkVal (aggP P t) xs)).run P w = .ok () w
 | 0, _, _, h, _ => by simp [flatP] at h
 | d + 1, t, ls, h, hsz => by
  intro n xs hx w
  unfold flatP at h
  rw [show d + 1 + n = (d + n) + 1 by omega, Instr.checkKey]
  cases hd : P.underlying t with
  | none => simp [hd] at h
  | some u =>
   rw [hd] at h
   simp only [Sem.run_bind, run_underlying hd, Result.andThen_ok]
   cases u <;> simp only [] at h <;> try (cases h; done)
   case int k => simp
   case bool => simp
   case struct fs =>
    split at h
    ·cases h
    ·have hagg : aggP P t = true := by simp [aggP, hd]
     simp only [mkVal, hagg, if_true]
     rw [← Array.forIn_toList]
     have key : ∀ (gs : List Field) (px rx : List Value) (ls : List Bool),flatGo P (flatP P d) gs px.length = some ls → Leafy ls rx →
       (forIn gs PUnit.unit (fun (f : Field) (_ : PUnit) => (do
        if f.name ≠ "_" then Instr.checkKey em (d + n) f.type (← part f.type (px ++ rx).toArray f.offset)
        pure (ForInStep.yield PUnit.unit) : Sem (ForInStep PUnit)))).run P w = .ok PUnit.unit w := by
      intro gs
      induction gs with
      | nil => intro px rx ls _ _; simp
      | cons f gs ih =>
       intro px rx ls hgo hrx
       unfold flatGo at hgo
       split at hgo
       ·cases hgo
       ·rename_i hc
        simp only [not_or, Decidable.not_not] at hc
        obtain ⟨hname, hoff⟩ := hc
        split at hgo
        ·rename_i l1 hl1
         split at hgo
         ·rename_i hsz1
          cases hgo2 : flatGo P (flatP P d) gs (px.length + l1.length) with
          | none => simp [hgo2] at hgo
          | some l2 =>
           simp [hgo2] at hgo
           subst hgo
           have sx := Leafy.split hrx
           have lx : (rx.take l1.length).length = l1.length := sx.1.length
           have p1 := run_part_flat hl1 hsz1 px (rx.take l1.length) (rx.drop l1.length) lx w
           have e : px ++ rx.take l1.length ++ rx.drop l1.length = px ++ rx := by simp
           rw [e] at p1
           have c1 := run_checkKey_flat em d f.type l1 hl1 hsz1 n _ sx.1 w
           have hrec := ih (px ++ rx.take l1.length) (rx.drop l1.length) l2 (by rw [List.length_append,lx];exact hgo2) sx.2
           rw [e] at hrec
           simp only [List.forIn_cons,Sem.run_bind,hname,ne_eq,not_false_eq_true,if_true,hoff,Result.andThen_ok,p1,c1,Sem.run_pure]
           exact hrec
         ·cases hgo
        ·cases hgo
     have := key fs.toList [] xs ls h hx
     simpa using this
   case array len e =>
    split at h
    ·rename_i l1 hl1
     split at h
     ·rename_i hsz1
      injection h with h
      subst h
      have hagg : aggP P t = true := by simp [aggP, hd]
      have hso : (sizeOf e).run P w = .ok l1.length w := by
       cases hi : P.info? e with
       | none => simp [hi] at hsz1
       | some i => simp [hi] at hsz1; simp [sizeOf, typeInfo, hi, hsz1]
      simp only [mkVal, hagg, if_true]
      simp only [Std.Legacy.Range.forIn_eq_forIn_range',Std.Legacy.Range.size,Nat.sub_zero,Nat.add_one_sub_one,Nat.div_one]
      have key : ∀ (m k : Nat) (px rx : List Value),px.length = k * l1.length → Leafy (List.replicate m l1).flatten rx →
        (forIn (List.range' k m) PUnit.unit (fun (i : Nat) (_ : PUnit) => (do
         Instr.checkKey em (d + n) e (← part e (px ++ rx).toArray (i * (← sizeOf e)))
         pure (ForInStep.yield PUnit.unit) : Sem (ForInStep PUnit)))).run P w = .ok PUnit.unit w := by
       intro m
       induction m with
       | zero => intro k px rx _ _; simp
       | succ m ih =>
        intro k px rx hpx hrx
        rw [List.replicate_succ, List.flatten_cons] at hrx
        have sx := Leafy.split hrx
        have lx : (rx.take l1.length).length = l1.length := sx.1.length
        have p1 := run_part_flat hl1 hsz1 px (rx.take l1.length) (rx.drop l1.length) lx w
        have e2 : px ++ rx.take l1.length ++ rx.drop l1.length = px ++ rx := by simp
        rw [e2, hpx] at p1
        have c1 := run_checkKey_flat em d e l1 hl1 hsz1 n _ sx.1 w
        have hrec := ih (k + 1) (px ++ rx.take l1.length) (rx.drop l1.length) (by rw [List.length_append,lx,hpx,Nat.succ_mul]) sx.2
        rw [e2] at hrec
        simp only [List.range'_succ,List.forIn_cons,Sem.run_bind,hso,Result.andThen_ok,p1,c1,Sem.run_pure]
        exact hrec
      have := key len 0 [] xs (by simp) hx
      simpa using this
     ·cases h
    ·cases h
theorem two {α : Type} {x : α} {r : Option (Option α)} {y : Option α} (b : Bool) (_ : True := trivial) (h : r = some y) : (match some b with|some true=>some (some x)|some false=>r|none=>none) = some (if b = true then some x else y) := by
 cases b <;> simp [h]
theorem findNow_ok {d : TypeDesc} {k : Value} (hk : MapKept.IsKey d k) : ∀ (es : List MapEntry) (i : Nat),(∀ e ∈ es,MapKept.IsKey d e.key) → Instr.findNow d k es i = some (entAt k es i)
 | [], i, _ => rfl
 | e :: es, i, h => by
  have he := h e (by simp)
  have ih := findNow_ok hk es (i + 1) (fun x hx => h x (by simp [hx]))
  obtain ⟨ek, ev, eb⟩ := e
  simp only [] at he
  unfold Instr.findNow entAt
  cases d <;> cases k <;> simp only [MapKept.IsKey] at hk <;> cases ek <;> simp only [MapKept.IsKey] at he <;> simp only [Instr.sameNow,keq]
  ·exact two _ trivial ih
  ·subst hk; subst he
   simp only [if_true]
   exact two _ trivial ih
  ·exact two _ trivial ih
theorem shape_find (hΓ : TabOk P Γ) {t : TypeId} {sh : KS} (hs : shapeOf Γ t = some sh) {k : Value} (hk : sh.ok k) (es : List MapEntry) (hes : ∀ e ∈ es,sh.ok e.key) (w : World) :
  (∀ em,(Instr.checkKey em 10000 t k).run P w = .ok () w) ∧ (Instr.findKey t k es).run P w = .ok (entAt k es 0) w ∧ (Instr.keyThatStays k k).run P w = .ok k w := by
 unfold shapeOf at hs
 split at hs
 case h_2 => cases hs
 rename_i ti hti
 have hti := hΓ t ti hti
 have hd := hti.desc
 have plain : ∀ d : TypeDesc, P.underlying t = some d → (∀ v, sh.ok v → MapKept.IsKey d v) →
   (∀ em,(Instr.checkKey em 10000 t k).run P w = .ok () w) ∧ (Instr.findKey t k es).run P w = .ok (entAt k es 0) w ∧ (Instr.keyThatStays k k).run P w = .ok k w := fun d hu hv =>
  ⟨fun em => MapKept.run_checkKey hu (hv k hk) em 9999,MapKept.run_findKey hu (findNow_ok (hv k hk) es 0 fun e he => hv _ (hes e he)),MapKept.run_keyThatStays (hv k hk)⟩
 have wide : ∀ ls s, ti.eqv = some ls → boolsEq ls (KS.leaves s) = true → sh = .agg s →
   (∀ em,(Instr.checkKey em 10000 t k).run P w = .ok () w) ∧ (Instr.findKey t k es).run P w = .ok (entAt k es 0) w ∧ (Instr.keyThatStays k k).run P w = .ok k w := by
  intro ls s hls hb hsh
  subst hsh
  obtain ⟨hf, hgd, hll, hia⟩ := hti.eqv ls hls
  have hag : aggP P t = true := hti.aggP.trans hia
  have hsz : (P.info? t).map (·.size) = some ls.length := by
   obtain ⟨i, hi, hs, _⟩ := hti.bytesOf
   simp [hi, hs, hll]
  have hle := boolsEq_eq hb
  cases k <;> simp only [KS.ok] at hk
  rename_i ks
  have hmk : (Value.agg ks) = mkVal (aggP P t) ks.toList := by simp [mkVal, hag]
  refine ⟨fun em => ?_, ?_, ?_⟩
  ·rw [hmk]
   exact run_checkKey_flat em 8 t ls hf hsz 9992 _ (hle ▸ leafK_leafy hk) w
  ·have ask : ∀ (es : List MapEntry) (i : Nat),(∀ e ∈ es,(KS.agg s).ok e.key) → (Instr.findAsking t (.agg ks) es i).run P w = .ok (entAt (.agg ks) es i) w := by
    intro es
    induction es with
    | nil => intro i _; simp [Instr.findAsking, entAt]
    | cons e es ih =>
     intro i he
     have h0 := he e (by simp)
     have h1 := ih (i + 1) (fun x hx => he x (by simp [hx]))
     obtain ⟨ek, ev, eb⟩ := e
     simp only [] at h0
     cases ek <;> simp only [KS.ok] at h0
     rename_i cs
     have hmc : (Value.agg cs) = mkVal (aggP P t) cs.toList := by simp [mkVal, hag]
     obtain ⟨q1, q2⟩ := leafK_kind hk h0
     have heq := run_equalIn_flat (P := P) 8 t ls hf hsz 9992 ks.toList cs.toList (hle ▸ leafK_leafy hk) (hle ▸ leafK_leafy h0) q1 w
     rw [← hmk, ← hmc, q2] at heq
     have heq' : (Op.equal t (.agg ks) (.agg cs)).run P w = .ok (keqL ks.toList cs.toList) w := heq
     unfold Instr.findAsking entAt
     simp only [Sem.run_bind, heq', Result.andThen_ok, keq]
     by_cases hq : keqL ks.toList cs.toList = true
     ·simp only [hq, if_true, Sem.run_pure]
     ·simp only [hq, Bool.false_eq_true, if_false]; exact h1
   unfold Instr.findKey
   have hund : ∃ d, P.underlying t = some d ∧ ∀ e, Instr.sameNow d (.agg ks) e = none := by
    cases hdd : ti.d <;> rw [hdd] at hd hia <;> simp [TD.isAgg] at hia
    ·obtain ⟨fs, hu, _⟩ := hd
     exact ⟨_, hu, fun e => by cases e <;> rfl⟩
    ·exact ⟨_, hd, fun e => by cases e <;> rfl⟩
   obtain ⟨d, hu, hno⟩ := hund
   simp only [Sem.run_bind, run_underlying hu, Result.andThen_ok]
   cases es with
   | nil => simp [Instr.findNow, entAt]
   | cons e es =>
    have : Instr.findNow d (.agg ks) (e :: es) 0 = none := by simp [Instr.findNow, hno]
    rw [this]
    exact ask _ 0 hes
  ·have self : ∀ (n : Nat) (ls : List (Option IntKind)) (xs : List Value),leafK ls xs → (xs.zip xs).all (fun x => Instr.sameBits n x.1 x.2) = true := by
    intro n ls
    induction ls with
    | nil => intro xs h; cases xs <;> simp [leafK] at h ⊢
    | cons l ls ih =>
     intro xs h
     cases xs with
     | nil => cases l <;> simp [leafK] at h
     | cons x xs =>
      cases l <;> cases x <;> simp only [leafK] at h
      ·simp [Instr.sameBits, ih xs h]
      ·simp [Instr.sameBits, ih xs h.2]
   have : Instr.sameBits 10000 (.agg ks) (.agg ks) = true := by
    unfold Instr.sameBits
    simp only [beq_self_eq_true, Bool.true_and]
    exact self 9999 s ks.toList hk
   simp [Instr.keyThatStays, this]
 unfold shapeT at hs
 cases hdd : ti.d <;> rw [hdd] at hs hd <;> simp only [TD.holds] at hd <;> simp only [] at hs <;> (try (cases hs;done))
 case int q =>
  injection hs with hs; subst hs
  exact plain _ hd fun v hv => by cases v <;> simp [KS.ok] at hv; subst hv; simp [MapKept.IsKey]
 case bool =>
  injection hs with hs; subst hs
  exact plain _ hd fun v hv => by cases v <;> simp [KS.ok] at hv; simp [MapKept.IsKey]
 case str =>
  injection hs with hs; subst hs
  exact plain _ hd fun v hv => by cases v <;> simp [KS.ok] at hv; simp [MapKept.IsKey]
 all_goals
  unfold shapeA at hs
  split at hs
  ·rename_i ls s h1 h2
   split at hs
   ·rename_i hb
    injection hs with hs
    exact wide ls s h1 hb hs.symm
   ·cases hs
  ·cases hs
def immL : List AV → Option (List Value)
 | [] => some []
 | .imm v :: vs => match immL vs with | some xs => some (v :: xs) | none => none
 | _ => none
def keyV : AV → Option Value
 | .imm v => some v
 | .agg vs => match immL vs with | some xs => some (.agg xs.toArray) | none => none
 | _ => none
theorem immL_sound {ρ : Rho} {w : World} : ∀ {vs : List AV} {xs ys : List Value},immL vs = some xs → RvL ρ w vs ys → ys = xs
 | [], xs, ys, h, hr => by
  simp only [immL, Option.some.injEq] at h
  subst h
  cases ys <;> simp [RvL] at hr ⊢
 | v :: vs, xs, ys, h, hr => by
  cases ys with
  | nil => simp [RvL] at hr
  | cons y ys =>
   simp only [RvL] at hr
   cases v <;> simp only [immL] at h <;> (try (cases h; done))
   split at h
   ·rename_i zs hz
    simp only [Option.some.injEq] at h
    subst h
    have h1 := hr.1
    simp only [Rv] at h1
    rw [h1, immL_sound hz hr.2]
   ·cases h
theorem keyV_sound {ρ : Rho} {w : World} {v : AV} {k x : Value} (h : keyV v = some k) (hr : Rv ρ w v x) : x = k := by
 cases v <;> simp only [keyV] at h <;> (try (cases h; done))
 ·simp only [Option.some.injEq] at h
  subst h
  simpa only [Rv] using hr
 ·split at h
  ·rename_i xs hx
   simp only [Option.some.injEq] at h
   subst h
   simp only [Rv] at hr
   obtain ⟨cs, rfl, hc⟩ := hr
   rw [immL_sound hx hc]
  ·cases h
theorem entAt_none {k : Value} : ∀ {a : List MapEntry} {i : Nat} {es : List (Value × AV)},a.map (·.key) = es.map (·.1) → entAt k a i = none → mget es k = none
 | [], i, [], _, _ => rfl
 | e :: a, i, (k', v) :: es, hk, h => by
  simp only [List.map_cons, List.cons.injEq] at hk
  unfold entAt at h
  unfold mget
  rw [← hk.1]
  split at h
  ·cases h
  ·rename_i hne
   rw [if_neg hne]
   exact entAt_none hk.2 h
 | [], _, _ :: _, hk, _ => by simp at hk
 | _ :: _, _, [], hk, _ => by simp at hk
theorem entAt_some {ρ : Rho} {w : World} {k : Value} : ∀ {a : List MapEntry} {i j : Nat} {x : Value} {es : List (Value × AV)},a.map (·.key) = es.map (·.1) → RvL ρ w (es.map (·.2)) (a.map (·.val)) → entAt k a i = some (j,x) →
  ∃ v, mget es k = some v ∧ Rv ρ w v x ∧ i ≤ j ∧ ∃ e, a[j - i]? = some e ∧ keq k e.key = true ∧ e.val = x
 | [], i, j, x, [], _, _, h => by simp [entAt] at h
 | e :: a, i, j, x, (k', v) :: es, hk, hv, h => by
  simp only [List.map_cons, List.cons.injEq] at hk
  simp only [List.map_cons, RvL] at hv
  unfold entAt at h
  unfold mget
  rw [← hk.1]
  split at h
  ·rename_i hq
   simp only [Option.some.injEq, Prod.mk.injEq] at h
   obtain ⟨rfl, rfl⟩ := h
   rw [if_pos hq]
   exact ⟨v, rfl, hv.1, Nat.le_refl _, e, by simp, hq, rfl⟩
  ·rename_i hne
   rw [if_neg hne]
   obtain ⟨v', h1, h2, h3, e', h4, h5, h6⟩ := entAt_some hk.2 hv.2 h
   refine ⟨v', h1, h2, by omega, e', ?_, h5, h6⟩
   rw [show j - i = (j - (i + 1)) + 1 by omega, List.getElem?_cons_succ]
   exact h4
 | [], _, _, _, _ :: _, hk, _, _ => by simp at hk
 | _ :: _, _, _, _, [], hk, _, _ => by simp at hk
def eMakeMap (Γ : Tab) (σ : List AObj) (t : TypeId) : Option (AV × List AObj × Prop) :=
 match Γ.get t with
 | some ti =>
  match ti.d with
  | .map k _ =>
   match shapeOf Γ k with
   | some sh => some (.map σ.length, σ ++ [.mp sh []], True)
   | none => none
  | _ => none
 | none => none
def zeroA (te : TI) : Option AV := if te.d.isAgg then some (.agg (zeroL te.zero)) else match te.zero with | [z] => some (.imm z.val) | _ => none
def mapAt (σ : List AObj) : AV → Option (KS × List (Value × AV))
 | .map o => match nthO σ o with | .mp sh es => some (sh, es) | _ => none
 | .vmap sh ks vs => some (sh, ks.zip vs)
 | _ => none
def eLookup (Γ : Tab) (σ : List AObj) (t : TypeId) (m ix : AV) (ok : Bool) : Option (AV × Prop) :=
 match Γ.get t with
 | some ti =>
  match ti.d with
  | .map k e =>
   match shapeOf Γ k, Γ.get e, keyV ix with
   | some sh, some te, some kv =>
    match mapAt σ m, zeroA te with
    | some (sh',es),some z => some (if ok then .tup [mval es z kv,.imm (.bool (mhas es kv))] else mval es z kv,sh' = sh ∧ sh.ok kv)
    | _, _ => none
   | _, _, _ => none
  | _ => none
 | none => none
def eMapUpdate (Γ : Tab) (σ : List AObj) (t : TypeId) (m ix v : AV) : Option (List AObj × Prop) :=
 match Γ.get t with
 | some ti =>
  match ti.d with
  | .map k _ =>
   match shapeOf Γ k, m, keyV ix with
   | some sh, .map o, some kv =>
    match nthO σ o with
    | .mp sh' es => some (σ.set o (.mp sh (mput es kv v)), sh' = sh ∧ sh.ok kv)
    | _ => none
   | _, _, _ => none
  | _ => none
 | none => none
theorem zeroA_sound {t : TypeId} {te : TI} (hte : TIok P t te) {z : AV} (hz : zeroA te = some z) (ρ : Rho) (w : World) : ∃ x,(zeroValue t).run P w = .ok x w ∧ Rv ρ w z x := by
 obtain ⟨i, x, hi, _, _, hx, hc⟩ := hte.info
 have hag := hte.zagg i x hi hx
 refine ⟨x, by simp [Go.zeroValue, typeInfo, hi, hx], ?_⟩
 unfold zeroA at hz
 split at hz
 ·rename_i h1
  simp only [Option.some.injEq] at hz
  subst hz
  rw [h1] at hag
  cases x <;> simp [isAggV] at hag
  rename_i cs
  simp only [Rv]
  refine ⟨te.zero.map ZC.val, ?_, zeroL_sound ρ w _⟩
  simp only [Value.cells] at hc
  rw [hc]
 ·rename_i h1
  split at hz
  case h_2 => cases hz
  rename_i zc hzc
  simp only [Option.some.injEq] at hz
  subst hz
  simp only [Bool.not_eq_true] at h1
  rw [h1] at hag
  rw [hzc] at hc
  have : x.cells = #[x] := by cases x <;> simp [isAggV] at hag <;> rfl
  rw [this] at hc
  simp only [Rv]
  simpa using hc
def eMakeMapO (Γ : Tab) (σ : List AObj) (t : TypeId) : Option AV → Option (AV × List AObj × Prop)
 | none => eMakeMap Γ σ t
 | some (.imm (.int _ _)) => eMakeMap Γ σ t
 | _ => none
theorem eMakeMap_sound (hΓ : TabOk P Γ) {ρ : Rho} {w : World} {σ σ' : List AObj} (hH : RH ρ w σ) {t : TypeId} {v : AV} {C : Prop} (h : eMakeMap Γ σ t = some (v,σ',C)) {r : Option Value} (hr : r = none ∨ ∃ k n,r = some (.int k n)) :
  ∃ x ρ' w', (Instr.makeMap t r).run P w = .ok x w' ∧ Rv ρ' w' v x ∧ RH ρ' w' σ' ∧ Step ρ w ρ' w' := by
 unfold eMakeMap at h
 split at h
 case h_2 => cases h
 rename_i ti hti
 have hd := (hΓ t ti hti).desc
 split at h
 case h_2 => cases h
 rename_i k e hfs
 rw [hfs] at hd
 simp only [TD.holds] at hd
 split at h
 case h_2 => cases h
 rename_i sh hsh
 simp only [Option.some.injEq, Prod.mk.injEq] at h
 obtain ⟨rfl, rfl, rfl⟩ := h
 have hrun : (Instr.makeMap t r).run P w = .ok (.map (some w.heap.size)) (w.alloc (.map #[] 0)) := by
  rcases hr with rfl | ⟨q, n, rfl⟩
  ·rfl
  ·simp [Instr.makeMap, run_underlying hd, asInt, asIntOf]
 have hs : Step ρ w (ρ ++ [some ⟨w.heap.size,0,0,0⟩]) (w.alloc (.map #[] 0)) := Step.push _ rfl rfl rfl rfl (by simp) (fun b hb => RowKit.Below.heap_alloc w _ b hb)
 refine ⟨_, _, _, hrun, ?_, RH.push hH _ _ hs rfl (by simp) (fun b hb => RowKit.Below.heap_alloc w _ b hb) ?_, hs⟩
 ·simp only [Rv]
  exact ⟨_, by rw [← hH.len]; exact getElem?_snoc _ _, rfl⟩
 ·exact ⟨_,#[],0,getElem?_snoc _ _,(MapKept.heap_alloc w _).1,⟨by simp,by simp⟩,by simp,by simp,by simp [RvL]⟩
theorem map_obj {ρ : Rho} {w : World} {σ : List AObj} (hH : RH ρ w σ) {o : Nat} {sh : KS} {es : List (Value × AV)} (ho : nthO σ o = .mp sh es) {x : Value} (hx : Rv ρ w (.map o) x) :
  ∃ (l : Loc) (a : Array MapEntry) (clock : Nat),ρ[o]? = some (some l) ∧ x = .map (some l.b) ∧ w.heap[l.b]? = some (.map a clock) ∧ ((∀ e ∈ a.toList,e.born < clock) ∧ (a.toList.map (·.born)).Nodup) ∧
   (∀ e ∈ es,sh.ok e.1) ∧ a.toList.map (·.key) = es.map (·.1) ∧ RvL ρ w (es.map (·.2)) (a.toList.map (·.val)) ∧ ∀ e ∈ a.toList,sh.ok e.key := by
 simp only [Rv] at hx
 obtain ⟨l, hl, rfl⟩ := hx
 obtain ⟨l', a, clock, hl', hh, hb, hk, hks, hv⟩ := hH.obj o _ (nthO_eq ho rfl)
 rw [hl] at hl'
 simp only [Option.some.injEq] at hl'
 subst hl'
 refine ⟨l, a, clock, hl, rfl, hh, hb, hk, hks, hv, fun e he => ?_⟩
 have : e.key ∈ es.map (·.1) := by rw [← hks]; exact List.mem_map_of_mem he
 obtain ⟨e1, h4, h5⟩ := List.mem_map.1 this
 rw [← h5]; exact hk e1 h4
theorem RvL_len {ρ : Rho} {w : World} : ∀ {vs : List AV} {xs : List Value}, RvL ρ w vs xs → vs.length = xs.length
 | [], [], _ => rfl
 | [], _ :: _, h => by simp [RvL] at h
 | _ :: _, [], h => by simp [RvL] at h
 | _ :: vs, _ :: xs, h => by simp only [RvL] at h; simp [RvL_len h.2]
theorem mapAt_sound {ρ : Rho} {w : World} {σ : List AObj} (hH : RH ρ w σ) {m : AV} {kd : KS} {es : List (Value × AV)} (h : mapAt σ m = some (kd,es)) {x : Value} (hx : Rv ρ w m x) :
  ∃ (b : Nat) (a : Array MapEntry) (clock : Nat),x = .map (some b) ∧ w.heap[b]? = some (.map a clock) ∧ a.toList.map (·.key) = es.map (·.1) ∧ RvL ρ w (es.map (·.2)) (a.toList.map (·.val)) ∧ ∀ e ∈ a.toList,kd.ok e.key := by
 unfold mapAt at h
 split at h
 ·rename_i o
  split at h
  case h_2 => cases h
  rename_i sh' es' hob
  simp only [Option.some.injEq, Prod.mk.injEq] at h
  obtain ⟨rfl, rfl⟩ := h
  obtain ⟨l, a, clock, hl, rfl, hh, hb, hk, hks, hv, hke⟩ := map_obj hH hob hx
  exact ⟨_, a, clock, rfl, hh, hks, hv, hke⟩
 ·rename_i sh' ks vs
  simp only [Option.some.injEq, Prod.mk.injEq] at h
  obtain ⟨rfl, rfl⟩ := h
  simp only [Rv] at hx
  obtain ⟨b, a, clock, rfl, _, hh, _, hk, hks, hv⟩ := hx
  have hl := RvL_len hv
  have hl2 : ks.length = vs.length := by rw [hl, ← hks]; simp
  refine ⟨b, a, clock, rfl, hh, ?_, ?_, fun e he => ?_⟩
  ·rw [hks, List.map_fst_zip (by omega)]
  ·rw [List.map_snd_zip (by omega)]; exact hv
  ·exact hk _ (hks ▸ List.mem_map_of_mem he)
 ·cases h
theorem eLookup_sound (hΓ : TabOk P Γ) {ρ : Rho} {w : World} {σ : List AObj} (hH : RH ρ w σ) {t : TypeId} {m ix v : AV} {ok : Bool} {C : Prop} (h : eLookup Γ σ t m ix ok = some (v,C)) (hC : C) {vm vi : Value} (hm : Rv ρ w m vm) (hi : Rv ρ w ix vi) :
  ∃ r, (Instr.lookup t vm vi ok).run P w = .ok r w ∧ Rv ρ w v r := by
 unfold eLookup at h
 split at h
 case h_2 => cases h
 rename_i ti hti
 have hd := (hΓ t ti hti).desc
 split at h
 case h_2 => cases h
 rename_i k e hfs
 rw [hfs] at hd
 simp only [TD.holds] at hd
 split at h
 case h_2 => cases h
 rename_i sh te kv hsh hte hkv
 split at h
 case h_2 => cases h
 rename_i sh' es z hob hz
 simp only [Option.some.injEq, Prod.mk.injEq] at h
 obtain ⟨rfl, rfl⟩ := h
 obtain ⟨rfl, hok⟩ := hC
 obtain rfl := keyV_sound hkv hi
 obtain ⟨b, a, clock, rfl, hh, hks, hv, hke⟩ := mapAt_sound hH hob hm
 obtain ⟨c1, c2, c3⟩ := shape_find hΓ hsh hok a.toList hke w
 have hg := MapKept.run_getObj_map (P := P) hh
 obtain ⟨zv, hzr, hzv⟩ := zeroA_sound (hΓ e te hte) hz ρ w
 unfold mval mhas
 cases hq : entAt vi a.toList 0 with
 | none =>
  have hn := entAt_none hks hq
  rw [hq] at c2
  refine ⟨if ok then .tuple #[zv, .bool false] else zv, ?_, ?_⟩
  ·simp [Instr.lookup, run_underlying hd, hg, c1, c2, hzr, Result.andThen]
  ·rw [hn]
   cases ok
   ·simpa using hzv
   ·simp only [if_true, Rv, Option.getD_none, Option.isSome_none]
    exact ⟨[zv, .bool false], rfl, by simp only [RvL, Rv, and_true]; exact hzv⟩
 | some q =>
  obtain ⟨j, x⟩ := q
  obtain ⟨u, g1, g2, _⟩ := entAt_some hks hv hq
  rw [hq] at c2
  refine ⟨if ok then .tuple #[x, .bool true] else x, ?_, ?_⟩
  ·simp [Instr.lookup, run_underlying hd, hg, c1, c2, Result.andThen]
  ·rw [g1]
   cases ok
   ·simpa using g2
   ·simp only [if_true, Rv, Option.getD_some, Option.isSome_some]
    exact ⟨[x, .bool true], rfl, by simp only [RvL, Rv, and_true]; exact g2⟩
theorem entAt_put {k : Value} {x : Value} {av : AV} {ρ : Rho} {w : World} (hv : Rv ρ w av x) : ∀ {a : List MapEntry} {i j : Nat} {y : Value} {es : List (Value × AV)},a.map (·.key) = es.map (·.1) → RvL ρ w (es.map (·.2)) (a.map (·.val)) → entAt k a i = some (j,y) →
  i ≤ j ∧ j - i < a.length ∧ (∃ e,a[j - i]? = some e ∧ keq k e.key = true) ∧ ((a.modify (j - i) fun e=>{ e with key := k,val := x }).map (·.key) = (mput es k av).map (·.1)) ∧ RvL ρ w ((mput es k av).map (·.2)) ((a.modify (j - i) fun e=>{ e with key := k,val := x }).map (·.val))
 | [], i, j, y, es, _, _, h => by simp [entAt] at h
 | e :: a, i, j, y, (k', v') :: es, hk, hr, h => by
  simp only [List.map_cons, List.cons.injEq] at hk
  simp only [List.map_cons, RvL] at hr
  unfold entAt at h
  unfold mput
  rw [← hk.1]
  split at h
  ·rename_i hq
   simp only [Option.some.injEq, Prod.mk.injEq] at h
   obtain ⟨rfl, rfl⟩ := h
   rw [if_pos hq]
   simp only [Nat.sub_self, List.modify_zero_cons, List.map_cons, RvL, List.length_cons, List.getElem?_cons_zero]
   exact ⟨Nat.le_refl _, by omega, ⟨e, rfl, hq⟩, by rw [hk.2], hv, hr.2⟩
  ·rename_i hne
   rw [if_neg hne]
   obtain ⟨h1, h2, h3, h4, h5⟩ := entAt_put hv hk.2 hr.2 h
   rw [show j - i = (j - (i + 1)) + 1 by omega]
   simp only [List.modify_succ_cons, List.map_cons, RvL, List.length_cons, List.getElem?_cons_succ]
   exact ⟨by omega, by omega, h3, by rw [h4], hr.1, h5⟩
 | _ :: _, _, _, _, [], hk, _, _ => by simp at hk
theorem mput_none {ρ : Rho} {w : World} {k : Value} {av : AV} : ∀ {es : List (Value × AV)},mget es k = none → mput es k av = es ++ [(k,av)]
 | [], _ => rfl
 | (k', v') :: es, h => by
  unfold mget at h
  unfold mput
  split at h
  ·cases h
  ·rename_i hne
   rw [if_neg hne, mput_none (ρ := ρ) (w := w) h]; rfl
theorem mput_keys {sh : KS} {k : Value} {av : AV} (hk : sh.ok k) : ∀ {es : List (Value × AV)},(∀ e ∈ es,sh.ok e.1) → ∀ e ∈ mput es k av,sh.ok e.1
 | [], _, e, he => by simp [mput] at he; rw [he]; exact hk
 | (k', v') :: es, h, e, he => by
  unfold mput at he
  split at he
  ·rcases List.mem_cons.1 he with rfl | he
   ·exact hk
   ·exact h e (by simp [he])
  ·rcases List.mem_cons.1 he with rfl | he
   ·exact h _ (by simp)
   ·exact mput_keys hk (fun e he => h e (by simp [he])) e he
theorem mapStep {ρ : Rho} {w : World} {o : Nat} {l : Loc} (hl : ρ[o]? = some (some l)) (ob : Obj) : Step ρ w ρ { w with heap := w.heap.setIfInBounds l.b ob } :=
 ⟨rfl, rfl, rfl, by simp, fun b hb hn => by
  have : l.b ≠ b := fun e => hn ⟨o, l, hl, e⟩
  simp [this], List.prefix_refl _, fun b hb => .inl hb⟩
theorem born_modify (k x : Value) : ∀ (a : List MapEntry) (j : Nat),(a.modify j fun e => { e with key := k,val := x }).map (·.born) = a.map (·.born)
 | [], _ => by simp
 | e :: a, 0 => by simp
 | e :: a, j + 1 => by simp [born_modify k x a j]
theorem eMapUpdate_sound (hΓ : TabOk P Γ) {ρ : Rho} {w : World} {σ σ' : List AObj} (hH : RH ρ w σ) {t : TypeId} {m ix v : AV} {C : Prop} (h : eMapUpdate Γ σ t m ix v = some (σ',C)) (hC : C) {vm vi vv : Value} (hm : Rv ρ w m vm) (hi : Rv ρ w ix vi) (hv : Rv ρ w v vv) :
  ∃ w', (Instr.mapUpdate t vm vi vv).run P w = .ok () w' ∧ RH ρ w' σ' ∧ Step ρ w ρ w' := by
 unfold eMapUpdate at h
 split at h
 case h_2 => cases h
 rename_i ti hti
 have hd := (hΓ t ti hti).desc
 split at h
 case h_2 => cases h
 rename_i k e hfs
 rw [hfs] at hd
 simp only [TD.holds] at hd
 split at h
 case h_2 => cases h
 rename_i sh o kv hsh hkv
 split at h
 case h_2 => cases h
 rename_i sh' es hob
 simp only [Option.some.injEq, Prod.mk.injEq] at h
 obtain ⟨rfl, rfl⟩ := h
 obtain ⟨rfl, hok⟩ := hC
 obtain rfl := keyV_sound hkv hi
 obtain ⟨l, a, clock, hl, rfl, hh, hb, hk, hks, hvs, hke⟩ := map_obj hH hob hm
 obtain ⟨c1, c2, c3⟩ := shape_find hΓ hsh hok a.toList hke w
 have hg := MapKept.run_getObj_map (P := P) hh
 have hset : ∀ ob,(setObj l.b ob).run P w = .ok () { w with heap := w.heap.setIfInBounds l.b ob } := fun ob => MapKept.run_setObj_map ob hh
 have hold : ∀ ob b,b ≠ l.b → ({ w with heap := w.heap.setIfInBounds l.b ob } : World).heap[b]? = w.heap[b]? := fun ob b hb => by
  have : l.b ≠ b := fun e => hb e.symm
  simp [this]
 have hnew : ∀ ob,({ w with heap := w.heap.setIfInBounds l.b ob } : World).heap[l.b]? = some ob := fun ob => (MapKept.heap_set hh).1
 have hvl := hvs.length
 cases hq : entAt vi a.toList 0 with
 | none =>
  have hn := entAt_none hks hq
  rw [hq] at c2
  have hs := mapStep (w := w) hl (.map (a.push { key := vi, val := vv, born := clock }) (clock + 1))
  refine ⟨_,by simp [Instr.mapUpdate,run_underlying hd,hg,c1,c2,hset,Result.andThen],RH.turn hH (nthO_eq hob rfl) rfl hl hs (hold _) ?_,hs⟩
  refine ⟨l, _, _, hl, hnew _, ⟨?_, ?_⟩, mput_keys hok hk, ?_, ?_⟩
  ·intro e he
   simp only [Array.toList_push, List.mem_append, List.mem_singleton] at he
   rcases he with he | rfl
   ·have := hb.1 e he; omega
   ·simp
  ·simp only [Array.toList_push, List.map_append, List.map_cons, List.map_nil]
   refine List.nodup_append.2 ⟨hb.2, by simp, ?_⟩
   intro x hx y hy
   simp only [List.mem_singleton] at hy
   obtain ⟨e, he, rfl⟩ := List.mem_map.1 hx
   have := hb.1 e he
   omega
  ·rw [mput_none (ρ := ρ) (w := w) hn]; simp [hks]
  ·rw [mput_none (ρ := ρ) (w := w) hn]
   simp only [Array.toList_push, List.map_append, List.map_cons, List.map_nil]
   refine RvL.mono hs _ (RvL.append hvs ?_)
   simp only [RvL, and_true]
   exact hv
 | some q =>
  obtain ⟨j, x⟩ := q
  rw [hq] at c2
  obtain ⟨_, h2, ⟨e0, h3, h3b⟩, h4, h5⟩ := entAt_put hv hks hvs hq
  simp only [Nat.sub_zero] at h2 h3 h4 h5
  have hj : a[j]? = some e0 := by simpa using h3
  have hkk : vi = e0.key := KS.eq hok (hke e0 (List.mem_of_getElem? h3)) h3b
  have hs := mapStep (w := w) hl (.map (a.modify j fun e => { e with key := vi, val := vv }) clock)
  refine ⟨_,by simp [Instr.mapUpdate,run_underlying hd,hg,c1,c2,hj,← hkk,c3,hset,Result.andThen],RH.turn hH (nthO_eq hob rfl) rfl hl hs (hold _) ?_,hs⟩
  refine ⟨l, _, _, hl, hnew _, ⟨?_, ?_⟩, mput_keys hok hk, ?_, ?_⟩
  ·intro e he
   rw [Array.toList_modify] at he
   have : e.born ∈ (a.toList.modify j fun e => { e with key := vi,val := vv }).map (·.born) := List.mem_map_of_mem he
   rw [born_modify] at this
   obtain ⟨e1, he1, he2⟩ := List.mem_map.1 this
   rw [← he2]
   exact hb.1 e1 he1
  ·rw [Array.toList_modify, born_modify]; exact hb.2
  ·rw [Array.toList_modify]; exact h4
  ·rw [Array.toList_modify]; exact RvL.mono hs _ h5
def eMapDelete (Γ : Tab) (σ : List AObj) (t : TypeId) (m ix : AV) : Option (AV × List AObj × Prop) :=
 match Γ.get t with
 | some ti =>
  match ti.d with
  | .map k _ =>
   match shapeOf Γ k, m, keyV ix with
   | some sh, .map o, some kv =>
    match nthO σ o with
    | .mp sh' es => some (.tup [], σ.set o (.mp sh (mdel es kv)), sh' = sh ∧ sh.ok kv)
    | _ => none
   | _, _, _ => none
  | _ => none
 | none => none
theorem entAt_del {k : Value} {ρ : Rho} {w : World} : ∀ {a : List MapEntry} {i j : Nat} {y : Value} {es : List (Value × AV)},a.map (·.key) = es.map (·.1) → RvL ρ w (es.map (·.2)) (a.map (·.val)) → entAt k a i = some (j,y) →
  i ≤ j ∧ ((a.eraseIdx (j - i)).map (·.key) = (mdel es k).map (·.1)) ∧ RvL ρ w ((mdel es k).map (·.2)) ((a.eraseIdx (j - i)).map (·.val))
 | [], i, j, y, es, _, _, h => by simp [entAt] at h
 | e :: a, i, j, y, (k', v') :: es, hk, hr, h => by
  simp only [List.map_cons, List.cons.injEq] at hk
  simp only [List.map_cons, RvL] at hr
  unfold entAt at h
  unfold mdel
  rw [← hk.1]
  split at h
  ·rename_i hq
   simp only [Option.some.injEq, Prod.mk.injEq] at h
   obtain ⟨rfl, rfl⟩ := h
   rw [if_pos hq]
   simp only [Nat.sub_self, List.eraseIdx_zero, List.tail_cons]
   exact ⟨Nat.le_refl _, hk.2, hr.2⟩
  ·rename_i hne
   rw [if_neg hne]
   obtain ⟨h1, h4, h5⟩ := entAt_del hk.2 hr.2 h
   rw [show j - i = (j - (i + 1)) + 1 by omega]
   simp only [List.eraseIdx_cons_succ, List.map_cons, RvL]
   exact ⟨by omega, by rw [h4], hr.1, h5⟩
 | _ :: _, _, _, _, [], hk, _, _ => by simp at hk
theorem mdel_sub (k : Value) : ∀ es : List (Value × AV), List.Sublist (mdel es k) es
 | [] => List.Sublist.slnil
 | (k', v) :: r => by
  unfold mdel
  split
  ·exact List.sublist_cons_self _ _
  ·exact (mdel_sub k r).cons_cons _
theorem mdel_none {k : Value} : ∀ {es : List (Value × AV)}, mget es k = none → mdel es k = es
 | [], _ => rfl
 | (k', v') :: es, h => by
  unfold mget at h
  unfold mdel
  split at h
  ·cases h
  ·rename_i hne
   rw [if_neg hne, mdel_none h]
theorem eraseB_list {α : Type} (a : Array α) (j : Nat) : (a.eraseIdxIfInBounds j).toList = a.toList.eraseIdx j := by
 unfold Array.eraseIdxIfInBounds
 split
 ·simp
 ·rename_i h; rw [List.eraseIdx_of_length_le]; simpa using h
theorem eMapDelete_sound (hΓ : TabOk P Γ) {ρ : Rho} {w : World} {σ σ' : List AObj} (hH : RH ρ w σ) {t t2 ty : TypeId} {m ix v : AV} {C : Prop} (h : eMapDelete Γ σ t m ix = some (v,σ',C)) (hC : C) {vm vi : Value} (hm : Rv ρ w m vm) (hi : Rv ρ w ix vi) :
  ∃ x ρ' w',(Builtin.delete_ #[t,t2] ty #[vm,vi]).run P w = .ok x w' ∧ Rv ρ' w' v x ∧ RH ρ' w' σ' ∧ Step ρ w ρ' w' := by
 unfold eMapDelete at h
 split at h
 case h_2 => cases h
 rename_i ti hti
 have hd := (hΓ t ti hti).desc
 split at h
 case h_2 => cases h
 rename_i k e hfs
 rw [hfs] at hd
 simp only [TD.holds] at hd
 split at h
 case h_2 => cases h
 rename_i sh o kv hsh hkv
 split at h
 case h_2 => cases h
 rename_i sh' es hob
 simp only [Option.some.injEq, Prod.mk.injEq] at h
 obtain ⟨rfl, rfl, rfl⟩ := h
 obtain ⟨rfl, hok⟩ := hC
 obtain rfl := keyV_sound hkv hi
 obtain ⟨l, a, clock, hl, rfl, hh, hb, hk, hks, hvs, hke⟩ := map_obj hH hob hm
 obtain ⟨c1, c2, c3⟩ := shape_find hΓ hsh hok a.toList hke w
 have hg := MapKept.run_getObj_map (P := P) hh
 have hset : ∀ ob,(setObj l.b ob).run P w = .ok () { w with heap := w.heap.setIfInBounds l.b ob } := fun ob => MapKept.run_setObj_map ob hh
 have hold : ∀ ob b,b ≠ l.b → ({ w with heap := w.heap.setIfInBounds l.b ob } : World).heap[b]? = w.heap[b]? := fun ob b hb => by
  have : l.b ≠ b := fun e => hb e.symm
  simp [this]
 have hnew : ∀ ob,({ w with heap := w.heap.setIfInBounds l.b ob } : World).heap[l.b]? = some ob := fun ob => (MapKept.heap_set hh).1
 have hkd : ∀ e ∈ mdel es vi, sh'.ok e.1 := fun e he => hk e ((mdel_sub vi es).subset he)
 cases hq : entAt vi a.toList 0 with
 | none =>
  have hn := entAt_none hks hq
  rw [hq] at c2
  have hs := mapStep (w := w) hl (.map a clock)
  refine ⟨.tuple #[],_,_,by simp [Builtin.delete_,run_underlying hd,hg,c1,c2,hset,Result.andThen],⟨[],rfl,by simp [RvL]⟩,RH.turn hH (nthO_eq hob rfl) rfl hl hs (hold _) ?_,hs⟩
  refine ⟨l, _, _, hl, hnew _, hb, hkd, ?_, ?_⟩
  ·rw [mdel_none hn]; exact hks
  ·rw [mdel_none hn]; exact RvL.mono hs _ hvs
 | some q =>
  obtain ⟨j, x⟩ := q
  rw [hq] at c2
  obtain ⟨_, h4, h5⟩ := entAt_del hks hvs hq
  simp only [Nat.sub_zero] at h4 h5
  have hs := mapStep (w := w) hl (.map (a.eraseIdxIfInBounds j) clock)
  refine ⟨.tuple #[],_,_,by simp [Builtin.delete_,run_underlying hd,hg,c1,c2,hset,Result.andThen],⟨[],rfl,by simp [RvL]⟩,RH.turn hH (nthO_eq hob rfl) rfl hl hs (hold _) ?_,hs⟩
  refine ⟨l, _, _, hl, hnew _, ⟨?_, ?_⟩, hkd, ?_, ?_⟩
  ·intro e he
   rw [eraseB_list] at he
   exact hb.1 e ((List.eraseIdx_sublist _ _).subset he)
  ·rw [eraseB_list]
   exact hb.2.sublist ((List.eraseIdx_sublist _ _).map _)
  ·rw [eraseB_list]; exact h4
  ·rw [eraseB_list]; exact RvL.mono hs _ h5
end
end Go.Ab
