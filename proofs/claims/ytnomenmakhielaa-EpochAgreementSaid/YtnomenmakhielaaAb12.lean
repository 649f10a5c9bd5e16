/-
  The rewrite rules of the abstract walk; contracts of functions that only look; entering a function.
-/
import Derived.Test.YtnomenmakhielaaAb11
namespace Go.Ab

attribute [go_sem] shapeOf shapeT shapeA shapeZ KS.leaves boolsEq keyV immL eMakeMap eMakeMapO eLookup eMapUpdate zeroA KS.ok leafK
attribute [go_sem] nth nthO opd kEq eqA eInt TD.isBool TD.isSlice TD.isFunc TD.isAgg isNilA eBin eUn eConv oneC oneL cellsOf rd ptrCells eLoad setC eStore zeroL eAlloc eBox placesOf nthP fillA eBuild repL eBuildSlice
  eMake src eApp eAppZ nthF eFieldAddr eIndexAddr takeL ePart eField eIndex eExtract eNilCheck bnd loOf hiOf capLe eSlice eLen eCap eMin eMax rdE eCopy pu us ug mapP mapL eOp loud setN setE nthOp gb guardOf opsOf oblig selA evPick ev1 evG isCall evL
  evGoal callA callGoalG condA eRes mkRes retGoal retQ thenQ blockQ ZC.val Value.oneCell'
attribute [go_sem] List.cons_append List.nil_append List.length_cons List.length_nil List.append_nil List.take_succ_cons List.take_zero List.take_nil List.drop_succ_cons List.drop_zero List.drop_nil List.set_cons_zero List.set_cons_succ
  List.map_cons List.map_nil Option.map_some Option.map_none Option.toList_some Option.toList_none Int.toNat_natCast Nat.zero_add Nat.add_zero Nat.sub_zero Nat.zero_mul List.replicate_succ List.replicate_zero
  and_true true_and Bool.true_and Bool.and_true Bool.false_and Bool.and_false Bool.not_true Bool.not_false Bool.not_not cond_true cond_false Bool.cond_true_left Bool.cond_false_right Bool.cond_true_right Bool.cond_false_left
  Bool.or_true Bool.or_false Bool.true_or Bool.false_or forall_const ne_eq Bool.not_eq_true not_false_eq_true if_true if_false ite_true ite_false Bool.false_eq_true implies_true imp_self and_self Nat.lt_irrefl false_and and_false

section
variable {P : Program} {Γ : Tab}

/-- What a function hands back that names no object leaves nothing behind. -/
theorem TC_free {f : FuncId} {args : List AV} {Q : AV → Prop} (h : TC P f args [] (fun v _ => Q v)) (hf : ∀ v, Q v → Free v) : TC P f args [] (fun v σ' => Q v ∧ σ' = []) :=
  ⟨h.1, fun ρ w vs ha hH => (h.2 ρ w vs ha hH).mono fun e w' ⟨ρ', v, σ', x, he, hq, hv, hH', hs⟩ => by
    have hρ : ρ = [] := List.eq_nil_of_length_eq_zero (by simpa using hH.len)
    subst hρ
    exact ⟨[], v, [], x, he, ⟨hq, rfl⟩, Free.sound (fun b hb => by obtain ⟨o, l, hl, _⟩ := hb; simp at hl) v (hf v hq) hv, RH.nil w' hH'.glob_nil,
      ⟨hs.os, hs.tape, hs.output, hs.size, hs.same, List.prefix_refl _, fun b hb => .inl hb⟩⟩⟩

/-- As a value for a callee that knows of no objects. -/
def Cv (σ : List AObj) (a b : AV) : Prop := ∀ ρ w x, RH ρ w σ → Rv ρ w a x → Rv [] w b x
def CvL (σ : List AObj) (as bs : List AV) : Prop := ∀ ρ w xs, RH ρ w σ → RvL ρ w as xs → RvL [] w bs xs

theorem not_has_nil {b : Nat} : ¬ Rho.has [] b := fun ⟨_, _, h, _⟩ => by simp at h

theorem Cv.free {σ : List AObj} {v : AV} (h : Free v) : Cv σ v v := fun _ _ _ _ hx => Free.sound (fun _ hb => (not_has_nil hb).elim) v h hx
theorem Cv.imm {σ : List AObj} {v v2 : Value} (h : v = v2) : Cv σ (.imm v) (.imm v2) := fun _ _ x _ hx => by simp only [Rv] at hx ⊢; rw [hx, h]
theorem CvL.nil {σ : List AObj} : CvL σ [] [] := fun _ _ xs _ h => by cases xs <;> simp [RvL] at h ⊢
theorem CvL.cons {σ : List AObj} {a b : AV} {as bs : List AV} (h : Cv σ a b) (hs : CvL σ as bs) : CvL σ (a :: as) (b :: bs) := fun ρ w xs hH hx => by
  cases xs with
  | nil => simp [RvL] at hx
  | cons x xs => simp only [RvL] at hx ⊢; exact ⟨h _ _ _ hH hx.1, hs _ _ _ hH hx.2⟩
theorem Cv.agg {σ : List AObj} {vs vs2 : List AV} (h : CvL σ vs vs2) : Cv σ (.agg vs) (.agg vs2) := fun ρ w x hH hx => by
  simp only [Rv] at hx ⊢
  obtain ⟨cs, rfl, hc⟩ := hx
  exact ⟨cs, rfl, h _ _ _ hH hc⟩
theorem Cv.fn {σ : List AObj} {f : Fn} {a a2 b b2 : List AV} (h : CvL σ a a2) (k : CvL σ b b2) : Cv σ (.fn f a b) (.fn f a2 b2) := fun ρ w x hH hx => by
  simp only [Rv] at hx ⊢
  obtain ⟨fs, cs, rfl, h1, h2⟩ := hx
  exact ⟨fs, cs, rfl, h _ _ _ hH h1, k _ _ _ hH h2⟩
theorem Cv.pv {σ : List AObj} {n esz : Nat} {c : Option Nat} {e : Nat → Nat → AV} (h : Free (.view n esz e)) : Cv σ (.pv n esz c e) (.view n esz e) := fun ρ w x hH hx => Cv.free h ρ w x hH (pv_view hx)
theorem Cv.nil_view {σ : List AObj} {esz : Nat} {e : Nat → Nat → AV} : Cv σ (.imm (.slice none 0 0)) (.view 0 esz e) := fun ρ w x _ hx => by
  simp only [Rv] at hx ⊢
  exact ⟨_, _, hx, Nat.le_refl _, fun h => by omega⟩
/-- A slice, whoever has it, as one that is only read. -/
theorem Cv.view {σ : List AObj} {v : AV} {n esz : Nat} {f e2 : Nat → Nat → AV} {c : Prop} (h : src σ v = some (n, esz, f, c)) (hc : c) (hz : 0 < esz) (he : ∀ i j, i < n → j < esz → Cv σ (f i j) (e2 i j)) : Cv σ v (.view n esz e2) := fun ρ w x hH hx => by
  obtain ⟨a, cap, rfl, h1, h2⟩ := src_sound hH h hc hx
  simp only [Rv]
  refine ⟨a, cap, rfl, h1, fun hp => ?_⟩
  obtain ⟨ad, rfl, h3⟩ := h2 hp
  refine ⟨ad, rfl, ?_, not_has_nil, fun i hi j hj => ?_⟩
  · obtain ⟨y, hy, _⟩ := h3 0 hp 0 hz
    have := World.block_lt_of_cell? w _ hy
    rwa [add_block] at this
  · obtain ⟨y, a, b, c⟩ := h3 i hi j hj
    exact ⟨y, a, b, he i j hi hj _ _ _ hH c⟩

/-- An empty one. -/
theorem Cv.view0 {σ : List AObj} {v : AV} {esz esz2 : Nat} {f e2 : Nat → Nat → AV} {c : Prop} (h : src σ v = some (0, esz, f, c)) (hc : c) : Cv σ v (.view 0 esz2 e2) := fun ρ w x hH hx => by
  obtain ⟨a, cap, rfl, h1, h2⟩ := src_sound hH h hc hx
  simp only [Rv]
  exact ⟨a, cap, rfl, h1, fun hp => by omega⟩

mutual
/-- Neither an object nor memory is named in a value. -/
def Pl : AV → Prop
  | .top => True
  | .imm _ => True
  | .emp => True
  | .gd _ v => Pl v
  | .fn _ a b => PlL a ∧ PlL b
  | .agg vs => PlL vs
  | .tup vs => PlL vs
  | _ => False
def PlL : List AV → Prop
  | [] => True
  | v :: vs => Pl v ∧ PlL vs
end

mutual
theorem Pl.any {ρ ρ' : Rho} {w w' : World} : (v : AV) → Pl v → ∀ {x}, Rv ρ w v x → Rv ρ' w' v x
  | .top, _, _, _ => trivial
  | .imm _, _, _, h => h
  | .gd g v, hf, x, h => by
    simp only [Pl] at hf
    simp only [Rv] at h ⊢
    split
    · rename_i hg; rw [if_pos hg] at h; exact Pl.any v hf h
    · rename_i hg; rw [if_neg hg] at h; exact h
  | .rptr _ _, hf, _, _ => by simp [Pl] at hf
  | .view _ _ _, hf, _, _ => by simp [Pl] at hf
  | .pv _ _ _ _, hf, _, _ => by simp [Pl] at hf
  | .optr _ _ _, hf, _, _ => by simp [Pl] at hf
  | .own _ _ _ _, hf, _, _ => by simp [Pl] at hf
  | .bsl _ _ _ _ _, hf, _, _ => by simp [Pl] at hf
  | .emp, _, _, h => by simpa only [Rv] using h
  | .map _, hf, _, _ => by simp [Pl] at hf
  | .fn f a b, hf, x, h => by
    simp only [Pl] at hf
    simp only [Rv] at h ⊢
    obtain ⟨fs, cs, rfl, h1, h2⟩ := h
    exact ⟨fs, cs, rfl, PlL.any a hf.1 h1, PlL.any b hf.2 h2⟩
  | .agg vs, hf, x, h => by
    simp only [Pl] at hf
    simp only [Rv] at h ⊢
    obtain ⟨cs, rfl, h1⟩ := h
    exact ⟨cs, rfl, PlL.any vs hf h1⟩
  | .tup vs, hf, x, h => by
    simp only [Pl] at hf
    simp only [Rv] at h ⊢
    obtain ⟨cs, rfl, h1⟩ := h
    exact ⟨cs, rfl, PlL.any vs hf h1⟩
theorem PlL.any {ρ ρ' : Rho} {w w' : World} : (vs : List AV) → PlL vs → ∀ {xs}, RvL ρ w vs xs → RvL ρ' w' vs xs
  | [], _, [], _ => by simp [RvL]
  | v :: vs, hf, x :: xs, h => by
    simp only [PlL] at hf
    simp only [RvL] at h ⊢
    exact ⟨Pl.any v hf.1 h.1, PlL.any vs hf.2 h.2⟩
  | [], _, _ :: _, h => by simp [RvL] at h
  | _ :: _, _, [], h => by simp [RvL] at h
end

mutual
theorem Pl.free : (v : AV) → Pl v → Free v
  | .top, _ => trivial
  | .imm _, _ => trivial
  | .gd g v, h => by simp only [Pl] at h; simp only [Free]; exact Pl.free v h
  | .fn f a b, h => by simp only [Pl] at h; simp only [Free]; exact ⟨PlL.free a h.1, PlL.free b h.2⟩
  | .agg vs, h => by simp only [Pl] at h; simp only [Free]; exact PlL.free vs h
  | .tup vs, h => by simp only [Pl] at h; simp only [Free]; exact PlL.free vs h
  | .rptr _ _, hf => by simp [Pl] at hf
  | .view _ _ _, hf => by simp [Pl] at hf
  | .pv _ _ _ _, hf => by simp [Pl] at hf
  | .optr _ _ _, hf => by simp [Pl] at hf
  | .own _ _ _ _, hf => by simp [Pl] at hf
  | .bsl _ _ _ _ _, hf => by simp [Pl] at hf
  | .emp, _ => by simp [Free]
  | .map _, hf => by simp [Pl] at hf
theorem PlL.free : (vs : List AV) → PlL vs → FreeL vs
  | [], _ => trivial
  | v :: vs, h => by simp only [PlL] at h; simp only [FreeL]; exact ⟨Pl.free v h.1, PlL.free vs h.2⟩
end

/-- A function that only looks at what it is handed, and answers a plain value: called from anywhere, it leaves all as it was. -/
theorem TC_look {f : FuncId} {args args0 : List AV} {σ : List AObj} {Q : AV → Prop} (h : TC P f args0 [] (fun v _ => Q v)) (hp : ∀ v, Q v → Pl v) (hc : CvL σ args args0) : TC P f args σ (fun v σ' => Q v ∧ σ' = σ) :=
  ⟨h.1, fun ρ w vs ha hH => (h.2 [] w vs (hc _ _ _ hH ha) (RH.nil w hH.glob_nil)).mono fun e w' ⟨ρ', v, σ', x, he, hq, hv, hH', hs⟩ => by
    have hst : Step ρ w ρ w' := ⟨hs.os, hs.tape, hs.output, hs.size, fun b hb _ => hs.same b hb not_has_nil, List.prefix_refl _, fun b hb => .inl hb⟩
    exact ⟨ρ, v, σ, x, he, ⟨hq, rfl⟩, Pl.any v (hp v hq) hv,
      ⟨hH.len, fun o l hl => Nat.lt_of_lt_of_le (hH.lt o l hl) hs.size, fun o a ha => RO.keep hst (hH.obj o a ha) fun l hl => hs.same _ (hH.lt o l hl) not_has_nil, hH.apart, hH.glob.step hst⟩, hst⟩⟩

mutual
/-- Numbers of objects moved up by k. (What is only read has no numbers.) -/
def sh (k : Nat) : AV → AV
  | .gd g v => .gd g (sh k v)
  | .optr o i off => .optr (k + o) i off
  | .own o s n c => .own (k + o) s n c
  | .bsl o a b c d => .bsl (k + o) a b c d
  | .map o => .map (k + o)
  | .fn f a b => .fn f (shL k a) (shL k b)
  | .agg vs => .agg (shL k vs)
  | .tup vs => .tup (shL k vs)
  | v => v
def shL (k : Nat) : List AV → List AV
  | [] => []
  | v :: vs => sh k v :: shL k vs
end

mutual
/-- No memory that is only read is named. -/
def VF : AV → Prop
  | .gd _ v => VF v
  | .fn _ a b => VFL a ∧ VFL b
  | .agg vs => VFL vs
  | .tup vs => VFL vs
  | .rptr _ _ => False
  | .view _ _ _ => False
  | .pv _ _ _ _ => False
  | _ => True
def VFL : List AV → Prop
  | [] => True
  | v :: vs => VF v ∧ VFL vs
end

theorem app_get {ρ ρ1 : Rho} {o : Nat} {l : Loc} (h : ρ1[o]? = some (some l)) : (ρ ++ ρ1)[ρ.length + o]? = some (some l) := by
  rw [List.getElem?_append_right (by omega)]
  simpa using h

mutual
theorem VF.sound {ρ ρ1 : Rho} {w : World} : (v : AV) → VF v → ∀ {x}, Rv ρ1 w v x → Rv (ρ ++ ρ1) w (sh ρ.length v) x
  | .top, _, _, _ => trivial
  | .imm _, _, _, h => h
  | .gd g v, hf, x, h => by
    simp only [VF] at hf
    simp only [sh, Rv] at h ⊢
    split
    · rename_i hg; rw [if_pos hg] at h; exact VF.sound v hf h
    · rename_i hg; rw [if_neg hg] at h; exact h
  | .rptr _ _, hf, _, _ => by simp [VF] at hf
  | .view _ _ _, hf, _, _ => by simp [VF] at hf
  | .pv _ _ _ _, hf, _, _ => by simp [VF] at hf
  | .optr o i off, _, x, h => by
    simp only [sh, Rv] at h ⊢
    obtain ⟨l, hl, rfl⟩ := h
    exact ⟨l, app_get hl, rfl⟩
  | .own o s n c, _, x, h => by
    simp only [sh, Rv] at h ⊢
    rcases h with ⟨l, cap, hl, h⟩ | h
    · exact .inl ⟨l, cap, app_get hl, h⟩
    · exact .inr h
  | .emp, _, _, h => by simpa only [Rv, sh] using h
  | .bsl o _ _ _ _, _, x, h => by
    simp only [sh, Rv] at h ⊢
    obtain ⟨hc, l, hl, rfl⟩ := h
    exact ⟨hc, l, app_get hl, rfl⟩
  | .map o, _, x, h => by
    simp only [sh, Rv] at h ⊢
    obtain ⟨l, hl, rfl⟩ := h
    exact ⟨l, app_get hl, rfl⟩
  | .fn f a b, hf, x, h => by
    simp only [VF] at hf
    simp only [sh, Rv] at h ⊢
    obtain ⟨fs, cs, rfl, h1, h2⟩ := h
    exact ⟨fs, cs, rfl, VFL.sound a hf.1 h1, VFL.sound b hf.2 h2⟩
  | .agg vs, hf, x, h => by
    simp only [VF] at hf
    simp only [sh, Rv] at h ⊢
    obtain ⟨cs, rfl, h1⟩ := h
    exact ⟨cs, rfl, VFL.sound vs hf h1⟩
  | .tup vs, hf, x, h => by
    simp only [VF] at hf
    simp only [sh, Rv] at h ⊢
    obtain ⟨cs, rfl, h1⟩ := h
    exact ⟨cs, rfl, VFL.sound vs hf h1⟩
theorem VFL.sound {ρ ρ1 : Rho} {w : World} : (vs : List AV) → VFL vs → ∀ {xs}, RvL ρ1 w vs xs → RvL (ρ ++ ρ1) w (shL ρ.length vs) xs
  | [], _, [], _ => by simp [shL, RvL]
  | v :: vs, hf, x :: xs, h => by
    simp only [VFL] at hf
    simp only [shL, RvL] at h ⊢
    exact ⟨VF.sound v hf.1 h.1, VFL.sound vs hf.2 h.2⟩
  | [], _, _ :: _, h => by simp [RvL] at h
  | _ :: _, _, [], h => by simp [RvL] at h
end

def PlO : AObj → Prop
  | .dead => True
  | .box _ cells => PlL cells
  | .arr _ _ _ e => ∀ i j, Pl (e i j)
  | .mp _ es => PlL (es.map (·.2))

theorem PlO.sound {ρ ρ1 : Rho} {w : World} {o : Nat} {a : AObj} (hp : PlO a) (h : RO ρ1 w o a) : RO (ρ ++ ρ1) w (ρ.length + o) a := by
  cases a with
  | dead => trivial
  | box ety cells =>
    obtain ⟨l, c, hl, h0, h1, h2, h3, h4, h5⟩ := h
    exact ⟨l, c, app_get hl, h0, h1, h2, h3, h4, PlL.any _ hp h5⟩
  | arr ety esz len e =>
    rcases h with ⟨l, c, hl, he, hh, hc, hd, hr⟩ | ⟨hn, h0⟩
    · refine .inl ⟨l, c, app_get hl, he, hh, hc, hd, fun i hi j hj => ?_⟩
      obtain ⟨y, a, b, c⟩ := hr i hi j hj
      exact ⟨y, a, b, Pl.any _ (hp i j) c⟩
    · exact .inr ⟨by rw [List.getElem?_append_right (by omega)]; simpa using hn, h0⟩
  | mp sh es =>
    obtain ⟨l, a, clock, hl, hh, hb, hks, he, hv⟩ := h
    exact ⟨l, a, clock, app_get hl, hh, hb, hks, he, PlL.any _ hp hv⟩

/-- A function that only looks at what it is handed, and answers with objects of its own making: they are added. -/
theorem TC_make {f : FuncId} {args args0 : List AV} {σ : List AObj} {Q : AV → List AObj → Prop} (h : TC P f args0 [] Q) (hp : ∀ v σ1, Q v σ1 → VF v ∧ ∀ a ∈ σ1, PlO a) (hc : CvL σ args args0) :
    TC P f args σ (fun v σ' => ∃ v1 σ1, Q v1 σ1 ∧ v = sh σ.length v1 ∧ σ' = σ ++ σ1) :=
  ⟨h.1, fun ρ w vs ha hH => (h.2 [] w vs (hc _ _ _ hH ha) (RH.nil w hH.glob_nil)).mono fun e w' ⟨ρ1, v, σ1, x, he, hq, hv, hH1, hs⟩ => by
    obtain ⟨hvf, hpo⟩ := hp v σ1 hq
    have hown : ∀ b, Rho.has ρ1 b → w.heap.size ≤ b := fun b hb => by
      rcases hs.own b hb with h0 | h0
      · exact (not_has_nil h0).elim
      · exact h0
    have hhas : ∀ b, Rho.has (ρ ++ ρ1) b → ρ.has b ∨ Rho.has ρ1 b := fun b hb => by
      obtain ⟨o, l, hl, rfl⟩ := hb
      rw [List.getElem?_append] at hl
      split at hl
      · exact .inl ⟨o, l, hl, rfl⟩
      · exact .inr ⟨_, l, hl, rfl⟩
    have hst : Step ρ w (ρ ++ ρ1) w' := ⟨hs.os, hs.tape, hs.output, hs.size, fun b hb _ => hs.same b hb not_has_nil, List.prefix_append _ _, fun b hb => by
      rcases hhas b hb with h0 | h0
      · exact .inl h0
      · exact .inr (hown b h0)⟩
    have hkeep : ∀ (o : Nat) (a : AObj), σ[o]? = some a → RO (ρ ++ ρ1) w' o a := fun o a ha => RO.keep hst (hH.obj o a ha) fun l hl => hs.same _ (hH.lt o l hl) not_has_nil
    have cases_ : ∀ {α : Type} {l1 l2 : List α} {o : Nat} {y : α}, (l1 ++ l2)[o]? = some y → (o < l1.length ∧ l1[o]? = some y) ∨ ∃ q, o = l1.length + q ∧ l2[q]? = some y := by
      intro α l1 l2 o y hy
      rw [List.getElem?_append] at hy
      split at hy
      · rename_i hlt; exact .inl ⟨hlt, hy⟩
      · exact .inr ⟨o - l1.length, by omega, hy⟩
    refine ⟨ρ ++ ρ1, sh σ.length v, σ ++ σ1, x, he, ⟨v, σ1, hq, rfl, rfl⟩, by rw [← hH.len]; exact VF.sound v hvf hv, ⟨by simp [hH.len, hH1.len], fun o l hl => ?_, fun o a ha => ?_, fun o o' l l' a a' hne h1 k1 h2 k2 r1 r2 => ?_, hH.glob.step hst⟩, hst⟩
    · rcases cases_ hl with ⟨_, h0⟩ | ⟨q, _, h0⟩
      · exact Nat.lt_of_lt_of_le (hH.lt o l h0) hs.size
      · exact hH1.lt q l h0
    · rcases cases_ ha with ⟨_, h0⟩ | ⟨q, rfl, h0⟩
      · exact hkeep o a h0
      · rw [← hH.len]; exact PlO.sound (hpo a (List.mem_of_getElem? h0)) (hH1.obj q a h0)
    · rcases cases_ h1 with ⟨_, p1⟩ | ⟨q1, e1, p1⟩ <;> rcases cases_ h2 with ⟨_, p2⟩ | ⟨q2, e2, p2⟩ <;> rcases cases_ r1 with ⟨_, s1⟩ | ⟨t1, f1, s1⟩ <;> rcases cases_ r2 with ⟨_, s2⟩ | ⟨t2, f2, s2⟩ <;> (try (have := hH.len; omega))
      · exact hH.apart o o' l l' a a' hne p1 k1 p2 k2 s1 s2
      · have := hH.lt o l s1
        have := hown l'.b ⟨t2, l', s2, rfl⟩
        omega
      · have := hH.lt o' l' s2
        have := hown l.b ⟨t1, l, s1, rfl⟩
        omega
      · have hl := hH.len
        have : t1 = q1 := by omega
        subst this
        have : t2 = q2 := by omega
        subst this
        exact hH1.apart t1 t2 l l' a a' (by omega) p1 k1 p2 k2 s1 s2⟩

attribute [go_sem] sh shL
end
end Go.Ab

namespace Go.Ab
section
variable {P : Program} {n : Nat} {K : St → Prop} {Q : Exit → St → Prop} {st : St} {id id' : Nat}
theorem thenQ_n (h : K st) : thenQ K Q .normal st := h
theorem thenQ_e (h : Q (.exit id) st) : thenQ K Q (.exit id) st := h
theorem thenQ_r (h : Q .ret st) : thenQ K Q .ret st := h
theorem blockQ_n (h : Q .normal st) : blockQ id Q .normal st := h
theorem blockQ_r (h : Q .ret st) : blockQ id Q .ret st := h
theorem blockQ_e (h : Q .normal st) : blockQ id Q (.exit id) st := by simp only [blockQ, if_true]; exact h
theorem blockQ_o (hne : id' ≠ id) (h : Q (.exit id') st) : blockQ id Q (.exit id') st := by simp only [blockQ, if_neg hne]; exact h
theorem retQ_r {Γ : Tab} {rs : List ResultVar} {Q : AV → List AObj → Prop} (h : retGoal st.σ Q (eRes Γ st rs)) : retQ Γ rs Q .ret st := h
theorem retQ_n {Γ : Tab} {rs : List ResultVar} {Q : AV → List AObj → Prop} (h : retGoal st.σ Q (eRes Γ st rs)) : retQ Γ rs Q .normal st := h
end
end Go.Ab

namespace Go.Ab
section
variable {P : Program} {Γ : Tab} {n : Nat}
/-- A contract: called so, the function answers v; what it was handed is only looked at. -/
def Look (P : Program) (k : FuncId) (args : List AV) (v : AV) : Prop := TC P k args [] (fun u _ => u = v) ∧ Pl v

theorem Look.mk {k : FuncId} {args : List AV} {v : AV} (hp : Pl v) (h : TC P k args [] (fun u _ => u = v)) : Look P k args v := ⟨h, hp⟩

theorem Look.eq {k : FuncId} {args : List AV} {v v2 : AV} (h : Look P k args v) (e : v = v2) : Look P k args v2 := e ▸ h

theorem callGoal_mk {σ : List AObj} {next : AV → List AObj → Prop} {k : FuncId} {args : List AV} {C : Prop} {Q0 : AV → List AObj → Prop} (hC : C) (h : TC P k args σ Q0) (hn : ∀ v σ', Q0 v σ' → next v σ') : callGoal P σ next (some (k, args, C)) := ⟨hC, Q0, h, hn⟩

theorem callGoal_look {σ : List AObj} {next : AV → List AObj → Prop} {k : FuncId} {args args0 : List AV} {C : Prop} {v : AV} (hC : C) (hc : CvL σ args args0) (h : Look P k args0 v) (hn : next v σ) : callGoal P σ next (some (k, args, C)) :=
  ⟨hC, _, TC_look h.1 (fun u hu => hu ▸ h.2) hc, fun u σ' ⟨hu, hs⟩ => by subst hu; subst hs; exact hn⟩

/-- The contract of a function that makes objects: their list, and the value that names them (from 0 on). -/
def Makes (P : Program) (k : FuncId) (args : List AV) (v : AV) (σ1 : List AObj) : Prop := TC P k args [] (fun u σ' => u = v ∧ σ' = σ1) ∧ VF v ∧ ∀ a ∈ σ1, PlO a

theorem callGoal_make {σ σ1 : List AObj} {next : AV → List AObj → Prop} {k : FuncId} {args args0 : List AV} {C : Prop} {v : AV} (hC : C) (hc : CvL σ args args0) (h : Makes P k args0 v σ1) (hn : next (sh σ.length v) (σ ++ σ1)) : callGoal P σ next (some (k, args, C)) :=
  ⟨hC, _, TC_make h.1 (fun u s ⟨hu, hs⟩ => by subst hu; subst hs; exact h.2) hc, fun u σ' ⟨v1, s1, ⟨h1, h2⟩, h3, h4⟩ => by subst h1; subst h2; subst h3; subst h4; exact hn⟩

theorem gCall_look {ops rest : List Oper} {K : St → Prop} {dst : Option Tmp} {env : List AV} {σ : List AObj} {g : Bool} {k : FuncId} {args args0 : List AV} {C : Prop} {v : AV}
    (h : g = true → C ∧ Look P k args0 v ∧ CvL σ args args0) (next : TO P n ops rest K ⟨setE env dst (.gd g v), σ⟩) :
    gCall g (callGoal P σ (fun v σ' => TO P n ops rest K ⟨setE env dst v, σ'⟩) (some (k, args, C))) (TO P n ops rest K ⟨setE env dst (.imm undef), σ⟩) :=
  gCall_pure v (fun hg => callGoal_look (h hg).1 (h hg).2.2 (h hg).2.1 ⟨rfl, rfl⟩) next
end
end Go.Ab
