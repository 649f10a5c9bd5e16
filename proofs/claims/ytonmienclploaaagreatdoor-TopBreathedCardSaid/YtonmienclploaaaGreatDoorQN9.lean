/-
  natural: guarded, Mul, Pow.
-/
import Derived.Test.YtonmienclploaaaGreatDoorQGo
import Derived.Test.YtonmienclploaaaGreatDoorQN8
set_option linter.unusedSimpArgs false
set_option linter.unusedVariables false
namespace Go.Proofs.YtonmienclploaaaGreatDoor.Q
open Go.Ab
set_option maxRecDepth 100000 in
set_option maxHeartbeats 4000000 in
theorem harm : Harmless Tryz.prog 132 2 := by
  intro caps w hk
  obtain ⟨x, y, rfl⟩ : ∃ x y, caps = #[x, y] := by
    match caps, hk with
    | ⟨[x, y]⟩, _ => exact ⟨x, y, rfl⟩
  refine ⟨#[x, y], rfl, ?_⟩
  refine callsDIn_of_wpSIn (fn := Tryz.f132) Tryz.func132 rfl trivial fun c₀ cs hu => ?_
  refine wpSIn_seq (wpSIn_region ?_)
  simp [wpOpsSIn, go_sem, recoverD, hu, Tryz.ntmps132, Exit.thenS]
  refine wpSIn_seq (wpSIn_region ?_)
  simp [wpOpsSIn, go_sem, recoverD, hu, Exit.thenS]
  refine wpSIn_cond (t := false) (by simp [Act.eval, Array.replicate]) ?_
  simp only [Bool.false_eq_true, if_false]
  refine wpSIn_of_wpIn rfl (wpIn_skip ?_)
  cases c₀
  simp_all [bodyPostS, results, Tryz.results132]
theorem cvl_free {σ : List AObj} {vs : List AV} (h : FreeL vs) : CvL σ vs vs := fun _ _ _ _ hx => FreeL.sound (fun _ hb => (not_has_nil hb).elim) vs h hx
def gN (l : List Nat) (i : Nat) : Nat := l.getD i 0
def nvE (l : List Nat) (i _j : Nat) : AV := natV (gN l i)
@[go_sem] theorem nvE_us (l : List Nat) (i j : Nat) : nvE l i j = natV (gN l i) := rfl
@[simp] theorem nvE_free (l : List Nat) (i j : Nat) : Free (nvE l i j) := by simp [nvE, Free]
@[go_sem, reducible] def nvs (l : List Nat) : AV := .view l.length 1 (nvE l)
@[go_sem,reducible] def enG (f : FuncId) (caps : List AV) (l : List Nat) (i : Nat) : List AV := [.fn (.func f) [] caps,nvs l,.top,.top,.optr 0 0 0,.optr 1 0 0,.top,.top,nvs l,.imm (.int .i64 l.length),.imm (.int .i64 i)] ++ List.replicate 10 .top
@[go_sem, reducible] def fxG : List AObj := [.box 166 [.imm (.slice none 0 0)], .box 30 [.imm (.int .i64 0)]]
set_option maxRecDepth 100000 in
set_option maxHeartbeats 4000000 in
theorem guarded_mk (f : FuncId) (caps : List AV) (l : List Nat) (r : Nat) (hl : l.length ≤ 1000) (hv : ∀ i,i < l.length → lmN (gN l i) ≤ 640) (hcf : FreeL caps)
    (h : Makes Tryz.prog f caps (.own 0 0 (lmN r) none) [natO (lmN r) r]) : Makes Tryz.prog 123 [.fn (.func f) [] caps,nvs l] (.tup [.own 0 0 (lmN r) none,.imm (.int .i64 0)]) [natO (lmN r) r] := by
  refine natMkE ?_
  generalize hQ : (fun (v : AV) (σ' : List AObj) => ∃ k L c E',v = .tup [.own k 0 (lmN r) c,.imm (.int .i64 0)] ∧ nthO σ' k = .arr 179 1 L E' ∧ lmN r ≤ L ∧ ∀ i,i < lmN r → E' i 0 = lmE r i 0) = Q
  refine TC_of_TD Γ_ok Tryz.func123 rfl (by kernel_rfl) harm ?_
  simp only [Tryz.ntmps123,Tryz.results123,List.length_cons,List.length_nil,Nat.reduceSub,Nat.reduceAdd,List.replicate,List.cons_append,List.nil_append]
  (((refine goR0 _ _ _ _ _ _ _ _ ?_ ?_ ?_ ?_ ?_ ?_ ?_ ?_) <;> (repeat intro hb) <;> first | exact True.intro | refine Lf.mk ?_))
  refine T_loopW (fun m st => ∃ i : Nat, i ≤ l.length ∧ m + i = l.length ∧ st = ⟨enG f caps l i, fxG⟩)
    l.length ⟨_, ?_, 0, by omega, rfl, rfl⟩ ?_
  · have hfn : ∀ π σ,WkV π σ (.fn (.func f) [] caps) (.fn (.func f) [] caps) := fun π σ => WkV.free (by simp [Free,FreeL];exact hcf)
    ((try simp only [List.length_append,List.length_cons,List.length_nil,Nat.zero_add]);refine Wk.intro [0,1] (by decide) (by decide) (by intro o ho;simp at ho ⊢ <;> omega) ?_ ?_ <;> repeat' (first|(exact hfn _ _)|exact WkVL.nil|refine WkVL.cons ?_ ?_|exact WkV.top|exact WkV.imm rfl|exact WkV.imm (by simp)|exact WkV.optr rfl|exact WkV.own rfl (by simp)|exact WkV.nil_own (.inl rfl)|exact WkV.map rfl|(refine WkV.free ?_;simp [Free,FreeL] <;> assumption)|(refine WkV.free (fun _ _=>FreeL_nth ?_ _);simp [Free,FreeL];done)|refine WkV.agg ?_|refine WkV.tup ?_|refine WkV.fn ?_ ?_|exact WkO.dead|exact WkO.raw|refine WkO.ghost ?_|exact WkO.mpE rfl trivial|refine WkO.box ?_ rfl|refine WkO.arr ?_|refine And.intro ?_ (And.intro (by first|exact fun h=>h|exact fun _=>rfl|exact nofun) ?_)|exact trivial|(intro i j hi hj)))
  rintro m st ⟨i, h0, h1, rfl⟩
  by_cases hi : i < l.length
  · have c1 := valid_tc (gN l i) (hv i hi)
    (simp only [go_sem,↓reduceIte,Nat.reduceAdd,Nat.reduceSub,Nat.reduceMul,Nat.reduceLT,Nat.reduceLeDiff,Nat.reduceEqDiff,Nat.reduceGT,Int.reduceToNat,Int.reduceBEq,Int.reduceBNe];try simp (disch := omega) only [wrapI,wrapU,half_sum,toNat_sub1,toNat_add1,Int.toNat_natCast])
    (have cl1 := c1;((refine goR0 _ _ _ _ _ _ _ _ ?_ ?_ ?_ ?_ ?_ ?_ ?_ ?_) <;> (repeat intro hb) <;> first | exact True.intro | refine Lf.mk ?_))
    refine ⟨l.length - (i + 1), by omega, _, ?_, i + 1, by omega, by omega, rfl⟩
    have hfn : ∀ π σ,WkV π σ (.fn (.func f) [] caps) (.fn (.func f) [] caps) := fun π σ => WkV.free (by simp [Free,FreeL];exact hcf)
    ((try simp only [List.length_append,List.length_cons,List.length_nil,Nat.zero_add]);refine Wk.intro [0,1] (by decide) (by decide) (by intro o ho;simp at ho ⊢ <;> omega) ?_ ?_ <;> repeat' (first|(exact hfn _ _)|(refine WkV.imm ?_;congr 1;omega)|exact WkVL.nil|refine WkVL.cons ?_ ?_|exact WkV.top|exact WkV.imm rfl|exact WkV.imm (by simp)|exact WkV.optr rfl|exact WkV.own rfl (by simp)|exact WkV.nil_own (.inl rfl)|exact WkV.map rfl|(refine WkV.free ?_;simp [Free,FreeL] <;> assumption)|(refine WkV.free (fun _ _=>FreeL_nth ?_ _);simp [Free,FreeL];done)|refine WkV.agg ?_|refine WkV.tup ?_|refine WkV.fn ?_ ?_|exact WkO.dead|exact WkO.raw|refine WkO.ghost ?_|exact WkO.mpE rfl trivial|refine WkO.box ?_ rfl|refine WkO.arr ?_|refine And.intro ?_ (And.intro (by first|exact fun h=>h|exact fun _=>rfl|exact nofun) ?_)|exact trivial|(intro i j hi hj)))
  · (simp only [go_sem,↓reduceIte,Nat.reduceAdd,Nat.reduceSub,Nat.reduceMul,Nat.reduceLT,Nat.reduceLeDiff,Nat.reduceEqDiff,Nat.reduceGT,Int.reduceToNat,Int.reduceBEq,Int.reduceBNe];try simp (disch := omega) only [wrapI,wrapU,half_sum,toNat_sub1,toNat_add1,Int.toNat_natCast])
    (((refine goR0 _ _ _ _ _ _ _ _ ?_ ?_ ?_ ?_ ?_ ?_ ?_ ?_) <;> (repeat intro hb) <;> first | exact True.intro | refine Lf.mk ?_))
    refine callGoal_makeA h trivial (cvl_free hcf) ?_
    (simp only [go_sem,↓reduceIte,Nat.reduceAdd,Nat.reduceSub,Nat.reduceMul,Nat.reduceLT,Nat.reduceLeDiff,Nat.reduceEqDiff,Nat.reduceGT,Int.reduceToNat,Int.reduceBEq,Int.reduceBNe];try simp (disch := omega) only [wrapI,wrapU,half_sum,toNat_sub1,toNat_add1,Int.toNat_natCast])
    rename_i KF hKF NF hNF
    refine hNF _ _ ?_
    (((refine goR0 _ _ _ _ _ _ _ _ ?_ ?_ ?_ ?_ ?_ ?_ ?_ ?_) <;> (repeat intro hb) <;> first | exact True.intro | refine Lf.mk ?_))
    refine hKF _ ?_
    (((refine goR0 _ _ _ _ _ _ _ _ ?_ ?_ ?_ ?_ ?_ ?_ ?_ ?_) <;> (repeat intro hb) <;> first | exact True.intro | refine Lf.mk ?_))
    refine retQM_r ?_
    (simp only [go_sem,↓reduceIte,Nat.reduceAdd,Nat.reduceSub,Nat.reduceMul,Nat.reduceLT,Nat.reduceLeDiff,Nat.reduceEqDiff,Nat.reduceGT,Int.reduceToNat,Int.reduceBEq,Int.reduceBNe];try simp (disch := omega) only [wrapI,wrapU,half_sum,toNat_sub1,toNat_add1,Int.toNat_natCast])
    rw [← hQ]
    exact ⟨2, _, _, _, rfl, rfl, Nat.le_refl _, fun _ _ => rfl⟩
@[go_sem, reducible] def rp (v : AV) : AV := .rptr 1 (nth [v])
theorem cv_rp {σ : List AObj} {o : Nat} {ety : TypeId} {n : Nat} (h : nthO σ o = .box ety [natV n]) : Cv σ (.optr o 0 0) (rp (natV n)) :=
  Cv.ptr h rfl (CvL.cons (Cv.free (by simp [Free])) CvL.nil)
set_option maxRecDepth 100000 in
set_option maxHeartbeats 4000000 in
theorem mulc_mk (a b : Nat) (ha : lmN a ≤ 640) (hb' : lmN b ≤ 640) (hab : lmN (a * b) ≤ 640) : Makes Tryz.prog 134 [rp (natV a),rp (natV b)] (.own 0 0 (lmN (a * b)) none) [natO (lmN (a * b)) (a * b)] := by
  refine natMk ?_
  have c1 := product_mk a b ha hb' hab
  (refine TC_of_T Γ_ok Tryz.func134 rfl (by kernel_rfl) ?_;simp only [Tryz.ntmps134,Tryz.results134,List.length_cons,List.length_nil,Nat.reduceSub,Nat.reduceAdd,List.replicate,List.cons_append,List.nil_append])
  (have cm1 := c1;((refine goR0 _ _ _ _ _ _ _ _ ?_ ?_ ?_ ?_ ?_ ?_ ?_ ?_) <;> (repeat intro hb) <;> first | exact True.intro | refine Lf.mk ?_))
  exact ⟨_, _, _, _, rfl, rfl, Nat.le_refl _, fun _ _ => rfl⟩
set_option maxRecDepth 100000 in
set_option maxHeartbeats 4000000 in
theorem mul_mk (a b : Nat) (ha : lmN a ≤ 640) (hb' : lmN b ≤ 640) (hab : lmN (a * b) ≤ 640) : Makes Tryz.prog 127 [natV a,natV b] (.tup [.own 0 0 (lmN (a * b)) none,.imm (.int .i64 0)]) [natO (lmN (a * b)) (a * b)] := by
  refine natMkE ?_
  generalize hQ : (fun (v : AV) (σ' : List AObj)=>∃ k L c E',v = .tup [.own k 0 (lmN (a * b)) c,.imm (.int .i64 0)] ∧ nthO σ' k = .arr 179 1 L E' ∧ lmN (a * b) ≤ L ∧ ∀ i,i < lmN (a * b) → E' i 0 = lmE (a * b) i 0) = Q
  have c1 := guarded_mk 134 [rp (natV a), rp (natV b)] [a, b] (a * b) (by simp) (fun i hi => by
    rcases i with _ | _ | i
    · exact ha
    · exact hb'
    · have : i + 1 + 1 < 2 := hi
      omega) (by simp [FreeL, Free, nth]) (mulc_mk a b ha hb' hab)
  have hv2 : ∀ i j, i < 2 → j < 1 → nth [natV a, natV b] (i * 1 + j) = nvE [a, b] i j := fun i j hi hj => by
    obtain rfl : j = 0 := by omega
    rcases i with _ | _ | i
    · rfl
    · rfl
    · omega
  (refine TC_of_T Γ_ok Tryz.func127 rfl (by kernel_rfl) ?_;simp only [Tryz.ntmps127,Tryz.results127,List.length_cons,List.length_nil,Nat.reduceSub,Nat.reduceAdd,List.replicate,List.cons_append,List.nil_append])
  (((refine goR0 _ _ _ _ _ _ _ _ ?_ ?_ ?_ ?_ ?_ ?_ ?_ ?_) <;> (repeat intro hb) <;> first | exact True.intro | refine Lf.mk ?_))
  refine callGoal_makeA c1 trivial (CvL.cons (Cv.fn CvL.nil (CvL.cons (cv_rp rfl) (CvL.cons (cv_rp rfl) CvL.nil))) (CvL.cons (Cv.own (o := 2) rfl (by omega) hv2 (nvE_free _)) CvL.nil)) ?_
  (simp only [go_sem,↓reduceIte,Nat.reduceAdd,Nat.reduceSub,Nat.reduceMul,Nat.reduceLT,Nat.reduceLeDiff,Nat.reduceEqDiff,Nat.reduceGT,Int.reduceToNat,Int.reduceBEq,Int.reduceBNe];try simp (disch := omega) only [wrapI,wrapU,half_sum,toNat_sub1,toNat_add1,Int.toNat_natCast])
  rename_i KF hKF NF
  refine hb _ _ ?_
  (((refine goR0 _ _ _ _ _ _ _ _ ?_ ?_ ?_ ?_ ?_ ?_ ?_ ?_) <;> (repeat intro hb) <;> first | exact True.intro | refine Lf.mk ?_))
  refine hKF _ ?_
  (((refine goR0 _ _ _ _ _ _ _ _ ?_ ?_ ?_ ?_ ?_ ?_ ?_ ?_) <;> (repeat intro hb) <;> first | exact True.intro | refine Lf.mk ?_))
  rw [← hQ]
  exact ⟨3, _, _, _, rfl, rfl, Nat.le_refl _, fun _ _ => rfl⟩
@[go_sem, reducible] def rpI (n : Nat) : AV := .rptr 1 (nth [AV.imm (.int .i64 n)])
set_option maxRecDepth 100000 in
set_option maxHeartbeats 4000000 in
theorem powc_mk (a n : Nat) (h2 : 2 ≤ a) (hn : n ≤ 1152) (ha : lmN a ≤ 640) (hr : lmN (a ^ n) ≤ 640) : Makes Tryz.prog 124 [rp (natV a),rpI n] (.own 0 0 (lmN (a ^ n)) none) [natO (lmN (a ^ n)) (a ^ n)] := by
  refine natMk ?_
  have c1 := power_mk a n h2 hn ha hr
  (refine TC_of_T Γ_ok Tryz.func124 rfl (by kernel_rfl) ?_;simp only [Tryz.ntmps124,Tryz.results124,List.length_cons,List.length_nil,Nat.reduceSub,Nat.reduceAdd,List.replicate,List.cons_append,List.nil_append])
  (have cm1 := c1;((refine goR0 _ _ _ _ _ _ _ _ ?_ ?_ ?_ ?_ ?_ ?_ ?_ ?_) <;> (repeat intro hb) <;> first | exact True.intro | refine Lf.mk ?_))
  exact ⟨_, _, _, _, rfl, rfl, Nat.le_refl _, fun _ _ => rfl⟩
set_option maxRecDepth 100000 in
set_option maxHeartbeats 4000000 in
theorem pow_mk (a n : Nat) (h2 : 2 ≤ a) (hn : n ≤ 1152) (ha : lmN a ≤ 640) (hr : lmN (a ^ n) ≤ 640) : Makes Tryz.prog 106 [natV a,.imm (.int .i64 n)] (.tup [.own 0 0 (lmN (a ^ n)) none,.imm (.int .i64 0)]) [natO (lmN (a ^ n)) (a ^ n)] := by
  refine natMkE ?_
  generalize hQ : (fun (v : AV) (σ' : List AObj)=>∃ k L c E',v = .tup [.own k 0 (lmN (a ^ n)) c,.imm (.int .i64 0)] ∧ nthO σ' k = .arr 179 1 L E' ∧ lmN (a ^ n) ≤ L ∧ ∀ i,i < lmN (a ^ n) → E' i 0 = lmE (a ^ n) i 0) = Q
  have c1 := guarded_mk 124 [rp (natV a), rpI n] [a] (a ^ n) (by simp) (fun i hi => by
    rcases i with _ | i
    · exact ha
    · have : i + 1 < 1 := hi
      omega) (by simp [FreeL, Free, nth]) (powc_mk a n h2 hn ha hr)
  have hv2 : ∀ i j, i < 1 → j < 1 → nth [natV a] (i * 1 + j) = nvE [a] i j := fun i j hi hj => by
    obtain rfl : j = 0 := by omega
    obtain rfl : i = 0 := by omega
    rfl
  have hrp : ∀ {σ : List AObj} {o : Nat} {ety : TypeId},nthO σ o = .box ety [AV.imm (.int .i64 (n : Int))] → Cv σ (.optr o 0 0) (rpI n) := fun h => Cv.ptr h rfl (CvL.cons (Cv.imm rfl) CvL.nil)
  (refine TC_of_T Γ_ok Tryz.func106 rfl (by kernel_rfl) ?_;simp only [Tryz.ntmps106,Tryz.results106,List.length_cons,List.length_nil,Nat.reduceSub,Nat.reduceAdd,List.replicate,List.cons_append,List.nil_append])
  (((refine goR0 _ _ _ _ _ _ _ _ ?_ ?_ ?_ ?_ ?_ ?_ ?_ ?_) <;> (repeat intro hb) <;> first | exact True.intro | refine Lf.mk ?_))
  refine callGoal_makeA c1 trivial (CvL.cons (Cv.fn CvL.nil (CvL.cons (cv_rp rfl) (CvL.cons (hrp rfl) CvL.nil))) (CvL.cons (Cv.own (o := 2) rfl (by omega) hv2 (nvE_free _)) CvL.nil)) ?_
  (simp only [go_sem,↓reduceIte,Nat.reduceAdd,Nat.reduceSub,Nat.reduceMul,Nat.reduceLT,Nat.reduceLeDiff,Nat.reduceEqDiff,Nat.reduceGT,Int.reduceToNat,Int.reduceBEq,Int.reduceBNe];try simp (disch := omega) only [wrapI,wrapU,half_sum,toNat_sub1,toNat_add1,Int.toNat_natCast])
  rename_i KF hKF NF
  refine hb _ _ ?_
  (((refine goR0 _ _ _ _ _ _ _ _ ?_ ?_ ?_ ?_ ?_ ?_ ?_ ?_) <;> (repeat intro hb) <;> first | exact True.intro | refine Lf.mk ?_))
  refine hKF _ ?_
  (((refine goR0 _ _ _ _ _ _ _ _ ?_ ?_ ?_ ?_ ?_ ?_ ?_ ?_) <;> (repeat intro hb) <;> first | exact True.intro | refine Lf.mk ?_))
  rw [← hQ]
  exact ⟨3, _, _, _, rfl, rfl, Nat.le_refl _, fun _ _ => rfl⟩
end Go.Proofs.YtonmienclploaaaGreatDoor.Q
