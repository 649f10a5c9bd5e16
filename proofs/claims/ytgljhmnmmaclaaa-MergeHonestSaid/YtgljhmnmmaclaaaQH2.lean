/-
  MergeHonest: the walk of the law.
-/
import Derived.Test.YtgljhmnmmaclaaaQGo
import Derived.Test.YtgljhmnmmaclaaaQH1
import Derived.Test.YtgljhmnmmaclaaaQV15
import Derived.Test.YtgljhmnmmaclaaaQM25
set_option linter.unusedSimpArgs false
set_option linter.unusedVariables false
namespace Go.Proofs.Ytgljhmnmmaclaaa
open Go.Ab
def gb9 (l : List Nat) (i : Nat) : Nat := l.getD i 0
def byE9 (l : List Nat) (i _j : Nat) : AV := .imm (.int .u8 ((gb9 l i : Nat) : Int))
@[go_sem] theorem byE9_eq (l : List Nat) (i j : Nat) : byE9 l i j = .imm (.int .u8 ((gb9 l i : Nat) : Int)) := rfl
@[simp] theorem byE9_free (l : List Nat) (i j : Nat) : Free (byE9 l i j) := trivial
@[go_sem, reducible] def byV (l : List Nat) : AV := .view l.length 1 (byE9 l)
def honL (n : Nat) (vs : List Q.Vot) (cs : List Q.Sta) (bs : List Nat) (d : Nat) : List Jn := (List.range d).map fun i => honJ n vs i (Q.gS cs (gb9 bs i % cs.length))
def vtK (vs : List Q.Vot) (b : Int) (k q : Nat) : Bool := vtM (vs.take q) b k
def vtL (vs : List Q.Vot) (b : Int) (k q : Nat) : List Int := mkR (vtM vs b) k ++ (if vtK vs b k q = true then [(k : Int)] else [])
theorem vtL_0 (vs : List Q.Vot) (b : Int) (k : Nat) : vtL vs b k 0 = mkR (vtM vs b) k := by
  unfold vtL vtK vtM
  simp
theorem vtL_end (vs : List Q.Vot) (b : Int) (k : Nat) : vtL vs b k vs.length = mkR (vtM vs b) (k + 1) := by
  unfold vtL vtK
  rw [List.take_length, mkR_succ]
  split <;> simp
theorem gV_at {vs : List Q.Vot} {q : Nat} (h : q < vs.length) : Q.gV vs q = vs[q] := by unfold Q.gV;rw [List.getD_eq_getElem?_getD,List.getElem?_eq_getElem h];rfl
theorem vtK_succ {vs : List Q.Vot} {b : Int} {k q : Nat} (h : q < vs.length) : vtK vs b k (q + 1) = (vtK vs b k q || (decide ((Q.gV vs q).d = (k : Int)) && decide ((Q.gV vs q).b = b))) := by
  unfold vtK vtM
  rw [List.take_succ_eq_append_getElem h, List.any_append, gV_at h]
  simp
theorem has_vtL (vs : List Q.Vot) (b : Int) (k q : Nat) : hasB (vtL vs b k q) k = vtK vs b k q := by
  unfold hasB vtL
  rw [List.any_append]
  have h1 : (mkR (vtM vs b) k).any (fun y => decide (y = (k : Int))) = false := by
    rw [List.any_eq_false]
    intro x hx
    unfold mkR at hx
    simp only [List.mem_map, List.mem_filter, List.mem_range] at hx
    obtain ⟨j, ⟨j1, _⟩, j2⟩ := hx
    simp
    intro e
    rw [← j2] at e
    have : (j : Int) = (k : Int) := e
    omega
  rw [h1]
  cases vtK vs b k q <;> simp
theorem vtL_len (vs : List Q.Vot) (b : Int) (k q : Nat) : (vtL vs b k q).length ≤ k + 1 := by
  unfold vtL mkR
  rw [List.length_append, List.length_map]
  have := List.length_filter_le (vtM vs b) (List.range k)
  rw [List.length_range] at this
  split <;> simp <;> omega
@[go_sem,reducible] def enHd (N M i nc : Nat) (bs : List Nat) : List AV := [.imm (.int .i64 N),.top,byV bs,.top,.top,.top,.top,.imm (.bool true),.optr 0 0 0,.top,.own 2 0 nc none,.own 3 0 i none] ++ List.replicate 49 .top ++ [.imm (.int .i64 M),.imm (.int .i64 i)] ++ List.replicate 117 .top
@[go_sem,reducible] def enHk (N M i nc k : Nat) (bs : List Nat) : List AV := [.imm (.int .i64 N),.top,byV bs,.top,.top,.top,.top,.imm (.bool true),.optr 0 0 0,.top,.own 2 0 nc none,.own 3 0 i none,.imm (.int .i64 i),.optr 4 0 0,.optr 5 0 0] ++ List.replicate 46 .top ++ [.imm (.int .i64 M),.imm (.int .i64 i)] ++ List.replicate 18 .top ++ [.imm (.int .i64 N),.imm (.int .i64 k)] ++ List.replicate 97 .top
@[go_sem,reducible] def enHq (N M i nc k nv q : Nat) (bs : List Nat) : List AV := [.imm (.int .i64 N),.top,byV bs,.top,.top,.top,.top,.imm (.bool true),.optr 0 0 0,.top,.own 2 0 nc none,.own 3 0 i none,.imm (.int .i64 i),.optr 4 0 0,.optr 5 0 0,.imm (.int .i64 k)] ++ List.replicate 45 .top ++ [.imm (.int .i64 M),.imm (.int .i64 i)] ++ List.replicate 18 .top ++ [.imm (.int .i64 N),.imm (.int .i64 k)] ++ List.replicate 3 .top ++ [.own 1 0 nv none,.imm (.int .i64 nv),.imm (.int .i64 q)] ++ List.replicate 91 .top
@[go_sem,reducible] def fxD (vs : List Q.Vot) (cs : List Q.Sta) (js : List Jn) : List AObj := [.box 30 [.top,.top,.top,.own 1 0 vs.length none],.arr 45 6 vs.length (Q.votE vs),Q.stasO cs,.arr 49 2 js.length (jnE js)]
@[go_sem,reducible] def fxK (vs : List Q.Vot) (cs : List Q.Sta) (js : List Jn) (c : Q.Sta) (l : List Int) : List AObj := [.box 30 [.top,.top,.top,.own 1 0 vs.length none],.arr 45 6 vs.length (Q.votE vs),Q.stasO cs,.arr 49 2 js.length (jnE js),
  .box 40 (Q.staL c),.box 43 [.imm (.int .i64 c.x.s),.imm (.int .i64 c.x.c),.imm (.int .i64 c.x.n),.imm (.int .i64 c.x.d),.imm (.int .i64 c.b),.own 6 0 l.length none],.arr 3 1 l.length (inE l)]
theorem cv_hon {σ : List AObj} {x : En} {E : Nat → Nat → AV} {a b : Nat} {cp : Option Nat} (ha : nthO σ a = .arr 43 6 1 E) (h0 : E 0 0 = .imm (.int .i64 x.s)) (h1 : E 0 1 = .imm (.int .i64 x.c)) (h2 : E 0 2 = .imm (.int .i64 x.n)) (h3 : E 0 3 = .imm (.int .i64 x.d)) (h4 : E 0 4 = .imm (.int .i64 x.b))
    (h5 : E 0 5 = .own b 0 x.v.length none) (hb : nthO σ b = .arr 3 1 x.v.length (inE x.v)) : Cv σ (.own a 0 1 cp) (.view 1 6 (enE [x])) := by
  refine Cv.view (f := fun i j => E (0 + i) j) (c := 0 + 1 ≤ 1) ?_ (by omega) (by decide) fun i j hi hj => ?_
  · unfold src; simp only [ha]
  · obtain rfl : i = 0 := by omega
    show Cv σ (E 0 j) _
    rcases j with _ | _ | _ | _ | _ | _ | j
    · rw [h0]; exact Cv.imm rfl
    · rw [h1]; exact Cv.imm rfl
    · rw [h2]; exact Cv.imm rfl
    · rw [h3]; exact Cv.imm rfl
    · rw [h4]; exact Cv.imm rfl
    · rw [h5]; exact Cv.own hb (by decide) (fun _ _ _ _ => rfl) (fun _ _ => inE_free _ _ _)
    · omega
theorem wk_hon {π : List Nat} {σ : List AObj} {js : List Jn} {d : Int} {x : En} {E : Nat → Nat → AV} {a b : Nat} {cp : Option Nat} (ha : nthO σ a = .arr 43 6 1 E) (h0 : E 0 0 = .imm (.int .i64 x.s)) (h1 : E 0 1 = .imm (.int .i64 x.c)) (h2 : E 0 2 = .imm (.int .i64 x.n)) (h3 : E 0 3 = .imm (.int .i64 x.d)) (h4 : E 0 4 = .imm (.int .i64 x.b))
    (h5 : E 0 5 = .own b 0 x.v.length none) (hb : nthO σ b = .arr 3 1 x.v.length (inE x.v)) (hoa : ∀ q ∈ π,q ≠ a ∧ (nthO σ q).alive = true) (hob : ∀ q ∈ π,q ≠ b ∧ (nthO σ q).alive = true) {B : Nat → Nat → AV} (hB0 : B 0 0 = .imm (.int .i64 d)) (hB1 : B 0 1 = .own a 0 1 cp)
    {p j : Nat} (hp : p < js.length + 1) (hj : j < 2) : WkV π σ (catE js.length (jnE js) B p j) (jnE (js ++ [⟨d,[x]⟩]) p j) := by
  unfold catE
  by_cases h : p < js.length
  · simp only [if_pos h]
    rw [show jnE (js ++ [⟨d,[x]⟩]) p j = jnE js p j from by unfold jnE gj;rw [List.getD_eq_getElem?_getD,List.getElem?_append_left h,← List.getD_eq_getElem?_getD]]
    exact WkV.free (jnE_free _ _ _)
  · simp only [if_neg h]
    obtain rfl : p = js.length := by omega
    rw [Nat.sub_self]
    rw [show jnE (js ++ [⟨d,[x]⟩]) js.length j = nth (jnL ⟨d,[x]⟩) j from by unfold jnE gj;rw [List.getD_eq_getElem?_getD,List.getElem?_append_right (by omega),Nat.sub_self];rfl]
    match j, hj with
    | 0, _ => rw [hB0]; exact WkV.imm rfl
    | 1, _ =>
      rw [hB1]
      refine WkV.freeze ha (by omega) hoa fun i j hi hj => ?_
      obtain rfl : i = 0 := by omega
      show WkV π σ (E 0 j) _
      rcases j with _ | _ | _ | _ | _ | _ | j
      · rw [h0]; exact WkV.imm rfl
      · rw [h1]; exact WkV.imm rfl
      · rw [h2]; exact WkV.imm rfl
      · rw [h3]; exact WkV.imm rfl
      · rw [h4]; exact WkV.imm rfl
      · rw [h5]
        exact WkV.freeze hb (by omega) hob fun i j hi hj => by rw [Nat.zero_add]; exact WkV.free (inE_free _ _ _)
      · omega
theorem honL_succ (n : Nat) (vs : List Q.Vot) (cs : List Q.Sta) (bs : List Nat) (d : Nat) : honL n vs cs bs (d + 1) = honL n vs cs bs d ++ [honJ n vs d (Q.gS cs (gb9 bs d % cs.length))] := by
  unfold honL
  rw [List.range_succ, List.map_append]
  rfl
theorem honL_len (n : Nat) (vs : List Q.Vot) (cs : List Q.Sta) (bs : List Nat) (d : Nat) : (honL n vs cs bs d).length = d := by
  unfold honL
  rw [List.length_map, List.length_range]
theorem honJ_len {n : Nat} (hn : n ≤ 8) (vs : List Q.Vot) (d : Nat) (c : Q.Sta) (i : Nat) : (ge (honJ n vs d c).e i).v.length ≤ 9223372036854775807 := by
  have h := vtrs_len n vs c.b
  unfold ge honJ
  rcases i with _ | i
  · show (vtrs n vs c.b).length ≤ _
    omega
  · show (en0.v).length ≤ _
    decide
def toT (x : Q.Tk) : Tk := ⟨x.s, x.c, x.n, x.d⟩
theorem honL_ok {n : Nat} {R : Q.Rnd} (hi : Q.Inv n R) (hn : 1 ≤ n ∧ n ≤ 8) {cs : List Q.Sta} (hcs : ∀ c ∈ cs,Q.majB n R.vot c = true) (h0 : cs.length ≠ 0) (bs : List Nat) {d : Nat} (hd : d ≤ n) :
    JsOk (honL n R.vot cs bs d) ∧ jsB n (honL n R.vot cs bs d) = true ∧ OneT (honL n R.vot cs bs d) (toT (Q.gS cs 0).x) := by
  have hm : ∀ j ∈ honL n R.vot cs bs d, ∃ i c, i < d ∧ c ∈ cs ∧ j = honJ n R.vot i c := fun j hj => by
    unfold honL at hj
    obtain ⟨i, i1, i2⟩ := List.mem_map.1 hj
    exact ⟨i, _, List.mem_range.1 i1, Q.gS_mem (Nat.mod_lt _ (by omega)), i2.symm⟩
  have h1 : Q.gS cs 0 ∈ cs := Q.gS_mem (by omega)
  refine ⟨jsOk_of (by rw [honL_len]; omega) fun j hj => ?_, ?_, ⟨fun j hj => ?_⟩⟩
  · obtain ⟨i, c, _, _, rfl⟩ := hm j hj
    refine jnOk_of (by show 1 ≤ _; omega) fun x hx => ?_
    simp only [honJ, List.mem_singleton] at hx
    subst hx
    have := vtrs_len n R.vot c.b
    show (vtrs n R.vot c.b).length ≤ _
    omega
  · unfold jsB
    rw [honL_len]
    simp only [Bool.and_eq_true, decide_eq_true_eq]
    refine ⟨⟨by unfold cntB; simp; omega, by omega⟩, ?_⟩
    unfold allJ
    rw [List.all_eq_true]
    intro j hj
    obtain ⟨i, c, i1, i2, rfl⟩ := hm j hj
    exact honJ_ok hi hn (hcs c i2) (by omega)
  · obtain ⟨i, c, i1, i2, rfl⟩ := hm j hj
    refine ⟨_, rfl, ?_⟩
    have := hi.one (by omega) (hcs c i2) (hcs _ h1)
    unfold toT
    rw [← this]
    rfl
theorem vtL_yes {vs : List Q.Vot} {b : Int} {k q : Nat} (h : q < vs.length) (h1 : (Q.gV vs q).d = (k : Int)) (h2 : (Q.gV vs q).b = b) (h3 : vtK vs b k q = false) : vtL vs b k (q + 1) = vtL vs b k q ++ [(k : Int)] := by
  unfold vtL
  rw [vtK_succ h, h3, decide_eq_true h1, decide_eq_true h2]
  simp
theorem vtL_no {vs : List Q.Vot} {b : Int} {k q : Nat} (h : q < vs.length) (h1 : ¬ ((Q.gV vs q).d = (k : Int) ∧ (Q.gV vs q).b = b ∧ vtK vs b k q = false)) : vtL vs b k (q + 1) = vtL vs b k q := by
  unfold vtL
  have : vtK vs b k (q + 1) = vtK vs b k q := by
    rw [vtK_succ h]
    cases hk : vtK vs b k q with
    | true => rfl
    | false =>
      rw [Bool.false_or]
      by_cases e1 : (Q.gV vs q).d = (k : Int)
      · by_cases e2 : (Q.gV vs q).b = b
        · exact absurd ⟨e1, e2, hk⟩ h1
        · rw [decide_eq_false e2, Bool.and_false]
      · rw [decide_eq_false e1, Bool.false_and]
  rw [this]
theorem int_snoc (l : List Int) (x : Int) {i j : Nat} (h : i < l.length + 1) (hj : j < 1) : catE l.length (fun i _=>AV.imm (.int .i64 (gi l i))) (fun i j=>nth [AV.imm (.int .i64 x)] (i * 1 + j)) i j = inE (l ++ [x]) i j := by
  obtain rfl : j = 0 := by omega
  unfold catE inE gi
  split
  · rename_i h1; simp [List.getElem?_append_left h1]
  · obtain rfl : i = l.length := by omega
    simp
    rfl
set_option maxRecDepth 100000 in
set_option maxHeartbeats 8000000 in
theorem honest_law (n : Int) (ms : List Q.Mov) (hl : ms.length ≤ 9223372036854775807) (bs : List Nat) (hb0 : bs.length ≤ 9223372036854775807) (hb1 : ∀ i,gb9 bs i < 256) : Look Try.prog 3 [.imm (.int .i64 n),Q.movs ms,byV bs] (.imm (.bool true)) := by
  refine Look.mk trivial ?_
  have c0 := head_tc
  rcases Q.run_cases n ms with hr | ⟨R, hR, hr, hn, h200, hall⟩
  · have m1 := Q.run_bad hl hr
    (refine TC_of_T Γ_ok Try.func3 rfl (by kernel_rfl) ?_;simp only [Try.ntmps3,Try.results3,List.length_cons,List.length_nil,Nat.reduceSub,Nat.reduceAdd,List.replicate,List.cons_append,List.nil_append])
    (have cl1 := c0;have cm1 := m1;((refine goR0 _ _ _ _ _ _ _ _ ?_ ?_ ?_ ?_ ?_ ?_ ?_ ?_) <;> (repeat intro hb) <;> first | exact True.intro | refine Lf.mk ?_))
  · have m1 := Q.run_ok hl hr
    have hi : Q.Inv n R := by rw [hR]; exact Q.Inv.run hall
    obtain ⟨N, rfl⟩ := Int.eq_ofNat_of_zero_le (show 0 ≤ n by omega)
    have hvl : R.vot.length ≤ 200 := by
      have := (Q.foldR_len (N : Int) ms).2.2
      rw [← hR] at this
      omega
    have m2 := Q.chosen_ok hi hn (by omega)
    have hcs : ∀ c ∈ Q.outV (N : Int) R.vot, Q.majB (N : Int) R.vot c = true := fun c hc => (Q.outV_mem (by omega)).1 hc
    have hcl := Q.outV_len (N : Int) R.vot
    by_cases h0 : (Q.outV (N : Int) R.vot).length = 0
    · generalize Q.outV (N : Int) R.vot = cs at *
      (refine TC_of_T Γ_ok Try.func3 rfl (by kernel_rfl) ?_;simp only [Try.ntmps3,Try.results3,List.length_cons,List.length_nil,Nat.reduceSub,Nat.reduceAdd,List.replicate,List.cons_append,List.nil_append])
      (have cl1 := c0;have cm1 := m1;have cm2 := m2;((refine goR0 _ _ _ _ _ _ _ _ ?_ ?_ ?_ ?_ ?_ ?_ ?_ ?_) <;> (repeat intro hb) <;> first | exact True.intro | refine Lf.mk ?_))
    · generalize Q.outV (N : Int) R.vot = cs at *
      obtain ⟨M, hM⟩ : ∃ M, M = min N bs.length := ⟨_, rfl⟩
      have hMN : M ≤ N := by rw [hM]; exact Nat.min_le_left _ _
      have hMb : M ≤ bs.length := by rw [hM]; exact Nat.min_le_right _ _
      (refine TC_of_T Γ_ok Try.func3 rfl (by kernel_rfl) ?_;simp only [Try.ntmps3,Try.results3,List.length_cons,List.length_nil,Nat.reduceSub,Nat.reduceAdd,List.replicate,List.cons_append,List.nil_append])
      (have cl1 := c0;have cm1 := m1;have cm2 := m2;((refine goR0 _ _ _ _ _ _ _ _ ?_ ?_ ?_ ?_ ?_ ?_ ?_ ?_) <;> (repeat intro hb) <;> first | exact True.intro | refine Lf.mk ?_))
      clear c0 m1 m2
      refine T_loopW (fun w st => ∃ i : Nat,i ≤ M ∧ w + i = M ∧ st = ⟨enHd N M i cs.length bs,fxD R.vot cs (honL N R.vot cs bs i)⟩)
        M ⟨_, Wk.trans (Wk.push 49 2 (jnE [])) ?_, 0, by omega, rfl, rfl⟩ ?_
      · ((try simp only [List.length_append,List.length_cons,List.length_nil,Nat.zero_add]);refine Wk.intro [4,3,5,6] (by decide) (by decide) (by intro o ho;simp at ho ⊢ <;> omega) ?_ ?_ <;> repeat' (first|(refine WkV.imm ?_;congr 1;omega)|exact WkVL.nil|refine WkVL.cons ?_ ?_|exact WkV.top|exact WkV.imm rfl|exact WkV.imm (by simp)|exact WkV.optr rfl|exact WkV.own rfl (by simp)|exact WkV.nil_own (.inl rfl)|exact WkV.map rfl|(refine WkV.free ?_;simp [Free,FreeL] <;> assumption)|(refine WkV.free (fun _ _=>FreeL_nth ?_ _);simp [Free,FreeL];done)|refine WkV.agg ?_|refine WkV.tup ?_|refine WkV.fn ?_ ?_|exact WkO.dead|exact WkO.raw|refine WkO.ghost ?_|exact WkO.mpE rfl trivial|refine WkO.box ?_ rfl|refine WkO.arr ?_|refine And.intro ?_ (And.intro (by first|exact fun h=>h|exact fun _=>rfl|exact nofun) ?_)|exact trivial|(intro i j hi hj)))
      rintro w st ⟨i, k0, k1, rfl⟩
      have hjl := honL_len N R.vot cs bs i
      by_cases hiM : i < M
      · have e4 : ((gb9 bs i : Nat) : Int).tmod (cs.length : Int) = ((gb9 bs i % cs.length : Nat) : Int) := rfl
        have hp := Nat.mod_lt (gb9 bs i) (show 0 < cs.length by omega)
        have h256 := hb1 i
        have hsuc := honL_succ N R.vot cs bs i
        generalize gb9 bs i % cs.length = p at *
        have hce := hcs _ (Q.gS_mem hp)
        generalize honL N R.vot cs bs i = js at *
        subst hjl
        (simp only [go_sem,↓reduceIte,Nat.reduceAdd,Nat.reduceSub,Nat.reduceMul,Nat.reduceLT,Nat.reduceLeDiff,Nat.reduceEqDiff,Nat.reduceGT,Int.reduceToNat,Int.reduceBEq,Int.reduceBNe];try simp (disch := omega) only [wrapI,wrapU,half_sum,toNat_sub1,toNat_add1,Int.toNat_natCast])
        (have sx1 := e4;have sx2 : (0 : Nat) + 0 = 0 := rfl;((have sx3 : (0 : Nat) + 0 = 0 := rfl;have sx4 : (0 : Nat) + 0 = 0 := rfl;have sx5 : (0 : Nat) + 0 = 0 := rfl;have sx6 : (0 : Nat) + 0 = 0 := rfl;have sx7 : (0 : Nat) + 0 = 0 := rfl;have sx8 : (0 : Nat) + 0 = 0 := rfl;have sx9 : (0 : Nat) + 0 = 0 := rfl;refine goR9 _ _ _ _ _ _ _ _ ?_ ?_ ?_ ?_ ?_ ?_ ?_ ?_) <;> (repeat intro hb) <;> first|exact True.intro|refine Lf.mk ?_))
        clear e4
        generalize hcd : Q.gS cs p = c at *
        refine T_loopW (fun w st => ∃ k : Nat,k ≤ N ∧ w + k = N ∧ st = ⟨enHk N M js.length cs.length k bs,fxK R.vot cs js c (mkR (vtM R.vot c.b) k)⟩)
          N ⟨_, Wk.trans (Wk.push 3 1 (inE [])) ?_, 0, by omega, rfl, rfl⟩ ?_
        · rw [← hcd]
          ((try simp only [List.length_append,List.length_cons,List.length_nil,Nat.zero_add]);refine Wk.intro [0,1,2,3,4,5,6] (by decide) (by decide) (by intro o ho;simp at ho ⊢ <;> omega) ?_ ?_ <;> repeat' (first|exact WkVL.nil|refine WkVL.cons ?_ ?_|exact WkV.top|exact WkV.imm rfl|exact WkV.imm (by simp)|exact WkV.optr rfl|exact WkV.own rfl (by simp)|exact WkV.nil_own (.inl rfl)|exact WkV.map rfl|(refine WkV.free ?_;simp [Free,FreeL] <;> assumption)|(refine WkV.free (fun _ _=>FreeL_nth ?_ _);simp [Free,FreeL];done)|refine WkV.agg ?_|refine WkV.tup ?_|refine WkV.fn ?_ ?_|exact WkO.dead|exact WkO.raw|refine WkO.ghost ?_|exact WkO.mpE rfl trivial|refine WkO.box ?_ rfl|refine WkO.arr ?_|refine And.intro ?_ (And.intro (by first|exact fun h=>h|exact fun _=>rfl|exact nofun) ?_)|exact trivial|(intro i j hi hj)))
        rintro w2 st ⟨k, r0, r1, rfl⟩
        by_cases hk9 : k < N
        · (simp only [go_sem,↓reduceIte,Nat.reduceAdd,Nat.reduceSub,Nat.reduceMul,Nat.reduceLT,Nat.reduceLeDiff,Nat.reduceEqDiff,Nat.reduceGT,Int.reduceToNat,Int.reduceBEq,Int.reduceBNe];try simp (disch := omega) only [wrapI,wrapU,half_sum,toNat_sub1,toNat_add1,Int.toNat_natCast])
          (((refine goR0 _ _ _ _ _ _ _ _ ?_ ?_ ?_ ?_ ?_ ?_ ?_ ?_) <;> (repeat intro hb) <;> first | exact True.intro | refine Lf.mk ?_))
          refine T_loopW (fun w st => ∃ q : Nat,q ≤ R.vot.length ∧ w + q = R.vot.length ∧ st = ⟨enHq N M js.length cs.length k R.vot.length q bs,fxK R.vot cs js c (vtL R.vot c.b k q)⟩)
            R.vot.length ⟨_, ?_, 0, by omega, by omega, rfl⟩ ?_
          · rw [vtL_0]
            ((try simp only [List.length_append,List.length_cons,List.length_nil,Nat.zero_add]);refine Wk.intro [0,1,2,3,4,5,6] (by decide) (by decide) (by intro o ho;simp at ho ⊢ <;> omega) ?_ ?_ <;> repeat' (first|exact WkVL.nil|refine WkVL.cons ?_ ?_|exact WkV.top|exact WkV.imm rfl|exact WkV.imm (by simp)|exact WkV.optr rfl|exact WkV.own rfl (by simp)|exact WkV.nil_own (.inl rfl)|exact WkV.map rfl|(refine WkV.free ?_;simp [Free,FreeL] <;> assumption)|(refine WkV.free (fun _ _=>FreeL_nth ?_ _);simp [Free,FreeL];done)|refine WkV.agg ?_|refine WkV.tup ?_|refine WkV.fn ?_ ?_|exact WkO.dead|exact WkO.raw|refine WkO.ghost ?_|exact WkO.mpE rfl trivial|refine WkO.box ?_ rfl|refine WkO.arr ?_|refine And.intro ?_ (And.intro (by first|exact fun h=>h|exact fun _=>rfl|exact nofun) ?_)|exact trivial|(intro i j hi hj)))
          rintro w3 st ⟨q, s0, s1, rfl⟩
          have hvl2 := vtL_len R.vot c.b k q
          by_cases hq9 : q < R.vot.length
          · have hyes := vtL_yes (b := c.b) (k := k) hq9
            have hno := vtL_no (b := c.b) (k := k) hq9
            have c5 := rhas_tc (vtL R.vot c.b k q) k (by omega)
            rw [has_vtL] at c5
            generalize vtL R.vot c.b k q = L at *
            generalize vtK R.vot c.b k q = h at *
            (simp only [go_sem,↓reduceIte,Nat.reduceAdd,Nat.reduceSub,Nat.reduceMul,Nat.reduceLT,Nat.reduceLeDiff,Nat.reduceEqDiff,Nat.reduceGT,Int.reduceToNat,Int.reduceBEq,Int.reduceBNe];try simp (disch := omega) only [wrapI,wrapU,half_sum,toNat_sub1,toNat_add1,Int.toNat_natCast])
            (have dl1 := c5;((refine goR0 _ _ _ _ _ _ _ _ ?_ ?_ ?_ ?_ ?_ ?_ ?_ ?_) <;> (repeat intro hb) <;> first | exact True.intro | refine Lf.mk ?_))
            · have hsn := fun a b => int_snoc L (k : Int) (i := a) (j := b)
              refine ⟨R.vot.length - (q + 1),by omega,⟨enHq N M js.length cs.length k R.vot.length (q + 1) bs,fxK R.vot cs js c (L ++ [(k : Int)])⟩,?_,q + 1,by omega,by omega,by rw [hyes hb.1.1 hb.1.2 hb.2];rfl⟩
              simp only [fxK, List.length_append, List.length_cons, List.length_nil, Nat.zero_add]
              ((try simp only [List.length_append,List.length_cons,List.length_nil,Nat.zero_add]);refine Wk.intro [0,1,2,3,4,5,9] (by decide) (by decide) (by intro o ho;simp at ho ⊢ <;> omega) ?_ ?_ <;> repeat' (first|(exact WkV.eqF (hsn _ _ hi hj) (inE_free _ _ _))|(refine WkV.imm ?_;congr 1;omega)|exact WkVL.nil|refine WkVL.cons ?_ ?_|exact WkV.top|exact WkV.imm rfl|exact WkV.imm (by simp)|exact WkV.optr rfl|exact WkV.own rfl (by simp)|exact WkV.nil_own (.inl rfl)|exact WkV.map rfl|(refine WkV.free ?_;simp [Free,FreeL] <;> assumption)|(refine WkV.free (fun _ _=>FreeL_nth ?_ _);simp [Free,FreeL];done)|refine WkV.agg ?_|refine WkV.tup ?_|refine WkV.fn ?_ ?_|exact WkO.dead|exact WkO.raw|refine WkO.ghost ?_|exact WkO.mpE rfl trivial|refine WkO.box ?_ rfl|refine WkO.arr ?_|refine And.intro ?_ (And.intro (by first|exact fun h=>h|exact fun _=>rfl|exact nofun) ?_)|exact trivial|(intro i j hi hj)))
            · refine ⟨R.vot.length - (q + 1),by omega,⟨enHq N M js.length cs.length k R.vot.length (q + 1) bs,fxK R.vot cs js c L⟩,?_,q + 1,by omega,by omega,by rw [hno (fun e=>by rw [hb ⟨e.1,e.2.1⟩] at e;cases e.2.2)];rfl⟩
              ((try simp only [List.length_append,List.length_cons,List.length_nil,Nat.zero_add]);refine Wk.intro [0,1,2,3,4,5,6] (by decide) (by decide) (by intro o ho;simp at ho ⊢ <;> omega) ?_ ?_ <;> repeat' (first|(refine WkV.imm ?_;congr 1;omega)|exact WkVL.nil|refine WkVL.cons ?_ ?_|exact WkV.top|exact WkV.imm rfl|exact WkV.imm (by simp)|exact WkV.optr rfl|exact WkV.own rfl (by simp)|exact WkV.nil_own (.inl rfl)|exact WkV.map rfl|(refine WkV.free ?_;simp [Free,FreeL] <;> assumption)|(refine WkV.free (fun _ _=>FreeL_nth ?_ _);simp [Free,FreeL];done)|refine WkV.agg ?_|refine WkV.tup ?_|refine WkV.fn ?_ ?_|exact WkO.dead|exact WkO.raw|refine WkO.ghost ?_|exact WkO.mpE rfl trivial|refine WkO.box ?_ rfl|refine WkO.arr ?_|refine And.intro ?_ (And.intro (by first|exact fun h=>h|exact fun _=>rfl|exact nofun) ?_)|exact trivial|(intro i j hi hj)))
          · obtain rfl : q = R.vot.length := by omega
            rw [vtL_end]
            (simp only [go_sem,↓reduceIte,Nat.reduceAdd,Nat.reduceSub,Nat.reduceMul,Nat.reduceLT,Nat.reduceLeDiff,Nat.reduceEqDiff,Nat.reduceGT,Int.reduceToNat,Int.reduceBEq,Int.reduceBNe];try simp (disch := omega) only [wrapI,wrapU,half_sum,toNat_sub1,toNat_add1,Int.toNat_natCast])
            (((refine goR0 _ _ _ _ _ _ _ _ ?_ ?_ ?_ ?_ ?_ ?_ ?_ ?_) <;> (repeat intro hb) <;> first | exact True.intro | refine Lf.mk ?_))
            refine ⟨N - (k + 1), by omega, _, ?_, k + 1, by omega, by omega, rfl⟩
            ((try simp only [List.length_append,List.length_cons,List.length_nil,Nat.zero_add]);refine Wk.intro [0,1,2,3,4,5,6] (by decide) (by decide) (by intro o ho;simp at ho ⊢ <;> omega) ?_ ?_ <;> repeat' (first|(refine WkV.imm ?_;congr 1;omega)|exact WkVL.nil|refine WkVL.cons ?_ ?_|exact WkV.top|exact WkV.imm rfl|exact WkV.imm (by simp)|exact WkV.optr rfl|exact WkV.own rfl (by simp)|exact WkV.nil_own (.inl rfl)|exact WkV.map rfl|(refine WkV.free ?_;simp [Free,FreeL] <;> assumption)|(refine WkV.free (fun _ _=>FreeL_nth ?_ _);simp [Free,FreeL];done)|refine WkV.agg ?_|refine WkV.tup ?_|refine WkV.fn ?_ ?_|exact WkO.dead|exact WkO.raw|refine WkO.ghost ?_|exact WkO.mpE rfl trivial|refine WkO.box ?_ rfl|refine WkO.arr ?_|refine And.intro ?_ (And.intro (by first|exact fun h=>h|exact fun _=>rfl|exact nofun) ?_)|exact trivial|(intro i j hi hj)))
        · obtain rfl : k = N := by omega
          have c7 := valid_tc (k : Int) (honJ k R.vot js.length c) (by show 1 ≤ _;omega) (honJ_len (by omega) R.vot js.length c)
          rw [honJ_ok hi (by omega) hce (by omega)] at c7
          rw [show mkR (vtM R.vot c.b) k = (honE k R.vot c).v from rfl]
          have hcat : ∀ (E B : Nat → Nat → AV) (j : Nat), catE js.length E B js.length j = B 0 j := fun E B j => by
            unfold catE
            rw [if_neg (by omega), Nat.sub_self]
          (simp only [go_sem,↓reduceIte,Nat.reduceAdd,Nat.reduceSub,Nat.reduceMul,Nat.reduceLT,Nat.reduceLeDiff,Nat.reduceEqDiff,Nat.reduceGT,Int.reduceToNat,Int.reduceBEq,Int.reduceBNe];try simp (disch := omega) only [wrapI,wrapU,half_sum,toNat_sub1,toNat_add1,Int.toNat_natCast])
          repeat' (first
    | (with_reducible refine hK _ ?_; clear hK K)
    | ((with_reducible refine callGoal_lookA c7 trivial (CvL.cons (Cv.imm rfl) (CvL.cons (Cv.agg (CvL.cons (Cv.imm rfl) (CvL.cons (cv_hon (x := honE k R.vot c) rfl rfl rfl rfl rfl rfl rfl rfl) CvL.nil))) CvL.nil)) ?_))
    | ((with_reducible apply DC_call);(focus exact rfl);(focus exact rfl);(focus exact rfl);intro N hN;(simp only [go_sem,hcat,↓reduceIte,Nat.reduceAdd,Nat.reduceSub,Nat.reduceMul,Nat.reduceLT,Nat.reduceLeDiff,Nat.reduceEqDiff,Nat.reduceGT,Int.reduceToNat,Int.reduceBEq,Int.reduceBNe];try simp (disch := omega) only [wrapI,wrapU,half_sum,toNat_sub1,toNat_add1,Int.toNat_natCast]))
    | ((with_reducible first|refine T_seq_region Γ_ok (fun K hK=>?_)|refine T_last_region Γ_ok (fun K hK=>?_)|refine TO_callN rfl (fun N hN=>?_)|refine DCT_fork Γ_ok (fun K2 hK2=>?_)|refine DCT_last Γ_ok ?_|refine DC_ev Γ_ok ?_|refine TO_ev Γ_ok ?_|refine retQ_r ?_|refine retQ_n ?_);(simp only [go_sem,hcat,↓reduceIte,Nat.reduceAdd,Nat.reduceSub,Nat.reduceMul,Nat.reduceLT,Nat.reduceLeDiff,Nat.reduceEqDiff,Nat.reduceGT,Int.reduceToNat,Int.reduceBEq,Int.reduceBNe];try simp (disch := omega) only [wrapI,wrapU,half_sum,toNat_sub1,toNat_add1,Int.toNat_natCast]))
    | (with_reducible refine hK2 _ ?_ ?_ <;> clear hK2 K2)
    | with_reducible refine gC_false ?_ | with_reducible refine gC_true ?_ | with_reducible refine dCall_true ?_
    | (with_reducible refine hN _ _ ?_; clear hN N)
    | (with_reducible refine hN _ _ (dInl rfl) ?_; clear hN N)
    | ((with_reducible refine hN _ _ (.inr ?_) ?_);(focus (simp only [go_sem,hcat,↓reduceIte,Nat.reduceAdd,Nat.reduceSub,Nat.reduceMul,Nat.reduceLT,Nat.reduceLeDiff,Nat.reduceEqDiff,Nat.reduceGT,Int.reduceToNat,Int.reduceBEq,Int.reduceBNe];try simp (disch := omega) only [wrapI,wrapU,half_sum,toNat_sub1,toNat_add1,Int.toNat_natCast]));all_goals (try clear hN N))
    | with_reducible refine T_seq ?_|with_reducible refine T_block ?_|with_reducible refine T_ret ?_|with_reducible refine T_exit ?_|with_reducible refine T_skip ?_|with_reducible refine T_label ?_
    | with_reducible refine thenQ_n ?_|with_reducible refine thenQ_e ?_|with_reducible refine thenQ_r ?_|with_reducible refine blockQ_n ?_|with_reducible refine blockQ_e ?_|with_reducible refine blockQ_r ?_
    | with_reducible refine blockQ_o (by decide) ?_
    | ((with_reducible refine T_cond _ rfl (fun hb=>?_) (fun hb=>?_)) <;> first|(cases hb;done)|(simp only [decide_eq_true_eq,decide_eq_false_iff_not,Bool.and_eq_true,Bool.or_eq_true,Bool.and_eq_false_imp,Bool.or_eq_false_iff,Bool.not_eq_true',Bool.not_eq_false',beq_iff_eq,bne_iff_ne,ne_eq,beq_eq_false_iff_ne,bne_eq_false_iff_eq,Int.not_lt,Int.not_le,ge_iff_le,gt_iff_lt] at hb)|skip)
    | (with_reducible refine And.intro (by first | exact trivial | omega | (intro hg;simp at hg ⊢ <;> omega) | (simp <;> omega)) ?_)
    | assumption | omega)
          refine ⟨M - (js.length + 1),by omega,⟨enHd k M (js.length + 1) cs.length bs,fxD R.vot cs (js ++ [honJ k R.vot js.length c])⟩,?_,js.length + 1,by omega,by omega,by rw [hsuc];rfl⟩
          simp only [fxD, List.length_append, List.length_cons, List.length_nil, Nat.zero_add]
          ((try simp only [List.length_append,List.length_cons,List.length_nil,Nat.zero_add]);refine Wk.intro [0,1,2,9] (by decide) (by decide) (by intro o ho;simp at ho ⊢ <;> omega) ?_ ?_ <;> repeat' (first|(exact wk_hon (a := 7) (b := 6) (x := honE k R.vot c) rfl rfl rfl rfl rfl rfl rfl rfl (by intro q9 h9;simp at h9;rcases h9 with rfl|rfl|rfl|rfl <;> exact ⟨by decide,rfl⟩) (by intro q9 h9;simp at h9;rcases h9 with rfl|rfl|rfl|rfl <;> exact ⟨by decide,rfl⟩) rfl rfl (by assumption) (by assumption))|(refine WkV.imm ?_;congr 1;omega)|exact WkVL.nil|refine WkVL.cons ?_ ?_|exact WkV.top|exact WkV.imm rfl|exact WkV.imm (by simp)|exact WkV.optr rfl|exact WkV.own rfl (by simp)|exact WkV.nil_own (.inl rfl)|exact WkV.map rfl|(refine WkV.free ?_;simp [Free,FreeL] <;> assumption)|(refine WkV.free (fun _ _=>FreeL_nth ?_ _);simp [Free,FreeL];done)|refine WkV.agg ?_|refine WkV.tup ?_|refine WkV.fn ?_ ?_|exact WkO.dead|exact WkO.raw|refine WkO.ghost ?_|exact WkO.mpE rfl trivial|refine WkO.box ?_ rfl|refine WkO.arr ?_|refine And.intro ?_ (And.intro (by first|exact fun h=>h|exact fun _=>rfl|exact nofun) ?_)|exact trivial|(intro i j hi hj)))
      · obtain rfl : i = M := by omega
        obtain ⟨j1, j2, j3⟩ := honL_ok hi (by omega) hcs h0 bs (d := i) (by omega)
        have ht : 1 ≤ (toT (Q.gS cs 0).x).s ∧ (toT (Q.gS cs 0).x).s ≤ 15 := by
          have hc0 : Q.gS cs 0 ∈ cs := Q.gS_mem (by omega)
          have h9 := take_ok (hi.stas _ (hi.cpos (by omega) (hcs _ hc0))).2.1
          unfold takeB at h9
          show 1 ≤ (Q.gS cs 0).x.s ∧ (Q.gS cs 0).x.s ≤ 15
          split at h9
          · cases h9
          · omega
        have m3 := merge_tc (N : Int) _ j1
        have m4 := liars_tc (N : Int) _ j1
        rw [j3.mrg j2 ht] at m3
        rw [j3.lia j2] at m4
        have s1 := sameT_tc [toT (Q.gS cs 0).x] [toT (Q.gS cs 0).x] (by simp) (by simp)
        rw [decide_eq_true rfl] at s1
        generalize honL N R.vot cs bs i = js at *
        subst hjl
        by_cases hje : js = []
        · rw [if_pos hje] at m3
          have hz : js.length = 0 := by rw [hje]; rfl
          (simp only [go_sem,↓reduceIte,Nat.reduceAdd,Nat.reduceSub,Nat.reduceMul,Nat.reduceLT,Nat.reduceLeDiff,Nat.reduceEqDiff,Nat.reduceGT,Int.reduceToNat,Int.reduceBEq,Int.reduceBNe];try simp (disch := omega) only [wrapI,wrapU,half_sum,toNat_sub1,toNat_add1,Int.toNat_natCast])
          (have cm1 := m3;have cm2 := m4;((refine goR0 _ _ _ _ _ _ _ _ ?_ ?_ ?_ ?_ ?_ ?_ ?_ ?_) <;> (repeat intro hb) <;> first | exact True.intro | refine Lf.mk ?_))
        · rw [if_neg hje] at m3
          have hz : js.length ≠ 0 := fun q => hje (List.length_eq_zero_iff.1 q)
          (simp only [go_sem,↓reduceIte,Nat.reduceAdd,Nat.reduceSub,Nat.reduceMul,Nat.reduceLT,Nat.reduceLeDiff,Nat.reduceEqDiff,Nat.reduceGT,Int.reduceToNat,Int.reduceBEq,Int.reduceBNe];try simp (disch := omega) only [wrapI,wrapU,half_sum,toNat_sub1,toNat_add1,Int.toNat_natCast])
          (have cm1 := m3;have cm2 := m4;have dl1 := s1;((refine goR0 _ _ _ _ _ _ _ _ ?_ ?_ ?_ ?_ ?_ ?_ ?_ ?_) <;> (repeat intro hb) <;> first | exact True.intro | refine Lf.mk ?_))
end Go.Proofs.Ytgljhmnmmaclaaa
