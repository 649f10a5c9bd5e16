/-
  Parts joined: R9 R10.
-/
import Derived.Test.YtmglcamgpgkblaaQGo
import Derived.Test.YtmglcamgpgkblaaQR8
import Derived.Test.YtmglcamgpgkblaaQB12
set_option linter.unusedSimpArgs false
set_option linter.unusedVariables false
namespace Go.Proofs.Ytmglcamgpgkblaa
open Go.Ab
def twE (s : Sc) (g i _j : Nat) : AV := wsV s.notes.length (rets (stepR s) s.notes.length g i)
@[go_sem] theorem twE_us (s : Sc) (g i j : Nat) : twE s g i j = wsV s.notes.length (rets (stepR s) s.notes.length g i) := rfl
@[simp] theorem twE_free (s : Sc) (g i j : Nat) : Free (twE s g i j) := by simp [twE, Free]
theorem gv_mem {R : List P6} {i : Nat} (h : i < R.length) : gv R i ∈ R := by
  unfold gv
  rw [List.getD_eq_getElem?_getD, List.getElem?_eq_getElem h]
  exact List.getElem_mem h
theorem rets_gv {s : Sc} (hE : GOk s.notes.length (stepR s)) {g l n i : Nat} (hl : l ≤ 401) (hi : i < (rets (stepR s) s.notes.length g l n).length) : Bd6 500000 (gv (rets (stepR s) s.notes.length g l n) i) :=
  (rets_bd hE _ (gv_mem hi)).mono (by omega)
@[go_sem,reducible] def enW (s : Sc) (q d a i n : Nat) : List AV := [graphV s,.view (d + 1) 1 (twE s q),.imm (.int .i64 a),.top,.top,.top,.imm (.slice none 0 0),.own 1 0 n none,.optr 0 0 0,.imm (.int .i64 ((i : Int) - 1))] ++ List.replicate 68 .top
@[go_sem,reducible] def enX (s : Sc) (q d a k j n : Nat) : List AV := [graphV s,.view (d + 1) 1 (twE s q),.imm (.int .i64 a),.top,.top,.top,.imm (.slice none 0 0),.own 1 0 n none,.optr 0 0 0,.imm (.int .i64 k),.imm (.int .i64 j)] ++ List.replicate 67 .top
@[go_sem, reducible] def fxW (v : P6) (out : List Sp) : List AObj := [.box 31 (p6L v), spO out]
set_option maxRecDepth 100000 in
set_option maxHeartbeats 4000000 in
theorem rfollow_raw (s : Sc) (hs : ScOk s) (g d : Nat) (hg : g < s.notes.length) (h1 : 1 ≤ d) (hd : d ≤ 400) 
    (hop : opn z6 (rets (stepR s) s.notes.length g d g) = true) : TC Try.prog 59 [graphV s,.view (d + 1) 1 (twE s g),.imm (.int .i64 g)] []
    (fun u σ'=>∃ k E',u = .own k 0 (stps (stepR s) g (follow (stepR s) s.notes.length g d g z6)).length none ∧ nthO σ' k = .arr 41 3 (stps (stepR s) g (follow (stepR s) s.notes.length g d g z6)).length E' ∧
      ∀ i j,i < (stps (stepR s) g (follow (stepR s) s.notes.length g d g z6)).length → j < 3 → E' i j = spE (stps (stepR s) g (follow (stepR s) s.notes.length g d g z6)) i j) := by
  have hsz := hs.sz
  unfold SzOk at hsz
  have hE := stepR_ok hs
  generalize hL : stps (stepR s) g (follow (stepR s) s.notes.length g d g z6) = L
  generalize hQ : (fun (u : AV) (σ' : List AObj) => ∃ k E',u = .own k 0 L.length none ∧ nthO σ' k = .arr 41 3 L.length E' ∧ ∀ i j,i < L.length → j < 3 → E' i j = spE L i j) = Q
  have e0 : ((d + 1 : Nat) : Int) - 2 = (d : Int) - 1 := by omega
  (refine TC_of_T Γ_ok Try.func59 rfl (by kernel_rfl) ?_;simp only [Try.ntmps59,Try.results59,List.length_cons,List.length_nil,Nat.reduceSub,Nat.reduceAdd,List.replicate,List.cons_append,List.nil_append])
  (have sx1 := e0;repeat' (first|with_reducible refine T_seq_drawT (id := 7) Γ_ok drawsAny pl59_7 (by kernel_rfl) (fun K hK=>?_)|with_reducible refine T_last_drawT (id := 7) Γ_ok drawsAny pl59_7 (by kernel_rfl) (fun K hK=>?_)|with_reducible refine T_seq_drawT (id := 10) Γ_ok drawsAny pl59_10 (by kernel_rfl) (fun K hK=>?_)|with_reducible refine T_last_drawT (id := 10) Γ_ok drawsAny pl59_10 (by kernel_rfl) (fun K hK=>?_)|((refine goU1 _ _ _ _ _ _ _ _ _ _ _ _ ?_ ?_ ?_ ?_ ?_ ?_ ?_ ?_ ?_ ?_ ?_ ?_) <;> (repeat intro hb) <;> first|exact True.intro|refine Lf.mk ?_)))
  refine T_loopW (fun m st => ∃ (i a : Nat) (v : P6) (out : List Sp),i ≤ d ∧ m = i ∧ a < s.notes.length ∧ ThrOk s g d i a v out ∧ st = ⟨enW s g d a i out.length,fxW v out⟩)
    d ⟨_, Wk.trans (Wk.push 41 3 (spE [])) ?_, d, g, z6, [], by omega, rfl, hg, ThrOk.start hE hop, rfl⟩ ?_
  · ((try simp only [List.length_append,List.length_cons,List.length_nil,Nat.zero_add]);refine Wk.intro [0,1] (by decide) (by decide) (by intro o ho;simp at ho ⊢ <;> omega) ?_ ?_ <;> repeat' (first|(refine WkV.imm ?_;congr 1;omega)|exact WkVL.nil|refine WkVL.cons ?_ ?_|exact WkV.top|exact WkV.imm rfl|exact WkV.imm (by simp)|exact WkV.optr rfl|exact WkV.own rfl (by simp)|exact WkV.nil_own (.inl rfl)|exact WkV.map rfl|(refine WkV.free ?_;simp [Free,FreeL] <;> assumption)|(refine WkV.free (fun _ _=>FreeL_nth ?_ _);simp [Free,FreeL];done)|refine WkV.agg ?_|refine WkV.tup ?_|refine WkV.fn ?_ ?_|exact WkO.dead|exact WkO.raw|refine WkO.ghost ?_|exact WkO.mpE rfl trivial|refine WkO.box ?_ rfl|refine WkO.arr ?_|refine And.intro ?_ (And.intro (by first|exact fun h=>h|exact fun _=>rfl|exact nofun) ?_)|exact trivial|(intro i j hi hj)))
  rintro m st ⟨i, a, v, out, k0, k1, ha, hok, rfl⟩
  match i, k0, k1, hok with
  | 0, k0, k1, hok =>
    have hout : out = L := by
      have := hok.eq
      rw [follow, stps, List.append_nil] at this
      rw [← hL]; exact this.symm
    have e1 : (((0 : Nat) : Int) - 1) = -1 := rfl
    rw [enW, e1]
    (simp only [go_sem,↓reduceIte,Nat.reduceAdd,Nat.reduceSub,Nat.reduceMul,Nat.reduceLT,Nat.reduceLeDiff,Nat.reduceEqDiff,Nat.reduceGT,Int.reduceToNat,Int.reduceBEq,Int.reduceBNe];try simp (disch := omega) only [wrapI,wrapU,half_sum,toNat_sub1,toNat_add1,Int.toNat_natCast])
    (have sx1 := Nat.add_zero 0;repeat' (first|with_reducible refine T_seq_drawT (id := 7) Γ_ok drawsAny pl59_7 (by kernel_rfl) (fun K hK=>?_)|with_reducible refine T_last_drawT (id := 7) Γ_ok drawsAny pl59_7 (by kernel_rfl) (fun K hK=>?_)|with_reducible refine T_seq_drawT (id := 10) Γ_ok drawsAny pl59_10 (by kernel_rfl) (fun K hK=>?_)|with_reducible refine T_last_drawT (id := 10) Γ_ok drawsAny pl59_10 (by kernel_rfl) (fun K hK=>?_)|((refine goU1 _ _ _ _ _ _ _ _ _ _ _ _ ?_ ?_ ?_ ?_ ?_ ?_ ?_ ?_ ?_ ?_ ?_ ?_) <;> (repeat intro hb) <;> first|exact True.intro|refine Lf.mk ?_)))
    rw [← hQ, ← hout]
    exact ⟨1, _, rfl, rfl, fun _ _ _ _ => rfl⟩
  | k + 1, k0, k1, hok =>
    have e1 : (((k + 1 : Nat) : Int) - 1) = (k : Int) := by omega
    rw [enW, e1]
    (simp only [go_sem,↓reduceIte,Nat.reduceAdd,Nat.reduceSub,Nat.reduceMul,Nat.reduceLT,Nat.reduceLeDiff,Nat.reduceEqDiff,Nat.reduceGT,Int.reduceToNat,Int.reduceBEq,Int.reduceBNe];try simp (disch := omega) only [wrapI,wrapU,half_sum,toNat_sub1,toNat_add1,Int.toNat_natCast])
    (have sx1 := Nat.add_zero 0;repeat' (first|with_reducible refine T_seq_drawT (id := 7) Γ_ok drawsAny pl59_7 (by kernel_rfl) (fun K hK=>?_)|with_reducible refine T_last_drawT (id := 7) Γ_ok drawsAny pl59_7 (by kernel_rfl) (fun K hK=>?_)|with_reducible refine T_seq_drawT (id := 10) Γ_ok drawsAny pl59_10 (by kernel_rfl) (fun K hK=>?_)|with_reducible refine T_last_drawT (id := 10) Γ_ok drawsAny pl59_10 (by kernel_rfl) (fun K hK=>?_)|((refine goU1 _ _ _ _ _ _ _ _ _ _ _ _ ?_ ?_ ?_ ?_ ?_ ?_ ?_ ?_ ?_ ?_ ?_ ?_) <;> (repeat intro hb) <;> first|exact True.intro|refine Lf.mk ?_)))
    have hrl : (rowE s a).length ≤ 600 := by rw [rowE_len hs];have := jL_len (allJ s) a;have := pairsJ_len s.pairs;have := tiesJ_len s s.notes.length;unfold allJ at *;rw [List.length_append] at *;omega
    refine T_loopW (fun m st => ∃ j : Nat,j ≤ (rowE s a).length ∧ m + j = (rowE s a).length ∧ Shut1 s g k a v j ∧ st = ⟨enX s g d a k j out.length,fxW v out⟩)
      (rowE s a).length ⟨_, ?_, 0, by omega, rfl, (fun r hr => by simp at hr), rfl⟩ ?_
    · ((try simp only [List.length_append,List.length_cons,List.length_nil,Nat.zero_add]);refine Wk.intro [0,1] (by decide) (by decide) (by intro o ho;simp at ho ⊢ <;> omega) ?_ ?_ <;> repeat' (first|exact WkVL.nil|refine WkVL.cons ?_ ?_|exact WkV.top|exact WkV.imm rfl|exact WkV.imm (by simp)|exact WkV.optr rfl|exact WkV.own rfl (by simp)|exact WkV.nil_own (.inl rfl)|exact WkV.map rfl|(refine WkV.free ?_;simp [Free,FreeL] <;> assumption)|(refine WkV.free (fun _ _=>FreeL_nth ?_ _);simp [Free,FreeL];done)|refine WkV.agg ?_|refine WkV.tup ?_|refine WkV.fn ?_ ?_|exact WkO.dead|exact WkO.raw|refine WkO.ghost ?_|exact WkO.mpE rfl trivial|refine WkO.box ?_ rfl|refine WkO.arr ?_|refine And.intro ?_ (And.intro (by first|exact fun h=>h|exact fun _=>rfl|exact nofun) ?_)|exact trivial|(intro i j hi hj)))
    rintro m2 st ⟨j, q0, q1, hsh, rfl⟩
    by_cases hj : j < (rowE s a).length
    · obtain ⟨⟨b, kk, u⟩, g1, g2, g3⟩ := row_get hj
      have g1 : gE (rowE s a) j = ⟨a, b, kk, u⟩ := g1
      have hEb : stepR s a b = some (kk,u) := (row_mem.1 (show (b,kk,u) ∈ row (stepR s) s.notes.length a by rw [g2];simp)).2
      have hbN := (hE.rg _ _ _ hEb).2
      have hlen := hok.len
      have hbd := hok.bd
      have c4 := rplus_tc v u (hbd.mono (by omega)) ((hE.bd _ _ _ _ hEb).mono (by omega))
      have hro := rets_ok hE g k b
      have c5 := ropen_tc (v.add u) (rets (stepR s) s.notes.length g k b) ((hbd.add (hE.bd _ _ _ _ hEb)).mono (by omega)) (fun i hi => rets_gv hE (by omega) hi) (by have := hro.le;omega)
      have hsn := fun p q => sp_snoc out ⟨a, b, kk⟩ (i := p) (j := q)
      cases hopb : opn (v.add u) (rets (stepR s) s.notes.length g k b) with
      | false =>
        rw [hopb] at c5
        (simp only [go_sem,↓reduceIte,Nat.reduceAdd,Nat.reduceSub,Nat.reduceMul,Nat.reduceLT,Nat.reduceLeDiff,Nat.reduceEqDiff,Nat.reduceGT,Int.reduceToNat,Int.reduceBEq,Int.reduceBNe];try simp (disch := omega) only [wrapI,wrapU,half_sum,toNat_sub1,toNat_add1,Int.toNat_natCast])
        (have dl1 := c4;have dl2 := c5;have sx1 := g1;repeat' (first|with_reducible refine T_seq_drawT (id := 7) Γ_ok drawsAny pl59_7 (by kernel_rfl) (fun K hK=>?_)|with_reducible refine T_last_drawT (id := 7) Γ_ok drawsAny pl59_7 (by kernel_rfl) (fun K hK=>?_)|with_reducible refine T_seq_drawT (id := 10) Γ_ok drawsAny pl59_10 (by kernel_rfl) (fun K hK=>?_)|with_reducible refine T_last_drawT (id := 10) Γ_ok drawsAny pl59_10 (by kernel_rfl) (fun K hK=>?_)|((refine goU1 _ _ _ _ _ _ _ _ _ _ _ _ ?_ ?_ ?_ ?_ ?_ ?_ ?_ ?_ ?_ ?_ ?_ ?_) <;> (repeat intro hb) <;> first|exact True.intro|refine Lf.mk ?_)))
        refine ⟨(rowE s a).length - (j + 1), by omega, _, ?_, j + 1, by omega, by omega, fun x hx => ?_, rfl⟩
        · ((try simp only [List.length_append,List.length_cons,List.length_nil,Nat.zero_add]);refine Wk.intro [0,1] (by decide) (by decide) (by intro o ho;simp at ho ⊢ <;> omega) ?_ ?_ <;> repeat' (first|(refine WkV.imm ?_;congr 1;omega)|exact WkVL.nil|refine WkVL.cons ?_ ?_|exact WkV.top|exact WkV.imm rfl|exact WkV.imm (by simp)|exact WkV.optr rfl|exact WkV.own rfl (by simp)|exact WkV.nil_own (.inl rfl)|exact WkV.map rfl|(refine WkV.free ?_;simp [Free,FreeL] <;> assumption)|(refine WkV.free (fun _ _=>FreeL_nth ?_ _);simp [Free,FreeL];done)|refine WkV.agg ?_|refine WkV.tup ?_|refine WkV.fn ?_ ?_|exact WkO.dead|exact WkO.raw|refine WkO.ghost ?_|exact WkO.mpE rfl trivial|refine WkO.box ?_ rfl|refine WkO.arr ?_|refine And.intro ?_ (And.intro (by first|exact fun h=>h|exact fun _=>rfl|exact nofun) ?_)|exact trivial|(intro i j hi hj)))
        · rw [g3] at hx
          rcases List.mem_append.1 hx with hx | hx
          · exact hsh x hx
          · simp only [List.mem_singleton] at hx; subst hx; exact hopb
      | true =>
        rw [hopb] at c5
        (simp only [go_sem,↓reduceIte,Nat.reduceAdd,Nat.reduceSub,Nat.reduceMul,Nat.reduceLT,Nat.reduceLeDiff,Nat.reduceEqDiff,Nat.reduceGT,Int.reduceToNat,Int.reduceBEq,Int.reduceBNe];try simp (disch := omega) only [wrapI,wrapU,half_sum,toNat_sub1,toNat_add1,Int.toNat_natCast])
        (have dl1 := c4;have dl2 := c5;have sx1 := g1;repeat' (first|with_reducible refine T_seq_drawT (id := 7) Γ_ok drawsAny pl59_7 (by kernel_rfl) (fun K hK=>?_)|with_reducible refine T_last_drawT (id := 7) Γ_ok drawsAny pl59_7 (by kernel_rfl) (fun K hK=>?_)|with_reducible refine T_seq_drawT (id := 10) Γ_ok drawsAny pl59_10 (by kernel_rfl) (fun K hK=>?_)|with_reducible refine T_last_drawT (id := 10) Γ_ok drawsAny pl59_10 (by kernel_rfl) (fun K hK=>?_)|((refine goU1 _ _ _ _ _ _ _ _ _ _ _ _ ?_ ?_ ?_ ?_ ?_ ?_ ?_ ?_ ?_ ?_ ?_ ?_) <;> (repeat intro hb) <;> first|exact True.intro|refine Lf.mk ?_)))
        refine ⟨k,by omega,⟨enW s g d b k (out ++ [(⟨a,b,kk⟩ : Sp)]).length,fxW (v.add u) (out ++ [⟨a,b,kk⟩])⟩,?_,k,b,v.add u,out ++ [⟨a,b,kk⟩],by omega,rfl,hbN,hok.next hE (hsh.pick g2 hopb),rfl⟩
        simp only [fxW, spO]
        ((try simp only [List.length_append,List.length_cons,List.length_nil,Nat.zero_add]);refine Wk.intro [0,3] (by decide) (by decide) (by intro o ho;simp at ho ⊢ <;> omega) ?_ ?_ <;> repeat' (first|(exact WkV.eqF (hsn _ _ (by simpa using hi) hj) (spE_free _ _ _))|(refine WkV.imm ?_;congr 1;omega)|exact WkVL.nil|refine WkVL.cons ?_ ?_|exact WkV.top|exact WkV.imm rfl|exact WkV.imm (by simp)|exact WkV.optr rfl|exact WkV.own rfl (by simp)|exact WkV.nil_own (.inl rfl)|exact WkV.map rfl|(refine WkV.free ?_;simp [Free,FreeL] <;> assumption)|(refine WkV.free (fun _ _=>FreeL_nth ?_ _);simp [Free,FreeL];done)|refine WkV.agg ?_|refine WkV.tup ?_|refine WkV.fn ?_ ?_|exact WkO.dead|exact WkO.raw|refine WkO.ghost ?_|exact WkO.mpE rfl trivial|refine WkO.box ?_ rfl|refine WkO.arr ?_|refine And.intro ?_ (And.intro (by first|exact fun h=>h|exact fun _=>rfl|exact nofun) ?_)|exact trivial|(intro i j hi hj)))
    · obtain rfl : j = (rowE s a).length := by omega
      exact (hsh.no hE hok).elim
theorem rfollow_own (s : Sc) (hs : ScOk s) (g d : Nat) (hg : g < s.notes.length) (h1 : 1 ≤ d) (hd : d ≤ 400) 
    (hop : opn z6 (rets (stepR s) s.notes.length g d g) = true) : Makes Try.prog 59 [graphV s,.view (d + 1) 1 (twE s g),.imm (.int .i64 g)] (.own 0 0 (stps (stepR s) g (follow (stepR s) s.notes.length g d g z6)).length none) [spO (stps (stepR s) g (follow (stepR s) s.notes.length g d g z6))] :=
  Makes.lst1J (fun i j => spE_pl _ i j) ((rfollow_raw s hs g d hg h1 hd hop).mono fun u σ' ⟨k,E',hu,q1,q2⟩ => .inr ⟨k,E',hu,q1,q2⟩)
end Go.Proofs.Ytmglcamgpgkblaa
namespace Go.Proofs.Ytmglcamgpgkblaa
open Go.Ab
@[go_sem,reducible] def enR10 (s : Sc) (most g d : Nat) : List AV := [graphV s,.imm (.int .i64 g),.imm (.int .i64 most),.top,.top,.top,.imm (.slice none 0 0),.own 0 0 (d + 1) none,.imm (.int .i64 ((d : Int) + 1))] ++ List.replicate 39 .top
@[go_sem, reducible] def fxR10 (s : Sc) (g d : Nat) : List AObj := [.arr 98 1 (d + 1) (twE s g)]
theorem tw_snoc (s : Sc) (g l : Nat) {i j : Nat} (h : i < l + 1 + 1) (hj : j < 1) : catE (l + 1) (twE s g) (fun i j=>nth [wsV s.notes.length (rets (stepR s) s.notes.length g (l + 1))] (i * 1 + j)) i j = twE s g i j := by
  unfold catE
  split
  · rfl
  · obtain rfl : i = l + 1 := by omega
    obtain rfl : j = 0 := by omega
    simp [nth, twE]
theorem tw_fr0 (s : Sc) (g : Nat) {σ : List AObj} (h0 : nthO σ 0 = .arr 100 1 s.notes.length (updE (fun _ j => nth [AV.imm (.slice none 0 0)] j) g 0 [AV.own 2 0 1 (some 1)]))
    (h2 : nthO σ 2 = .arr 31 6 1 (fun i j => nth [AV.imm (.int .i64 0),.imm (.int .i64 0),.imm (.int .i64 0),.imm (.int .i64 0),.imm (.int .i64 0),.imm (.int .i64 0)] (i * 6 + j)))
    (h1 : (nthO σ 1).alive = true) {i j : Nat} (hi : i < 1) (hj : j < 1) : WkV [1] σ (nth [AV.own 0 0 s.notes.length (some s.notes.length)] (i * 1 + j)) (twE s g i j) := by
  obtain rfl : i = 0 := by omega
  obtain rfl : j = 0 := by omega
  unfold twE
  refine WkV.freeze (o := 0) h0 (by omega) (fun q hq => ?_) (fun p q hp hq => ?_)
  · rw [List.mem_singleton] at hq; subst hq; exact ⟨by omega, h1⟩
  · obtain rfl : q = 0 := by omega
    rw [Nat.zero_add]
    unfold wsE rets updE
    by_cases hpg : p = g
    · rw [if_pos ⟨hpg, by omega, by simp⟩, if_pos hpg]
      refine WkV.freeze (o := 2) h2 (by omega) (fun q hq => ?_) (fun i j hi hj => ?_)
      · rw [List.mem_singleton] at hq; subst hq; exact ⟨by omega, h1⟩
      · have hi : i < 1 := hi
        obtain rfl : i = 0 := by omega
        refine WkV.eqF ?_ (vtE_free _ _ _)
        rcases j with _ | _ | _ | _ | _ | _ | j <;> first | rfl | omega
    · rw [if_neg (by omega), if_neg hpg]
      exact WkV.nil_view
theorem opn_0 (s : Sc) (g : Nat) : opn z6 (rets (stepR s) s.notes.length g 0 g) = false := by
  unfold rets
  rw [if_pos rfl]
  decide
set_option maxRecDepth 100000 in
set_option maxHeartbeats 4000000 in
theorem rthrough_raw (s : Sc) (hs : ScOk s) (g : Nat) (hg : g < s.notes.length) (most : Nat) (hm : most ≤ 400) (Q : AV → List AObj → Prop)
    (hQ1 : thr (stepR s) s.notes.length g most = [] → ∀ σ', Q (.imm (.slice none 0 0)) σ')
    (hQ2 : ∀ σ' k,thr (stepR s) s.notes.length g most ≠ [] → nthO σ' k = spO (stps (stepR s) g (thr (stepR s) s.notes.length g most)) → Q (.own k 0 (stps (stepR s) g (thr (stepR s) s.notes.length g most)).length none) σ') : TC Try.prog 33 [graphV s,.imm (.int .i64 g),.imm (.int .i64 most)] [] Q := by
  have hsz := hs.sz
  unfold SzOk at hsz
  have hE := stepR_ok hs
  (refine TC_of_T Γ_ok Try.func33 rfl (by kernel_rfl) ?_;simp only [Try.ntmps33,Try.results33,List.length_cons,List.length_nil,Nat.reduceSub,Nat.reduceAdd,List.replicate,List.cons_append,List.nil_append])
  (((have sx1 := Nat.add_zero 0;refine goU1 _ _ _ _ _ _ _ _ _ _ _ _ ?_ ?_ ?_ ?_ ?_ ?_ ?_ ?_ ?_ ?_ ?_ ?_) <;> (repeat intro hb) <;> first | exact True.intro | refine Lf.mk ?_))
  refine T_loopW (fun m st => ∃ d : Nat,d ≤ most ∧ m + d = most ∧ (∀ k,k ≤ d → opn z6 (rets (stepR s) s.notes.length g k g) = false) ∧ st = ⟨enR10 s most g d,fxR10 s g d⟩)
    most ⟨_, ?_, 0, by omega, rfl, fun k hk => by obtain rfl : k = 0 := (by omega); exact opn_0 s g, rfl⟩ ?_
  · ((try simp only [List.length_append,List.length_cons,List.length_nil,Nat.zero_add]);refine Wk.intro [1] (by decide) (by decide) (by intro o ho;simp at ho ⊢ <;> omega) ?_ ?_ <;> repeat' (first|(exact tw_fr0 s g rfl rfl rfl hi hj)|exact WkVL.nil|refine WkVL.cons ?_ ?_|exact WkV.top|exact WkV.imm rfl|exact WkV.imm (by simp)|exact WkV.optr rfl|exact WkV.own rfl (by simp)|exact WkV.nil_own (.inl rfl)|exact WkV.map rfl|(refine WkV.free ?_;simp [Free,FreeL] <;> assumption)|(refine WkV.free (fun _ _=>FreeL_nth ?_ _);simp [Free,FreeL];done)|refine WkV.agg ?_|refine WkV.tup ?_|refine WkV.fn ?_ ?_|exact WkO.dead|exact WkO.raw|refine WkO.ghost ?_|exact WkO.mpE rfl trivial|refine WkO.box ?_ rfl|refine WkO.arr ?_|refine And.intro ?_ (And.intro (by first|exact fun h=>h|exact fun _=>rfl|exact nofun) ?_)|exact trivial|(intro i j hi hj)))
  rintro m st ⟨d, h0, h1, h2, rfl⟩
  by_cases hd : d < most
  · have c3 := rback_peek s hs g d (by omega)
    have hro := rets_ok hE g (d + 1) g
    have c2 := ropen_tc z6 (rets (stepR s) s.notes.length g (d + 1) g) (Bd6.z _ (by omega)) (fun i hi => rets_gv hE (by omega) hi) (by have := hro.le;omega)
    have e1 : (d : Int) + 1 - 1 = (d : Int) := by omega
    have e2 : ∀ f h : Nat → Nat → AV,catE (d + 1) f h (d + 1) 0 = h 0 0 := fun f h => by unfold catE;rw [if_neg (by omega),Nat.sub_self]
    have e3 : ((d : Int) + 1).toNat = d + 1 := by omega
    cases hop : opn z6 (rets (stepR s) s.notes.length g (d + 1) g) with
    | false =>
      rw [hop] at c2
      (simp only [go_sem,↓reduceIte,Nat.reduceAdd,Nat.reduceSub,Nat.reduceMul,Nat.reduceLT,Nat.reduceLeDiff,Nat.reduceEqDiff,Nat.reduceGT,Int.reduceToNat,Int.reduceBEq,Int.reduceBNe];try simp (disch := omega) only [wrapI,wrapU,half_sum,toNat_sub1,toNat_add1,Int.toNat_natCast])
      (have cl1 := c2;have cq1 := c3;have sx1 := And.intro e1 (And.intro e2 (e3));((refine goU1 _ _ _ _ _ _ _ _ _ _ _ _ ?_ ?_ ?_ ?_ ?_ ?_ ?_ ?_ ?_ ?_ ?_ ?_) <;> (repeat intro hb) <;> first|exact True.intro|refine Lf.mk ?_))
      refine ⟨most - (d + 1), by omega, _, ?_, d + 1, by omega, by omega, fun k hk => ?_, rfl⟩
      · ((try simp only [List.length_append,List.length_cons,List.length_nil,Nat.zero_add]);refine Wk.intro [2] (by decide) (by decide) (by intro o ho;simp at ho ⊢ <;> omega) ?_ ?_ <;> repeat' (first|(exact WkV.eqF (tw_snoc s g d hi hj) (twE_free _ _ _ _))|(refine WkV.imm ?_;congr 1;omega)|exact WkVL.nil|refine WkVL.cons ?_ ?_|exact WkV.top|exact WkV.imm rfl|exact WkV.imm (by simp)|exact WkV.optr rfl|exact WkV.own rfl (by simp)|exact WkV.nil_own (.inl rfl)|exact WkV.map rfl|(refine WkV.free ?_;simp [Free,FreeL] <;> assumption)|(refine WkV.free (fun _ _=>FreeL_nth ?_ _);simp [Free,FreeL];done)|refine WkV.agg ?_|refine WkV.tup ?_|refine WkV.fn ?_ ?_|exact WkO.dead|exact WkO.raw|refine WkO.ghost ?_|exact WkO.mpE rfl trivial|refine WkO.box ?_ rfl|refine WkO.arr ?_|refine And.intro ?_ (And.intro (by first|exact fun h=>h|exact fun _=>rfl|exact nofun) ?_)|exact trivial|(intro i j hi hj)))
      · by_cases e : k = d + 1
        · subst e; exact hop
        · exact h2 k (by omega)
    | true =>
      rw [hop] at c2
      have hlo : lenO (stepR s) s.notes.length g most = some (d + 1) := rfind.2 ⟨by omega,hop,fun k hk => h2 k (by omega)⟩
      have hthr : follow (stepR s) s.notes.length g (d + 1) g z6 = thr (stepR s) s.notes.length g most := by
        unfold thr; rw [hlo]
      have hne : thr (stepR s) s.notes.length g most ≠ [] := fun e => by
        have := (thr_nil hE).1 e
        rw [hlo] at this; cases this
      have c6 := rfollow_own s hs g (d + 1) hg (by omega) (by omega) hop
      rw [hthr] at c6
      (simp only [go_sem,↓reduceIte,Nat.reduceAdd,Nat.reduceSub,Nat.reduceMul,Nat.reduceLT,Nat.reduceLeDiff,Nat.reduceEqDiff,Nat.reduceGT,Int.reduceToNat,Int.reduceBEq,Int.reduceBNe];try simp (disch := omega) only [wrapI,wrapU,half_sum,toNat_sub1,toNat_add1,Int.toNat_natCast])
      (have cl1 := c2;have cq1 := c3;have sx1 := And.intro e1 (And.intro e2 (e3));((refine goU1 _ _ _ _ _ _ _ _ _ _ _ _ ?_ ?_ ?_ ?_ ?_ ?_ ?_ ?_ ?_ ?_ ?_ ?_) <;> (repeat intro hb) <;> first|exact True.intro|refine Lf.mk ?_))
      refine callGoal_makeA c6 trivial (CvL.cons (Cv.free (by simp [Free])) (CvL.cons (Cv.own (o := 2) rfl (by omega) (fun i j hi hj=>tw_snoc s g d hi hj) (twE_free s g)) (CvL.cons (Cv.imm rfl) CvL.nil))) ?_
      (simp only [go_sem,↓reduceIte,Nat.reduceAdd,Nat.reduceSub,Nat.reduceMul,Nat.reduceLT,Nat.reduceLeDiff,Nat.reduceEqDiff,Nat.reduceGT,Int.reduceToNat,Int.reduceBEq,Int.reduceBNe];try simp (disch := omega) only [wrapI,wrapU,half_sum,toNat_sub1,toNat_add1,Int.toNat_natCast])
      rename_i KF hKF NF hNF _
      refine hNF _ _ ?_
      (simp only [go_sem,↓reduceIte,Nat.reduceAdd,Nat.reduceSub,Nat.reduceMul,Nat.reduceLT,Nat.reduceLeDiff,Nat.reduceEqDiff,Nat.reduceGT,Int.reduceToNat,Int.reduceBEq,Int.reduceBNe];try simp (disch := omega) only [wrapI,wrapU,half_sum,toNat_sub1,toNat_add1,Int.toNat_natCast])
      (((have sx1 := Nat.add_zero 0;refine goU1 _ _ _ _ _ _ _ _ _ _ _ _ ?_ ?_ ?_ ?_ ?_ ?_ ?_ ?_ ?_ ?_ ?_ ?_) <;> (repeat intro hb) <;> first | exact True.intro | refine Lf.mk ?_))
      refine hKF _ ?_
      (((have sx1 := Nat.add_zero 0;refine goU1 _ _ _ _ _ _ _ _ _ _ _ _ ?_ ?_ ?_ ?_ ?_ ?_ ?_ ?_ ?_ ?_ ?_ ?_) <;> (repeat intro hb) <;> first | exact True.intro | refine Lf.mk ?_))
      refine hQ2 _ 3 hne ?_
      rfl
  · obtain rfl : d = most := by omega
    have hn : lenO (stepR s) s.notes.length g d = none := List.find?_eq_none.2 fun k hk => by
      have := List.mem_range.1 hk
      rw [h2 k (by omega)]; simp
    (simp only [go_sem,↓reduceIte,Nat.reduceAdd,Nat.reduceSub,Nat.reduceMul,Nat.reduceLT,Nat.reduceLeDiff,Nat.reduceEqDiff,Nat.reduceGT,Int.reduceToNat,Int.reduceBEq,Int.reduceBNe];try simp (disch := omega) only [wrapI,wrapU,half_sum,toNat_sub1,toNat_add1,Int.toNat_natCast])
    (((have sx1 := Nat.add_zero 0;refine goU1 _ _ _ _ _ _ _ _ _ _ _ _ ?_ ?_ ?_ ?_ ?_ ?_ ?_ ?_ ?_ ?_ ?_ ?_) <;> (repeat intro hb) <;> first | exact True.intro | refine Lf.mk ?_))
    exact hQ1 ((thr_nil hE).2 hn) _
theorem rthrough_nil (s : Sc) (hs : ScOk s) (g : Nat) (hg : g < s.notes.length) (most : Nat) (hm : most ≤ 400) (h : thr (stepR s) s.notes.length g most = []) : Look Try.prog 33 [graphV s,.imm (.int .i64 g),.imm (.int .i64 most)] (.imm (.slice none 0 0)) :=
  Look.mk trivial (rthrough_raw s hs g hg most hm _ (fun _ _ => rfl) fun _ _ hn => absurd h hn)
theorem rthrough_own (s : Sc) (hs : ScOk s) (g : Nat) (hg : g < s.notes.length) (most : Nat) (hm : most ≤ 400) (h : thr (stepR s) s.notes.length g most ≠ []) :
    Makes Try.prog 33 [graphV s,.imm (.int .i64 g),.imm (.int .i64 most)] (.own 0 0 (stps (stepR s) g (thr (stepR s) s.notes.length g most)).length none) [spO (stps (stepR s) g (thr (stepR s) s.notes.length g most))] :=
  Makes.lst1J (fun i j => spE_pl _ i j) (rthrough_raw s hs g hg most hm _ (fun hn => absurd hn h) fun _ k _ h1 => .inr ⟨k,_,rfl,h1,fun _ _ _ _ => rfl⟩)
end Go.Proofs.Ytmglcamgpgkblaa
