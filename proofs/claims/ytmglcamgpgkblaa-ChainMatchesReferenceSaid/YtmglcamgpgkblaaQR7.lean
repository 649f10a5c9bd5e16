/-
  The reference's edges.
-/
import Derived.Test.YtmglcamgpgkblaaQGo
import Derived.Test.YtmglcamgpgkblaaQR3
set_option linter.unusedSimpArgs false
set_option linter.unusedVariables false
namespace Go.Proofs.Ytmglcamgpgkblaa
open Go.Ab
def rowK (s : Sc) (a b : Nat) : List Ed := ((List.range b).filterMap fun b => (stepR s a b).map fun e => (b,e)).map (mkEd a)
theorem rowK_some {s : Sc} {a b : Nat} {k : Int} {v : P6} (h : stepR s a b = some (k,v)) : rowK s a (b + 1) = rowK s a b ++ [⟨a,b,k,v⟩] := by
  unfold rowK
  rw [List.range_succ, List.filterMap_append, List.map_append]
  simp [h, mkEd]
theorem rowK_none {s : Sc} {a b : Nat} (h : stepR s a b = none) : rowK s a (b + 1) = rowK s a b := by
  unfold rowK
  rw [List.range_succ, List.filterMap_append, List.map_append]
  simp [h]
theorem rowK_len (s : Sc) (a b : Nat) : (rowK s a b).length ≤ b := by
  unfold rowK
  rw [List.length_map]
  exact Nat.le_trans (List.length_filterMap_le _ _) (by simp)
@[go_sem,reducible] def enE (s : Sc) (i : Nat) : List AV := [.top,.optr 2 0 0,.imm (.slice none 0 0),.imm (.int .i64 s.notes.length),.own 3 0 i none,.imm (.int .i64 i)] ++ List.replicate 34 .top
@[go_sem,reducible] def enF (s : Sc) (i b n : Nat) : List AV := [.top,.optr 2 0 0,.imm (.slice none 0 0),.imm (.int .i64 s.notes.length),.own 3 0 i none,.imm (.int .i64 i),.own 4 0 n none,.imm (.int .i64 b)] ++ List.replicate 32 .top
@[go_sem,reducible] def fxE (z y : AObj) (s : Sc) (i : Nat) : List AObj := [z,y,.box 26 (scL s),.arr 104 1 i (fun p _ => eds (rowE s p))]
set_option maxRecDepth 100000 in
set_option maxHeartbeats 4000000 in
theorem redges_raw (s : Sc) (hl : ScL s) (hs : ScOk s) (z y : AObj) (hz : z.isLive) (hy : y.isLive) : TC Try.prog 34 [scA s] [z,y] (fun u σ1=>u = .own 3 0 s.notes.length none ∧ nthO σ1 3 = .arr 104 1 s.notes.length (fun p _=>eds (rowE s p)) ∧ ∃ t,σ1 = z :: y :: t) := by
  have hsz := hs.sz
  unfold SzOk at hsz
  generalize hQ : (fun (u : AV) (σ1 : List AObj) => u = .own 3 0 s.notes.length none ∧ nthO σ1 3 = .arr 104 1 s.notes.length (fun p _ => eds (rowE s p)) ∧ ∃ t,σ1 = z :: y :: t) = Q
  (refine TC_of_T Γ_ok Try.func34 rfl (by kernel_rfl) ?_;simp only [Try.ntmps34,Try.results34,List.length_cons,List.length_nil,Nat.reduceSub,Nat.reduceAdd,List.replicate,List.cons_append,List.nil_append])
  (((have sx1 := Nat.add_zero 0;refine goU1 _ _ _ _ _ _ _ _ _ _ _ _ ?_ ?_ ?_ ?_ ?_ ?_ ?_ ?_ ?_ ?_ ?_ ?_) <;> (repeat intro hb) <;> first | exact True.intro | refine Lf.mk ?_))
  refine T_loopW (fun m st => ∃ i : Nat, i ≤ s.notes.length ∧ m + i = s.notes.length ∧ st = ⟨enE s i, fxE z y s i⟩)
    s.notes.length ⟨_, Wk.trans (Wk.push 104 1 (fun p _ => eds (rowE s p))) ?_, 0, by omega, by omega, rfl⟩ ?_
  · ((try simp only [List.length_append,List.length_cons,List.length_nil,Nat.zero_add]);refine Wk.intro [0,1,2,3] (by decide) (by decide) (by intro o ho;simp at ho ⊢ <;> omega) ?_ ?_ <;> repeat' (first|(exact WkO.live hz)|(exact WkO.live hy)|exact WkVL.nil|refine WkVL.cons ?_ ?_|exact WkV.top|exact WkV.imm rfl|exact WkV.imm (by simp)|exact WkV.optr rfl|exact WkV.own rfl (by simp)|exact WkV.nil_own (.inl rfl)|exact WkV.map rfl|(refine WkV.free ?_;simp [Free,FreeL] <;> assumption)|(refine WkV.free (fun _ _=>FreeL_nth ?_ _);simp [Free,FreeL];done)|refine WkV.agg ?_|refine WkV.tup ?_|refine WkV.fn ?_ ?_|exact WkO.dead|exact WkO.raw|refine WkO.ghost ?_|exact WkO.mpE rfl trivial|refine WkO.box ?_ rfl|refine WkO.arr ?_|refine And.intro ?_ (And.intro (by first|exact fun h=>h|exact fun _=>rfl|exact nofun) ?_)|exact trivial|(intro i j hi hj)))
  rintro m st ⟨i, h0, h1, rfl⟩
  by_cases hi : i < s.notes.length
  · (simp only [go_sem,↓reduceIte,Nat.reduceAdd,Nat.reduceSub,Nat.reduceMul,Nat.reduceLT,Nat.reduceLeDiff,Nat.reduceEqDiff,Nat.reduceGT,Int.reduceToNat,Int.reduceBEq,Int.reduceBNe];try simp (disch := omega) only [wrapI,wrapU,half_sum,toNat_sub1,toNat_add1,Int.toNat_natCast])
    (((have sx1 := Nat.add_zero 0;refine goU1 _ _ _ _ _ _ _ _ _ _ _ _ ?_ ?_ ?_ ?_ ?_ ?_ ?_ ?_ ?_ ?_ ?_ ?_) <;> (repeat intro hb) <;> first | exact True.intro | refine Lf.mk ?_))
    refine T_loopW (fun m st => ∃ b : Nat,b ≤ s.notes.length ∧ m + b = s.notes.length ∧ st = ⟨enF s i b (rowK s i b).length,fxE z y s i ++ [.arr 59 9 (rowK s i b).length (edE (rowK s i b))]⟩)
      s.notes.length ⟨_, Wk.trans (Wk.push 59 9 (edE (rowK s i 0))) ?_, 0, by omega, by omega, rfl⟩ ?_
    · ((try simp only [List.length_append,List.length_cons,List.length_nil,Nat.zero_add]);refine Wk.intro [0,1,2,3,4] (by decide) (by decide) (by intro o ho;simp at ho ⊢ <;> omega) ?_ ?_ <;> repeat' (first|(exact WkO.live hz)|(exact WkO.live hy)|exact WkVL.nil|refine WkVL.cons ?_ ?_|exact WkV.top|exact WkV.imm rfl|exact WkV.imm (by simp)|exact WkV.optr rfl|exact WkV.own rfl (by simp)|exact WkV.nil_own (.inl rfl)|exact WkV.map rfl|(refine WkV.free ?_;simp [Free,FreeL] <;> assumption)|(refine WkV.free (fun _ _=>FreeL_nth ?_ _);simp [Free,FreeL];done)|refine WkV.agg ?_|refine WkV.tup ?_|refine WkV.fn ?_ ?_|exact WkO.dead|exact WkO.raw|refine WkO.ghost ?_|exact WkO.mpE rfl trivial|refine WkO.box ?_ rfl|refine WkO.arr ?_|refine And.intro ?_ (And.intro (by first|exact fun h=>h|exact fun _=>rfl|exact nofun) ?_)|exact trivial|(intro i j hi hj)))
    rintro m2 st ⟨b, g0, g1, rfl⟩
    by_cases hb : b < s.notes.length
    · have c1 := rstep_tc s hl hs i b hi hb
      have hkl := rowK_len s i b
      unfold stE at c1
      cases hst : stepR s i b with
      | none =>
        rw [hst] at c1
        simp only [Option.isSome_none, z6] at c1
        (simp only [go_sem,↓reduceIte,Nat.reduceAdd,Nat.reduceSub,Nat.reduceMul,Nat.reduceLT,Nat.reduceLeDiff,Nat.reduceEqDiff,Nat.reduceGT,Int.reduceToNat,Int.reduceBEq,Int.reduceBNe];try simp (disch := omega) only [wrapI,wrapU,half_sum,toNat_sub1,toNat_add1,Int.toNat_natCast])
        (have cl1 := c1;((have sx1 := Nat.add_zero 0;refine goU1 _ _ _ _ _ _ _ _ _ _ _ _ ?_ ?_ ?_ ?_ ?_ ?_ ?_ ?_ ?_ ?_ ?_ ?_) <;> (repeat intro hb) <;> first | exact True.intro | refine Lf.mk ?_))
        refine ⟨s.notes.length - (b + 1), by omega, _, ?_, b + 1, by omega, by omega, rfl⟩
        rw [rowK_none hst]
        ((try simp only [List.length_append,List.length_cons,List.length_nil,Nat.zero_add]);refine Wk.intro [0,1,2,3,4] (by decide) (by decide) (by intro o ho;simp at ho ⊢ <;> omega) ?_ ?_ <;> repeat' (first|(exact WkO.live hz)|(exact WkO.live hy)|exact WkVL.nil|refine WkVL.cons ?_ ?_|exact WkV.top|exact WkV.imm rfl|exact WkV.imm (by simp)|exact WkV.optr rfl|exact WkV.own rfl (by simp)|exact WkV.nil_own (.inl rfl)|exact WkV.map rfl|(refine WkV.free ?_;simp [Free,FreeL] <;> assumption)|(refine WkV.free (fun _ _=>FreeL_nth ?_ _);simp [Free,FreeL];done)|refine WkV.agg ?_|refine WkV.tup ?_|refine WkV.fn ?_ ?_|exact WkO.dead|exact WkO.raw|refine WkO.ghost ?_|exact WkO.mpE rfl trivial|refine WkO.box ?_ rfl|refine WkO.arr ?_|refine And.intro ?_ (And.intro (by first|exact fun h=>h|exact fun _=>rfl|exact nofun) ?_)|exact trivial|(intro i j hi hj)))
      | some e =>
        obtain ⟨k, v⟩ := e
        rw [hst] at c1
        simp only [Option.isSome_some] at c1
        (simp only [go_sem,↓reduceIte,Nat.reduceAdd,Nat.reduceSub,Nat.reduceMul,Nat.reduceLT,Nat.reduceLeDiff,Nat.reduceEqDiff,Nat.reduceGT,Int.reduceToNat,Int.reduceBEq,Int.reduceBNe];try simp (disch := omega) only [wrapI,wrapU,half_sum,toNat_sub1,toNat_add1,Int.toNat_natCast])
        (have cl1 := c1;((have sx1 := Nat.add_zero 0;refine goU1 _ _ _ _ _ _ _ _ _ _ _ _ ?_ ?_ ?_ ?_ ?_ ?_ ?_ ?_ ?_ ?_ ?_ ?_) <;> (repeat intro hb) <;> first | exact True.intro | refine Lf.mk ?_))
        have hsn := fun p q => ed_snoc (rowK s i b) ⟨i, b, k, v⟩ (i := p) (j := q)
        refine ⟨s.notes.length - (b + 1), by omega, _, ?_, b + 1, by omega, by omega, rfl⟩
        rw [rowK_some hst, List.length_append]
        ((try simp only [List.length_append,List.length_cons,List.length_nil,Nat.zero_add]);refine Wk.intro [0,1,2,3,7] (by decide) (by decide) (by intro o ho;simp at ho ⊢ <;> omega) ?_ ?_ <;> repeat' (first|(exact WkO.live hz)|(exact WkO.live hy)|(refine WkV.imm ?_;congr 1;omega)|(exact WkV.eqF (hsn _ _ hi hj) (edE_free _ _ _))|exact WkVL.nil|refine WkVL.cons ?_ ?_|exact WkV.top|exact WkV.imm rfl|exact WkV.imm (by simp)|exact WkV.optr rfl|exact WkV.own rfl (by simp)|exact WkV.nil_own (.inl rfl)|exact WkV.map rfl|(refine WkV.free ?_;simp [Free,FreeL] <;> assumption)|(refine WkV.free (fun _ _=>FreeL_nth ?_ _);simp [Free,FreeL];done)|refine WkV.agg ?_|refine WkV.tup ?_|refine WkV.fn ?_ ?_|exact WkO.dead|exact WkO.raw|refine WkO.ghost ?_|exact WkO.mpE rfl trivial|refine WkO.box ?_ rfl|refine WkO.arr ?_|refine And.intro ?_ (And.intro (by first|exact fun h=>h|exact fun _=>rfl|exact nofun) ?_)|exact trivial|(intro i j hi hj)))
    · obtain rfl : b = s.notes.length := by omega
      (simp only [go_sem,↓reduceIte,Nat.reduceAdd,Nat.reduceSub,Nat.reduceMul,Nat.reduceLT,Nat.reduceLeDiff,Nat.reduceEqDiff,Nat.reduceGT,Int.reduceToNat,Int.reduceBEq,Int.reduceBNe];try simp (disch := omega) only [wrapI,wrapU,half_sum,toNat_sub1,toNat_add1,Int.toNat_natCast])
      (((have sx1 := Nat.add_zero 0;refine goU1 _ _ _ _ _ _ _ _ _ _ _ _ ?_ ?_ ?_ ?_ ?_ ?_ ?_ ?_ ?_ ?_ ?_ ?_) <;> (repeat intro hb) <;> first | exact True.intro | refine Lf.mk ?_))
      have hout : ∀ (σ : List AObj),nthO σ 4 = .arr 59 9 (rowK s i s.notes.length).length (edE (rowK s i s.notes.length)) → (nthO σ 0).alive = true → (nthO σ 1).alive = true → (nthO σ 2).alive = true → (nthO σ 6).alive = true → ∀ p q,p < i + 1 → q < 1 →
          WkV [0,1,2,6] σ (catE i (fun p _ => eds (rowE s p)) (fun p q => nth [.own 4 0 (rowK s i s.notes.length).length none] (p * 1 + q)) p q) (eds (rowE s p)) := by
        intro σ k2 k0 k1 k3 k4 p q hp hq
        unfold catE
        split
        · exact WkV.free (by simp [Free])
        · obtain rfl : p = i := by omega
          obtain rfl : q = 0 := by omega
          rw [Nat.sub_self]
          refine WkV.freeze (o := 4) k2 (by omega) (fun o ho => ?_) (fun a b _ _ => by rw [Nat.zero_add];exact WkV.free (edE_free _ _ _))
          rcases List.mem_cons.1 ho with rfl | ho
          · exact ⟨by omega, k0⟩
          rcases List.mem_cons.1 ho with rfl | ho
          · exact ⟨by omega, k1⟩
          rcases List.mem_cons.1 ho with rfl | ho
          · exact ⟨by omega, k3⟩
          · rw [List.mem_singleton] at ho; subst ho; exact ⟨by omega, k4⟩
      refine ⟨s.notes.length - (i + 1), by omega, _, ?_, i + 1, by omega, by omega, rfl⟩
      ((try simp only [List.length_append,List.length_cons,List.length_nil,Nat.zero_add]);refine Wk.intro [0,1,2,6] (by decide) (by decide) (by intro o ho;simp at ho ⊢ <;> omega) ?_ ?_ <;> repeat' (first|(exact WkO.live hz)|(exact WkO.live hy)|(refine hout _ rfl ?_ ?_ rfl rfl _ _ hi hj;exact hz.alive;exact hy.alive)|exact WkVL.nil|refine WkVL.cons ?_ ?_|exact WkV.top|exact WkV.imm rfl|exact WkV.imm (by simp)|exact WkV.optr rfl|exact WkV.own rfl (by simp)|exact WkV.nil_own (.inl rfl)|exact WkV.map rfl|(refine WkV.free ?_;simp [Free,FreeL] <;> assumption)|(refine WkV.free (fun _ _=>FreeL_nth ?_ _);simp [Free,FreeL];done)|refine WkV.agg ?_|refine WkV.tup ?_|refine WkV.fn ?_ ?_|exact WkO.dead|exact WkO.raw|refine WkO.ghost ?_|exact WkO.mpE rfl trivial|refine WkO.box ?_ rfl|refine WkO.arr ?_|refine And.intro ?_ (And.intro (by first|exact fun h=>h|exact fun _=>rfl|exact nofun) ?_)|exact trivial|(intro i j hi hj)))
  · obtain rfl : i = s.notes.length := by omega
    (simp only [go_sem,↓reduceIte,Nat.reduceAdd,Nat.reduceSub,Nat.reduceMul,Nat.reduceLT,Nat.reduceLeDiff,Nat.reduceEqDiff,Nat.reduceGT,Int.reduceToNat,Int.reduceBEq,Int.reduceBNe];try simp (disch := omega) only [wrapI,wrapU,half_sum,toNat_sub1,toNat_add1,Int.toNat_natCast])
    (((have sx1 := Nat.add_zero 0;refine goU1 _ _ _ _ _ _ _ _ _ _ _ _ ?_ ?_ ?_ ?_ ?_ ?_ ?_ ?_ ?_ ?_ ?_ ?_) <;> (repeat intro hb) <;> first | exact True.intro | refine Lf.mk ?_))
    rw [← hQ]
    exact ⟨rfl, rfl, _, rfl⟩
theorem redges_peek (s : Sc) (hl : ScL s) (hs : ScOk s) : PeekL Try.prog 2 34 [scA s] (graphV s) := by
  refine ⟨fun σ0 h0 hal => ?_, by simp [Free]⟩
  obtain ⟨z, y, rfl⟩ : ∃ z y, σ0 = [z, y] := by
    match σ0, h0 with
    | [z, y], _ => exact ⟨z, y, rfl⟩
  have hz := hal z (by simp)
  have hy := hal y (by simp)
  refine (redges_raw s hl hs z y hz hy).weak fun u σ' ⟨hu,h1,t,ht⟩ => ⟨[0,1],graphV s,[z,y],rfl,by simp,by simp [ht],?_,?_,rfl,⟨[],rfl⟩⟩
  · rw [hu]
    refine WkV.freeze (o := 3) h1 (by omega) (fun o ho => ?_) (fun i j _ _ => by rw [Nat.zero_add];exact WkV.free (ggE_free s i j))
    rcases List.mem_cons.1 ho with rfl | ho
    · exact ⟨by omega, by rw [ht]; exact hz.alive⟩
    · rw [List.mem_singleton] at ho; subst ho; exact ⟨by omega, by rw [ht]; exact hy.alive⟩
  · rw [ht]
    exact ⟨WkO.live hz, fun h => h, WkO.live hy, fun h => h, trivial⟩
end Go.Proofs.Ytmglcamgpgkblaa
