/-
  ChainMoved: one pair.
-/
import Derived.Test.YtmglcamgpgkblaaXE2
import Derived.Test.YtmglcamgpgkblaaXGo3
import Derived.Test.YtmglcamgpgkblaaXM0
import Derived.Test.YtmglcamgpgkblaaXC4
import Derived.Test.YtmglcamgpgkblaaXAb30
set_option linter.unusedSimpArgs false
set_option linter.unusedVariables false
namespace Go.Proofs.Ytmglcamgpgkblaa
open Go.Ab
@[go_sem, reducible] def mw (w x y : Int) : Int := IntKind.i64.wrap (w + IntKind.i64.wrap (x - y))
@[reducible] def mvP (s : Sc) (l : List P6) (p : Pr) : Pr := ⟨p.a, p.b,
  ⟨mw p.want.a (gv l (gn s.notes p.b.toNat).v.toNat).a (gv l (gn s.notes p.a.toNat).v.toNat).a,mw p.want.b (gv l (gn s.notes p.b.toNat).v.toNat).b (gv l (gn s.notes p.a.toNat).v.toNat).b,
   mw p.want.c (gv l (gn s.notes p.b.toNat).v.toNat).c (gv l (gn s.notes p.a.toNat).v.toNat).c,mw p.want.d (gv l (gn s.notes p.b.toNat).v.toNat).d (gv l (gn s.notes p.a.toNat).v.toNat).d,
   mw p.want.e (gv l (gn s.notes p.b.toNat).v.toNat).e (gv l (gn s.notes p.a.toNat).v.toNat).e,mw p.want.f (gv l (gn s.notes p.b.toNat).v.toNat).f (gv l (gn s.notes p.a.toNat).v.toNat).f⟩,p.bound⟩
def mvL (s : Sc) (l : List P6) (i : Nat) : List Pr := (s.pairs.take i).map (mvP s l)
theorem mvL_len {s : Sc} {l : List P6} {i : Nat} (h : i ≤ s.pairs.length) : (mvL s l i).length = i := by unfold mvL;rw [List.length_map,List.length_take];omega
theorem mvL_snoc {s : Sc} {l : List P6} {i : Nat} (h : i < s.pairs.length) : mvL s l (i + 1) = mvL s l i ++ [mvP s l (gp s.pairs i)] := by
  have hg : s.pairs[i]? = some (gp s.pairs i) := by simp [gp, h]
  unfold mvL
  rw [List.take_add_one, hg, List.map_append]
  rfl
theorem pr_snoc (l : List Pr) (x : Pr) {i j : Nat} (h : i < l.length + 1) (hj : j < 9) : catE l.length (prE l) (fun i j => nth (prL x) (i * 9 + j)) i j = prE (l ++ [x]) i j := by
  unfold catE prE gp
  split
  · rename_i h1; simp [List.getElem?_append_left h1]
  · obtain rfl : i = l.length := by omega
    simp
@[reducible] noncomputable def cb10 : Code := Try.f10.body.getD .skip
@[go_sem,reducible] def enM (s : Sc) (l : List P6) (n : Int) (i : Nat) : List AV := [.top,vts l,.imm (.int .i64 n),.optr 0 0 0,.top,.top,.imm (.bool false),.imm (.bool true),.optr 1 0 0] ++ List.replicate 29 .top ++ [prs s.pairs,.imm (.int .i64 s.pairs.length),.imm (.int .i64 i)] ++ List.replicate 108 .top
@[go_sem,reducible] def fxM (s : Sc) (l : List P6) (i : Nat) : List AObj := [.box 26 (scL s),.box 26 [.imm (.int .i64 s.voices),nts s.notes,.own 2 0 i none,ints s.cads],.arr 45 9 i (prE (mvL s l i))]
def CM (K : St → Prop) (s : Sc) (l : List P6) (n : Int) (i : Nat) : Prop := ∀ st',Wk 0 st' ⟨enM s l n i,fxM s l i⟩ → K st'
variable (rd : Rd)
set_option maxRecDepth 100000 in
set_option maxHeartbeats 4000000 in
theorem move_round (s : Sc) (l : List P6) (n : Int) (i : Nat) (hp4 : s.pairs.length ≤ 400) (hn4 : s.notes.length ≤ 200) (hi : i < s.pairs.length) (hpb : PrB s.notes.length (gp s.pairs i))
    (hA : 0 ≤ (gn s.notes (gp s.pairs i).a.toNat).v ∧ (gn s.notes (gp s.pairs i).a.toNat).v < l.length) (hB : 0 ≤ (gn s.notes (gp s.pairs i).b.toNat).v ∧ (gn s.notes (gp s.pairs i).b.toNat).v < l.length) (hl : l.length ≤ 9223372036854775807)
    (KF : St → Prop) (hKF : CM KF s l n (i + 1)) (Q : Exit → St → Prop) :
    T Try.prog 0 (rd := rd) (cAt cb10 [true,true,true,true,true,false,true,true,true]) (thenQ KF Q) ⟨enM s l n i,fxM s l i⟩ := by
  simp only [cAt, cb10, Try.f10, Option.getD_some]
  unfold PrB at hpb
  (simp only [go_sem,↓reduceIte,Nat.reduceAdd,Nat.reduceSub,Nat.reduceMul,Nat.reduceLT,Nat.reduceLeDiff,Nat.reduceEqDiff,Nat.reduceGT,Int.reduceToNat,Int.reduceBEq,Int.reduceBNe];try simp (disch := omega) only [wrapI,wrapU,half_sum,toNat_sub1,toNat_add1,Int.toNat_natCast])
  (have sx1 : (0 : Nat) + 0 = 0 := rfl;repeat' (first|with_reducible refine T_seq_drawT (id := 12) Γ_ok drawsAny pl10_12 (by kernel_rfl) (fun K hK=>?_)|with_reducible refine T_last_drawT (id := 12) Γ_ok drawsAny pl10_12 (by kernel_rfl) (fun K hK=>?_)|((refine goU1 _ _ _ _ _ _ _ _ _ _ _ _ ?_ ?_ ?_ ?_ ?_ ?_ ?_ ?_ ?_ ?_ ?_ ?_) <;> (repeat intro hb) <;> first|exact True.intro|refine Lf.mk ?_)))
  refine T_rounds 7 ?_
  (have sx1 : (0 : Nat) + 0 = 0 := rfl;repeat' (first|with_reducible refine T_seq_drawT (id := 12) Γ_ok drawsAny pl10_12 (by kernel_rfl) (fun K hK=>?_)|with_reducible refine T_last_drawT (id := 12) Γ_ok drawsAny pl10_12 (by kernel_rfl) (fun K hK=>?_)|((refine goU1 _ _ _ _ _ _ _ _ _ _ _ _ ?_ ?_ ?_ ?_ ?_ ?_ ?_ ?_ ?_ ?_ ?_ ?_) <;> (repeat intro hb) <;> first|exact True.intro|refine Lf.mk ?_)))
  refine hKF _ ?_
  have hml := mvL_len (s := s) (l := l) (Nat.le_of_lt hi)
  have hsn := fun p q => pr_snoc (mvL s l i) (mvP s l (gp s.pairs i)) (i := p) (j := q)
  rw [← mvL_snoc hi, hml] at hsn
  ((try simp only [List.length_append,List.length_cons,List.length_nil,Nat.zero_add]);refine Wk.intro [0,1,5] (by decide) (by decide) (by intro o ho;simp at ho ⊢ <;> omega) ?_ ?_ <;> repeat' (first|(exact WkV.eqF (hsn _ _ hi hj) (prE_free _ _ _))|exact WkVL.nil|refine WkVL.cons ?_ ?_|exact WkV.top|exact WkV.imm rfl|exact WkV.imm (by simp)|exact WkV.optr rfl|exact WkV.own rfl (by simp)|exact WkV.nil_own (.inl rfl)|exact WkV.map rfl|(refine WkV.free ?_;simp [Free,FreeL] <;> assumption)|(refine WkV.free (fun _ _=>FreeL_nth ?_ _);simp [Free,FreeL];done)|refine WkV.agg ?_|refine WkV.tup ?_|refine WkV.fn ?_ ?_|exact WkO.dead|exact WkO.raw|refine WkO.ghost ?_|exact WkO.mpE rfl trivial|refine WkO.box ?_ rfl|refine WkO.arr ?_|refine And.intro ?_ (And.intro (by first|exact fun h=>h|exact fun _=>rfl|exact nofun) ?_)|exact trivial|(intro i j hi hj)))
end Go.Proofs.Ytmglcamgpgkblaa
