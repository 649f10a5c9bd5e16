/-
  chain.newGraph: one step joined.
-/
import Derived.Test.YtmglcamgpgkblaaQGo
import Derived.Test.YtmglcamgpgkblaaQB5
import Derived.Test.YtmglcamgpgkblaaQAb32
set_option linter.unusedSimpArgs false
set_option linter.unusedVariables false
namespace Go.Proofs.Ytmglcamgpgkblaa
open Go.Ab
def gE (l : List Ed) (i : Nat) : Ed := l.getD i ed0
def edE (l : List Ed) (i j : Nat) : AV := nth (elL (gE l i)) j
@[go_sem] theorem edE_0 (l : List Ed) (i : Nat) : edE l i 0 = .imm (.int .i64 (gE l i).fr) := rfl
@[go_sem] theorem edE_1 (l : List Ed) (i : Nat) : edE l i 1 = .imm (.int .i64 (gE l i).to) := rfl
@[go_sem] theorem edE_2 (l : List Ed) (i : Nat) : edE l i 2 = .imm (.int .i64 (gE l i).k) := rfl
@[go_sem] theorem edE_3 (l : List Ed) (i : Nat) : edE l i 3 = .imm (.int .i64 (gE l i).v.a) := rfl
@[go_sem] theorem edE_4 (l : List Ed) (i : Nat) : edE l i 4 = .imm (.int .i64 (gE l i).v.b) := rfl
@[go_sem] theorem edE_5 (l : List Ed) (i : Nat) : edE l i 5 = .imm (.int .i64 (gE l i).v.c) := rfl
@[go_sem] theorem edE_6 (l : List Ed) (i : Nat) : edE l i 6 = .imm (.int .i64 (gE l i).v.d) := rfl
@[go_sem] theorem edE_7 (l : List Ed) (i : Nat) : edE l i 7 = .imm (.int .i64 (gE l i).v.e) := rfl
@[go_sem] theorem edE_8 (l : List Ed) (i : Nat) : edE l i 8 = .imm (.int .i64 (gE l i).v.f) := rfl
theorem edE_pl (l : List Ed) (i j : Nat) : Pl (edE l i j) := by rcases j with _ | _ | _ | _ | _ | _ | _ | _ | _ | j <;> trivial
@[simp] theorem edE_free (l : List Ed) (i j : Nat) : Free (edE l i j) := Pl.free _ (edE_pl l i j)
@[go_sem, reducible] def edO (l : List Ed) : AObj := .arr 74 9 l.length (edE l)
@[go_sem, reducible] def eds (l : List Ed) : AV := .view l.length 9 (edE l)
def inn (f : Nat → AObj) (n : Nat) : List AObj := (List.range n).map f
def updF (f : Nat → AObj) (a : Nat) (x : AObj) (i : Nat) : AObj := if i = a then x else f i
theorem inn_len (f : Nat → AObj) (n : Nat) : (inn f n).length = n := by simp [inn]
theorem inn_at (f : Nat → AObj) {n i : Nat} (h : i < n) (tl : List AObj) : nthO (inn f n ++ tl) i = f i := by
  rw [nthO_app _ _ (by rw [inn_len]; exact h)]
  refine nthO_get' ?_
  simp [inn, h]
theorem inn_set (f : Nat → AObj) {n i : Nat} (x : AObj) (h : i < n) (tl : List AObj) : (inn f n ++ tl).set i x = inn (updF f i x) n ++ tl := by
  rw [List.set_append_left _ _ (by rw [inn_len]; exact h)]
  congr 1
  refine List.ext_getElem? fun j => ?_
  unfold inn updF
  by_cases hj : j < n
  · by_cases e : j = i
    · subst e; simp [hj]
    · rw [List.getElem?_set_ne (fun h => e h.symm)]; simp [hj, e]
  · rw [List.getElem?_eq_none (by simp; omega), List.getElem?_eq_none (by simp; omega)]
theorem nthO_inT (f : Nat → AObj) (n : Nat) (tl : List AObj) (k : Nat) : nthO (inn f n ++ tl) (n + k) = nthO tl k := by
  have := nthO_pre (inn f n) tl k
  rwa [inn_len] at this
theorem nthO_in0 (f : Nat → AObj) (n : Nat) (tl : List AObj) : nthO (inn f n ++ tl) n = nthO tl 0 := nthO_inT f n tl 0
theorem set_inT (f : Nat → AObj) (n : Nat) (tl : List AObj) (k : Nat) (a : AObj) : (inn f n ++ tl).set (n + k) a = inn f n ++ tl.set k a := by
  have := set_pre (inn f n) tl k a
  rwa [inn_len] at this
theorem set_in0 (f : Nat → AObj) (n : Nat) (tl : List AObj) (a : AObj) : (inn f n ++ tl).set n a = inn f n ++ tl.set 0 a := set_inT f n tl 0 a
def grE (L : Nat → List Ed) (i _j : Nat) : AV := .own (i + 3) 0 (L i).length none
@[go_sem] theorem grE_us (L : Nat → List Ed) (i j : Nat) : grE L i j = .own (i + 3) 0 (L i).length none := rfl
@[go_sem,reducible] def fxG (s : Sc) (n : Nat) (L : Nat → List Ed) : List AObj := [.box 26 (scL s),.arr 72 1 n (grE L),.box 55 [.own 1 0 n (some n)]]
@[go_sem, reducible] def edF (L : Nat → List Ed) (i : Nat) : AObj := edO (L i)
attribute [local go_sem] List.append_assoc nthO_in0 nthO_inT set_in0 set_inT inn_len List.length_append Nat.add_assoc
theorem ed_snoc (l : List Ed) (x : Ed) {i j : Nat} (h : i < l.length + 1) (hj : j < 9) : catE l.length (edE l) (fun i j => nth (elL x) (i * 9 + j)) i j = edE (l ++ [x]) i j := by
  unfold catE edE gE
  split
  · rename_i h1; simp [List.getElem?_append_left h1]
  · obtain rfl : i = l.length := by omega
    simp
structure JoinS (s : Sc) (n : Nat) (L : Nat → List Ed) (a b : Nat) (x y : Ed) (σ' : List AObj) (k1 k2 : Nat) (E E1 E2 : Nat → Nat → AV) : Prop where
  le1 : n + 3 ≤ k1
  le2 : n + 3 ≤ k2
  ne : k1 ≠ k2
  lt1 : k1 < σ'.length
  lt2 : k2 < σ'.length
  o0 : nthO σ' 0 = .box 26 (scL s)
  o1 : nthO σ' 1 = .arr 72 1 n E
  o2 : nthO σ' 2 = .box 55 [.own 1 0 n (some n)]
  rest : ∀ i, i < n → i ≠ a → i ≠ b → nthO σ' (i + 3) = edO (L i) ∧ E i 0 = grE L i 0
  ea : E a 0 = .own k1 0 ((L a).length + 1) none
  eb : E b 0 = .own k2 0 ((L b).length + 1) none
  oa : nthO σ' k1 = .arr 74 9 ((L a).length + 1) E1
  ob : nthO σ' k2 = .arr 74 9 ((L b).length + 1) E2
  ta : ∀ i j, i < (L a).length + 1 → j < 9 → E1 i j = edE (L a ++ [x]) i j
  tb : ∀ i j, i < (L b).length + 1 → j < 9 → E2 i j = edE (L b ++ [y]) i j
def JoinQ (s : Sc) (n : Nat) (L : Nat → List Ed) (a b : Nat) (x y : Ed) (u : AV) (σ' : List AObj) : Prop := ∃ k1 k2 E E1 E2,JoinS s n L a b x y σ' k1 k2 E E1 E2
set_option maxRecDepth 100000 in
set_option maxHeartbeats 4000000 in
theorem join_raw (s : Sc) (n : Nat) (L : Nat → List Ed) (a b : Nat) (ha : a < n) (hb : b < n) (hab : a ≠ b) (k : Int) (v : P6) (hv : Bd6 16 v) (hla : (L a).length ≤ 1000) (hlb : (L b).length ≤ 1000) (hn : n ≤ 200) :
    TC Try.prog 43 [.imm (.int .i64 a),.imm (.int .i64 b),.imm (.int .i64 k),p6A v,.optr 2 0 0] (fxG s n L ++ inn (edF L) n) (JoinQ s n L a b ⟨a,b,k,v⟩ ⟨b,a,k,v.neg⟩) := by
  unfold Bd6 at hv
  have h1 := fun f tl => inn_at f ha tl
  have h2 := fun f tl => inn_at f hb tl
  have h3 := fun f x tl => inn_set f x ha tl
  have h4 := fun f x tl => inn_set f x hb tl
  have h5 : ∀ f x, updF f a x b = f b := fun f x => by unfold updF; rw [if_neg (by omega)]
  have h6 : ∀ x,updE (grE L) a 0 [x] b 0 = .own (b + 3) 0 (L b).length none := fun x => by unfold updE;rw [if_neg (by omega)];rfl
  (refine TC_of_T Γ_ok Try.func43 rfl (by kernel_rfl) ?_;simp only [Try.ntmps43,Try.results43,List.length_cons,List.length_nil,Nat.reduceSub,Nat.reduceAdd,List.replicate,List.cons_append,List.nil_append])
  (have sx1 : (0 : Nat) + 0 = 0 := rfl;((refine goU1 _ _ _ _ _ _ _ _ _ _ _ _ ?_ ?_ ?_ ?_ ?_ ?_ ?_ ?_ ?_ ?_ ?_ ?_) <;> (repeat intro hb) <;> first | exact True.intro | refine Lf.mk ?_))
  refine T_rounds 7 ?_
  (have sx1 := (And.intro h1 (And.intro h2 (And.intro h3 (And.intro h4 (And.intro h5 h6)))));repeat' (first|with_reducible refine T_seq_drawT (id := 7) Γ_ok drawsAny pl43_7 (by kernel_rfl) (fun K hK=>?_)|with_reducible refine T_last_drawT (id := 7) Γ_ok drawsAny pl43_7 (by kernel_rfl) (fun K hK=>?_)|with_reducible refine T_seq_drawT (id := 8) Γ_ok drawsAny pl43_8 (by kernel_rfl) (fun K hK=>?_)|with_reducible refine T_last_drawT (id := 8) Γ_ok drawsAny pl43_8 (by kernel_rfl) (fun K hK=>?_)|((refine goU1 _ _ _ _ _ _ _ _ _ _ _ _ ?_ ?_ ?_ ?_ ?_ ?_ ?_ ?_ ?_ ?_ ?_ ?_) <;> (repeat intro hb) <;> first|exact True.intro|refine Lf.mk ?_)))
  refine ⟨n + 5,n + 6,_,_,_,⟨by omega,by omega,by omega,by simp [inn_len],by simp [inn_len],rfl,rfl,rfl,fun i hi h7 h8=>⟨?_,?_⟩,?_,?_,nthO_inT _ n _ 2,nthO_inT _ n _ 3,fun i j hi hj=>ed_snoc (L a) ⟨a,b,k,v⟩ hi hj,fun i j hi hj=>?_⟩⟩
  · show nthO (inn _ n ++ _) i = _
    rw [inn_at _ hi]; unfold updF; rw [if_neg h8, if_neg h7]
  · unfold updE; rw [if_neg (by omega), if_neg (by omega)]
  · unfold updE; rw [if_neg (by omega), if_pos (by simp)]; rfl
  · unfold updE; rw [if_pos (by simp)]; rfl
  · simp only [Int.zero_sub]
    exact ed_snoc (L b) ⟨b, a, k, v.neg⟩ hi hj
set_option maxRecDepth 100000 in
set_option maxHeartbeats 4000000 in
theorem join_raw1 (t : AObj) (s : Sc) (n : Nat) (L : Nat → List Ed) (a b : Nat) (ha : a < n) (hb : b < n) (hab : a ≠ b) (k : Int) (v : P6) (hv : Bd6 16 v) (hla : (L a).length ≤ 1000) (hlb : (L b).length ≤ 1000) (hn : n ≤ 200) :
    TC Try.prog 43 [.imm (.int .i64 a),.imm (.int .i64 b),.imm (.int .i64 k),p6A v,.optr 2 0 0] (fxG s n L ++ (inn (edF L) n ++ [t])) (JoinQ s n L a b ⟨a,b,k,v⟩ ⟨b,a,k,v.neg⟩) := by
  unfold Bd6 at hv
  have h1 := fun f tl => inn_at f ha tl
  have h2 := fun f tl => inn_at f hb tl
  have h3 := fun f x tl => inn_set f x ha tl
  have h4 := fun f x tl => inn_set f x hb tl
  have h5 : ∀ f x, updF f a x b = f b := fun f x => by unfold updF; rw [if_neg (by omega)]
  have h6 : ∀ x,updE (grE L) a 0 [x] b 0 = .own (b + 3) 0 (L b).length none := fun x => by unfold updE;rw [if_neg (by omega)];rfl
  (refine TC_of_T Γ_ok Try.func43 rfl (by kernel_rfl) ?_;simp only [Try.ntmps43,Try.results43,List.length_cons,List.length_nil,Nat.reduceSub,Nat.reduceAdd,List.replicate,List.cons_append,List.nil_append])
  (have sx1 : (0 : Nat) + 0 = 0 := rfl;((refine goU1 _ _ _ _ _ _ _ _ _ _ _ _ ?_ ?_ ?_ ?_ ?_ ?_ ?_ ?_ ?_ ?_ ?_ ?_) <;> (repeat intro hb) <;> first | exact True.intro | refine Lf.mk ?_))
  refine T_rounds 7 ?_
  (have sx1 := (And.intro h1 (And.intro h2 (And.intro h3 (And.intro h4 (And.intro h5 h6)))));repeat' (first|with_reducible refine T_seq_drawT (id := 7) Γ_ok drawsAny pl43_7 (by kernel_rfl) (fun K hK=>?_)|with_reducible refine T_last_drawT (id := 7) Γ_ok drawsAny pl43_7 (by kernel_rfl) (fun K hK=>?_)|with_reducible refine T_seq_drawT (id := 8) Γ_ok drawsAny pl43_8 (by kernel_rfl) (fun K hK=>?_)|with_reducible refine T_last_drawT (id := 8) Γ_ok drawsAny pl43_8 (by kernel_rfl) (fun K hK=>?_)|((refine goU1 _ _ _ _ _ _ _ _ _ _ _ _ ?_ ?_ ?_ ?_ ?_ ?_ ?_ ?_ ?_ ?_ ?_ ?_) <;> (repeat intro hb) <;> first|exact True.intro|refine Lf.mk ?_)))
  refine ⟨n + 6,n + 7,_,_,_,⟨by omega,by omega,by omega,by simp [inn_len],by simp [inn_len],rfl,rfl,rfl,fun i hi h7 h8=>⟨?_,?_⟩,?_,?_,nthO_inT _ n _ 3,nthO_inT _ n _ 4,fun i j hi hj=>ed_snoc (L a) ⟨a,b,k,v⟩ hi hj,fun i j hi hj=>?_⟩⟩
  · show nthO (inn _ n ++ _) i = _
    rw [inn_at _ hi]; unfold updF; rw [if_neg h8, if_neg h7]
  · unfold updE; rw [if_neg (by omega), if_neg (by omega)]
  · unfold updE; rw [if_neg (by omega), if_pos (by simp)]; rfl
  · unfold updE; rw [if_pos (by simp)]; rfl
  · simp only [Int.zero_sub]
    exact ed_snoc (L b) ⟨b, a, k, v.neg⟩ hi hj
end Go.Proofs.Ytmglcamgpgkblaa
