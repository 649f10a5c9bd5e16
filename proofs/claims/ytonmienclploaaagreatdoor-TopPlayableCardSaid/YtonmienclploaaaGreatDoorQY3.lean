/-
 Parts joined: B10 B11.
-/
import Derived.Test.YtonmienclploaaaGreatDoorQGo
import Derived.Test.YtonmienclploaaaGreatDoorQY2
set_option linter.unusedSimpArgs false
set_option linter.unusedVariables false
namespace Go.Proofs.YtonmienclploaaaGreatDoor.B
open Go.Ab
def p60 : P6 := ⟨0, 0, 0, 0, 0, 0⟩
def gv (l : List P6) (i : Nat) : P6 := l.getD i p60
def vtE (l : List P6) (i j : Nat) : AV := nth (p6L (gv l i)) j
@[go_sem] theorem vtE_0 (l : List P6) (i : Nat) : vtE l i 0 = .imm (.int .i64 (gv l i).a) := rfl
@[go_sem] theorem vtE_1 (l : List P6) (i : Nat) : vtE l i 1 = .imm (.int .i64 (gv l i).b) := rfl
@[go_sem] theorem vtE_2 (l : List P6) (i : Nat) : vtE l i 2 = .imm (.int .i64 (gv l i).c) := rfl
@[go_sem] theorem vtE_3 (l : List P6) (i : Nat) : vtE l i 3 = .imm (.int .i64 (gv l i).d) := rfl
@[go_sem] theorem vtE_4 (l : List P6) (i : Nat) : vtE l i 4 = .imm (.int .i64 (gv l i).e) := rfl
@[go_sem] theorem vtE_5 (l : List P6) (i : Nat) : vtE l i 5 = .imm (.int .i64 (gv l i).f) := rfl
@[simp] theorem vtE_pl (l : List P6) (i j : Nat) : Pl (vtE l i j) := by rcases j with _ | _ | _ | _ | _ | _ | j <;> trivial
@[simp] theorem vtE_free (l : List P6) (i j : Nat) : Free (vtE l i j) := Pl.free _ (vtE_pl l i j)
@[go_sem, reducible] def vts (l : List P6) : AV := .view l.length 6 (vtE l)
def gl (L : List (List Int)) (i : Nat) : List Int := L.getD i []
def olE (L : List (List Int)) (i : Nat) (_ : Nat) : AV := ints (gl L i)
@[simp] theorem olE_free (L : List (List Int)) (i j : Nat) : Free (olE L i j) := by simp [olE, ints, Free]
@[go_sem] theorem olE_us (L : List (List Int)) (i j : Nat) : olE L i j = .view (gl L i).length 1 (inE (gl L i)) := rfl
@[go_sem, reducible] def ols (L : List (List Int)) : AV := .view L.length 1 (olE L)
@[go_sem, reducible] def olO (L : List (List Int)) : AObj := .arr 26 1 L.length (olE L)
@[go_sem, reducible] def nilL : AV := .imm (.slice none 0 0)
theorem gl_snoc (L : List (List Int)) (l : List Int) (i : Nat) : gl (L ++ [l]) i = if i < L.length then gl L i else if i = L.length then l else [] := by
 unfold gl
 simp only [List.getD_eq_getElem?_getD]
 split
 ·rename_i h; rw [List.getElem?_append_left h]
 ·split
  ·rename_i h1 h2; subst h2; simp
  ·rename_i h1 h2; rw [List.getElem?_eq_none (by simp; omega)]; rfl
theorem wkOl {π : List Nat} {σ : List AObj} {L : List (List Int)} {l : List Int} {o : Nat} (hob : nthO σ o = .arr 3 1 l.length (inE l)) (ho : ∀ p ∈ π,p ≠ o ∧ (nthO σ p).alive = true) {x j : Nat} (hx : x < L.length + 1) (hj : j < 1) :
  WkV π σ (catE L.length (olE L) (fun i j => nth [.own o 0 l.length none] (i * 1 + j)) x j) (olE (L ++ [l]) x j) := by
 obtain rfl : j = 0 := by omega
 unfold catE
 by_cases h : x < L.length
 ·rw [if_pos h, show olE (L ++ [l]) x 0 = olE L x 0 by unfold olE; rw [gl_snoc, if_pos h]]
  exact WkV.free (olE_free _ _ _)
 ·rw [if_neg h]
  obtain rfl : x = L.length := by omega
  rw [Nat.sub_self, show olE (L ++ [l]) L.length 0 = ints l by unfold olE; rw [gl_snoc, if_neg h, if_pos rfl]]
  exact WkV.freeze hob (by omega) ho fun i j hi hj => by rw [Nat.zero_add]; exact WkV.free (inE_free _ _ _)
theorem take_gv {l : List P6} {i : Nat} (h : i < l.length) : l.take (i + 1) = l.take i ++ [gv l i] := by
 rw [List.take_add_one, List.getElem?_eq_getElem h]
 simp only [gv, List.getD_eq_getElem?_getD, List.getElem?_eq_getElem h, Option.getD_some, Option.toList_some]
theorem gv_mem {l : List P6} {i : Nat} (h : i < l.length) : gv l i ∈ l := by simp [gv, h]
theorem gl_mem {L : List (List Int)} {i : Nat} (h : i < L.length) : gl L i ∈ L := by simp [gl, h]
def worst (L : List (List Int)) : Int := if L.any (fun l => l.isEmpty) = true then 4 else 0
theorem worst_snoc (L : List (List Int)) (l : List Int) : worst (L ++ [l]) = if l.length = 0 then 4 else worst L := by
 unfold worst
 rw [List.any_append]
 cases l with
 | nil => simp
 | cons x l => simp
theorem limC_drop (n : Int) {L : List (List Int)} {i : Nat} (h : i < L.length) : (L.drop i).foldl capI n = (L.drop (i + 1)).foldl capI (capI n (gl L i)) := by
 rw [List.drop_eq_getElem_cons h, List.foldl_cons]
 simp only [gl, List.getD_eq_getElem?_getD, List.getElem?_eq_getElem h, Option.getD_some]
@[go_sem, reducible] def opO (b : Bd) : AObj := .box 46 (bdL b)
set_option maxRecDepth 100000 in
set_option maxHeartbeats 4000000 in
theorem options_raw (b : Bd) (vs : List P6) (hb : bdB b = true) (hv : vs.length * 48 ≤ 140737488351232) (σx : AObj) (hx : σx = opO b) : TC Tryz.prog 157 [bdA b,vts vs] [σx] (fun v σ' =>
  (v = .tup [nilL, .imm (.int .i64 (optR b vs).2)] ∧ (optR b vs).2 ≠ 0 ∧ nthO σ' 0 = σx ∧ 0 < σ'.length) ∨
  ∃ k,(v = .tup [.own k 0 (optR b vs).1.length none,.imm (.int .i64 0)] ∧ (optR b vs).2 = 0 ∧ nthO σ' k = olO (optR b vs).1 ∧ nthO σ' 0 = σx ∧ 0 < k ∧ k < σ'.length)) := by
 have hg := bdB_iff.1 hb
 have hl2 := hg.len
 subst hx
 (refine TC_of_T Γ_ok Tryz.func157 rfl (by kernel_rfl) ?_;simp only [Tryz.ntmps157,Tryz.results157,List.length_cons,List.length_nil,Nat.reduceSub,Nat.reduceAdd,List.replicate,List.cons_append,List.nil_append])
 (((refine goR0 _ _ _ _ _ _ _ _ ?_ ?_ ?_ ?_ ?_ ?_ ?_ ?_)<;>(repeat intro hb)<;>first|exact True.intro|refine Lf.mk ?_))
 refine T_loopW (fun m st => ∃ (i : Nat) (L : List (List Int)),i ≤ vs.length ∧ m + i = vs.length ∧ (∀ k,k < i → vOk (gv vs k) = true) ∧ L = (vs.take i).map (findL b) ∧ L.length = i ∧
   st = ⟨[bdA b,vts vs,.optr 1 0 0,.top,nilL,.imm (.int .i64 0),.own 2 0 L.length none,.imm (.int .i64 (worst L))] ++ List.replicate 7 .top ++ [vts vs,.imm (.int .i64 vs.length),.imm (.int .i64 i)] ++ List.replicate 43 .top,[opO b,opO b,olO L]⟩)
  vs.length ⟨_, Wk.trans (Wk.push 26 1 (olE [])) ?_, 0, [], by omega, rfl, fun k hk => by omega, rfl, rfl, rfl⟩ ?_
 ·((try refine sgl ?_);exact wkI [0,1,2])
 rintro m st ⟨i, L, h0, h1, hok, hL, hLl, rfl⟩
 by_cases hi : i < vs.length
 ·have hf := find_tc b (gv vs i) (by omega)
  unfold findR at hf
  by_cases hvi : vOk (gv vs i) = true
  ·rw [if_pos ⟨hb, hvi⟩] at hf
   simp only [] at hf
   have hfl := findL_len hg (gv vs i)
   have hw := worst_snoc L (findL b (gv vs i))
   have hL2 : L ++ [findL b (gv vs i)] = (vs.take (i + 1)).map (findL b) := by rw [take_gv hi,List.map_append,hL];rfl
   generalize findL b (gv vs i) = l at hf hfl hw hL2
   refine sgo ?_
   (have cm1 := hf;((refine goR0 _ _ _ _ _ _ _ _ ?_ ?_ ?_ ?_ ?_ ?_ ?_ ?_)<;>(repeat intro hb)<;>first|exact True.intro|refine Lf.mk ?_))
   ·refine ⟨vs.length - (i + 1),by omega,_,?_,i + 1,L ++ [l],by omega,by omega,fun k hk => ?_,hL2,by simp;omega,rfl⟩
    ·rw [hw, if_pos (by omega)]
     ((try refine sgl ?_);refine Wk.intro [0,1,6] (by decide) (by decide) wkH ?_ ?_ <;> repeat' (first|(exact wkOl rfl (by intro p hp;simp only [List.mem_cons,List.not_mem_nil,or_false] at hp;rcases hp with rfl|rfl|rfl <;> exact ⟨by decide,rfl⟩) (by simpa using hi) hj)|(refine WkV.imm ?_;congr 1;omega)|refine WkVL.cons ?_ ?_|exact wkT|refine WkV.agg ?_|refine WkV.tup ?_|refine WkV.fn ?_ ?_|exact WkO.dead|exact WkO.raw|refine WkO.ghost ?_|exact WkO.mpE rfl trivial|refine WkO.box ?_ rfl|refine WkO.arr ?_|refine And.intro ?_ (And.intro aF ?_)|exact trivial|(intro i j hi hj)))
    ·by_cases e : k = i
     ·rw [e]; exact hvi
     ·exact hok k (by omega)
   ·refine ⟨vs.length - (i + 1),by omega,_,?_,i + 1,L ++ [l],by omega,by omega,fun k hk => ?_,hL2,by simp;omega,rfl⟩
    ·rw [hw, if_neg (by omega)]
     ((try refine sgl ?_);refine Wk.intro [0,1,6] (by decide) (by decide) wkH ?_ ?_ <;> repeat' (first|(exact wkOl rfl (by intro p hp;simp only [List.mem_cons,List.not_mem_nil,or_false] at hp;rcases hp with rfl|rfl|rfl <;> exact ⟨by decide,rfl⟩) (by simpa using hi) hj)|(refine WkV.imm ?_;congr 1;omega)|refine WkVL.cons ?_ ?_|exact wkT|refine WkV.agg ?_|refine WkV.tup ?_|refine WkV.fn ?_ ?_|exact WkO.dead|exact WkO.raw|refine WkO.ghost ?_|exact WkO.mpE rfl trivial|refine WkO.box ?_ rfl|refine WkO.arr ?_|refine And.intro ?_ (And.intro aF ?_)|exact trivial|(intro i j hi hj)))
    ·by_cases e : k = i
     ·rw [e]; exact hvi
     ·exact hok k (by omega)
  ·rw [if_neg fun h => hvi h.2] at hf
   simp only [] at hf
   refine sgo ?_
   (have cm1 := hf;((refine goR0 _ _ _ _ _ _ _ _ ?_ ?_ ?_ ?_ ?_ ?_ ?_ ?_)<;>(repeat intro hb)<;>first|exact True.intro|refine Lf.mk ?_))
   have e : vs.all vOk = false := by
    rw [List.all_eq_false]
    exact ⟨_, gv_mem hi, hvi⟩
   unfold optR
   rw [if_pos e]
   exact .inl ⟨rfl, by simp⟩
 ·have e : vs.all vOk = true := by
   rw [List.all_eq_true]
   intro v hv
   obtain ⟨k, hk, rfl⟩ := List.mem_iff_getElem.1 hv
   have := hok k (by omega)
   simpa [gv, hk] using this
  have hL2 : L = optL b vs := by rw [hL, List.take_of_length_le (by omega)]; rfl
  have hlen : ∀ k, k < L.length → (gl L k).length ≤ 120 := fun k hk => by
   have := gl_mem hk
   generalize gl L k = l at this
   rw [hL2] at this
   obtain ⟨v, _, rfl⟩ := List.mem_map.1 this
   exact findL_len hg v
  unfold optR
  rw [if_neg (by rw [e]; simp)]
  rw [← hL2]
  by_cases hw : L.any (fun l => l.isEmpty) = true
  ·rw [if_pos hw, show worst L = 4 from if_pos hw]
   refine sgo ?_
   (((refine goR0 _ _ _ _ _ _ _ _ ?_ ?_ ?_ ?_ ?_ ?_ ?_ ?_)<;>(repeat intro hb)<;>first|exact True.intro|refine Lf.mk ?_))
  ·rw [if_neg hw, show worst L = 0 from if_neg hw]
   clear hw hL hL2
   refine sgo ?_
   (((refine goR0 _ _ _ _ _ _ _ _ ?_ ?_ ?_ ?_ ?_ ?_ ?_ ?_)<;>(repeat intro hb)<;>first|exact True.intro|refine Lf.mk ?_))
   refine T_loopW (fun m st => ∃ (k : Nat) (n : Int),k ≤ L.length ∧ m + k = L.length ∧ 0 ≤ n ∧ n ≤ 10001 ∧ (L.drop k).foldl capI n = limC L ∧
     st = ⟨[.top,vts vs,.top,.top,nilL,.imm (.int .i64 0),.own 2 0 L.length none,.top,.top,.top,.top,.top,.imm (.int .i64 n)] ++ List.replicate 28 .top ++ [.own 2 0 L.length none,.imm (.int .i64 L.length),.imm (.int .i64 k)] ++ List.replicate 17 .top,[opO b,.dead,olO L]⟩)
    L.length ⟨_, ?_, 0, 1, by omega, rfl, by omega, by omega, rfl, rfl⟩ ?_
   ·((try refine sgl ?_);exact wkI [0,1,2])
   rintro m2 st ⟨k, n, k0, k1, n0, n1, hn, rfl⟩
   by_cases hk : k < L.length
   ·have h3 := hlen k hk
    have h4 := limC_drop n hk
    have hp0 : 0 ≤ n * ((gl L k).length : Int) := Int.mul_nonneg n0 (by omega)
    have hp1 : n * ((gl L k).length : Int) ≤ 10001 * 120 := Int.mul_le_mul n1 (by omega) (by omega) (by omega)
    have hcap : capI n (gl L k) = if 10001 < n * ((gl L k).length : Int) then 10001 else n * ((gl L k).length : Int) := rfl
    have hcb : 0 ≤ capI n (gl L k) ∧ capI n (gl L k) ≤ 10001 := by rw [hcap]; split <;> omega
    have hwr : IntKind.i64.wrap (n * ((gl L k).length : Int)) = n * ((gl L k).length : Int) := wrapI (by omega) (by omega)
    refine sgo ?_
    (((refine goR0 _ _ _ _ _ _ _ _ ?_ ?_ ?_ ?_ ?_ ?_ ?_ ?_)<;>(repeat intro hb)<;>first|exact True.intro|refine Lf.mk ?_))
    refine ⟨L.length - (k + 1),by omega,_,?_,k + 1,capI n (gl L k),by omega,by omega,hcb.1,hcb.2,by rw [← h4];exact hn,rfl⟩
    ((try refine sgl ?_);refine Wk.intro [0,1,2] (by decide) (by decide) wkH ?_ ?_ <;> repeat' (first|(refine WkV.imm ?_;congr 1;first|omega|rw [hwr,hcap])|refine WkVL.cons ?_ ?_|exact wkT|refine WkV.agg ?_|refine WkV.tup ?_|refine WkV.fn ?_ ?_|exact WkO.dead|exact WkO.raw|refine WkO.ghost ?_|exact WkO.mpE rfl trivial|refine WkO.box ?_ rfl|refine WkO.arr ?_|refine And.intro ?_ (And.intro aF ?_)|exact trivial|(intro i j hi hj)))
   ·rw [List.drop_of_length_le (by omega)] at hn
    simp only [List.foldl_nil] at hn
    subst hn
    refine sgo ?_
    (((refine goR0 _ _ _ _ _ _ _ _ ?_ ?_ ?_ ?_ ?_ ?_ ?_ ?_)<;>(repeat intro hb)<;>first|exact True.intro|refine Lf.mk ?_))
    ·rw [if_pos (by omega)]
     exact .inl ⟨rfl, by simp⟩
    ·rw [if_neg (by omega)]
     exact .inr ⟨2, rfl, rfl, rfl, by omega, by omega⟩
end Go.Proofs.YtonmienclploaaaGreatDoor.B
namespace Go.Proofs.YtonmienclploaaaGreatDoor.B
open Go.Ab
def hasB (l : List Int) (x : Int) : Bool := l.any (fun y => decide (y = x))
theorem hasB_drop {l : List Int} (x : Int) {i : Nat} (h : i < l.length) : hasB (l.drop i) x = (decide (gi l i = x) || hasB (l.drop (i + 1)) x) := by
 rw [List.drop_eq_getElem_cons h, hasB, List.any_cons]
 simp only [gi, List.getD_eq_getElem?_getD, List.getElem?_eq_getElem h, Option.getD_some, hasB]
theorem hasB_iff {l : List Int} {x : Int} : hasB l x = true ↔ x ∈ l := by simp [hasB]
set_option maxRecDepth 100000 in
set_option maxHeartbeats 4000000 in
theorem index_tc (l : List Int) (x : Int) (hl : l.length ≤ 9223372036854775807) : TC Tryz.prog 25 [ints l,.imm (.int .i64 x)] [] (fun v σ'=>∃ k : Int,v = .imm (.int .i64 k) ∧ σ' = [] ∧ (0 ≤ k ↔ hasB l x = true)) := by
 (refine TC_of_T Γ_ok Tryz.func25 rfl (by kernel_rfl) ?_;simp only [Tryz.ntmps25,Tryz.results25,List.length_cons,List.length_nil,Nat.reduceSub,Nat.reduceAdd,List.replicate,List.cons_append,List.nil_append])
 (((refine goR0 _ _ _ _ _ _ _ _ ?_ ?_ ?_ ?_ ?_ ?_ ?_ ?_)<;>(repeat intro hb)<;>first|exact True.intro|refine Lf.mk ?_))
 refine T_loopW (fun m st => ∃ i : Nat, i ≤ l.length ∧ m + i = l.length ∧ hasB l x = hasB (l.drop i) x ∧
   st = ⟨[ints l,.imm (.int .i64 x),.top,.top,.imm (.int .i64 0),.top,.top,.imm (.int .i64 l.length),.imm (.int .i64 i)] ++ List.replicate 10 .top,[]⟩)
   l.length ⟨_, ?_, 0, by omega, rfl, rfl, rfl⟩ ?_
 ·((try refine sgl ?_);exact wkI [])
 rintro m st ⟨i, h0, h1, h2, rfl⟩
 refine sgo ?_
 (((refine goR0 _ _ _ _ _ _ _ _ ?_ ?_ ?_ ?_ ?_ ?_ ?_ ?_)<;>(repeat intro hb)<;>first|exact True.intro|refine Lf.mk ?_))
 ·refine ⟨i, rfl, ⟨fun _ => ?_, fun _ => by omega⟩⟩
  rw [h2, hasB_drop x (by omega)]; simp [hb]
 ·refine ⟨l.length - (i + 1), by omega, _, ?_, i + 1, by omega, by omega, ?_, rfl⟩
  ·((try refine sgl ?_);refine Wk.intro [] (by decide) (by decide) wkH ?_ ?_ <;> repeat' (first|(refine WkV.imm ?_;congr 1;omega)|refine WkVL.cons ?_ ?_|exact wkT|refine WkV.agg ?_|refine WkV.tup ?_|refine WkV.fn ?_ ?_|exact WkO.dead|exact WkO.raw|refine WkO.ghost ?_|exact WkO.mpE rfl trivial|refine WkO.box ?_ rfl|refine WkO.arr ?_|refine And.intro ?_ (And.intro aF ?_)|exact trivial|(intro i j hi hj)))
  ·rw [h2, hasB_drop x (by omega)]; simp [Ne.symm hb]
 ·refine ⟨-1, rfl, ⟨fun h => by omega, fun h => ?_⟩⟩
  rw [h2, List.drop_of_length_le (by omega)] at h
  cases h
set_option maxRecDepth 100000 in
set_option maxHeartbeats 4000000 in
theorem contains_tc (l : List Int) (x : Int) (hl : l.length ≤ 9223372036854775807) : Look Tryz.prog 7 [ints l,.imm (.int .i64 x)] (.imm (.bool (hasB l x))) := by
 refine Look.mk trivial ?_
 (refine TC_of_T Γ_ok Tryz.func7 rfl (by kernel_rfl) ?_;simp only [Tryz.ntmps7,Tryz.results7,List.length_cons,List.length_nil,Nat.reduceSub,Nat.reduceAdd,List.replicate,List.cons_append,List.nil_append])
 repeat' (first
  | (with_reducible refine hK _ ?_; clear hK K)
  | (refine callGoal_mk trivial (index_tc l x hl) ?_;rintro v σ' ⟨k,rfl,rfl,hx⟩;try refine sgo ?_)
  | ((with_reducible apply DC_call);(focus exact rfl);(focus exact rfl);(focus exact rfl);intro N hN;refine sgo ?_)
  | ((with_reducible first|refine T_seq_region Γ_ok (fun K hK=>?_)|refine T_last_region Γ_ok (fun K hK=>?_)|refine TO_callN rfl (fun N hN=>?_)|refine DCT_fork Γ_ok (fun K2 hK2=>?_)|refine DCT_last Γ_ok ?_|refine DC_ev Γ_ok ?_|refine TO_ev Γ_ok ?_|refine retQ_r ?_|refine retQ_n ?_);refine sgo ?_)
  | (with_reducible refine hK2 _ ?_ ?_ <;> clear hK2 K2)
  | with_reducible first|refine gC_false ?_|refine gC_true ?_|refine dCall_true ?_
  | (with_reducible refine hN _ _ ?_; clear hN N)
  | (with_reducible refine hN _ _ (dInl rfl) ?_; clear hN N)
  | ((with_reducible refine hN _ _ (.inr ?_) ?_);(focus (refine sgo ?_;try exact True.intro));all_goals (try clear hN N))
  | with_reducible first|refine T_seq ?_|refine T_block ?_|refine T_ret ?_|refine T_exit ?_|refine T_skip ?_|refine T_label ?_
  | with_reducible first|refine thenQ_n ?_|refine thenQ_e ?_|refine thenQ_r ?_|refine blockQ_n ?_|refine blockQ_e ?_|refine blockQ_r ?_
  | with_reducible refine blockQ_o (by decide) ?_
  | ((with_reducible refine T_cond _ rfl (fun hb=>?_) (fun hb=>?_)) <;> first|(cases hb;done)|replace hb:=sgh hb|skip)
  | (with_reducible refine And.intro aG ?_)
  | assumption | omega | exact True.intro)
 congr 2
 cases hq : hasB l x with
 | false => rw [hq] at hx; simp at hx ⊢; omega
 | true => rw [hq] at hx; simp at hx ⊢; omega
@[go_sem, reducible] def kV (b : Bd) : AV := .vmap (.int .i64) ((idE b.ks).map (·.1)) ((idE b.ks).map (·.2))
theorem zip_fs (l : List (Value × AV)) : (l.map (·.1)).zip (l.map (·.2)) = l := by
 induction l with
 | nil => rfl
 | cons p l ih => simp [ih]
set_option maxRecDepth 100000 in
set_option maxHeartbeats 4000000 in
theorem reached_tc (b : Bd) (hg : Good b) (c : List Int) (hd : diffP b c) (h12 : c.length ≤ 12) : Look Tryz.prog 159 [kV b,ints c,.imm (.int .i64 b.span)] (.imm (.bool (okC b c))) := by
 have hcl := diff_len hg hd
 have hf : FreeL ((idE b.ks).map (·.2)) := idE_free _
 have hz := zip_fs (idE b.ks)
 refine Look.mk trivial ?_
 (refine TC_of_T Γ_ok Tryz.func159 rfl (by kernel_rfl) ?_;simp only [Tryz.ntmps159,Tryz.results159,List.length_cons,List.length_nil,Nat.reduceSub,Nat.reduceAdd,List.replicate,List.cons_append,List.nil_append])
 (((refine goR0 _ _ _ _ _ _ _ _ ?_ ?_ ?_ ?_ ?_ ?_ ?_ ?_)<;>(repeat intro hb)<;>first|exact True.intro|refine Lf.mk ?_))
 refine T_loopW (fun m st => ∃ (i : Nat) (o : List Ky),i ≤ c.length ∧ m + i = c.length ∧ o = (c.take i).map (keyD b) ∧ o.length = i ∧
   st = ⟨[kV b,ints c,.imm (.int .i64 b.span),.top,.top,.top,.imm (.bool false),.own 0 0 o.length none,.top,.top,ints c,.imm (.int .i64 c.length),.imm (.int .i64 i)] ++ List.replicate 16 .top,[elO o.length o.toArray]⟩)
  c.length ⟨_, Wk.trans (Wk.push 96 9 (elE #[])) ?_, 0, [], by omega, rfl, rfl, rfl, rfl⟩ ?_
 ·((try refine sgl ?_);refine Wk.intro [0] (by decide) (by decide) wkH ?_ ?_ <;> repeat' (first|(exact WkV.free hf)|refine WkVL.cons ?_ ?_|exact wkT|refine WkV.agg ?_|refine WkV.tup ?_|refine WkV.fn ?_ ?_|exact WkO.dead|exact WkO.raw|refine WkO.ghost ?_|exact WkO.mpE rfl trivial|refine WkO.box ?_ rfl|refine WkO.arr ?_|refine And.intro ?_ (And.intro aF ?_)|exact trivial|(intro i j hi hj)))
 rintro m st ⟨i, o, h0, h1, ho, hoi, rfl⟩
 by_cases hi : i < c.length
 ·have hk := keyD_mem hd (gi_mem hi)
  have hmg := mget_idE (gi c i) b.ks
  rw [show keyOf b.ks (gi c i) = some (keyD b (gi c i)) by
   obtain ⟨k, e⟩ := Option.isSome_iff_exists.1 (hd.2 _ (gi_mem hi))
   unfold keyD; rw [e]; rfl] at hmg
  have ho2 : o ++ [keyD b (gi c i)] = (c.take (i + 1)).map (keyD b) := by rw [take_gi hi, List.map_append, ho]; rfl
  generalize keyD b (gi c i) = k at hmg ho2
  have hm : ∀ z, mval (idE b.ks) z (.int .i64 (gi c i)) = kyA k := fun z => by unfold mval; rw [hmg]; rfl
  have hsn := fun p q => el_snoc o k (i := p) (j := q)
  refine sgo ?_
  (have sx1 := hz;have sx2 := hm;((obtain ⟨sx3,sx4,sx5,sx6,sx7,sx8,sx9⟩:=sx0_7;refine goR9 _ _ _ _ _ _ _ _ ?_ ?_ ?_ ?_ ?_ ?_ ?_ ?_)<;>(repeat intro hb)<;>first|exact True.intro|refine Lf.mk ?_))
  refine ⟨c.length - (i + 1), by omega, _, ?_, i + 1, o ++ [k], by omega, by omega, ho2, by simp; omega, rfl⟩
  ((try refine sgl ?_);refine Wk.intro [2] (by decide) (by decide) wkH ?_ ?_ <;> repeat' (first|(exact WkV.free hf)|(refine WkV.imm ?_;congr 1;omega)|(exact WkV.eqF (hsn _ _ (by simpa using hi) hj) (by simp))|refine WkVL.cons ?_ ?_|exact wkT|refine WkV.agg ?_|refine WkV.tup ?_|refine WkV.fn ?_ ?_|exact WkO.dead|exact WkO.raw|refine WkO.ghost ?_|exact WkO.mpE rfl trivial|refine WkO.box ?_ rfl|refine WkO.arr ?_|refine And.intro ?_ (And.intro aF ?_)|exact trivial|(intro i j hi hj)))
 ·have hie : i = c.length := by omega
  rw [hie, List.take_length] at ho
  have hS : sortK o = ordK b c := by rw [ho]; exact sortK_ord hg hd
  have hSl : (ordK b c).length = o.length := by rw [← hS, sortK_len]
  have hdv := divide_tc (ordK b c) b.span (by omega) (ordK_x hg c)
  have hv5 : ∀ i j,i < o.length → j < 9 → elE (Go.Sort.sort ltE o.toArray) i j = kyE (ordK b c) i j := fun i j _ _ => by rw [elE_sort,hS]
  have hst := sortF_tu o.length o.toArray (by simp) (by omega)
  unfold okC
  generalize ordK b c = S at *
  generalize Go.Sort.sort ltE o.toArray = A at *
  unfold kys at hdv
  rw [hSl] at hdv
  refine sgo ?_
  (have ct1 := TurnsAt.mk [0] (hst);have dl1 := hdv;((refine goR0 _ _ _ _ _ _ _ _ ?_ ?_ ?_ ?_ ?_ ?_ ?_ ?_)<;>(repeat intro hb)<;>first|exact True.intro|refine Lf.mk ?_))
end Go.Proofs.YtonmienclploaaaGreatDoor.B
