/-
  chain.newGraph: plain facts; states with one object for each note.
-/
import Derived.Test.YtmglcamgpgkblaaQB6
import Derived.Test.YtmglcamgpgkblaaQK10
set_option linter.unusedSimpArgs false
set_option linter.unusedVariables false
namespace Go.Proofs.Ytmglcamgpgkblaa
open Go.Ab
theorem ltE_iff {x y : Ed} : ltE x y = true ↔ x.to < y.to := by
  unfold ltE cmpE; rw [decide_eq_true_eq, cmpI_lt]
theorem swoE : Go.Sort.SWO ltE := by
  refine ⟨fun x => ?_, fun x y z h1 h2 => ?_, fun x y z h1 h2 => ?_⟩
  · cases h : ltE x x with
    | false => rfl
    | true => rw [ltE_iff] at h; omega
  · rw [ltE_iff] at h1 h2 ⊢; omega
  · cases h : ltE x z with
    | false => rfl
    | true =>
      have h1' : ¬ ltE x y = true := by simp [h1]
      have h2' : ¬ ltE y z = true := by simp [h2]
      rw [ltE_iff] at h h1' h2'
      omega
def sortE (l : List Ed) : List Ed := (Go.Sort.sort ltE l.toArray).toList
theorem sortE_perm (l : List Ed) : (sortE l).Perm l := by
  have h := (Go.Sort.sort_sorts ltE swoE l.toArray).1
  have h1 := h.1
  have h2 := h.2.2
  rw [show (Go.Sort.sort ltE l.toArray).extract 0 l.toArray.size = Go.Sort.sort ltE l.toArray by rw [← h1];simp,show l.toArray.extract 0 l.toArray.size = l.toArray by simp] at h2
  exact h2
theorem sortE_sorted (l : List Ed) : (sortE l).Pairwise fun x y => ltE y x = false := by
  have h := Go.Sort.sort_sorts ltE swoE l.toArray
  have h1 := h.1.1
  have h2 := h.2
  unfold sortE
  rw [List.pairwise_iff_getElem]
  intro i j hi hj hij
  have := h2 i j (by omega) hij (by rw [← h1]; simpa using hj)
  simp only [Array.length_toList] at hi hj
  simpa [getElem!_pos, hi, hj] using this
theorem sortE_len (l : List Ed) : (sortE l).length = l.length := (sortE_perm l).length_eq
theorem elE_sort (l : List Ed) (i j : Nat) : elE (Go.Sort.sort ltE l.toArray) i j = edE (sortE l) i j := by
  unfold elE edE gE sortE
  congr 2
  simp [getElem!_def, Array.getElem?_toList, List.getD_eq_getElem?_getD]
  rfl
theorem elE_list (l : List Ed) (i j : Nat) : elE l.toArray i j = edE l i j := by
  unfold elE edE gE
  congr 2
  simp [getElem!_def, List.getD_eq_getElem?_getD]
  rfl
def mkEd (a : Nat) (r : Ro) : Ed := ⟨a, r.1, r.2.1, r.2.2⟩
def rowE (s : Sc) (a : Nat) : List Ed := (row (stepR s) s.notes.length a).map (mkEd a)
def jL (J : List Jo) (a : Nat) : List Ed := (joR J a).map (mkEd a)
theorem sort_row {s : Sc} (h : ScOk s) (a : Nat) : sortE (jL (allJ s) a) = rowE s a := by
  have h1 := sortE_perm (jL (allJ s) a)
  have h2 := sortE_sorted (jL (allJ s) a)
  generalize sortE (jL (allJ s) a) = l at h1 h2
  have h3 : ∀ e ∈ l, mkEd a (e.to.toNat, e.k, e.v) = e := fun e he => by
    obtain ⟨r, _, rfl⟩ := List.mem_map.1 (h1.mem_iff.1 he)
    simp [mkEd]
  have h4 : l = (l.map fun e => (e.to.toNat, e.k, e.v)).map (mkEd a) := by
    rw [List.map_map]
    conv => lhs; rw [← List.map_id l]
    exact List.map_congr_left fun e he => (h3 e he).symm
  rw [h4]
  unfold rowE
  congr 1
  refine row_uniq h a ?_ ?_
  · have := h1.map fun e : Ed => ((e.to.toNat, e.k, e.v) : Ro)
    refine this.trans ?_
    unfold jL
    rw [List.map_map]
    have e : ((fun e : Ed => ((e.to.toNat, e.k, e.v) : Ro)) ∘ mkEd a) = id := by
      funext r; simp [mkEd]
    rw [e, List.map_id]
  · rw [List.pairwise_map]
    refine List.Pairwise.imp_of_mem (fun {x y} hx hy hxy => ?_) h2
    have hx2 := h3 x hx
    have hy2 := h3 y hy
    have hc : ¬ ltE y x = true := by rw [hxy]; simp
    rw [ltE_iff] at hc
    rw [← hx2, ← hy2] at hc
    simp only [mkEd] at hc
    omega
theorem jL_snoc (J : List Jo) {j : Jo} (hne : j.a ≠ j.b) (i : Nat) : jL (J ++ [j]) i = if i = j.a then jL J i ++ [⟨j.a,j.b,j.k,j.v⟩] else if i = j.b then jL J i ++ [⟨j.b,j.a,j.k,j.v.neg⟩] else jL J i := by
  unfold jL
  rw [joR_snoc]
  by_cases h1 : i = j.a
  · subst h1
    have e : joT j.a j = some (j.b, j.k, j.v) := by unfold joT; rw [if_pos rfl]
    rw [e, if_pos rfl]; simp [mkEd]
  · by_cases h2 : i = j.b
    · subst h2
      have e : joT j.b j = some (j.a, j.k, j.v.neg) := by unfold joT; rw [if_neg hne, if_pos rfl]
      rw [e, if_neg h1, if_pos rfl]; simp [mkEd]
    · have e : joT i j = none := by unfold joT; rw [if_neg (fun e => h1 e.symm), if_neg (fun e => h2 e.symm)]
      rw [e, if_neg h1, if_neg h2]
theorem joR_len (J : List Jo) (a : Nat) : (joR J a).length ≤ J.length := List.length_filterMap_le _ _
theorem jL_len (J : List Jo) (a : Nat) : (jL J a).length ≤ J.length := by unfold jL;rw [List.length_map];exact joR_len J a
theorem tiesJ_len (s : Sc) (m : Nat) : (tiesJ s m).length ≤ m := by
  unfold tiesJ; exact Nat.le_trans (List.length_filterMap_le _ _) (by simp)
theorem tiesJ_succ (s : Sc) (m : Nat) : tiesJ s (m + 1) = match befN s m with | some b => tiesJ s m ++ [⟨b,m,1,z6⟩] | none => tiesJ s m := by
  unfold tiesJ
  rw [List.range_succ, List.filterMap_append]
  cases h : befN s m <;> simp [h]
theorem pairsJ_len (l : List Pr) : (pairsJ l).length ≤ l.length := by unfold pairsJ;rw [List.length_map];exact List.length_filter_le _ _
theorem pairsJ_succ {l : List Pr} {i : Nat} (h : i < l.length) : pairsJ (l.take (i + 1)) = if (gp l i).bound = 0 then pairsJ (l.take i) ++ [⟨(gp l i).a.toNat,(gp l i).b.toNat,2,(gp l i).want⟩] else pairsJ (l.take i) := by
  have e : l.take (i + 1) = l.take i ++ [gp l i] := by rw [List.take_add_one]; simp [gp, h]
  rw [e]
  unfold pairsJ
  rw [List.filter_append, List.map_append]
  by_cases hb : (gp l i).bound = 0 <;> simp [hb]
theorem inn_succ (f : Nat → AObj) (m : Nat) : inn f (m + 1) = inn f m ++ [f m] := by unfold inn;rw [List.range_succ,List.map_append];rfl
theorem wk_pushes {n : Nat} {env : List AV} {σ : List AObj} (ety : TypeId) (esz : Nat) (g : Nat → Nat → AV) : ∀ m,Wk n ⟨env,σ⟩ ⟨env,σ ++ inn (fun _ => .arr ety esz 0 g) m⟩
  | 0 => by rw [show inn (fun _ => AObj.arr ety esz 0 g) 0 = [] from rfl, List.append_nil]; exact Wk.refl _
  | m + 1 => by
    rw [inn_succ, ← List.append_assoc]
    exact Wk.trans (wk_pushes ety esz g m) (Wk.push ety esz g)
def qπ (q : Nat → Nat) (n : Nat) : List Nat := [0, 1, 2] ++ (List.range n).map q
theorem qπ_get (q : Nat → Nat) {n i : Nat} (h : i < n) : (qπ q n)[i + 3]? = some (q i) := by
  unfold qπ
  rw [List.getElem?_append_right (by simp)]
  simp [h]
theorem wk_inn {st : St} {env2 : List AV} {x0 x1 x2 : AObj} {f : Nat → AObj} {m : Nat} (q : Nat → Nat) (h3 : ∀ i,i < m → 3 ≤ q i ∧ q i < st.σ.length) (hinj : ∀ i j,i < m → j < m → q i = q j → i = j) (hl : 3 ≤ st.σ.length)
    (henv : WkVL (qπ q m) st.σ st.env env2) (hfx : WkOL (qπ q m) st.σ [0, 1, 2] [x0, x1, x2])
    (hin : ∀ i,i < m → WkO (qπ q m) st.σ (nthO st.σ (q i)) (f i) ∧ ((f i).alive = true → (nthO st.σ (q i)).alive = true)) : Wk 0 st ⟨env2,x0 :: x1 :: x2 :: inn f m⟩ := by
  refine Wk.intro (qπ q m) rfl ?_ ?_ henv (WkOL.append (s := [x0, x1, x2]) hfx (WkOL.of_get ?_ ?_))
  · unfold qπ
    rw [List.nodup_append]
    refine ⟨by decide, ?_, fun a ha b hb e => ?_⟩
    · refine List.pairwise_map.2 (List.Pairwise.imp_of_mem (R := fun a b => a ≠ b) (fun {a b} ha hb hab e => hab (hinj a b (List.mem_range.1 ha) (List.mem_range.1 hb) e)) List.nodup_range)
    · obtain ⟨i, hi, rfl⟩ := List.mem_map.1 hb
      have := (h3 i (List.mem_range.1 hi)).1
      simp at ha; omega
  · intro o ho
    unfold qπ at ho
    rcases List.mem_append.1 ho with ho | ho
    · simp at ho; omega
    · obtain ⟨i, hi, rfl⟩ := List.mem_map.1 ho
      exact (h3 i (List.mem_range.1 hi)).2
  · simp [inn_len]
  · intro i o a h1 h2
    by_cases hi : i < m
    · simp only [List.getElem?_map, List.getElem?_range hi, Option.map_some, Option.some.injEq] at h1
      unfold inn at h2
      simp only [List.getElem?_map, List.getElem?_range hi, Option.map_some, Option.some.injEq] at h2
      subst h1; subst h2
      exact hin i hi
    · rw [List.getElem?_eq_none (by simp; omega)] at h1; cases h1
theorem JoinS.wk {s : Sc} {n : Nat} {L L2 : Nat → List Ed} {a b : Nat} {x y : Ed} {σ' : List AObj} {k1 k2 : Nat} {E E1 E2 : Nat → Nat → AV} (h : JoinS s n L a b x y σ' k1 k2 E E1 E2) (ha : a < n) (hb : b < n) (hab : a ≠ b)
    (hL : ∀ i,i < n → L2 i = if i = a then L i ++ [x] else if i = b then L i ++ [y] else L i) (hσ : n + 3 ≤ σ'.length) {env env2 : List AV} (henv : ∀ π : List Nat,π[0]? = some 0 → π[1]? = some 1 → π[2]? = some 2 → WkVL π σ' env env2) :
    Wk 0 ⟨env, σ'⟩ ⟨env2, fxG s n L2 ++ inn (edF L2) n⟩ := by
  let q : Nat → Nat := fun i => if i = a then k1 else if i = b then k2 else i + 3
  have qa : q a = k1 := if_pos rfl
  have qb : q b = k2 := by show (if b = a then k1 else if b = b then k2 else b + 3) = k2;rw [if_neg (by omega),if_pos rfl]
  have qr : ∀ i,i ≠ a → i ≠ b → q i = i + 3 := fun i h1 h2 => by show (if i = a then k1 else if i = b then k2 else i + 3) = i + 3;rw [if_neg h1,if_neg h2]
  have h1 := h.le1
  have h2 := h.le2
  have h3 := h.lt1
  have h4 := h.lt2
  have h5 := h.ne
  have La : L2 a = L a ++ [x] := by rw [hL a ha, if_pos rfl]
  have Lb : L2 b = L b ++ [y] := by rw [hL b hb, if_neg (by omega), if_pos rfl]
  have Lr : ∀ i, i < n → i ≠ a → i ≠ b → L2 i = L i := fun i hi h1 h2 => by rw [hL i hi, if_neg h1, if_neg h2]
  refine wk_inn q (fun i hi => ?_) (fun i j hi hj e => ?_) (by show 3 ≤ σ'.length;omega) (henv _ rfl rfl rfl) ?_ (fun i hi => ?_)
  · show 3 ≤ q i ∧ q i < σ'.length
    by_cases e1 : i = a
    · subst e1; rw [qa]; omega
    · by_cases e2 : i = b
      · subst e2; rw [qb]; omega
      · rw [qr i e1 e2]; omega
  · by_cases i1 : i = a
    · by_cases j1 : j = a
      · omega
      · by_cases j2 : j = b
        · subst i1; subst j2; rw [qa, qb] at e; omega
        · subst i1; rw [qa, qr j j1 j2] at e; omega
    · by_cases i2 : i = b
      · by_cases j1 : j = a
        · subst i2; subst j1; rw [qa, qb] at e; omega
        · by_cases j2 : j = b
          · omega
          · subst i2; rw [qb, qr j j1 j2] at e; omega
      · by_cases j1 : j = a
        · subst j1; rw [qa, qr i i1 i2] at e; omega
        · by_cases j2 : j = b
          · subst j2; rw [qb, qr i i1 i2] at e; omega
          · rw [qr i i1 i2, qr j j1 j2] at e; omega
  · refine ⟨?_,fun _=>by show (nthO σ' 0).alive = true;rw [h.o0];rfl,?_,fun _=>by show (nthO σ' 1).alive = true;rw [h.o1];rfl,?_,fun _=>by show (nthO σ' 2).alive = true;rw [h.o2];rfl,trivial⟩
    · show WkO _ _ (nthO σ' 0) _
      rw [h.o0]
      refine WkO.box ?_ rfl
      refine WkVL.cons (WkV.imm rfl) (WkVL.cons (WkV.free (by simp [Free])) (WkVL.cons (WkV.free (by simp [Free])) (WkVL.cons (WkV.free (by simp [Free])) WkVL.nil)))
    · show WkO _ _ (nthO σ' 1) _
      rw [h.o1]
      refine WkO.arr fun i j hi hj => ?_
      obtain rfl : j = 0 := by omega
      rw [grE_us]
      by_cases e1 : i = a
      · subst e1
        rw [h.ea, La, List.length_append]
        exact WkV.own (by rw [qπ_get q ha, qa]) (by simp)
      · by_cases e2 : i = b
        · subst e2
          rw [h.eb, Lb, List.length_append]
          exact WkV.own (by rw [qπ_get q hb, qb]) (by simp)
        · rw [(h.rest i hi e1 e2).2, Lr i hi e1 e2]
          exact WkV.own (by rw [qπ_get q hi, qr i e1 e2]) (by simp)
    · show WkO _ _ (nthO σ' 2) _
      rw [h.o2]
      exact WkO.box (WkVL.cons (WkV.own rfl (by simp)) WkVL.nil) rfl
  · show WkO _ _ (nthO σ' (q i)) _ ∧ (_ → (nthO σ' (q i)).alive = true)
    by_cases e1 : i = a
    · subst e1
      rw [qa, h.oa]
      refine ⟨?_, fun _ => rfl⟩
      show WkO _ _ _ (edO (L2 i))
      rw [La]
      unfold edO
      rw [List.length_append]
      exact WkO.arr fun p r hp hr => WkV.eqF (h.ta p r hp hr) (edE_free _ _ _)
    · by_cases e2 : i = b
      · subst e2
        rw [qb, h.ob]
        refine ⟨?_, fun _ => rfl⟩
        show WkO _ _ _ (edO (L2 i))
        rw [Lb]
        unfold edO
        rw [List.length_append]
        exact WkO.arr fun p r hp hr => WkV.eqF (h.tb p r hp hr) (edE_free _ _ _)
      · rw [qr i e1 e2, (h.rest i hi e1 e2).1]
        refine ⟨?_, fun _ => rfl⟩
        show WkO _ _ _ (edO (L2 i))
        rw [Lr i hi e1 e2]
        exact WkO.arr fun p r hp hr => WkV.free (edE_free _ _ _)
end Go.Proofs.Ytmglcamgpgkblaa
