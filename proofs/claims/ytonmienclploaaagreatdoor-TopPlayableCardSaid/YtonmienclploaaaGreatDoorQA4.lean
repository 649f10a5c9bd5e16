/-
 Parts joined: Ab15 Ab16.
-/
import Derived.Test.YtonmienclploaaaGreatDoorQA3
set_option linter.unusedSimpArgs false
set_option linter.unusedVariables false
namespace Go.Ab
def edgesOf (o : Oper) : List Nat := (o.after.toList.filter (Region.binds .any)).map (·.on)
def isLoud (o : Oper) : Bool := isCall o.op || (loud o.op && (bsV o.op).isNone)
inductive Anc (l : List Oper) : Nat → Nat → Prop
 | one {i e : Nat} {o : Oper} (h : l[i]? = some o) (he : e ∈ edgesOf o) : Anc l e i
 | step {i e j : Nat} {o : Oper} (h : l[i]? = some o) (he : e ∈ edgesOf o) (hj : Anc l j e) : Anc l j i
structure Plan (l : List Oper) (pl : List (Nat × List Nat)) : Prop where
 nodup : (pl.map (·.1)).Nodup
 all : ∀ i, i < l.length ↔ i ∈ pl.map (·.1)
 lin : ∀ (k : Nat) (i : Nat) (rs : List Nat) (o : Oper) (e : Nat),pl[k]? = some (i,rs) → l[i]? = some o → e ∈ edgesOf o → ∃ (k' : Nat) (rs' : List Nat),k' < k ∧ pl[k']? = some (e,rs')
 dst : ∀ (i j : Nat) (oi oj : Oper) (d : Nat),l[i]? = some oi → l[j]? = some oj → oi.dst = some d → oj.dst = some d → i = j
 look : ∀ (i j : Nat) (oi oj : Oper) (d : Nat),l[i]? = some oi → l[j]? = some oj → oj.dst = some d → d ∈ looksL l oi → Anc l j i ∨
  (Anc l i j ∧ ∀ (kj kb b : Nat) (rj rb : List Nat) (ob : Oper),kj < kb → pl[kj]? = some (j,rj) → pl[kb]? = some (b,rb) → l[b]? = some ob → isLoud ob = true → Anc l i b)
 ord : ∀ (k k' a b : Nat) (ra rb : List Nat) (oa ob : Oper),k < k' → pl[k]? = some (a,ra) → pl[k']? = some (b,rb) → l[a]? = some oa → l[b]? = some ob →
  (isLoud ob = true → isLoud oa = false → Anc l a b ∨ a ∈ rb) ∧ (isLoud ob = false → isLoud oa = true → Anc l a b ∨ ∃ (k2 a2 : Nat) (r2 : List Nat) (o2 : Oper),k < k2 ∧ pl[k2]? = some (a2,r2) ∧ l[a2]? = some o2 ∧ isLoud o2 = true ∧ Anc l a2 b)
def retroOk (Γ : Tab) (ops : List Oper) (st : St) : List Nat → Prop
 | [] => True
 | q :: qs =>
  (match nthOp ops q with
   | some o =>
    (match evV Γ ops st o with
     | some (u, σ', C) => C ∧ σ' = st.σ ∧ (match o.dst with | some d => u = nth st.env d | none => True)
     | none => False)
   | none => False) ∧ retroOk Γ ops st qs
def DC (P : Program) (Γ : Tab) (n : Nat) (ops : List Oper) (K : St → Prop) : List (Nat × List Nat) → St → Prop
 | [], st => K st
 | (i,rs) :: rest,st=>∃ o v σ',nthOp ops i = some o ∧ Does P n ops o st v σ' ∧ (isLoud o = false → σ' = st.σ) ∧ (σ' = st.σ ∨ retroOk Γ ops ⟨setE st.env o.dst v,σ'⟩ rs) ∧ DC P Γ n ops K rest ⟨setE st.env o.dst v,σ'⟩
section
variable {P : Program} {Γ : Tab} {n : Nat}
theorem nth_get : ∀ (l : List AV) (t : Nat), nth l t = (l[t]?).getD .top
 | [], t => by simp [nth]
 | _ :: _, 0 => by simp [nth]
 | _ :: xs, t + 1 => by simpa [nth] using nth_get xs t
theorem setE_length (env : List AV) (dst : Option Nat) (v : AV) : (setE env dst v).length = env.length := by
 cases dst <;> simp [setE, setN_eq]
theorem nth_setE_ne {env : List AV} {dst : Option Nat} {v : AV} {t : Nat} (h : dst ≠ some t) : nth (setE env dst v) t = nth env t := by
 cases dst with
 | none => rfl
 | some d =>
  have hne : d ≠ t := fun e => h (by rw [e])
  simp only [setE, setN_eq, nth_get, List.getElem?_set_ne hne]
theorem nth_setE_eq {env : List AV} {d : Nat} {v : AV} (h : d < env.length) : nth (setE env (some d) v) d = v := by
 simp [setE, setN_eq, nth_get, h]
theorem setE_big {env : List AV} {d : Nat} {v : AV} (h : env.length ≤ d) : setE env (some d) v = env := by
 simp only [setE, setN_eq]
 exact List.set_eq_of_length_le h
theorem Does.change {ops : List Oper} {o : Oper} {st : St} {u v : AV} {σ' : List AObj} (h : Does P n ops o st u σ') (e : ∀ env : List AV,env.length = st.env.length → setE env o.dst u = setE env o.dst v) : Does P n ops o st v σ' := by
 intro env' hag rd ρ0 W0 a w Q K hn hR hK
 exact h env' hag rd ρ0 W0 a w Q K hn hR (by rw [e env' hag.1]; exact hK)
structure Chain (P : Program) (n : Nat) (l : List Oper) (pl : List (Nat × List Nat)) (S : Nat → St) (V : Nat → AV) : Prop where
 step : ∀ (k i : Nat) (rs : List Nat),pl[k]? = some (i,rs) → ∃ o,l[i]? = some o ∧ Does P n l o (S k) (V k) (S (k + 1)).σ ∧ (S (k + 1)).env = setE (S k).env o.dst (V k) ∧ (isLoud o = false → (S (k + 1)).σ = (S k).σ) ∧
  ((S (k + 1)).σ = (S k).σ ∨ ∀ q ∈ rs,∃ oq u,l[q]? = some oq ∧ Does P n l oq (S (k + 1)) u (S (k + 1)).σ ∧ ∀ d,oq.dst = some d → u = nth (S (k + 1)).env d)
theorem retro_of (hΓ : TabOk P Γ) {l : List Oper} {st : St} : ∀ {rs : List Nat},retroOk Γ l st rs → ∀ q ∈ rs,∃ oq u,l[q]? = some oq ∧ Does P n l oq st u st.σ ∧ ∀ d,oq.dst = some d → u = nth st.env d
 | [], _, q, hq => by cases hq
 | r :: rs, h, q, hq => by
  simp only [retroOk] at h
  rcases List.mem_cons.1 hq with rfl | hm
  ·have h1 := h.1
   split at h1
   ·rename_i o ho
    split at h1
    ·rename_i u σ' C he
     obtain ⟨hC, hs, hd⟩ := h1
     subst hs
     rw [nthOp_eq] at ho
     refine ⟨o, u, ho, Does.of_ev hΓ he hC, fun d hdd => ?_⟩
     rw [hdd] at hd
     exact hd
    ·exact h1.elim
   ·exact h1.elim
  ·exact retro_of hΓ h.2 q hm
theorem DC.chain (hΓ : TabOk P Γ) {l : List Oper} {K : St → Prop} : ∀ {pl : List (Nat × List Nat)} {st : St},DC P Γ n l K pl st → ∃ (S : Nat → St) (V : Nat → AV),S 0 = st ∧ K (S pl.length) ∧ Chain P n l pl S V
 | [], st, h => ⟨fun _ => st, fun _ => .top, rfl, h, ⟨fun k i rs hk => by simp at hk⟩⟩
 | (i, rs) :: rest, st, h => by
  obtain ⟨o, v, σ', ho, hd, hq, hr, hrest⟩ := h
  obtain ⟨S, V, h0, hK, hc⟩ := DC.chain hΓ hrest
  refine ⟨fun k => match k with | 0 => st | k + 1 => S k,fun k => match k with | 0 => v | k + 1 => V k,rfl,by simpa using hK,⟨fun k i' rs' hk => ?_⟩⟩
  cases k with
  | zero =>
   simp only [List.getElem?_cons_zero, Option.some.injEq, Prod.mk.injEq] at hk
   obtain ⟨rfl, rfl⟩ := hk
   rw [nthOp_eq] at ho
   refine ⟨o, ho, ?_, ?_, ?_, ?_⟩
   ·show Does P n l o st v (S 0).σ; rw [h0]; exact hd
   ·show (S 0).env = _; rw [h0]
   ·show _ → (S 0).σ = st.σ; rw [h0]; exact hq
   ·show (S 0).σ = st.σ ∨ _
    rw [h0]
    rcases hr with e | hr
    ·exact .inl e
    ·refine .inr fun q hqm => ?_
     have := retro_of (n := n) hΓ hr q hqm
     show ∃ oq u, l[q]? = some oq ∧ Does P n l oq (S 0) u (S 0).σ ∧ ∀ d, oq.dst = some d → u = nth (S 0).env d
     rw [h0]
     exact this
  | succ k =>
   simp only [List.getElem?_cons_succ] at hk
   exact hc.step k i' rs' hk
structure EnvAt (l : List Oper) (pl : List (Nat × List Nat)) (env0 : List AV) (V : Nat → AV) (done : Nat → Prop) (env : List AV) : Prop where
 len : env.length = env0.length
 set : ∀ (k i : Nat) (rs : List Nat) (o : Oper) (d : Nat),pl[k]? = some (i,rs) → l[i]? = some o → o.dst = some d → done i → d < env0.length → nth env d = V k
 keep : ∀ t, (∀ (i : Nat) (o : Oper), done i → l[i]? = some o → o.dst ≠ some t) → nth env t = nth env0 t
theorem Plan.pos {l : List Oper} {pl : List (Nat × List Nat)} (hP : Plan l pl) {i : Nat} (h : i < l.length) : ∃ (k : Nat) (rs : List Nat),pl[k]? = some (i,rs) := by
 have := (hP.all i).1 h
 obtain ⟨q, hq, e⟩ := List.mem_map.1 this
 obtain ⟨k, hk⟩ := List.mem_iff_getElem?.1 hq
 exact ⟨k, q.2, by rw [hk, ← e]⟩
theorem Plan.uniq {l : List Oper} {pl : List (Nat × List Nat)} (hP : Plan l pl) {i k k' : Nat} {rs rs' : List Nat} (h : pl[k]? = some (i,rs)) (h' : pl[k']? = some (i,rs')) : k = k' := by
 have h1 : (pl.map (·.1))[k]? = some i := by simp [h]
 have h2 : (pl.map (·.1))[k']? = some i := by simp [h']
 obtain ⟨l1, g1⟩ := List.getElem?_eq_some_iff.1 h1
 obtain ⟨l2, g2⟩ := List.getElem?_eq_some_iff.1 h2
 exact (List.getElem_inj hP.nodup).1 (g1.trans g2.symm)
theorem Plan.anc_pos {l : List Oper} {pl : List (Nat × List Nat)} (hP : Plan l pl) : ∀ {j i : Nat},Anc l j i → ∀ {k : Nat} {rs : List Nat},pl[k]? = some (i,rs) → ∃ (k' : Nat) (rs' : List Nat),k' < k ∧ pl[k']? = some (j,rs') := by
 intro j i h
 induction h with
 | one h he => intro k rs hk; exact hP.lin k _ rs _ _ hk h he
 | step h he hj ih =>
  intro k rs hk
  obtain ⟨k1, r1, hlt, h1⟩ := hP.lin k _ rs _ _ hk h he
  obtain ⟨k2, r2, hlt2, h2⟩ := ih h1
  exact ⟨k2, r2, by omega, h2⟩
theorem EnvAt.put {l : List Oper} {pl : List (Nat × List Nat)} (hP : Plan l pl) {env0 env : List AV} {V : Nat → AV} {done done' : Nat → Prop} (h : EnvAt l pl env0 V done env) {k i : Nat} {rs : List Nat} {o : Oper} (hk : pl[k]? = some (i,rs)) (ho : l[i]? = some o)
  (hd : ∀ j, done' j ↔ done j ∨ j = i) : EnvAt l pl env0 V done' (setE env o.dst (V k)) := by
 refine ⟨by rw [setE_length, h.len], fun k' j rs' o' d hk' ho' hd' hdone hlt => ?_, fun t ht => ?_⟩
 ·by_cases hij : j = i
  ·subst hij
   have := hP.uniq hk hk'
   subst this
   rw [ho] at ho'
   simp only [Option.some.injEq] at ho'
   subst ho'
   rw [hd']
   exact nth_setE_eq (by rw [h.len]; exact hlt)
  ·have hne : o.dst ≠ some d := fun e => hij (hP.dst j i o' o d ho' ho hd' e)
   rw [nth_setE_ne hne]
   refine h.set k' j rs' o' d hk' ho' hd' ?_ hlt
   rcases (hd j).1 hdone with h1 | h1
   ·exact h1
   ·exact (hij h1).elim
 ·rw [nth_setE_ne (ht i o ((hd i).2 (.inr rfl)) ho)]
  exact h.keep t fun j oj hj => ht j oj ((hd j).2 (.inl hj))
theorem Chain.env {l : List Oper} {pl : List (Nat × List Nat)} {S : Nat → St} {V : Nat → AV} (hP : Plan l pl) (hc : Chain P n l pl S V) : ∀ k,k ≤ pl.length → EnvAt l pl (S 0).env V (fun i=>∃ (k' : Nat) (rs : List Nat),k' < k ∧ pl[k']? = some (i,rs)) (S k).env
 | 0, _ => ⟨rfl, fun _ _ _ _ _ _ _ _ ⟨_, _, h, _⟩ => by omega, fun _ _ => rfl⟩
 | k + 1, hk => by
  have ih := Chain.env hP hc k (by omega)
  obtain ⟨⟨i, rs⟩, hi⟩ : ∃ q, pl[k]? = some q := ⟨_, List.getElem?_eq_getElem (by omega)⟩
  obtain ⟨o, ho, _, he, _⟩ := hc.step k i rs hi
  rw [he]
  refine ih.put hP hi ho fun j => ⟨fun ⟨k', rs', hlt, h⟩ => ?_, fun h => ?_⟩
  ·by_cases hkk : k' = k
   ·subst hkk
    rw [hi] at h
    simp only [Option.some.injEq, Prod.mk.injEq] at h
    exact .inr h.1.symm
   ·exact .inl ⟨k', rs', by omega, h⟩
  ·rcases h with ⟨k', rs', hlt, h⟩ | rfl
   ·exact ⟨k', rs', by omega, h⟩
   ·exact ⟨k, rs, by omega, hi⟩
def Late (l : List Oper) (pl : List (Nat × List Nat)) (i j : Nat) : Prop :=
 Anc l i j ∧ ∀ (kj kb b : Nat) (rj rb : List Nat) (ob : Oper),kj < kb → pl[kj]? = some (j,rj) → pl[kb]? = some (b,rb) → l[b]? = some ob → isLoud ob = true → Anc l i b
theorem EnvAt.agree {l : List Oper} {pl : List (Nat × List Nat)} (hP : Plan l pl) {env0 e1 e2 : List AV} {V : Nat → AV} {d1 d2 : Nat → Prop} (h1 : EnvAt l pl env0 V d1 e1) (h2 : EnvAt l pl env0 V d2 e2) {i : Nat} {o : Oper} (ho : l[i]? = some o)
  (a1 : ∀ j,Anc l j i → d1 j) (a2 : ∀ j,Anc l j i → d2 j) (n1 : ∀ j,Late l pl i j → ¬ d1 j) (n2 : ∀ j,Late l pl i j → ¬ d2 j) : Agree e1 e2 (looksL l o) := by
 refine ⟨h2.len.trans h1.len.symm, fun t ht => ?_⟩
 by_cases hex : ∃ (j : Nat) (oj : Oper), l[j]? = some oj ∧ oj.dst = some t
 ·obtain ⟨j, oj, hj, hd⟩ := hex
  rcases hP.look i j o oj t ho hj hd ht with ha | ha
  case inr =>
   have only : ∀ (q : Nat) (oq : Oper),l[q]? = some oq → oq.dst = some t → q = j := fun q oq hq hdq => hP.dst q j oq oj t hq hj hdq hd
   rw [h1.keep t fun q oq hq hl hdq => n1 j ha (only q oq hl hdq ▸ hq),h2.keep t fun q oq hq hl hdq => n2 j ha (only q oq hl hdq ▸ hq)]
  obtain ⟨k, rs, hk⟩ := hP.pos (List.getElem?_eq_some_iff.1 hj).1
  by_cases hlt : t < env0.length
  ·rw [h1.set k j rs oj t hk hj hd (a1 j ha) hlt, h2.set k j rs oj t hk hj hd (a2 j ha) hlt]
  ·rw [nth_get,nth_get,List.getElem?_eq_none (by rw [h2.len];omega),List.getElem?_eq_none (by rw [h1.len];omega)]
 ·rw [h1.keep t fun j oj _ hj hd => hex ⟨j, oj, hj, hd⟩, h2.keep t fun j oj _ hj hd => hex ⟨j, oj, hj, hd⟩]
def lst (listed : Array Bool) (i : Nat) : Prop := listed.getD i false = true
theorem lst_set {listed : Array Bool} {i : Nat} (h : i < listed.size) (j : Nat) : lst (listed.setIfInBounds i true) j ↔ lst listed j ∨ j = i := by
 unfold lst
 by_cases hij : i = j
 ·subst hij
  simp [h]
 ·rw [getD_set_ne false hij]
  exact ⟨fun h => .inl h, fun h => h.resolve_right fun e => hij e.symm⟩
theorem count_false_set {listed : Array Bool} {i : Nat} (h : i < listed.size) (hu : listed.getD i false = false) : (listed.setIfInBounds i true).toList.count false + 1 = listed.toList.count false := by
 have hl : i < listed.toList.length := by simpa using h
 have hi : listed.toList[i] = false := by simpa [h] using hu
 simp only [Array.toList_setIfInBounds]
 rw [List.count_set hl, hi]
 have : 0 < listed.toList.count false := List.count_pos_iff.2 (by rw [← hi]; exact List.getElem_mem hl)
 simp only [beq_self_eq_true,if_true,Bool.beq_eq_decide_eq,Bool.true_eq_false,decide_false,if_false,Bool.false_eq_true,Nat.add_zero]
 omega
theorem lst_down {l : List Oper} {listed : Array Bool} (hdown : ∀ (i : Nat) (o : Oper) (e : Nat),lst listed i → l[i]? = some o → e ∈ edgesOf o → lst listed e) : ∀ {j i : Nat},Anc l j i → lst listed i → lst listed j := by
 intro j i h
 induction h with
 | one h he => intro hl; exact hdown _ _ _ hl h he
 | step h he hj ih => intro hl; exact ih (hdown _ _ _ hl h he)
theorem pl_lt {pl : List (Nat × List Nat)} {k : Nat} {q : Nat × List Nat} (h : pl[k]? = some q) : k < pl.length := (List.getElem?_eq_some_iff.1 h).1
theorem Chain.flat {l : List Oper} {pl : List (Nat × List Nat)} {S : Nat → St} {V : Nat → AV} (hc : Chain P n l pl S V) : ∀ c k,c ≤ k → k ≤ pl.length → (∀ (j i : Nat) (rs : List Nat) (o : Oper),c ≤ j → j < k → pl[j]? = some (i,rs) → l[i]? = some o → isLoud o = false) → (S k).σ = (S c).σ := by
 intro c k hck
 induction k with
 | zero => intro _ _; rw [show c = 0 by omega]
 | succ k ih =>
  intro hk hq
  by_cases he : c = k + 1
  ·rw [he]
  ·obtain ⟨⟨i, rs⟩, hi⟩ : ∃ q, pl[k]? = some q := ⟨_, List.getElem?_eq_getElem (by omega)⟩
   obtain ⟨o, ho, _, _, hs, _⟩ := hc.step k i rs hi
   rw [hs (hq k i rs o (by omega) (by omega) hi ho)]
   exact ih (by omega) (by omega) fun j i rs o h1 h2 => hq j i rs o h1 (by omega)
theorem Chain.fin {l : List Oper} {pl : List (Nat × List Nat)} {S : Nat → St} {V : Nat → AV} (hP : Plan l pl) (hc : Chain P n l pl S V) {listed : Array Bool} {c : Nat} {env : List AV} (hsz : listed.size = l.length) (hcl : c ≤ pl.length)
  (hloud : ∀ (k i : Nat) (rs : List Nat) (o : Oper),pl[k]? = some (i,rs) → l[i]? = some o → isLoud o = true → (lst listed i ↔ k < c)) (henv : EnvAt l pl (S 0).env V (lst listed) env) (hready : Region.ready .any l.toArray listed = []) :
  (⟨env, (S c).σ⟩ : St) = S pl.length := by
 have hall : ∀ (k i : Nat) (rs : List Nat), pl[k]? = some (i, rs) → lst listed i := by
  intro k
  induction k using Nat.strongRecOn with
  | _ k ih =>
   intro i rs hk
   obtain ⟨o, ho, _⟩ := hc.step k i rs hk
   by_cases hl : lst listed i
   ·exact hl
   ·exfalso
    have hil : i < l.length := (List.getElem?_eq_some_iff.1 ho).1
    have hu : listed.getD i true = false := by
     unfold lst at hl
     have : i < listed.size := by omega
     simp only [Array.getD, this, dite_true] at hl ⊢
     simpa using hl
    have : i ∈ Region.ready .any l.toArray listed := mem_ready.2 ⟨hu, o, by simpa using ho, fun e he hb => by
     obtain ⟨k',rs',hlt,h'⟩ := hP.lin k i rs o e.on hk ho (List.mem_map.2 ⟨e,List.mem_filter.2 ⟨by simpa using he,hb⟩,rfl⟩)
     exact ih k' hlt e.on rs' h'⟩
    rw [hready] at this
    cases this
 have e1 : (S pl.length).σ = (S c).σ := hc.flat c pl.length hcl (Nat.le_refl _) fun j i rs o h1 h2 hj ho => by
  cases hb : isLoud o with
  | false => rfl
  | true => have := (hloud j i rs o hj ho hb).1 (hall j i rs hj); omega
 have hend := hc.env hP pl.length (Nat.le_refl _)
 have e2 : env = (S pl.length).env := by
  apply List.ext_getElem?
  intro t
  by_cases ht : t < (S 0).env.length
  ·have hnth : nth env t = nth (S pl.length).env t := by
    by_cases hex : ∃ (j : Nat) (oj : Oper), l[j]? = some oj ∧ oj.dst = some t
    ·obtain ⟨j, oj, hj, hd⟩ := hex
     obtain ⟨k, rs, hk⟩ := hP.pos (List.getElem?_eq_some_iff.1 hj).1
     rw [henv.set k j rs oj t hk hj hd (hall k j rs hk) ht, hend.set k j rs oj t hk hj hd ⟨k, rs, pl_lt hk, hk⟩ ht]
    ·rw [henv.keep t fun j oj _ hj hd => hex ⟨j, oj, hj, hd⟩, hend.keep t fun j oj _ hj hd => hex ⟨j, oj, hj, hd⟩]
   rw [nth_get,nth_get,List.getElem?_eq_getElem (by rw [henv.len];exact ht),List.getElem?_eq_getElem (by rw [hend.len];exact ht)] at hnth
   rw [List.getElem?_eq_getElem (by rw [henv.len]; exact ht), List.getElem?_eq_getElem (by rw [hend.len]; exact ht)]
   simpa using hnth
  ·rw [List.getElem?_eq_none (by rw [henv.len]; omega), List.getElem?_eq_none (by rw [hend.len]; omega)]
 rw [← e1, e2]
theorem take_get {α : Type} {a b : List α} {m k : Nat} (h : a.take m = b.take m) (hk : k < m) : a[k]? = b[k]? := by
 have h1 : (a.take m)[k]? = (b.take m)[k]? := by rw [h]
 simpa [List.getElem?_take, hk] using h1
theorem take_take_eq {α : Type} {a b : List α} {m k : Nat} (h : a.take m = b.take m) (hk : k ≤ m) : a.take k = b.take k := by
 have h1 : (a.take m).take k = (b.take m).take k := by rw [h]
 simpa [List.take_take, Nat.min_eq_left hk] using h1
def Switch (l : List Oper) (ps : List (List (Nat × List Nat))) : Prop :=
 ∀ pl ∈ ps,∀ (c i : Nat) (o : Oper),c ≤ pl.length → l[i]? = some o → isLoud o = true → (∀ k rs,pl[k]? = some (i,rs) → c ≤ k) →
  (∀ (j : Nat) (oj : Oper),Anc l j i → l[j]? = some oj → isLoud oj = true → ∃ (k : Nat) (rs : List Nat),k < c ∧ pl[k]? = some (j,rs)) →
  ∃ pl' ∈ ps, ∃ b k rs, c ≤ b ∧ b ≤ pl.length ∧ pl'.take b = pl.take b ∧ b ≤ k ∧ pl'[k]? = some (i, rs) ∧
   (∀ (m j : Nat) (rs : List Nat) (oj : Oper),c ≤ m → m < k → pl'[m]? = some (j,rs) → l[j]? = some oj → isLoud oj = false) ∧
   (∀ (q : Nat) (oq : Oper),l[q]? = some oq → isLoud oq = false → (∀ k rs,pl[k]? = some (q,rs) → b ≤ k) → ∃ (j : Nat) (oj : Oper),Anc l j q ∧ l[j]? = some oj ∧ isLoud oj = true ∧ ∀ k rs,pl[k]? = some (j,rs) → c ≤ k)
structure Chains (P : Program) (n : Nat) (l : List Oper) (ps : List (List (Nat × List Nat))) (F : List (Nat × List Nat) → St) (G : List (Nat × List Nat) → AV) : Prop where
 each : ∀ pl ∈ ps, Chain P n l pl (fun k => F (pl.take k)) (fun k => G (pl.take (k + 1)))
theorem any_order {l : List Oper} {ps : List (List (Nat × List Nat))} {F : List (Nat × List Nat) → St} {G : List (Nat × List Nat) → AV} (hPs : ∀ pl ∈ ps,Plan l pl) (hsw : Switch l ps) (hcs : Chains P n l ps F G) {rd : Rd} {ρ0 : Rho} {W0 : World} (hn : ρ0.length = n) {Q : Exit → Act → World → Prop}
  (hQs : ∀ pl ∈ ps,∀ a w,Rel rd ρ0 W0 (F pl) a w → Q .normal a w) : ∀ (fuel : Nat) (pl : List (Nat × List Nat)),pl ∈ ps → ∀ (listed : Array Bool) (a : Act) (w : World) (c : Nat) (env : List AV),listed.size = l.length → listed.toList.count false = fuel →
   (∀ (i : Nat) (o : Oper) (e : Nat), lst listed i → l[i]? = some o → e ∈ edgesOf o → lst listed e) →
   c ≤ pl.length → (∀ (k i : Nat) (rs : List Nat) (o : Oper),pl[k]? = some (i,rs) → l[i]? = some o → isLoud o = true → (lst listed i ↔ k < c)) →
   EnvAt l pl (F []).env (fun k => G (pl.take (k + 1))) (lst listed) env → Rel rd ρ0 W0 ⟨env,(F (pl.take c)).σ⟩ a w → wpAnyIn rd.fence 0 P .any l.toArray Q fuel listed a w := by
 intro fuel
 induction fuel with
 | zero =>
  intro pl hpl listed a w c env hsz hcnt hdown hcl hloud henv hR
  have hready : Region.ready .any l.toArray listed = [] := by
   refine List.eq_nil_iff_forall_not_mem.2 fun i hi => ?_
   obtain ⟨hu, o, ho, _⟩ := mem_ready.1 hi
   have hil : i < listed.size := by
    have := (Array.getElem?_eq_some_iff.1 ho).1
    rw [hsz]; simpa using this
   have : false ∈ listed.toList := by
    have e : listed[i] = false := by simpa [Array.getD, hil] using hu
    rw [← e]
    exact Array.getElem_mem_toList hil
   rw [← List.count_pos_iff] at this
   omega
  have e := (hcs.each pl hpl).fin (hPs pl hpl) hsz hcl hloud (by simpa using henv) hready
  exact ⟨hready, hQs pl hpl a w (by rw [show F pl = F (pl.take pl.length) by rw [List.take_length], ← e]; exact hR)⟩
 | succ fuel ih =>
  intro pl hpl listed a w c env hsz hcnt hdown hcl hloud henv hR
  refine ⟨fun hready => ?_, fun i hi => ?_⟩
  ·have e := (hcs.each pl hpl).fin (hPs pl hpl) hsz hcl hloud (by simpa using henv) hready
   exact hQs pl hpl a w (by rw [show F pl = F (pl.take pl.length) by rw [List.take_length], ← e]; exact hR)
  have down : ∀ {j i : Nat}, Anc l j i → lst listed i → lst listed j := lst_down hdown
  obtain ⟨hu, o, ho, hpre⟩ := mem_ready.1 hi
  have ho' : l[i]? = some o := by simpa using ho
  have hil : i < l.length := (List.getElem?_eq_some_iff.1 ho').1
  have hisz : i < listed.size := by omega
  have huf : listed.getD i false = false := by simpa [Array.getD, hisz] using hu
  have hunl : ¬ lst listed i := by unfold lst; rw [huf]; exact Bool.false_ne_true
  have hanc : ∀ j, Anc l j i → lst listed j := by
   intro j hj
   cases hj with
   | one h he =>
    rw [ho'] at h; simp only [Option.some.injEq] at h; subst h
    obtain ⟨e, he', rfl⟩ := List.mem_map.1 he
    exact hpre e (by simpa using (List.mem_filter.1 he').1) (List.mem_filter.1 he').2
   | step h he hj =>
    rw [ho'] at h; simp only [Option.some.injEq] at h; subst h
    obtain ⟨e, he', rfl⟩ := List.mem_map.1 he
    exact down hj (hpre e (by simpa using (List.mem_filter.1 he').1) (List.mem_filter.1 he').2)
  have hdown' : ∀ (i' : Nat) (o' : Oper) (e : Nat),lst (listed.setIfInBounds i true) i' → l[i']? = some o' → e ∈ edgesOf o' → lst (listed.setIfInBounds i true) e := by
   intro i' o' e h1 h2 h3
   refine (lst_set hisz e).2 (.inl ?_)
   rcases (lst_set hisz i').1 h1 with h4 | rfl
   ·exact hdown i' o' e h4 h2 h3
   ·exact hanc e (.one h2 h3)
  have hcnt' : (listed.setIfInBounds i true).toList.count false = fuel := by
   have := count_false_set hisz huf
   omega
  have hlate : ∀ {pl : List (Nat × List Nat)} (j : Nat),Late l pl i j → ¬ lst listed j := fun j hj hl => hunl (down hj.1 hl)
  cases hb : isLoud o with
  | true =>
   -- the plan in which i is next
   have hlisted : ∀ (j : Nat) (oj : Oper),l[j]? = some oj → isLoud oj = true → lst listed j → ∃ (k : Nat) (rs : List Nat),k < c ∧ pl[k]? = some (j,rs) := fun j oj hj hbj hl => by
    obtain ⟨k, rs, hk⟩ := (hPs pl hpl).pos (List.getElem?_eq_some_iff.1 hj).1
    exact ⟨k, rs, (hloud k j rs oj hk hj hbj).1 hl, hk⟩
   obtain ⟨pl', hpl', b, k, rs, hcb, hbl, htk, hbk, hk, hnl, hmax⟩ := hsw pl hpl c i o hcl ho' hb (fun k rs hk => by
     rcases Nat.lt_or_ge k c with h | h
     ·exact (hunl ((hloud k i rs o hk ho' hb).2 h)).elim
     ·exact h) (fun j oj hj hoj hbj => hlisted j oj hoj hbj (hanc j hj))
   have hP := hPs pl' hpl'
   have hc := hcs.each pl' hpl'
   have hkl := pl_lt hk
   obtain ⟨o2, ho2, hdoes, hse, hquiet, hretro⟩ := hc.step k i rs hk
   rw [ho'] at ho2
   simp only [Option.some.injEq] at ho2
   subst ho2
   -- what is listed lies ahead of b, in both plans
   have hahead : ∀ j, lst listed j → ∀ k rs, pl[k]? = some (j, rs) → k < b := by
    intro j hl kj rj hkj
    have hjl : j < l.length := ((hPs pl hpl).all j).2 (List.mem_map.2 ⟨_, List.mem_of_getElem? hkj, rfl⟩)
    obtain ⟨oj, hoj⟩ : ∃ oj, l[j]? = some oj := ⟨_, List.getElem?_eq_getElem hjl⟩
    cases hbj : isLoud oj with
    | true => have := (hloud kj j rj oj hkj hoj hbj).1 hl; omega
    | false =>
     rcases Nat.lt_or_ge kj b with h | h
     ·exact h
     ·exfalso
      obtain ⟨q, oq, hq, hoq, hbq, hqc⟩ := hmax j oj hoj hbj fun k2 r2 h2 => by
       have := (hPs pl hpl).uniq hkj h2; omega
      obtain ⟨k3, r3, h3, h4⟩ := hlisted q oq hoq hbq (down hq hl)
      have := hqc k3 r3 h4
      omega
   have henv' : EnvAt l pl' (F []).env (fun k => G (pl'.take (k + 1))) (lst listed) env := by
    refine ⟨henv.len, fun k2 j r2 oj d hk2 hoj hd hl hlt => ?_, henv.keep⟩
    obtain ⟨k1, r1, hk1⟩ := (hPs pl hpl).pos (List.getElem?_eq_some_iff.1 hoj).1
    have hk1b := hahead j hl k1 r1 hk1
    have h2 : pl'[k1]? = some (j, r1) := by rw [take_get htk hk1b]; exact hk1
    have := hP.uniq hk2 h2
    subst this
    rw [henv.set k2 j r1 oj d hk1 hoj hd hl hlt, take_take_eq htk (by omega)]
   have hloud1 : ∀ (k2 j : Nat) (r2 : List Nat) (oj : Oper),pl'[k2]? = some (j,r2) → l[j]? = some oj → isLoud oj = true → (lst listed j ↔ k2 < c) := by
    intro k2 j r2 oj hk2 hoj hbj
    constructor
    ·intro hl
     obtain ⟨k1, r1, h1, h2⟩ := hlisted j oj hoj hbj hl
     have h3 : pl'[k1]? = some (j, r1) := by rw [take_get htk (by omega)]; exact h2
     have := hP.uniq hk2 h3
     omega
    ·intro hlt
     have h3 : pl[k2]? = some (j, r2) := by rw [← take_get htk (by omega)]; exact hk2
     exact (hloud k2 j r2 oj h3 hoj hbj).2 hlt
   have eS : F (pl.take c) = F (pl'.take c) := by rw [take_take_eq htk hcb]
   rw [eS] at hR
   have hflat : (F (pl'.take k)).σ = (F (pl'.take c)).σ := hc.flat c k (by omega) (by omega) hnl
   have hancp : ∀ j,Anc l j i → ∃ (k'' : Nat) (rs'' : List Nat),k'' < k ∧ pl'[k'']? = some (j,rs'') := fun j hj => hP.anc_pos hj hk
   have hlatep : ∀ j, Late l pl' i j → ¬ ∃ (k'' : Nat) (rs'' : List Nat), k'' < k ∧ pl'[k'']? = some (j, rs'') := by
    rintro j hj ⟨k2, r2, h2, h3⟩
    obtain ⟨k3, r3, h4, h5⟩ := hP.anc_pos hj.1 h3
    have := hP.uniq hk h5
    omega
   have hd : Does P n l o ⟨env, (F (pl'.take c)).σ⟩ (G (pl'.take (k + 1))) (F (pl'.take (k + 1))).σ := by
    rw [← hflat]
    have h2 := (by simpa using hc.env hP k (by omega) : EnvAt l pl' (F []).env _ _ _).agree hP henv' ho' (fun j hj => hancp j hj) hanc hlatep hlate
    intro env' hag
    exact hdoes env' ⟨hag.1.trans h2.1, fun t ht => (hag.2 t ht).trans (h2.2 t ht)⟩
   have h1 := hd env ⟨rfl,fun _ _ => rfl⟩ rd ρ0 W0 a w Q (wpAnyIn rd.fence 0 P .any l.toArray Q fuel (listed.setIfInBounds i true)) hn hR fun a' w' hR' =>
    ih pl' hpl' (listed.setIfInBounds i true) a' w' (k + 1) (setE env o.dst (G (pl'.take (k + 1)))) (by simpa using hsz) hcnt' hdown' (by omega) (fun k' i' rs' o' hk' ho'' hb' => by
     rw [lst_set hisz]
     constructor
     ·rintro (h | rfl)
      ·have := (hloud1 k' i' rs' o' hk' ho'' hb').1 h; omega
      ·have := hP.uniq hk hk'; omega
     ·intro hlt
      by_cases hkk : k' = k
      ·subst hkk
       rw [hk] at hk'
       simp only [Option.some.injEq, Prod.mk.injEq] at hk'
       exact .inr hk'.1.symm
      ·refine .inl ((hloud1 k' i' rs' o' hk' ho'' hb').2 ?_)
       rcases Nat.lt_or_ge k' c with h | h
       ·exact h
       ·have := hnl k' i' rs' o' h (by omega) hk' ho''
        rw [hb'] at this; cases this) (henv'.put hP hk ho' (lst_set hisz)) hR'
   unfold wpOpIn
   simp only [ho]
   unfold wpOne at h1
   split
   ·rename_i hw; rw [if_pos hw] at h1; exact h1
   ·rename_i hw; rw [if_neg hw] at h1; exact ⟨fun f _ => rd.fn_all f, h1⟩
  | false =>
   have hP := hPs pl hpl
   have hc := hcs.each pl hpl
   obtain ⟨k, rs, hk⟩ := hP.pos hil
   have hkl := pl_lt hk
   obtain ⟨o2, ho2, hdoes, hse, hquiet, hretro⟩ := hc.step k i rs hk
   rw [ho'] at ho2
   simp only [Option.some.injEq] at ho2
   subst ho2
   have hancp : ∀ k' : Nat,k ≤ k' → ∀ j,Anc l j i → ∃ (k'' : Nat) (rs'' : List Nat),k'' < k' ∧ pl[k'']? = some (j,rs'') := by
    intro k' hkk j hj
    obtain ⟨k2, r2, h1, h2⟩ := hP.anc_pos hj hk
    exact ⟨k2, r2, by omega, h2⟩
   have hlatep : ∀ j, Late l pl i j → ¬ ∃ (k'' : Nat) (rs'' : List Nat), k'' < k ∧ pl[k'']? = some (j, rs'') := by
    rintro j hj ⟨k2, r2, h2, h3⟩
    obtain ⟨k3, r3, h4, h5⟩ := hP.anc_pos hj.1 h3
    have := hP.uniq hk h5
    omega
   have hE : ∀ k,k ≤ pl.length → EnvAt l pl (F []).env (fun k=>G (pl.take (k + 1))) (fun i=>∃ (k' : Nat) (rs : List Nat),k' < k ∧ pl[k']? = some (i,rs)) (F (pl.take k)).env := fun k hk=>by simpa using hc.env hP k hk
   have shift : ∀ {st : St} {v : AV} {σ' : List AObj} {dn : Nat → Prop},EnvAt l pl (F []).env (fun k=>G (pl.take (k + 1))) dn st.env → (∀ j,Anc l j i → dn j) → (∀ j,Late l pl i j → ¬ dn j) → Does P n l o st v σ' → Does P n l o ⟨env,st.σ⟩ v σ' := by
    intro st v σ' dn he hdn hln hd env' hag
    have h2 := he.agree hP henv ho' hdn hanc hln hlate
    exact hd env' ⟨hag.1.trans h2.1, fun t ht => (hag.2 t ht).trans (h2.2 t ht)⟩
   have hkc : ∀ (j i' : Nat) (rs' : List Nat) (o' : Oper),c ≤ j → j < k → pl[j]? = some (i',rs') → l[i']? = some o' → isLoud o' = false := by
    intro j i' rs' o' h1 h2 hj hoj
    cases hb' : isLoud o' with
    | false => rfl
    | true =>
     rcases (hP.ord j k i' i rs' rs o' o h2 hj hk hoj ho').2 hb hb' with h3 | ⟨k2, a2, r2, o2, h4, h5, h6, h7, h8⟩
     ·have := (hloud j i' rs' o' hj hoj hb').1 (hanc i' h3)
      omega
     ·have := (hloud k2 a2 r2 o2 h5 h6 h7).1 (hanc a2 h8)
      omega
   have hd : Does P n l o ⟨env, (F (pl.take c)).σ⟩ (G (pl.take (k + 1))) (F (pl.take c)).σ := by
    by_cases hck : c ≤ k
    ·have hflat : (F (pl.take k)).σ = (F (pl.take c)).σ := hc.flat c k hck (by omega) hkc
     have := shift (hE k (by omega)) (fun j hj => hancp k (Nat.le_refl _) j hj) hlatep hdoes
     rw [hquiet hb, hflat] at this
     exact this
    · -- the last loud place before c
     have hlast : ∀ c0,k < c0 → c0 ≤ c → Does P n l o ⟨env,(F (pl.take c0)).σ⟩ (G (pl.take (k + 1))) (F (pl.take c0)).σ := by
      intro c0
      induction c0 with
      | zero => intro h; omega
      | succ d ihd =>
       intro h1 h2
       obtain ⟨⟨b, rb⟩, hbk⟩ : ∃ q, pl[d]? = some q := ⟨_, List.getElem?_eq_getElem (by omega)⟩
       obtain ⟨ob, hob, _, hseb, hqb, hrb⟩ := hc.step d b rb hbk
       by_cases hdk : d = k
       ·subst hdk
        rw [hk] at hbk
        simp only [Option.some.injEq, Prod.mk.injEq] at hbk
        obtain ⟨rfl, rfl⟩ := hbk
        have := shift (hE d (by omega)) (fun j hj => hancp d (Nat.le_refl _) j hj) hlatep hdoes
        rw [hquiet hb] at this ⊢
        exact this
       ·have ih0 := ihd (by omega) (by omega)
        cases hbl : isLoud ob with
        | false => rw [hqb hbl]; exact ih0
        | true =>
         rcases hrb with e | hr
         ·rw [e]; exact ih0
         ·by_cases h3 : Anc l i b
          · -- it would be listed
           have : lst listed b := (hloud d b rb ob hbk hob hbl).2 (by omega)
           exact (hunl (down h3 this)).elim
          ·have h4 := ((hP.ord k d i b rs rb o ob (by omega) hk hbk ho' hob).1 hbl hb).resolve_left h3
           obtain ⟨oq, u, hoq, hdq, hdv⟩ := hr i h4
           rw [ho'] at hoq
           simp only [Option.some.injEq] at hoq
           subst hoq
           have hE1 := hE (d + 1) (by omega)
           have hd2 : Does P n l o (F (pl.take (d + 1))) (G (pl.take (k + 1))) (F (pl.take (d + 1))).σ := by
            refine hdq.change fun env1 hl1 => ?_
            cases hdst : o.dst with
            | none => rfl
            | some t =>
             by_cases hlt : t < (F []).env.length
             ·rw [hdv t hdst, hE1.set k i rs o t hk ho' hdst ⟨k, rs, by omega, hk⟩ hlt]
             ·rw [setE_big (by rw [hl1,hE1.len];exact Nat.le_of_not_lt hlt),setE_big (by rw [hl1,hE1.len];exact Nat.le_of_not_lt hlt)]
           refine shift hE1 (fun j hj => hancp (d + 1) (by omega) j hj) ?_ hd2
           rintro j hj ⟨k2, r2, h5, h6⟩
           by_cases hk2 : k2 = d
           ·subst hk2
            rw [hbk] at h6
            simp only [Option.some.injEq, Prod.mk.injEq] at h6
            exact h3 (h6.1 ▸ hj.1)
           ·exact h3 (hj.2 k2 d b r2 rb ob (by omega) h6 hbk hob hbl)
     exact hlast c (by omega) (Nat.le_refl _)
   have h1 := hd env ⟨rfl,fun _ _ => rfl⟩ rd ρ0 W0 a w Q (wpAnyIn rd.fence 0 P .any l.toArray Q fuel (listed.setIfInBounds i true)) hn hR fun a' w' hR' =>
    ih pl hpl (listed.setIfInBounds i true) a' w' c (setE env o.dst (G (pl.take (k + 1)))) (by simpa using hsz) hcnt' hdown' hcl (fun k' i' rs' o' hk' ho'' hb' => by
     rw [lst_set hisz, hloud k' i' rs' o' hk' ho'' hb']
     constructor
     ·rintro (h | rfl)
      ·exact h
      ·rw [ho'] at ho''; simp only [Option.some.injEq] at ho''; subst ho''; rw [hb] at hb'; cases hb'
     ·exact fun h => .inl h) (henv.put hP hk ho' (lst_set hisz)) hR'
   unfold wpOpIn
   simp only [ho]
   unfold wpOne at h1
   split
   ·rename_i hw; rw [if_pos hw] at h1; exact h1
   ·rename_i hw; rw [if_neg hw] at h1; exact ⟨fun f _ => rd.fn_all f, h1⟩
end
end Go.Ab
namespace Go.Ab
def memN : List Nat → Nat → Bool
 | [], _ => false
 | x :: xs, y => cond (Nat.beq x y) true (memN xs y)
theorem memN_mem : ∀ {l : List Nat} {x : Nat}, memN l x = true ↔ x ∈ l
 | [], x => by simp [memN]
 | y :: ys, x => by
  unfold memN
  cases h : Nat.beq y x with
  | true => simp [Nat.eq_of_beq_eq_true h]
  | false =>
   have : y ≠ x := fun e => by subst e; rw [Nat.beq_refl] at h; cases h
   simp only [cond_false, List.mem_cons]
   rw [memN_mem]
   exact ⟨.inr, fun h => h.resolve_left fun e => this e.symm⟩
def allN : Nat → (Nat → Bool) → Bool
 | 0, _ => true
 | m + 1, f => f m && allN m f
theorem allN_spec {f : Nat → Bool} : ∀ {m : Nat}, allN m f = true → ∀ i, i < m → f i = true
 | 0, _, i, hi => by omega
 | m + 1, h, i, hi => by
  simp only [allN, Bool.and_eq_true] at h
  by_cases e : i = m
  ·rw [e]; exact h.1
  ·exact allN_spec h.2 i (by omega)
def allL : List Nat → (Nat → Bool) → Bool
 | [], _ => true
 | x :: xs, f => f x && allL xs f
theorem allL_spec {f : Nat → Bool} : ∀ {l : List Nat}, allL l f = true → ∀ i ∈ l, f i = true
 | [], _, i, hi => by cases hi
 | x :: xs, h, i, hi => by
  simp only [allL, Bool.and_eq_true] at h
  rcases List.mem_cons.1 hi with rfl | hm
  ·exact h.1
  ·exact allL_spec h.2 i hm
def nodupB : List Nat → Bool
 | [] => true
 | x :: xs => !memN xs x && nodupB xs
theorem nodupB_spec : ∀ {l : List Nat}, nodupB l = true → l.Nodup
 | [], _ => List.nodup_nil
 | x :: xs, h => by
  simp only [nodupB, Bool.and_eq_true, Bool.not_eq_true'] at h
  refine List.nodup_cons.2 ⟨fun hm => ?_, nodupB_spec h.2⟩
  rw [memN_mem.2 hm] at h
  cases h.1
abbrev PlanL := List (Nat × List Nat × List Nat)
def PlanL.pl (p : PlanL) : List (Nat × List Nat) := p.map fun q => (q.1, q.2.2)
def ancOf : PlanL → Nat → List Nat
 | [], _ => []
 | (k, as, _) :: r, i => cond (Nat.beq k i) as (ancOf r i)
theorem ancOf_mem : ∀ {p : PlanL} {i j : Nat}, j ∈ ancOf p i → ∃ as rs, (i, as, rs) ∈ p ∧ j ∈ as
 | [], i, j, h => by cases h
 | (k, as, rs) :: r, i, j, h => by
  unfold ancOf at h
  cases hb : Nat.beq k i with
  | true =>
   rw [hb] at h
   have := Nat.eq_of_beq_eq_true hb
   subst this
   exact ⟨as, rs, by simp, h⟩
  | false =>
   rw [hb] at h
   obtain ⟨as', rs', h1, h2⟩ := ancOf_mem (p := r) h
   exact ⟨as', rs', List.mem_cons_of_mem _ h1, h2⟩
def linB (l : List Oper) : PlanL → PlanL → Bool
 | _, [] => true
 | before, (i, as, rs) :: rest =>
  (match nthOp l i with
   | some o => allL (edgesOf o) (fun e => memN (before.map (·.1)) e) && allL as (fun j => memN (edgesOf o) j || !allL (edgesOf o) (fun e => !memN (ancOf before e) j))
   | none => false) && linB l ((i, as, rs) :: before) rest
def dstIs (l : List Oper) (i : Nat) : Option Nat := match nthOp l i with | some o => o.dst | none => none
def loudAt (l : List Oper) (i : Nat) : Bool := match nthOp l i with | some o => isLoud o | none => false
theorem loudAt_eq {l : List Oper} {i : Nat} {o : Oper} (h : l[i]? = some o) : loudAt l i = isLoud o := by unfold loudAt;rw [nthOp_eq,h]
theorem allL_not {f : Nat → Bool} : ∀ {l : List Nat}, (!allL l f) = true → ∃ i ∈ l, f i = false
 | [], h => by simp [allL] at h
 | x :: xs, h => by
  cases hx : f x with
  | false => exact ⟨x, by simp, hx⟩
  | true =>
   simp only [allL, hx, Bool.true_and] at h
   obtain ⟨i, hi, hf⟩ := allL_not h
   exact ⟨i, by simp [hi], hf⟩
def afterL : PlanL → Nat → List Nat
 | [], _ => []
 | (k, _, _) :: r, j => cond (Nat.beq k j) (r.map (·.1)) (afterL r j)
theorem afterL_mem : ∀ {p : PlanL} {kj kb j b : Nat} {aj rj ab rb : List Nat},(p.map (·.1)).Nodup → kj < kb → p[kj]? = some (j,aj,rj) → p[kb]? = some (b,ab,rb) → b ∈ afterL p j
 | [], kj, kb, j, b, aj, rj, ab, rb, _, _, h, _ => by simp at h
 | (k, as, rs) :: r, kj, kb, j, b, aj, rj, ab, rb, hn, hlt, h, h2 => by
  simp only [List.map_cons, List.nodup_cons] at hn
  obtain ⟨kb, rfl⟩ : ∃ q, kb = q + 1 := ⟨kb - 1, by omega⟩
  simp only [List.getElem?_cons_succ] at h2
  unfold afterL
  cases kj with
  | zero =>
   simp only [List.getElem?_cons_zero, Option.some.injEq, Prod.mk.injEq] at h
   rw [h.1, Nat.beq_refl]
   exact List.mem_map.2 ⟨_, List.mem_of_getElem? h2, rfl⟩
  | succ kj =>
   simp only [List.getElem?_cons_succ] at h
   have hne : Nat.beq k j = false := by
    cases hq : Nat.beq k j with
    | false => rfl
    | true => exact (hn.1 (by rw [Nat.eq_of_beq_eq_true hq];exact List.mem_map.2 ⟨_,List.mem_of_getElem? h,rfl⟩)).elim
   rw [hne]
   exact afterL_mem hn.2 (by omega) h h2
theorem afterL_pos : ∀ {p : PlanL} {j b k : Nat} {as rs : List Nat},b ∈ afterL p j → p[k]? = some (j,as,rs) → (∀ k' as' rs',p[k']? = some (j,as',rs') → k' = k) → ∃ k2 as2 rs2,k < k2 ∧ p[k2]? = some (b,as2,rs2)
 | [], _, _, _, _, _, h, _, _ => by simp [afterL] at h
 | (q, a, r) :: p, j, b, k, as, rs, h, hk, hu => by
  unfold afterL at h
  cases hq : Nat.beq q j with
  | true =>
   rw [hq] at h
   have e := Nat.eq_of_beq_eq_true hq
   have := hu 0 a r (by rw [← e]; simp)
   subst this
   obtain ⟨x, hx, hb⟩ := List.mem_map.1 h
   obtain ⟨m, hm⟩ := List.mem_iff_getElem?.1 hx
   exact ⟨m + 1, x.2.1, x.2.2, by omega, by simp [hm, ← hb]⟩
  | false =>
   rw [hq] at h
   cases k with
   | zero => simp at hk; rw [hk.1, Nat.beq_refl] at hq; cases hq
   | succ k =>
    simp only [List.getElem?_cons_succ] at hk
    obtain ⟨k2,a2,r2,h1,h2⟩ := afterL_pos h hk fun k' a' r' h' => by have := hu (k' + 1) a' r' (by simpa using h');omega
    exact ⟨k2 + 1, a2, r2, by omega, by simpa using h2⟩
def planB (l : List Oper) (p : PlanL) : Bool :=
 nodupB (p.map (·.1)) && allL (p.map (·.1)) (fun i => Nat.blt i l.length) && allN l.length (fun i => memN (p.map (·.1)) i) && linB l [] p &&
 allN l.length (fun i => allN l.length fun j => match dstIs l i,dstIs l j with | some d,some e => Nat.beq i j || !Nat.beq d e | _,_ => true) &&
 allN l.length (fun i => match nthOp l i with
  | some oi=>allN l.length fun j=>match dstIs l j with|some d=>!memN (looksL l oi) d || (memN (ancOf p i) j || (memN (ancOf p j) i && allL (afterL p j) fun b=>match nthOp l b with|some ob=>!isLoud ob || memN (ancOf p b) i|none=>true))|none=>true
  | none => true) &&
 allN p.length (fun k' => allN k' fun k => match p[k]?, p[k']? with
  | some (a, _, _), some (b, _, rb) => (match nthOp l a, nthOp l b with
   | some oa,some ob => memN (ancOf p b) a || cond (isLoud ob) (isLoud oa || memN rb a) (!isLoud oa || !allL (afterL p a) fun a2 => !(loudAt l a2 && memN (ancOf p b) a2))
   | _, _ => true)
  | _, _ => true)
theorem linB_spec {l : List Oper} : ∀ {rest before : PlanL},(∀ i j,j ∈ ancOf before i → Anc l j i) → linB l before rest = true →
  (∀ (k i : Nat) (as rs : List Nat),rest[k]? = some (i,as,rs) → ∃ o,l[i]? = some o ∧ (∀ e ∈ edgesOf o,e ∈ before.map (·.1) ∨ ∃ (k' : Nat) (as' rs' : List Nat),k' < k ∧ rest[k']? = some (e,as',rs')) ∧ ∀ j ∈ as,Anc l j i)
 | [], _, _, _, k, i, as, rs, h => by simp at h
 | (i0, as0, rs0) :: rest, before, hb, h, k, i, as, rs, hk => by
  unfold linB at h
  simp only [Bool.and_eq_true] at h
  obtain ⟨h1, h2⟩ := h
  split at h1
  case h_2 => cases h1
  rename_i o ho
  simp only [Bool.and_eq_true] at h1
  obtain ⟨h3, h4⟩ := h1
  rw [nthOp_eq] at ho
  have hanc0 : ∀ j ∈ as0, Anc l j i0 := by
   intro j hj
   have := allL_spec h4 j hj
   simp only [Bool.or_eq_true, Bool.not_eq_true'] at this
   rcases this with h5 | h5
   ·exact .one ho (memN_mem.1 h5)
   ·by_cases hex : ∃ e ∈ edgesOf o, j ∈ ancOf before e
    ·obtain ⟨e, he, hje⟩ := hex
     exact .step ho he (hb e j hje)
    ·exfalso
     have key : ∀ es : List Nat,(∀ e ∈ es,j ∉ ancOf before e) → allL es (fun e => !memN (ancOf before e) j) = true := by
      intro es
      induction es with
      | nil => intro _; rfl
      | cons e es ih =>
       intro hq
       simp only [allL, Bool.and_eq_true, Bool.not_eq_true']
       refine ⟨?_, ih fun e' he' => hq e' (List.mem_cons_of_mem _ he')⟩
       cases hm : memN (ancOf before e) j with
       | false => rfl
       | true => exact (hq e (by simp) (memN_mem.1 hm)).elim
     rw [key _ fun e he hj' => hex ⟨e, he, hj'⟩] at h5
     cases h5
  cases k with
  | zero =>
   simp only [List.getElem?_cons_zero, Option.some.injEq, Prod.mk.injEq] at hk
   obtain ⟨rfl, rfl, rfl⟩ := hk
   exact ⟨o, ho, fun e he => .inl (memN_mem.1 (allL_spec h3 e he)), hanc0⟩
  | succ k =>
   simp only [List.getElem?_cons_succ] at hk
   have hb' : ∀ i j, j ∈ ancOf ((i0, as0, rs0) :: before) i → Anc l j i := by
    intro i j hj
    unfold ancOf at hj
    cases hq : Nat.beq i0 i with
    | true =>
     rw [hq] at hj
     have := Nat.eq_of_beq_eq_true hq
     subst this
     exact hanc0 j hj
    | false => rw [hq] at hj; exact hb i j hj
   obtain ⟨o', ho', he', ha'⟩ := linB_spec hb' h2 k i as rs hk
   refine ⟨o', ho', fun e he => ?_, ha'⟩
   rcases he' e he with h5 | ⟨k', as', rs', hlt, h6⟩
   ·simp only [List.map_cons, List.mem_cons] at h5
    rcases h5 with rfl | h5
    ·exact .inr ⟨0, as0, rs0, by omega, by simp⟩
    ·exact .inl h5
   ·exact .inr ⟨k' + 1, as', rs', by omega, by simpa using h6⟩
theorem planB_spec {l : List Oper} {p : PlanL} (h : planB l p = true) : Plan l p.pl := by
 unfold planB at h
 simp only [Bool.and_eq_true] at h
 obtain ⟨⟨⟨⟨⟨⟨h1, h2⟩, h3⟩, h4⟩, h5⟩, h6⟩, h7⟩ := h
 have hm : p.pl.map (·.1) = p.map (·.1) := by simp [PlanL.pl, Function.comp_def]
 have hlin := linB_spec (before := []) (fun i j hj => by cases hj) h4
 have hget : ∀ {k i : Nat} {rs : List Nat}, p.pl[k]? = some (i, rs) → ∃ as, p[k]? = some (i, as, rs) := by
  intro k i rs hk
  simp only [PlanL.pl, List.getElem?_map] at hk
  cases hq : p[k]? with
  | none => rw [hq] at hk; simp at hk
  | some q =>
   rw [hq] at hk
   simp only [Option.map_some, Option.some.injEq, Prod.mk.injEq] at hk
   obtain ⟨rfl, rfl⟩ := hk
   exact ⟨q.2.1, rfl⟩
 have hanc : ∀ {i j : Nat}, j ∈ ancOf p i → Anc l j i := by
  intro i j hj
  obtain ⟨as, rs, h8, h9⟩ := ancOf_mem hj
  obtain ⟨k, hk⟩ := List.mem_iff_getElem?.1 h8
  obtain ⟨_, _, _, h10⟩ := hlin k i as rs hk
  exact h10 j h9
 have hlt : ∀ {i : Nat} {o : Oper}, l[i]? = some o → i < l.length := fun h => (List.getElem?_eq_some_iff.1 h).1
 refine ⟨by rw [hm];exact nodupB_spec h1,fun i=>⟨fun hi=>by rw [hm];exact memN_mem.1 (allN_spec h3 i hi),fun hi=>by rw [hm] at hi;simpa [Nat.blt_eq] using allL_spec h2 i hi⟩,fun k i rs o e hk ho he=>?_,fun i j oi oj d hi hj hdi hdj=>?_,fun i j oi oj d hi hj hd hl=>?_,
  fun k k' a b ra rb oa ob hkk hk hk' ha hb => ?_⟩
 ·obtain ⟨as, hk2⟩ := hget hk
  obtain ⟨o', ho', he', _⟩ := hlin k i as rs hk2
  rw [ho] at ho'
  simp only [Option.some.injEq] at ho'
  subst ho'
  rcases he' e he with h8 | ⟨k', as', rs', h8, h9⟩
  ·cases h8
  ·exact ⟨k', rs', h8, by simp [PlanL.pl, h9]⟩
 ·have := allN_spec (allN_spec h5 i (hlt hi)) j (hlt hj)
  simp only [dstIs, nthOp_eq, hi, hj, hdi, hdj, Bool.or_eq_true, Bool.not_eq_true'] at this
  rcases this with h8 | h8
  ·exact Nat.eq_of_beq_eq_true h8
  ·rw [Nat.beq_refl] at h8; cases h8
 ·have := allN_spec h6 i (hlt hi)
  simp only [nthOp_eq, hi] at this
  have := allN_spec this j (hlt hj)
  simp only [dstIs, nthOp_eq, hj, hd, Bool.or_eq_true, Bool.not_eq_true'] at this
  rcases this with h8 | h8 | h8
  ·rw [memN_mem.2 hl] at h8; cases h8
  ·exact .inl (hanc (memN_mem.1 h8))
  ·simp only [Bool.and_eq_true] at h8
   refine .inr ⟨hanc (memN_mem.1 h8.1), fun kj kb b rj rb ob hlt2 hkj hkb hob hlb => ?_⟩
   obtain ⟨aj, hkj2⟩ := hget hkj
   obtain ⟨ab, hkb2⟩ := hget hkb
   have := allL_spec h8.2 b (afterL_mem (nodupB_spec h1) hlt2 hkj2 hkb2)
   simp only [hob, hlb, Bool.not_true, Bool.false_or] at this
   exact hanc (memN_mem.1 this)
 ·obtain ⟨as, hk2⟩ := hget hk
  obtain ⟨bs, hk2'⟩ := hget hk'
  have := allN_spec (allN_spec h7 k' ((List.getElem?_eq_some_iff.1 hk2').1)) k hkk
  simp only [hk2, hk2', nthOp_eq, ha, hb, Bool.or_eq_true] at this
  rcases this with h8 | h8
  ·exact ⟨fun _ _ => .inl (hanc (memN_mem.1 h8)), fun _ _ => .inl (hanc (memN_mem.1 h8))⟩
  ·cases hlb : isLoud ob with
   | true =>
    rw [hlb] at h8
    simp only [cond_true, Bool.or_eq_true] at h8
    refine ⟨fun _ hla => ?_, fun h => by cases h⟩
    rcases h8 with h8 | h8
    ·rw [h8] at hla; cases hla
    ·exact .inr (memN_mem.1 h8)
   | false =>
    rw [hlb] at h8
    simp only [cond_false, Bool.or_eq_true] at h8
    refine ⟨fun h => Bool.noConfusion h, fun _ h => ?_⟩
    rcases h8 with h8 | h8
    ·rw [h] at h8; cases h8
    ·obtain ⟨a2, h9, h10⟩ := allL_not h8
     simp only [Bool.not_eq_false', Bool.and_eq_true] at h10
     have h11 := h10.1
     unfold loudAt at h11
     split at h11
     case h_2 => cases h11
     rename_i o2 ho2
     rw [nthOp_eq] at ho2
     obtain ⟨k2, as2, rs2, h12, h13⟩ := afterL_pos h9 hk2 (fun k' as' rs' h' => by
      have n1 := nodupB_spec h1
      have e1 : (p.map (·.1))[k']? = some a := by simp [h']
      have e2 : (p.map (·.1))[k]? = some a := by simp [hk2]
      obtain ⟨l1, g1⟩ := List.getElem?_eq_some_iff.1 e1
      obtain ⟨l2, g2⟩ := List.getElem?_eq_some_iff.1 e2
      exact (List.getElem_inj n1).1 (g1.trans g2.symm))
     exact .inr ⟨k2, a2, rs2, o2, h12, by simp [PlanL.pl, h13], ho2, h11, hanc (memN_mem.1 h10.2)⟩
/-! ### Trees of plans -/
inductive PT where
 | last (p : PlanL)
 | fork (p : PlanL) (l r : PT)
def pathsL : PT → List PlanL
 | .last p => [p]
 | .fork p l r => ((pathsL l).map (p ++ ·)) ++ ((pathsL r).map (p ++ ·))
def headN : PlanL → Option Nat
 | [] => none
 | (i, _, _) :: _ => some i
def optNe : Option Nat → Option Nat → Bool
 | some a, some b => !Nat.beq a b
 | _, _ => false
def allP {α : Type} (f : α → Bool) : List α → Bool
 | [] => true
 | x :: xs => f x && allP f xs
def anyP {α : Type} (f : α → Bool) : List α → Bool
 | [] => false
 | x :: xs => f x || anyP f xs
theorem allP_spec {α : Type} {f : α → Bool} : ∀ {l : List α}, allP f l = true → ∀ x ∈ l, f x = true
 | [], _, x, hx => by cases hx
 | y :: ys, h, x, hx => by
  simp only [allP, Bool.and_eq_true] at h
  rcases List.mem_cons.1 hx with rfl | hm
  ·exact h.1
  ·exact allP_spec h.2 x hm
theorem anyP_spec {α : Type} {f : α → Bool} : ∀ {l : List α}, anyP f l = true → ∃ x ∈ l, f x = true
 | [], h => by simp [anyP] at h
 | y :: ys, h => by
  simp only [anyP, Bool.or_eq_true] at h
  rcases h with h | h
  ·exact ⟨y, by simp, h⟩
  ·obtain ⟨x, hx, hf⟩ := anyP_spec h
   exact ⟨x, by simp [hx], hf⟩
def headsB : PT → Bool
 | .last _ => true
 | .fork _ l r => headsB l && headsB r && allP (fun a => allP (fun b => optNe (headN a) (headN b)) (pathsL r)) (pathsL l)
def natsB : List Nat → List Nat → Bool
 | [], [] => true
 | x :: xs, y :: ys => Nat.beq x y && natsB xs ys
 | _, _ => false
theorem natsB_eq : ∀ {a b : List Nat}, natsB a b = true → a = b
 | [], [], _ => rfl
 | x :: xs, y :: ys, h => by
  simp only [natsB, Bool.and_eq_true] at h
  rw [Nat.eq_of_beq_eq_true h.1, natsB_eq h.2]
 | [], _ :: _, h => by simp [natsB] at h
 | _ :: _, [], h => by simp [natsB] at h
def preB : Nat → PlanL → PlanL → Bool
 | 0, _, _ => true
 | _ + 1, [], [] => true
 | b + 1, (i, _, r) :: p, (j, _, q) :: p' => Nat.beq i j && natsB r q && preB b p p'
 | _, _, _ => false
theorem preB_spec : ∀ {b : Nat} {p p' : PlanL}, preB b p p' = true → p'.pl.take b = p.pl.take b
 | 0, _, _, _ => by simp
 | b + 1, [], [], _ => by simp
 | b + 1, (i, _, r) :: p, (j, _, q) :: p', h => by
  simp only [preB, Bool.and_eq_true] at h
  have h1 := preB_spec h.2
  simp only [PlanL.pl] at h1 ⊢
  simp only [List.map_cons, List.take_succ_cons, h1, Nat.eq_of_beq_eq_true h.1.1, natsB_eq h.1.2]
 | b + 1, [], _ :: _, h => by simp [preB] at h
 | b + 1, _ :: _, [], h => by simp [preB] at h
def nextLoud (l : List Oper) : PlanL → Nat → Nat
 | [], _ => 0
 | (i, _, _) :: p, 0 => cond (loudAt l i) 0 (nextLoud l p 0 + 1)
 | _ :: p, c + 1 => nextLoud l p c + 1
theorem nextLoud_le (l : List Oper) : ∀ (p : PlanL) (c : Nat), nextLoud l p c ≤ p.length
 | [], _ => Nat.le_refl _
 | (i, _, _) :: p, 0 => by
  unfold nextLoud
  have := nextLoud_le l p 0
  cases loudAt l i <;> simp; omega
 | _ :: p, c + 1 => by
  unfold nextLoud
  have := nextLoud_le l p c
  simp; omega
theorem nextLoud_ge (l : List Oper) : ∀ (p : PlanL) (c : Nat), c ≤ p.length → c ≤ nextLoud l p c
 | [], c, h => by simp at h; simp [h]
 | (i, _, _) :: p, 0, _ => Nat.zero_le _
 | _ :: p, c + 1, h => by
  unfold nextLoud
  have := nextLoud_ge l p c (by simpa using h)
  omega
theorem nextLoud_quiet (l : List Oper) : ∀ (p : PlanL) (c m j : Nat) (as rs : List Nat),c ≤ m → m < nextLoud l p c → p[m]? = some (j,as,rs) → loudAt l j = false
 | [], _, m, j, as, rs, _, _, h => by simp at h
 | (i, a, b) :: p, 0, m, j, as, rs, _, hlt, h => by
  unfold nextLoud at hlt
  cases hb : loudAt l i with
  | true => rw [hb] at hlt; simp at hlt
  | false =>
   rw [hb] at hlt
   simp only [cond_false] at hlt
   cases m with
   | zero => simp at h; rw [← h.1]; exact hb
   | succ m => exact nextLoud_quiet l p 0 m j as rs (Nat.zero_le _) (by omega) (by simpa using h)
 | _ :: p, c + 1, m, j, as, rs, hle, hlt, h => by
  unfold nextLoud at hlt
  obtain ⟨m, rfl⟩ : ∃ q, m = q + 1 := ⟨m - 1, by omega⟩
  exact nextLoud_quiet l p c m j as rs (by omega) (by omega) (by simpa using h)
def headIs : PlanL → Nat → Nat → Bool
 | [], _, _ => false
 | (j, _, _) :: _, 0, i => Nat.beq j i
 | _ :: p, k + 1, i => headIs p k i
theorem headIs_spec : ∀ {p : PlanL} {k i : Nat}, headIs p k i = true → ∃ as rs, p[k]? = some (i, as, rs)
 | [], _, _, h => by simp [headIs] at h
 | (j, as, rs) :: _, 0, i, h => ⟨as, rs, by simp only [headIs] at h; simp [Nat.eq_of_beq_eq_true h]⟩
 | _ :: p, k + 1, i, h => by
  simp only [headIs] at h
  obtain ⟨as, rs, h2⟩ := headIs_spec h
  exact ⟨as, rs, by simpa using h2⟩
def takeN : Nat → PlanL → List Nat
 | 0, _ => []
 | _ + 1, [] => []
 | c + 1, (i, _, _) :: p => i :: takeN c p
theorem takeN_mem : ∀ {c : Nat} {p : PlanL} {i : Nat}, i ∈ takeN c p ↔ ∃ k as rs, k < c ∧ p[k]? = some (i, as, rs)
 | 0, p, i => by simp [takeN]
 | c + 1, [], i => by simp [takeN]
 | c + 1, (j, a, r) :: p, i => by
  simp only [takeN, List.mem_cons]
  rw [takeN_mem (c := c) (p := p)]
  constructor
  ·rintro (rfl | ⟨k, as, rs, hk, h⟩)
   ·exact ⟨0, a, r, by omega, by simp⟩
   ·exact ⟨k + 1, as, rs, by omega, by simpa using h⟩
  ·rintro ⟨k, as, rs, hk, h⟩
   cases k with
   | zero => simp at h; exact .inl h.1.symm
   | succ k => exact .inr ⟨k, as, rs, by omega, by simpa using h⟩
def waits (l : List Oper) (p : PlanL) (c q : Nat) : Bool := !allL (ancOf p q) fun j => !loudAt l j || memN (takeN c p) j
def swOne (l : List Oper) (p : PlanL) (c i : Nat) (p' : PlanL) : Bool :=
 preB (nextLoud l p c) p p' && headIs p' (nextLoud l p' (nextLoud l p c)) i && Nat.ble (nextLoud l p c) p'.length &&
  allN l.length fun q => loudAt l q || memN (takeN (nextLoud l p c) p) q || waits l p c q
def swB (l : List Oper) (ps : List PlanL) : Bool :=
 allP (fun p => allN (p.length + 1) fun c => allN l.length fun i => !loudAt l i || memN (takeN c p) i || waits l p c i || anyP (swOne l p c i) ps) ps
def treeB (l : List Oper) (t : PT) : Bool := headsB t && allP (planB l) (pathsL t) && swB l (pathsL t)
theorem PlanL.get {p : PlanL} {k i : Nat} {rs : List Nat} (hk : p.pl[k]? = some (i,rs)) : ∃ as,p[k]? = some (i,as,rs) := by
 simp only [PlanL.pl, List.getElem?_map] at hk
 cases hq : p[k]? with
 | none => rw [hq] at hk; simp at hk
 | some q =>
  rw [hq] at hk
  simp only [Option.map_some, Option.some.injEq, Prod.mk.injEq] at hk
  obtain ⟨rfl, rfl⟩ := hk
  exact ⟨q.2.1, rfl⟩
theorem PlanL.of_get {p : PlanL} {k i : Nat} {as rs : List Nat} (hk : p[k]? = some (i,as,rs)) : p.pl[k]? = some (i,rs) := by simp [PlanL.pl,hk]
theorem planB_anc {l : List Oper} {p : PlanL} (h : planB l p = true) {i j : Nat} (hj : j ∈ ancOf p i) : Anc l j i := by
 unfold planB at h
 simp only [Bool.and_eq_true] at h
 have hlin := linB_spec (before := []) (fun i j hj => by cases hj) h.1.1.1.2
 obtain ⟨as, rs, h8, h9⟩ := ancOf_mem hj
 obtain ⟨k, hk⟩ := List.mem_iff_getElem?.1 h8
 obtain ⟨_, _, _, h10⟩ := hlin k i as rs hk
 exact h10 j h9
theorem waits_spec {l : List Oper} {p : PlanL} (hp : planB l p = true) {c q : Nat} (h : waits l p c q = true) : ∃ (j : Nat) (oj : Oper),Anc l j q ∧ l[j]? = some oj ∧ isLoud oj = true ∧ ∀ k rs,p.pl[k]? = some (j,rs) → c ≤ k := by
 obtain ⟨j, hj, hf⟩ := allL_not h
 simp only [Bool.or_eq_false_iff, Bool.not_eq_false'] at hf
 have hl := hf.1
 unfold loudAt at hl
 split at hl
 case h_2 => cases hl
 rename_i o ho
 rw [nthOp_eq] at ho
 refine ⟨j, o, planB_anc hp hj, ho, hl, fun k rs hk => ?_⟩
 obtain ⟨as, hk2⟩ := PlanL.get hk
 rcases Nat.lt_or_ge k c with h1 | h1
 ·have : memN (takeN c p) j = true := memN_mem.2 (takeN_mem.2 ⟨k, as, rs, h1, hk2⟩)
  rw [this] at hf; cases hf.2
 ·exact h1
theorem swB_spec {l : List Oper} {ps : List PlanL} (hp : ∀ p ∈ ps,planB l p = true) (h : swB l ps = true) : Switch l (ps.map PlanL.pl) := by
 intro pl hpl c i o hc hi hlo hout hanc
 obtain ⟨p, hpm, rfl⟩ := List.mem_map.1 hpl
 have hlen : p.pl.length = p.length := by simp [PlanL.pl]
 have h1 := allN_spec (allN_spec (allP_spec h p hpm) c (by omega)) i (List.getElem?_eq_some_iff.1 hi).1
 simp only [loudAt_eq hi, hlo, Bool.not_true, Bool.false_or, Bool.or_eq_true] at h1
 rcases h1 with (h1 | h1) | h1
 ·obtain ⟨k, as, rs, hk, h2⟩ := takeN_mem.1 (memN_mem.1 h1)
  have := hout k rs (PlanL.of_get h2)
  omega
 ·obtain ⟨j, oj, h2, h3, h4, h5⟩ := waits_spec (hp p hpm) h1
  obtain ⟨k, rs, h6, h7⟩ := hanc j oj h2 h3 h4
  have := h5 k rs h7
  omega
 ·obtain ⟨p', hp', h2⟩ := anyP_spec h1
  unfold swOne at h2
  simp only [Bool.and_eq_true] at h2
  obtain ⟨⟨⟨h3, h4⟩, h5⟩, h6⟩ := h2
  have h5 := Nat.le_of_ble_eq_true h5
  have hb1 := nextLoud_ge l p c (by omega)
  have hb2 := nextLoud_le l p c
  have hk1 := nextLoud_ge l p' _ h5
  obtain ⟨as, rs, h7⟩ := headIs_spec h4
  have hpre := preB_spec h3
  refine ⟨p'.pl,List.mem_map_of_mem hp',nextLoud l p c,nextLoud l p' (nextLoud l p c),rs,hb1,by omega,hpre,hk1,PlanL.of_get h7,fun m j r oj hm1 hm2 hm3 hoj=>?_,fun q oq hq hlq hout2=>?_⟩
  ·rw [← loudAt_eq hoj]
   rcases Nat.lt_or_ge m (nextLoud l p c) with h8 | h8
   ·rw [take_get hpre h8] at hm3
    obtain ⟨a, h9⟩ := PlanL.get hm3
    exact nextLoud_quiet l p c m j a r hm1 h8 h9
   ·obtain ⟨a, h9⟩ := PlanL.get hm3
    exact nextLoud_quiet l p' _ m j a r h8 hm2 h9
  ·have h8 := allN_spec h6 q (List.getElem?_eq_some_iff.1 hq).1
   simp only [loudAt_eq hq, hlq, Bool.false_or, Bool.or_eq_true] at h8
   rcases h8 with h8 | h8
   ·obtain ⟨k, a, r, h9, h10⟩ := takeN_mem.1 (memN_mem.1 h8)
    have := hout2 k r (PlanL.of_get h10)
    omega
   ·exact waits_spec (hp p hpm) h8
def DCT (P : Program) (Γ : Tab) (n : Nat) (l : List Oper) (K : St → Prop) : PT → St → Prop
 | .last p, st => DC P Γ n l K p.pl st
 | .fork p a b, st => DC P Γ n l (fun st' => DCT P Γ n l K a st' ∧ DCT P Γ n l K b st') p.pl st
section
variable {P : Program} {Γ : Tab} {n : Nat}
theorem Chain.congr {l : List Oper} {pl : List (Nat × List Nat)} {S S' : Nat → St} {V V' : Nat → AV} (hc : Chain P n l pl S V) (h1 : ∀ k,k ≤ pl.length → S' k = S k) (h2 : ∀ k,k < pl.length → V' k = V k) : Chain P n l pl S' V' := ⟨fun k i rs hk=>by
 have hlt := pl_lt hk
 rw [h1 k (by omega), h1 (k + 1) (by omega), h2 k hlt]
 exact hc.step k i rs hk⟩
theorem Chain.append {l : List Oper} {pl a : List (Nat × List Nat)} {S S' : Nat → St} {V V' : Nat → AV} (hc : Chain P n l pl S V) (hc' : Chain P n l a S' V') (h0 : S' 0 = S pl.length) :
  Chain P n l (pl ++ a) (fun k => if k ≤ pl.length then S k else S' (k - pl.length)) (fun k => if k < pl.length then V k else V' (k - pl.length)) := ⟨fun k i rs hk => by
 rw [List.getElem?_append] at hk
 split at hk
 ·rename_i hlt
  simp only [if_pos (Nat.le_of_lt hlt), if_pos hlt, if_pos (Nat.succ_le_of_lt hlt)]
  exact hc.step k i rs hk
 ·rename_i hge
  have e1 : (if k ≤ pl.length then S k else S' (k - pl.length)) = S' (k - pl.length) := by
   split
   ·have : k = pl.length := by omega
    subst this
    rw [Nat.sub_self, h0]
   ·rfl
  have e2 : (if k + 1 ≤ pl.length then S (k + 1) else S' (k + 1 - pl.length)) = S' (k - pl.length + 1) := by
   rw [if_neg (by omega)]
   congr 1
   omega
  simp only [e1, e2, if_neg hge]
  exact hc'.step _ i rs hk⟩
open Classical in
theorem DCT.chains (hΓ : TabOk P Γ) {l : List Oper} {K : St → Prop} : ∀ {t : PT} {st : St},headsB t = true → DCT P Γ n l K t st → ∃ (F : List (Nat × List Nat) → St) (G : List (Nat × List Nat) → AV),F [] = st ∧ (∀ p ∈ pathsL t,K (F p.pl)) ∧ ∀ p ∈ pathsL t,Chain P n l p.pl (fun k=>F (p.pl.take k)) (fun k=>G (p.pl.take (k + 1)))
 | .last p, st, _, h => by
  obtain ⟨S, V, h0, hK, hc⟩ := DC.chain hΓ h
  refine ⟨fun q => S q.length, fun q => V (q.length - 1), by simpa using h0, fun p' hp' => ?_, fun p' hp' => ?_⟩
  ·simp only [pathsL, List.mem_singleton] at hp'
   subst hp'; exact hK
  ·simp only [pathsL, List.mem_singleton] at hp'
   subst hp'
   refine hc.congr (fun k hk => ?_) fun k hk => ?_
   ·show S (List.take k p'.pl).length = S k
    rw [List.length_take, Nat.min_eq_left hk]
   ·show V ((List.take (k + 1) p'.pl).length - 1) = V k
    rw [List.length_take, Nat.min_eq_left (Nat.succ_le_of_lt hk)]
    exact congrArg V (Nat.add_sub_cancel k 1)
 | .fork p a b, st, hh, h => by
  simp only [headsB, Bool.and_eq_true] at hh
  obtain ⟨⟨ha, hb⟩, hne⟩ := hh
  obtain ⟨S, V, h0, ⟨hKa, hKb⟩, hc⟩ := DC.chain hΓ h
  obtain ⟨Fa, Ga, a0, aK, ac⟩ := DCT.chains hΓ ha hKa
  obtain ⟨Fb, Gb, b0, bK, bc⟩ := DCT.chains hΓ hb hKb
  let inA : List (Nat × List Nat) → Prop := fun q => ∃ x ∈ pathsL a, headN x = q.head?.map (·.1)
  refine ⟨fun q => if q.length ≤ p.pl.length then S q.length else if inA (q.drop p.pl.length) then Fa (q.drop p.pl.length) else Fb (q.drop p.pl.length),
   fun q => if q.length ≤ p.pl.length then V (q.length - 1) else if inA (q.drop p.pl.length) then Ga (q.drop p.pl.length) else Gb (q.drop p.pl.length),by simpa using h0,?_⟩
  have hhd : ∀ x : PlanL, headN x = x.pl.head?.map (·.1) := fun x => by cases x <;> simp [headN, PlanL.pl]
  have htk : ∀ (x : List (Nat × List Nat)) (m : Nat), 0 < m → (x.take m).head? = x.head? := fun x m hm => by
   cases m with
   | zero => omega
   | succ m => cases x <;> simp
  have inA_a : ∀ x ∈ pathsL a,∀ m,0 < m → inA (x.pl.take m) := fun x hx m hm => ⟨x,hx,by rw [htk _ _ hm];exact hhd x⟩
  have inA_b : ∀ x ∈ pathsL b, ∀ m, 0 < m → ¬ inA (x.pl.take m) := by
   rintro x hx m hm ⟨y, hy, e⟩
   rw [htk _ _ hm, ← hhd] at e
   have := allP_spec (allP_spec hne y hy) x hx
   rw [e] at this
   cases hq : headN x <;> rw [hq] at this <;> simp [optNe] at this
  have app : ∀ x : PlanL, (p ++ x : PlanL).pl = p.pl ++ x.pl := fun x => by simp [PlanL.pl]
  have main : ∀ (x : PlanL) (Fx : List (Nat × List Nat) → St) (Gx : List (Nat × List Nat) → AV),Fx [] = S p.pl.length → K (Fx x.pl) → Chain P n l x.pl (fun k=>Fx (x.pl.take k)) (fun k=>Gx (x.pl.take (k + 1))) →
    (∀ m,0 < m → m ≤ x.pl.length → (if inA (x.pl.take m) then Fa (x.pl.take m) else Fb (x.pl.take m)) = Fx (x.pl.take m)) →
    (∀ m,0 < m → m ≤ x.pl.length → (if inA (x.pl.take m) then Ga (x.pl.take m) else Gb (x.pl.take m)) = Gx (x.pl.take m)) →
    K ((fun q : List (Nat × List Nat)=>if q.length ≤ p.pl.length then S q.length else if inA (q.drop p.pl.length) then Fa (q.drop p.pl.length) else Fb (q.drop p.pl.length)) (p ++ x : PlanL).pl) ∧
    Chain P n l (p ++ x : PlanL).pl (fun k=>(fun q : List (Nat × List Nat)=>if q.length ≤ p.pl.length then S q.length else if inA (q.drop p.pl.length) then Fa (q.drop p.pl.length) else Fb (q.drop p.pl.length)) ((p ++ x : PlanL).pl.take k))
     (fun k=>(fun q : List (Nat × List Nat)=>if q.length ≤ p.pl.length then V (q.length - 1) else if inA (q.drop p.pl.length) then Ga (q.drop p.pl.length) else Gb (q.drop p.pl.length)) ((p ++ x : PlanL).pl.take (k + 1))) := by
   intro x Fx Gx x0 xK xc e1 e2
   have key : ∀ k,k ≤ p.pl.length + x.pl.length → (fun q : List (Nat × List Nat)=>if q.length ≤ p.pl.length then S q.length else if inA (q.drop p.pl.length) then Fa (q.drop p.pl.length) else Fb (q.drop p.pl.length)) ((p.pl ++ x.pl).take k) =
     if k ≤ p.pl.length then S k else Fx (x.pl.take (k - p.pl.length)) := by
    intro k hk
    have hlen : ((p.pl ++ x.pl).take k).length = k := by simp only [List.length_take, List.length_append]; omega
    simp only [hlen]
    split
    ·rfl
    ·have hd : ((p.pl ++ x.pl).take k).drop p.pl.length = x.pl.take (k - p.pl.length) := by
      rw [List.take_append,List.drop_append,List.take_of_length_le (by omega),List.drop_length,List.nil_append,Nat.sub_self,List.drop_zero]
     rw [hd]
     exact e1 _ (by omega) (by omega)
   have key2 : ∀ k,k < p.pl.length + x.pl.length → (fun q : List (Nat × List Nat)=>if q.length ≤ p.pl.length then V (q.length - 1) else if inA (q.drop p.pl.length) then Ga (q.drop p.pl.length) else Gb (q.drop p.pl.length)) ((p.pl ++ x.pl).take (k + 1)) =
     if k < p.pl.length then V k else Gx (x.pl.take (k - p.pl.length + 1)) := by
    intro k hk
    have hlen : ((p.pl ++ x.pl).take (k + 1)).length = k + 1 := by simp only [List.length_take,List.length_append];omega
    simp only [hlen, Nat.add_sub_cancel]
    by_cases hlt : k < p.pl.length
    ·rw [if_pos (by omega), if_pos hlt]
    ·rw [if_neg (by omega), if_neg hlt]
     have hd : ((p.pl ++ x.pl).take (k + 1)).drop p.pl.length = x.pl.take (k - p.pl.length + 1) := by
      rw [List.take_append,List.drop_append,List.take_of_length_le (by omega),List.drop_length,List.nil_append,Nat.sub_self,List.drop_zero]
      congr 1
      omega
     rw [hd]
     exact e2 _ (by omega) (by omega)
   rw [app]
   constructor
   ·have := key (p.pl.length + x.pl.length) (Nat.le_refl _)
    rw [List.take_of_length_le (by simp)] at this
    rw [this]
    split
    ·rename_i hle
     have hx : x.pl = [] := List.eq_nil_of_length_eq_zero (by omega)
     rw [hx] at xK ⊢
     rw [x0] at xK
     simpa using xK
    ·rw [show p.pl.length + x.pl.length - p.pl.length = x.pl.length by omega, List.take_length]
     exact xK
   ·refine (hc.append xc (by simpa using x0)).congr (fun k hk => key k (by simpa using hk)) fun k hk => ?_
    exact key2 k (by simpa using hk)
  refine ⟨fun q hq => ?_, fun q hq => ?_⟩
  ·simp only [pathsL, List.mem_append, List.mem_map] at hq
   rcases hq with ⟨x, hx, rfl⟩ | ⟨x, hx, rfl⟩
   ·exact (main x Fa Ga a0 (aK x hx) (ac x hx) (fun m h1 _ => if_pos (inA_a x hx m h1)) (fun m h1 _ => if_pos (inA_a x hx m h1))).1
   ·exact (main x Fb Gb b0 (bK x hx) (bc x hx) (fun m h1 _ => if_neg (inA_b x hx m h1)) (fun m h1 _ => if_neg (inA_b x hx m h1))).1
  ·simp only [pathsL, List.mem_append, List.mem_map] at hq
   rcases hq with ⟨x, hx, rfl⟩ | ⟨x, hx, rfl⟩
   ·exact (main x Fa Ga a0 (aK x hx) (ac x hx) (fun m h1 _ => if_pos (inA_a x hx m h1)) (fun m h1 _ => if_pos (inA_a x hx m h1))).2
   ·exact (main x Fb Gb b0 (bK x hx) (bc x hx) (fun m h1 _ => if_neg (inA_b x hx m h1)) (fun m h1 _ => if_neg (inA_b x hx m h1))).2
end
theorem getD_rep (m j : Nat) : (Array.replicate m false).getD j false = false := by
 simp only [Array.getD]
 split <;> simp
section
variable {P : Program} {Γ : Tab} {n : Nat} {rd : Rd}
theorem Rel.drew {rd : Rd} {ρ0 : Rho} {W0 : World} {st : St} {a : Act} {w : World} (h : Rel rd ρ0 W0 st a w) : Rel rd ρ0 W0 st a { w with drawn := w.drawn + 1 } := by
 obtain ⟨ρ, h1, h2, h3, h4⟩ := h
 exact ⟨ρ, h1.drewN 1, h2.step ((Step.refl ρ w).drewN 1), RvL.mono ((Step.refl ρ w).drewN 1) _ h3, h4.drewN 1⟩
theorem T_drawT {id : Nat} {l : List Oper} {Q : Exit → St → Prop} {st : St} (hΓ : TabOk P Γ) (hm : P.follows .mixedOrders = true) (t : PT) (hB : treeB l t = true) (h : DCT P Γ n l (Q .normal) t st) : T P n (rd := rd) (.region id l.toArray true) Q st := by
 intro ρ0 W0 a w hn hR
 unfold treeB at hB
 simp only [Bool.and_eq_true] at hB
 obtain ⟨F, G, h0, hK, hc⟩ := DCT.chains hΓ hB.1.1 h
 have hp := allP_spec hB.1.2
 refine wpIn_region_any hm ?_
 have hPs : ∀ pl ∈ (pathsL t).map PlanL.pl, Plan l pl := fun pl hpl => by
  obtain ⟨p, hpm, rfl⟩ := List.mem_map.1 hpl
  exact planB_spec (hp p hpm)
 obtain ⟨p0, hp0⟩ : ∃ p, p ∈ pathsL t := by
  clear hB h hK hc hp hPs
  induction t with
  | last p => exact ⟨p, by simp [pathsL]⟩
  | fork p a b ia ib => obtain ⟨x,hx⟩ := ia;exact ⟨p ++ x,by simp only [pathsL,List.mem_append,List.mem_map];exact .inl ⟨x,hx,rfl⟩⟩
 refine any_order hPs (swB_spec hp hB.2) ⟨fun pl hpl => by
   obtain ⟨p, hpm, rfl⟩ := List.mem_map.1 hpl
   exact hc p hpm⟩ hn (fun pl hpl a' w' hr => by
   obtain ⟨p, hpm, rfl⟩ := List.mem_map.1 hpl
   exact ⟨_,hK p hpm,hr⟩) _ p0.pl (List.mem_map_of_mem hp0) _ a _ 0 st.env (by simp) (by simp) (fun i o e hi=>?_) (Nat.zero_le _) (fun k i rs o _ _ _=>?_) ⟨by rw [h0],fun k i rs o d _ _ _ hi=>?_,fun t _=>by rw [h0]⟩ ?_
 ·exfalso; unfold lst at hi; rw [getD_rep] at hi; cases hi
 ·constructor
  ·intro hi; exfalso; unfold lst at hi; rw [getD_rep] at hi; cases hi
  ·intro hi; omega
 ·exfalso; unfold lst at hi; rw [getD_rep] at hi; cases hi
 ·simp only [List.take_zero, h0]; exact hR.drew
theorem T_draw {id : Nat} {l : List Oper} {Q : Exit → St → Prop} {st : St} (hΓ : TabOk P Γ) (hm : P.follows .mixedOrders = true) (p : PlanL) (hB : treeB l (.last p) = true) (h : DC P Γ n l (Q .normal) p.pl st) : T P n (rd := rd) (.region id l.toArray true) Q st :=
 T_drawT hΓ hm (.last p) hB h
def evD (Γ : Tab) (ops : List Oper) : List (Nat × List Nat) → St → Option (List (Nat × List Nat) × St × Prop)
 | [], st => some ([], st, True)
 | (i, rs) :: rest, st =>
  match nthOp ops i with
  | none => none
  | some o =>
   match isCall o.op with
   | true => some ((i, rs) :: rest, st, True)
   | false =>
    match evV Γ ops st o with
    | none => none
    | some (v, σ', C) =>
     match isLoud o with
     | false =>
      match evD Γ ops rest ⟨setE st.env o.dst v, st.σ⟩ with
      | some (r, st', C') => some (r, st', C ∧ C')
      | none => none
     | true =>
      match evD Γ ops rest ⟨setE st.env o.dst v, σ'⟩ with
      | some (r, st', C') => some (r, st', C ∧ retroOk Γ ops ⟨setE st.env o.dst v, σ'⟩ rs ∧ C')
      | none => none
theorem evV_quiet {ops : List Oper} {st : St} {o : Oper} {v : AV} {σ' : List AObj} {C : Prop} (hl : isLoud o = false) (h : evV Γ ops st o = some (v,σ',C)) : σ' = st.σ := by
 unfold evV at h
 cases hb : bsV o.op with
 | some q =>
  obtain ⟨t, len, ps⟩ := q
  rw [hb] at h
  simp only [] at h
  split at h
  ·split at h
   ·simp only [Option.some.injEq, Prod.mk.injEq] at h
    exact h.2.1.symm
   ·cases h
  ·split at h
   ·split at h
    ·simp only [Option.some.injEq, Prod.mk.injEq] at h
     exact h.2.1.symm
    ·cases h
   ·cases h
 | none =>
  rw [hb] at h
  simp only [] at h
  have hl' : loud o.op = false := by
   unfold isLoud at hl
   rw [hb] at hl
   simp only [Option.isNone_none, Bool.and_true, Bool.or_eq_false_iff] at hl
   exact hl.2
  have hev : ∀ {g : Bool} {v' : AV} {σ'' : List AObj} {C' : Prop},ev1 Γ st g o.op = some (v',σ'',C') → σ'' = st.σ := by
   intro g v' σ'' C' he
   unfold ev1 at he
   split at he
   ·exact (pu_some he).2
   ·split at he
    ·rename_i hq
     simp only [Option.some.injEq, Prod.mk.injEq] at he
     obtain ⟨rfl, rfl, rfl⟩ := he
     exact eOp_quiet hl' hq
    ·cases he
  unfold evV0 at h
  split at h
  ·cases h
  ·exact hev h
  ·rw [hl'] at h
   simp only [] at h
   split at h
   ·simp only [Option.some.injEq, Prod.mk.injEq] at h
    exact h.2.1.symm
   ·cases h
theorem evD_sound (hΓ : TabOk P Γ) {ops : List Oper} {K : St → Prop} : ∀ {pl r : List (Nat × List Nat)} {st st' : St} {C : Prop},evD Γ ops pl st = some (r,st',C) → C → DC P Γ n ops K r st' → DC P Γ n ops K pl st
 | [], r, st, st', C, h, _, k => by
  simp only [evD, Option.some.injEq, Prod.mk.injEq] at h
  obtain ⟨rfl, rfl, _⟩ := h
  exact k
 | (i, rs) :: rest, r, st, st', C, h, hC, k => by
  unfold evD at h
  split at h
  ·cases h
  ·rename_i o ho
   split at h
   ·simp only [Option.some.injEq, Prod.mk.injEq] at h
    obtain ⟨rfl, rfl, _⟩ := h
    exact k
   ·split at h
    ·cases h
    ·rename_i v σ' C1 he
     split at h
     ·rename_i hl
      split at h
      ·rename_i r2 st2 C2 hr
       simp only [Option.some.injEq, Prod.mk.injEq] at h
       obtain ⟨rfl, rfl, rfl⟩ := h
       have := evV_quiet hl he
       subst this
       exact ⟨o, v, st.σ, ho, Does.of_ev hΓ he hC.1, fun _ => rfl, .inl rfl, evD_sound hΓ hr hC.2 k⟩
      ·cases h
     ·rename_i hl
      split at h
      ·rename_i r2 st2 C2 hr
       simp only [Option.some.injEq, Prod.mk.injEq] at h
       obtain ⟨rfl, rfl, rfl⟩ := h
       exact ⟨o,v,σ',ho,Does.of_ev hΓ he hC.1,(fun hq => by rw [hl] at hq;cases hq),.inr hC.2.1,evD_sound hΓ hr hC.2.2 k⟩
      ·cases h
def dcGoal (P : Program) (Γ : Tab) (n : Nat) (ops : List Oper) (K : St → Prop) : Option (List (Nat × List Nat) × St × Prop) → Prop
 | some ([], st, C) => C ∧ K st
 | some (q :: r, st, C) => C ∧ DC P Γ n ops K (q :: r) st
 | none => False
theorem DC_ev (hΓ : TabOk P Γ) {ops : List Oper} {pl : List (Nat × List Nat)} {K : St → Prop} {st : St} (h : dcGoal P Γ n ops K (evD Γ ops pl st)) : DC P Γ n ops K pl st := by
 cases he : evD Γ ops pl st with
 | none => rw [he] at h; exact h.elim
 | some q =>
  obtain ⟨r, st', C⟩ := q
  rw [he] at h
  cases r with
  | nil => exact evD_sound hΓ he h.1 h.2
  | cons q r => exact evD_sound hΓ he h.1 h.2
theorem DCT_last (hΓ : TabOk P Γ) {l : List Oper} {K : St → Prop} {p : PlanL} {st : St} (h : dcGoal P Γ n l K (evD Γ l p.pl st)) : DCT P Γ n l K (.last p) st := DC_ev hΓ h
theorem DCT_fork (hΓ : TabOk P Γ) {l : List Oper} {K : St → Prop} {p : PlanL} {a b : PT} {st : St} (h : ∀ K2 : St → Prop,(∀ st',DCT P Γ n l K a st' → DCT P Γ n l K b st' → K2 st') → dcGoal P Γ n l K2 (evD Γ l p.pl st)) : DCT P Γ n l K (.fork p a b) st :=
 DC_ev hΓ (h (fun st' => DCT P Γ n l K a st' ∧ DCT P Γ n l K b st') fun _ h1 h2 => ⟨h1, h2⟩)
theorem T_seq_drawT {id : Nat} {l : List Oper} {y : Code} {Q : Exit → St → Prop} {st : St} (hΓ : TabOk P Γ) (hm : P.follows .mixedOrders = true) (t : PT) (hB : treeB l t = true) (h : ∀ K : St → Prop,(∀ st',T P n (rd := rd) y Q st' → K st') → DCT P Γ n l K t st) :
  T P n (rd := rd) (.seq (.region id l.toArray true) y) Q st :=
 T_seq (T_drawT (P := P) (n := n) hΓ hm t hB (h (T P n (rd := rd) y Q) fun _ h => h))
theorem T_last_drawT {id : Nat} {l : List Oper} {Q : Exit → St → Prop} {st : St} (hΓ : TabOk P Γ) (hm : P.follows .mixedOrders = true) (t : PT) (hB : treeB l t = true) (h : ∀ K : St → Prop,(∀ st',Q .normal st' → K st') → DCT P Γ n l K t st) :
  T P n (rd := rd) (.region id l.toArray true) Q st :=
 T_drawT (P := P) (n := n) hΓ hm t hB (h (Q .normal) fun _ h => h)
theorem T_seq_draw {id : Nat} {l : List Oper} {y : Code} {Q : Exit → St → Prop} {st : St} (hΓ : TabOk P Γ) (hm : P.follows .mixedOrders = true) (p : PlanL) (hB : treeB l (.last p) = true) (h : ∀ K : St → Prop,(∀ st',T P n (rd := rd) y Q st' → K st') → dcGoal P Γ n l K (evD Γ l p.pl st)) :
  T P n (rd := rd) (.seq (.region id l.toArray true) y) Q st :=
 T_seq (T_draw (P := P) (n := n) hΓ hm p hB (DC_ev hΓ (h (T P n (rd := rd) y Q) fun _ h => h)))
theorem T_last_draw {id : Nat} {l : List Oper} {Q : Exit → St → Prop} {st : St} (hΓ : TabOk P Γ) (hm : P.follows .mixedOrders = true) (p : PlanL) (hB : treeB l (.last p) = true) (h : ∀ K : St → Prop,(∀ st',Q .normal st' → K st') → dcGoal P Γ n l K (evD Γ l p.pl st)) :
  T P n (rd := rd) (.region id l.toArray true) Q st :=
 T_draw (P := P) (n := n) hΓ hm p hB (DC_ev hΓ (h (Q .normal) fun _ h => h))
def dCall (P : Program) (σ : List AObj) (N : AV → List AObj → Prop) (ca : Option (FuncId × List AV × Prop)) : Option (Option Bool) → Prop
 | some none => ∃ v σ1, callGoal P σ (fun v' σ' => v' = v ∧ σ' = σ1) ca ∧ N v σ1
 | some (some g) => (∃ v,(g = true → callGoal P σ (fun v' σ' => v' = v ∧ σ' = σ) ca) ∧ N (.gd g v) σ) ∨ (g = true ∧ ∃ v σ1,callGoal P σ (fun v' σ' => v' = v ∧ σ' = σ1) ca ∧ N v σ1)
 | none => False
theorem DC_call {ops : List Oper} {i : Nat} {rs : List Nat} {rest : List (Nat × List Nat)} {K : St → Prop} {o : Oper} {c : Call} {st : St} (ho : nthOp ops i = some o) (hc : opCall o.op = some c) (hval : isCall o.op = true)
  (h : ∀ N : AV → List AObj → Prop,(∀ v σ',(σ' = st.σ ∨ retroOk Γ ops ⟨setE st.env o.dst v,σ'⟩ rs) → DC P Γ n ops K rest ⟨setE st.env o.dst v,σ'⟩ → N v σ') → dCall P st.σ N (callA st.env c) (guardOf ops st.env o.guard)) : DC P Γ n ops K ((i,rs) :: rest) st := by
 have h' := h (fun v σ' => (σ' = st.σ ∨ retroOk Γ ops ⟨setE st.env o.dst v,σ'⟩ rs) ∧ DC P Γ n ops K rest ⟨setE st.env o.dst v,σ'⟩) fun _ _ h1 h2 => ⟨h1,h2⟩
 have hloud : isLoud o = true := by unfold isLoud; rw [hval]; rfl
 cases hg : guardOf ops st.env o.guard with
 | none => rw [hg] at h'; exact h'.elim
 | some q =>
  rw [hg] at h'
  cases q with
  | none =>
   obtain ⟨v, σ1, h1, h2, h3⟩ := h'
   have hgn : o.guard = none := by
    cases hh : o.guard with
    | none => rfl
    | some q =>
     rw [hh] at hg
     obtain ⟨j, want⟩ := q
     simp only [guardOf] at hg
     split at hg
     ·split at hg
      ·split at hg <;> simp at hg
      ·cases hg
     ·cases hg
   exact ⟨o, v, σ1, ho, Does.of_call hc hgn h1, (fun hq => by rw [hloud] at hq; cases hq), h2, h3⟩
  | some g =>
   rcases h' with ⟨v, h1, h2, h3⟩ | ⟨rfl, v, σ1, h1, h2, h3⟩
   ·exact ⟨o, .gd g v, st.σ, ho, Does.of_callG hc hg h1, fun _ => rfl, .inl rfl, h3⟩
   ·exact ⟨o, v, σ1, ho, Does.of_callT hc hg h1, (fun hq => by rw [hloud] at hq; cases hq), h2, h3⟩
theorem dCall_true {σ : List AObj} {N : AV → List AObj → Prop} {ca : Option (FuncId × List AV × Prop)} (h : dCall P σ N ca (some none)) : dCall P σ N ca (some (some true)) := by
 obtain ⟨v, σ1, h1, h2⟩ := h
 exact .inr ⟨rfl, v, σ1, h1, h2⟩
theorem dCall_look {σ : List AObj} {N : AV → List AObj → Prop} {k : FuncId} {args args0 : List AV} {C : Prop} {v : AV} (hC : C) (hc : CvL σ args args0) (h : Look P k args0 v) (hn : N v σ) : dCall P σ N (some (k,args,C)) (some none) :=
 ⟨v, σ, callGoal_look hC hc h ⟨rfl, rfl⟩, hn⟩
theorem dCall_lookG {σ : List AObj} {N : AV → List AObj → Prop} {g : Bool} {k : FuncId} {args args0 : List AV} {C : Prop} {v : AV} (h : g = true → C ∧ CvL σ args args0 ∧ Look P k args0 v) (hn : N (.gd g v) σ) : dCall P σ N (some (k,args,C)) (some (some g)) :=
 .inl ⟨v, fun hg => callGoal_look (h hg).1 (h hg).2.1 (h hg).2.2 ⟨rfl, rfl⟩, hn⟩
theorem dCall_make {σ σ1 : List AObj} {N : AV → List AObj → Prop} {k : FuncId} {args args0 : List AV} {C : Prop} {v : AV} (hC : C) (hc : CvL σ args args0) (h : Makes P k args0 v σ1) (hn : N (sh σ.length v) (σ ++ σ1)) : dCall P σ N (some (k,args,C)) (some none) :=
 ⟨sh σ.length v, σ ++ σ1, callGoal_make hC hc h ⟨rfl, rfl⟩, hn⟩
theorem dInl {σ' σ : List AObj} {q : Prop} (h : σ' = σ) : σ' = σ ∨ q := .inl h
theorem callGoal_inline (hΓ : TabOk P Γ) {σ : List AObj} {next : AV → List AObj → Prop} {k : FuncId} {fn : Func} {c : Code} {args : List AV} {C : Prop} (hf : P.funcs[k]? = some fn) (hb : fn.body = some c) (hok : fnOk P k = true) (hC : C)
  (h : T P σ.length (rd := .it) c (retQ Γ fn.results.toList next) ⟨args ++ List.replicate (fn.ntmps - args.length) .top,σ⟩) : callGoal P σ next (some (k,args,C)) :=
 ⟨hC, next, TC_of_T hΓ hf hb hok h, fun _ _ h => h⟩
attribute [go_sem] PlanL.pl isLoud bsV eBuildView evV0 evV retroOk evD dcGoal
end
end Go.Ab
