/-
  Regions that draw their order: the plan, the walk, and that it serves every order.
-/
import Derived.Test.YtnomenmakhielaaAb14
namespace Go.Ab

def edgesOf (o : Oper) : List Nat := (o.after.toList.filter (Region.binds .any)).map (·.on)
def isLoud (o : Oper) : Bool := isCall o.op || (loud o.op && (bsV o.op).isNone)

/-- j is ordered before i. -/
inductive Anc (l : List Oper) : Nat → Nat → Prop
  | one {i e : Nat} {o : Oper} (h : l[i]? = some o) (he : e ∈ edgesOf o) : Anc l e i
  | step {i e j : Nat} {o : Oper} (h : l[i]? = some o) (he : e ∈ edgesOf o) (hj : Anc l j e) : Anc l j i

structure Plan (l : List Oper) (pl : List (Nat × List Nat)) : Prop where
  nodup : (pl.map (·.1)).Nodup
  all : ∀ i, i < l.length ↔ i ∈ pl.map (·.1)
  lin : ∀ (k : Nat) (i : Nat) (rs : List Nat) (o : Oper) (e : Nat), pl[k]? = some (i, rs) → l[i]? = some o → e ∈ edgesOf o → ∃ (k' : Nat) (rs' : List Nat), k' < k ∧ pl[k']? = some (e, rs')
  dst : ∀ (i j : Nat) (oi oj : Oper) (d : Nat), l[i]? = some oi → l[j]? = some oj → oi.dst = some d → oj.dst = some d → i = j
  look : ∀ (i j : Nat) (oi oj : Oper) (d : Nat), l[i]? = some oi → l[j]? = some oj → oj.dst = some d → d ∈ looksL l oi → Anc l j i ∨
    (Anc l i j ∧ ∀ (kj kb b : Nat) (rj rb : List Nat) (ob : Oper), kj < kb → pl[kj]? = some (j, rj) → pl[kb]? = some (b, rb) → l[b]? = some ob → isLoud ob = true → Anc l i b)
  ord : ∀ (k k' a b : Nat) (ra rb : List Nat) (oa ob : Oper), k < k' → pl[k]? = some (a, ra) → pl[k']? = some (b, rb) → l[a]? = some oa → l[b]? = some ob →
    (isLoud ob = true → isLoud oa = false → Anc l a b ∨ a ∈ rb) ∧ (isLoud ob = false → isLoud oa = true → Anc l a b ∨ ∃ (k2 a2 : Nat) (r2 : List Nat) (o2 : Oper), k < k2 ∧ pl[k2]? = some (a2, r2) ∧ l[a2]? = some o2 ∧ isLoud o2 = true ∧ Anc l a2 b)

def retroOk (Γ : Tab) (ops : List Oper) (st : St) : List Nat → Prop
  | [] => True
  | q :: qs =>
    (match nthOp ops q with
      | some o =>
        (match evV Γ ops st o with
          | some (u, σ', C) => C ∧ σ' = st.σ ∧ (match o.dst with | some d => u = nth st.env d | none => True)
          | none => False)
      | none => False) ∧ retroOk Γ ops st qs

/-- The walk along a plan. -/
def DC (P : Program) (Γ : Tab) (n : Nat) (ops : List Oper) (K : St → Prop) : List (Nat × List Nat) → St → Prop
  | [], st => K st
  | (i, rs) :: rest, st => ∃ o v σ', nthOp ops i = some o ∧ Does P n ops o st v σ' ∧ (isLoud o = false → σ' = st.σ) ∧ (σ' = st.σ ∨ retroOk Γ ops ⟨setE st.env o.dst v, σ'⟩ rs) ∧ DC P Γ n ops K rest ⟨setE st.env o.dst v, σ'⟩

section
variable {P : Program} {Γ : Tab} {n : Nat}

theorem nth_get : ∀ (l : List AV) (t : Nat), nth l t = (l[t]?).getD .top
  | [], t => by simp [nth]
  | _ :: _, 0 => by simp [nth]
  | _ :: xs, t + 1 => by simpa [nth] using nth_get xs t

theorem setE_length (env : List AV) (dst : Option Nat) (v : AV) : (setE env dst v).length = env.length := by
  cases dst <;> simp [setE, setN_eq]

theorem nth_setE_ne {env : List AV} {dst : Option Nat} {v : AV} {t : Nat} (h : dst ≠ some t) : nth (setE env dst v) t = nth env t := by
  cases dst with
  | none => rfl
  | some d =>
    have hne : d ≠ t := fun e => h (by rw [e])
    simp only [setE, setN_eq, nth_get, List.getElem?_set_ne hne]

theorem nth_setE_eq {env : List AV} {d : Nat} {v : AV} (h : d < env.length) : nth (setE env (some d) v) d = v := by
  simp [setE, setN_eq, nth_get, h]

theorem setE_big {env : List AV} {d : Nat} {v : AV} (h : env.length ≤ d) : setE env (some d) v = env := by
  simp only [setE, setN_eq]
  exact List.set_eq_of_length_le h

theorem Does.change {ops : List Oper} {o : Oper} {st : St} {u v : AV} {σ' : List AObj} (h : Does P n ops o st u σ') (e : ∀ env : List AV, env.length = st.env.length → setE env o.dst u = setE env o.dst v) : Does P n ops o st v σ' := by
  intro env' hag ρ0 W0 a w Q K hn hR hK
  exact h env' hag ρ0 W0 a w Q K hn hR (by rw [e env' hag.1]; exact hK)

/-- What the walk has shown, by places. -/
structure Chain (P : Program) (n : Nat) (l : List Oper) (pl : List (Nat × List Nat)) (S : Nat → St) (V : Nat → AV) : Prop where
  step : ∀ (k i : Nat) (rs : List Nat), pl[k]? = some (i, rs) → ∃ o, l[i]? = some o ∧ Does P n l o (S k) (V k) (S (k + 1)).σ ∧ (S (k + 1)).env = setE (S k).env o.dst (V k) ∧ (isLoud o = false → (S (k + 1)).σ = (S k).σ) ∧
    ((S (k + 1)).σ = (S k).σ ∨ ∀ q ∈ rs, ∃ oq u, l[q]? = some oq ∧ Does P n l oq (S (k + 1)) u (S (k + 1)).σ ∧ ∀ d, oq.dst = some d → u = nth (S (k + 1)).env d)

theorem retro_of (hΓ : TabOk P Γ) {l : List Oper} {st : St} : ∀ {rs : List Nat}, retroOk Γ l st rs → ∀ q ∈ rs, ∃ oq u, l[q]? = some oq ∧ Does P n l oq st u st.σ ∧ ∀ d, oq.dst = some d → u = nth st.env d
  | [], _, q, hq => by cases hq
  | r :: rs, h, q, hq => by
    simp only [retroOk] at h
    rcases List.mem_cons.1 hq with rfl | hm
    · have h1 := h.1
      split at h1
      · rename_i o ho
        split at h1
        · rename_i u σ' C he
          obtain ⟨hC, hs, hd⟩ := h1
          subst hs
          rw [nthOp_eq] at ho
          refine ⟨o, u, ho, Does.of_ev hΓ he hC, fun d hdd => ?_⟩
          rw [hdd] at hd
          exact hd
        · exact h1.elim
      · exact h1.elim
    · exact retro_of hΓ h.2 q hm

theorem DC.chain (hΓ : TabOk P Γ) {l : List Oper} {K : St → Prop} : ∀ {pl : List (Nat × List Nat)} {st : St}, DC P Γ n l K pl st → ∃ (S : Nat → St) (V : Nat → AV), S 0 = st ∧ K (S pl.length) ∧ Chain P n l pl S V
  | [], st, h => ⟨fun _ => st, fun _ => .top, rfl, h, ⟨fun k i rs hk => by simp at hk⟩⟩
  | (i, rs) :: rest, st, h => by
    obtain ⟨o, v, σ', ho, hd, hq, hr, hrest⟩ := h
    obtain ⟨S, V, h0, hK, hc⟩ := DC.chain hΓ hrest
    refine ⟨fun k => match k with | 0 => st | k + 1 => S k, fun k => match k with | 0 => v | k + 1 => V k, rfl, by simpa using hK, ⟨fun k i' rs' hk => ?_⟩⟩
    cases k with
    | zero =>
      simp only [List.getElem?_cons_zero, Option.some.injEq, Prod.mk.injEq] at hk
      obtain ⟨rfl, rfl⟩ := hk
      rw [nthOp_eq] at ho
      refine ⟨o, ho, ?_, ?_, ?_, ?_⟩
      · show Does P n l o st v (S 0).σ; rw [h0]; exact hd
      · show (S 0).env = _; rw [h0]
      · show _ → (S 0).σ = st.σ; rw [h0]; exact hq
      · show (S 0).σ = st.σ ∨ _
        rw [h0]
        rcases hr with e | hr
        · exact .inl e
        · refine .inr fun q hqm => ?_
          have := retro_of (n := n) hΓ hr q hqm
          show ∃ oq u, l[q]? = some oq ∧ Does P n l oq (S 0) u (S 0).σ ∧ ∀ d, oq.dst = some d → u = nth (S 0).env d
          rw [h0]
          exact this
    | succ k =>
      simp only [List.getElem?_cons_succ] at hk
      exact hc.step k i' rs' hk

/-- The frame at place k of the chain. -/
structure EnvAt (l : List Oper) (pl : List (Nat × List Nat)) (env0 : List AV) (V : Nat → AV) (done : Nat → Prop) (env : List AV) : Prop where
  len : env.length = env0.length
  set : ∀ (k i : Nat) (rs : List Nat) (o : Oper) (d : Nat), pl[k]? = some (i, rs) → l[i]? = some o → o.dst = some d → done i → d < env0.length → nth env d = V k
  keep : ∀ t, (∀ (i : Nat) (o : Oper), done i → l[i]? = some o → o.dst ≠ some t) → nth env t = nth env0 t

theorem Plan.pos {l : List Oper} {pl : List (Nat × List Nat)} (hP : Plan l pl) {i : Nat} (h : i < l.length) : ∃ (k : Nat) (rs : List Nat), pl[k]? = some (i, rs) := by
  have := (hP.all i).1 h
  obtain ⟨q, hq, e⟩ := List.mem_map.1 this
  obtain ⟨k, hk⟩ := List.mem_iff_getElem?.1 hq
  exact ⟨k, q.2, by rw [hk, ← e]⟩

theorem Plan.uniq {l : List Oper} {pl : List (Nat × List Nat)} (hP : Plan l pl) {i k k' : Nat} {rs rs' : List Nat} (h : pl[k]? = some (i, rs)) (h' : pl[k']? = some (i, rs')) : k = k' := by
  have h1 : (pl.map (·.1))[k]? = some i := by simp [h]
  have h2 : (pl.map (·.1))[k']? = some i := by simp [h']
  obtain ⟨l1, g1⟩ := List.getElem?_eq_some_iff.1 h1
  obtain ⟨l2, g2⟩ := List.getElem?_eq_some_iff.1 h2
  exact (List.getElem_inj hP.nodup).1 (g1.trans g2.symm)

theorem Plan.anc_pos {l : List Oper} {pl : List (Nat × List Nat)} (hP : Plan l pl) : ∀ {j i : Nat}, Anc l j i → ∀ {k : Nat} {rs : List Nat}, pl[k]? = some (i, rs) → ∃ (k' : Nat) (rs' : List Nat), k' < k ∧ pl[k']? = some (j, rs') := by
  intro j i h
  induction h with
  | one h he => intro k rs hk; exact hP.lin k _ rs _ _ hk h he
  | step h he hj ih =>
    intro k rs hk
    obtain ⟨k1, r1, hlt, h1⟩ := hP.lin k _ rs _ _ hk h he
    obtain ⟨k2, r2, hlt2, h2⟩ := ih h1
    exact ⟨k2, r2, by omega, h2⟩

theorem EnvAt.put {l : List Oper} {pl : List (Nat × List Nat)} (hP : Plan l pl) {env0 env : List AV} {V : Nat → AV} {done done' : Nat → Prop} (h : EnvAt l pl env0 V done env) {k i : Nat} {rs : List Nat} {o : Oper} (hk : pl[k]? = some (i, rs)) (ho : l[i]? = some o)
    (hd : ∀ j, done' j ↔ done j ∨ j = i) : EnvAt l pl env0 V done' (setE env o.dst (V k)) := by
  refine ⟨by rw [setE_length, h.len], fun k' j rs' o' d hk' ho' hd' hdone hlt => ?_, fun t ht => ?_⟩
  · by_cases hij : j = i
    · subst hij
      have := hP.uniq hk hk'
      subst this
      rw [ho] at ho'
      simp only [Option.some.injEq] at ho'
      subst ho'
      rw [hd']
      exact nth_setE_eq (by rw [h.len]; exact hlt)
    · have hne : o.dst ≠ some d := fun e => hij (hP.dst j i o' o d ho' ho hd' e)
      rw [nth_setE_ne hne]
      refine h.set k' j rs' o' d hk' ho' hd' ?_ hlt
      rcases (hd j).1 hdone with h1 | h1
      · exact h1
      · exact (hij h1).elim
  · rw [nth_setE_ne (ht i o ((hd i).2 (.inr rfl)) ho)]
    exact h.keep t fun j oj hj => ht j oj ((hd j).2 (.inl hj))

theorem Chain.env {l : List Oper} {pl : List (Nat × List Nat)} {S : Nat → St} {V : Nat → AV} (hP : Plan l pl) (hc : Chain P n l pl S V) : ∀ k, k ≤ pl.length → EnvAt l pl (S 0).env V (fun i => ∃ (k' : Nat) (rs : List Nat), k' < k ∧ pl[k']? = some (i, rs)) (S k).env
  | 0, _ => ⟨rfl, fun _ _ _ _ _ _ _ _ ⟨_, _, h, _⟩ => by omega, fun _ _ => rfl⟩
  | k + 1, hk => by
    have ih := Chain.env hP hc k (by omega)
    obtain ⟨⟨i, rs⟩, hi⟩ : ∃ q, pl[k]? = some q := ⟨_, List.getElem?_eq_getElem (by omega)⟩
    obtain ⟨o, ho, _, he, _⟩ := hc.step k i rs hi
    rw [he]
    refine ih.put hP hi ho fun j => ⟨fun ⟨k', rs', hlt, h⟩ => ?_, fun h => ?_⟩
    · by_cases hkk : k' = k
      · subst hkk
        rw [hi] at h
        simp only [Option.some.injEq, Prod.mk.injEq] at h
        exact .inr h.1.symm
      · exact .inl ⟨k', rs', by omega, h⟩
    · rcases h with ⟨k', rs', hlt, h⟩ | rfl
      · exact ⟨k', rs', by omega, h⟩
      · exact ⟨k, rs, by omega, hi⟩

/-- j writes what i reads, behind it. -/
def Late (l : List Oper) (pl : List (Nat × List Nat)) (i j : Nat) : Prop :=
  Anc l i j ∧ ∀ (kj kb b : Nat) (rj rb : List Nat) (ob : Oper), kj < kb → pl[kj]? = some (j, rj) → pl[kb]? = some (b, rb) → l[b]? = some ob → isLoud ob = true → Anc l i b

/-- Two frames agree on what an operation looks at, if what is ordered before it is done in both, and it is itself in neither. -/
theorem EnvAt.agree {l : List Oper} {pl : List (Nat × List Nat)} (hP : Plan l pl) {env0 e1 e2 : List AV} {V : Nat → AV} {d1 d2 : Nat → Prop} (h1 : EnvAt l pl env0 V d1 e1) (h2 : EnvAt l pl env0 V d2 e2) {i : Nat} {o : Oper} (ho : l[i]? = some o)
    (a1 : ∀ j, Anc l j i → d1 j) (a2 : ∀ j, Anc l j i → d2 j) (n1 : ∀ j, Late l pl i j → ¬ d1 j) (n2 : ∀ j, Late l pl i j → ¬ d2 j) : Agree e1 e2 (looksL l o) := by
  refine ⟨h2.len.trans h1.len.symm, fun t ht => ?_⟩
  by_cases hex : ∃ (j : Nat) (oj : Oper), l[j]? = some oj ∧ oj.dst = some t
  · obtain ⟨j, oj, hj, hd⟩ := hex
    rcases hP.look i j o oj t ho hj hd ht with ha | ha
    case inr =>
      have only : ∀ (q : Nat) (oq : Oper), l[q]? = some oq → oq.dst = some t → q = j := fun q oq hq hdq => hP.dst q j oq oj t hq hj hdq hd
      rw [h1.keep t fun q oq hq hl hdq => n1 j ha (only q oq hl hdq ▸ hq), h2.keep t fun q oq hq hl hdq => n2 j ha (only q oq hl hdq ▸ hq)]
    obtain ⟨k, rs, hk⟩ := hP.pos (List.getElem?_eq_some_iff.1 hj).1
    by_cases hlt : t < env0.length
    · rw [h1.set k j rs oj t hk hj hd (a1 j ha) hlt, h2.set k j rs oj t hk hj hd (a2 j ha) hlt]
    · rw [nth_get, nth_get, List.getElem?_eq_none (by rw [h2.len]; omega), List.getElem?_eq_none (by rw [h1.len]; omega)]
  · rw [h1.keep t fun j oj _ hj hd => hex ⟨j, oj, hj, hd⟩, h2.keep t fun j oj _ hj hd => hex ⟨j, oj, hj, hd⟩]

def lst (listed : Array Bool) (i : Nat) : Prop := listed.getD i false = true

theorem lst_set {listed : Array Bool} {i : Nat} (h : i < listed.size) (j : Nat) : lst (listed.setIfInBounds i true) j ↔ lst listed j ∨ j = i := by
  unfold lst
  by_cases hij : i = j
  · subst hij
    simp [h]
  · rw [getD_set_ne false hij]
    exact ⟨fun h => .inl h, fun h => h.resolve_right fun e => hij e.symm⟩

theorem count_false_set {listed : Array Bool} {i : Nat} (h : i < listed.size) (hu : listed.getD i false = false) : (listed.setIfInBounds i true).toList.count false + 1 = listed.toList.count false := by
  have hl : i < listed.toList.length := by simpa using h
  have hi : listed.toList[i] = false := by simpa [h] using hu
  simp only [Array.toList_setIfInBounds]
  rw [List.count_set hl, hi]
  have : 0 < listed.toList.count false := List.count_pos_iff.2 (by rw [← hi]; exact List.getElem_mem hl)
  simp only [beq_self_eq_true, if_true, Bool.beq_eq_decide_eq, Bool.true_eq_false, decide_false, if_false, Bool.false_eq_true, Nat.add_zero]
  omega

theorem lst_down {l : List Oper} {listed : Array Bool} (hdown : ∀ (i : Nat) (o : Oper) (e : Nat), lst listed i → l[i]? = some o → e ∈ edgesOf o → lst listed e) : ∀ {j i : Nat}, Anc l j i → lst listed i → lst listed j := by
  intro j i h
  induction h with
  | one h he => intro hl; exact hdown _ _ _ hl h he
  | step h he hj ih => intro hl; exact ih (hdown _ _ _ hl h he)

theorem pl_lt {pl : List (Nat × List Nat)} {k : Nat} {q : Nat × List Nat} (h : pl[k]? = some q) : k < pl.length := (List.getElem?_eq_some_iff.1 h).1

/-- Between two places of which none is loud the objects are the same. -/
theorem Chain.flat {l : List Oper} {pl : List (Nat × List Nat)} {S : Nat → St} {V : Nat → AV} (hc : Chain P n l pl S V) : ∀ c k, c ≤ k → k ≤ pl.length → (∀ (j i : Nat) (rs : List Nat) (o : Oper), c ≤ j → j < k → pl[j]? = some (i, rs) → l[i]? = some o → isLoud o = false) → (S k).σ = (S c).σ := by
  intro c k hck
  induction k with
  | zero => intro _ _; rw [show c = 0 by omega]
  | succ k ih =>
    intro hk hq
    by_cases he : c = k + 1
    · rw [he]
    · obtain ⟨⟨i, rs⟩, hi⟩ : ∃ q, pl[k]? = some q := ⟨_, List.getElem?_eq_getElem (by omega)⟩
      obtain ⟨o, ho, _, _, hs, _⟩ := hc.step k i rs hi
      rw [hs (hq k i rs o (by omega) (by omega) hi ho)]
      exact ih (by omega) (by omega) fun j i rs o h1 h2 => hq j i rs o h1 (by omega)

theorem Chain.fin {l : List Oper} {pl : List (Nat × List Nat)} {S : Nat → St} {V : Nat → AV} (hP : Plan l pl) (hc : Chain P n l pl S V) {listed : Array Bool} {c : Nat} {env : List AV} (hsz : listed.size = l.length) (hcl : c ≤ pl.length)
    (hloud : ∀ (k i : Nat) (rs : List Nat) (o : Oper), pl[k]? = some (i, rs) → l[i]? = some o → isLoud o = true → (lst listed i ↔ k < c)) (henv : EnvAt l pl (S 0).env V (lst listed) env) (hready : Region.ready .any l.toArray listed = []) :
    (⟨env, (S c).σ⟩ : St) = S pl.length := by
  have hall : ∀ (k i : Nat) (rs : List Nat), pl[k]? = some (i, rs) → lst listed i := by
    intro k
    induction k using Nat.strongRecOn with
    | _ k ih =>
      intro i rs hk
      obtain ⟨o, ho, _⟩ := hc.step k i rs hk
      by_cases hl : lst listed i
      · exact hl
      · exfalso
        have hil : i < l.length := (List.getElem?_eq_some_iff.1 ho).1
        have hu : listed.getD i true = false := by
          unfold lst at hl
          have : i < listed.size := by omega
          simp only [Array.getD, this, dite_true] at hl ⊢
          simpa using hl
        have : i ∈ Region.ready .any l.toArray listed := mem_ready.2 ⟨hu, o, by simpa using ho, fun e he hb => by
          obtain ⟨k', rs', hlt, h'⟩ := hP.lin k i rs o e.on hk ho (List.mem_map.2 ⟨e, List.mem_filter.2 ⟨by simpa using he, hb⟩, rfl⟩)
          exact ih k' hlt e.on rs' h'⟩
        rw [hready] at this
        cases this
  have e1 : (S pl.length).σ = (S c).σ := hc.flat c pl.length hcl (Nat.le_refl _) fun j i rs o h1 h2 hj ho => by
    cases hb : isLoud o with
    | false => rfl
    | true => have := (hloud j i rs o hj ho hb).1 (hall j i rs hj); omega
  have hend := hc.env hP pl.length (Nat.le_refl _)
  have e2 : env = (S pl.length).env := by
    apply List.ext_getElem?
    intro t
    by_cases ht : t < (S 0).env.length
    · have hnth : nth env t = nth (S pl.length).env t := by
        by_cases hex : ∃ (j : Nat) (oj : Oper), l[j]? = some oj ∧ oj.dst = some t
        · obtain ⟨j, oj, hj, hd⟩ := hex
          obtain ⟨k, rs, hk⟩ := hP.pos (List.getElem?_eq_some_iff.1 hj).1
          rw [henv.set k j rs oj t hk hj hd (hall k j rs hk) ht, hend.set k j rs oj t hk hj hd ⟨k, rs, pl_lt hk, hk⟩ ht]
        · rw [henv.keep t fun j oj _ hj hd => hex ⟨j, oj, hj, hd⟩, hend.keep t fun j oj _ hj hd => hex ⟨j, oj, hj, hd⟩]
      rw [nth_get, nth_get, List.getElem?_eq_getElem (by rw [henv.len]; exact ht), List.getElem?_eq_getElem (by rw [hend.len]; exact ht)] at hnth
      rw [List.getElem?_eq_getElem (by rw [henv.len]; exact ht), List.getElem?_eq_getElem (by rw [hend.len]; exact ht)]
      simpa using hnth
    · rw [List.getElem?_eq_none (by rw [henv.len]; omega), List.getElem?_eq_none (by rw [hend.len]; omega)]
  rw [← e1, e2]

theorem take_get {α : Type} {a b : List α} {m k : Nat} (h : a.take m = b.take m) (hk : k < m) : a[k]? = b[k]? := by
  have h1 : (a.take m)[k]? = (b.take m)[k]? := by rw [h]
  simpa [List.getElem?_take, hk] using h1

theorem take_take_eq {α : Type} {a b : List α} {m k : Nat} (h : a.take m = b.take m) (hk : k ≤ m) : a.take k = b.take k := by
  have h1 : (a.take m).take k = (b.take m).take k := by rw [h]
  simpa [List.take_take, Nat.min_eq_left hk] using h1

/-- From a place of one plan to another plan, in which i is the next loud one. -/
def Switch (l : List Oper) (ps : List (List (Nat × List Nat))) : Prop :=
  ∀ pl ∈ ps, ∀ (c i : Nat) (o : Oper), c ≤ pl.length → l[i]? = some o → isLoud o = true → (∀ k rs, pl[k]? = some (i, rs) → c ≤ k) →
    (∀ (j : Nat) (oj : Oper), Anc l j i → l[j]? = some oj → isLoud oj = true → ∃ (k : Nat) (rs : List Nat), k < c ∧ pl[k]? = some (j, rs)) →
    ∃ pl' ∈ ps, ∃ b k rs, c ≤ b ∧ b ≤ pl.length ∧ pl'.take b = pl.take b ∧ b ≤ k ∧ pl'[k]? = some (i, rs) ∧
      (∀ (m j : Nat) (rs : List Nat) (oj : Oper), c ≤ m → m < k → pl'[m]? = some (j, rs) → l[j]? = some oj → isLoud oj = false) ∧
      (∀ (q : Nat) (oq : Oper), l[q]? = some oq → isLoud oq = false → (∀ k rs, pl[k]? = some (q, rs) → b ≤ k) → ∃ (j : Nat) (oj : Oper), Anc l j q ∧ l[j]? = some oj ∧ isLoud oj = true ∧ ∀ k rs, pl[k]? = some (j, rs) → c ≤ k)

/-- What the walks along all plans have shown. -/
structure Chains (P : Program) (n : Nat) (l : List Oper) (ps : List (List (Nat × List Nat))) (F : List (Nat × List Nat) → St) (G : List (Nat × List Nat) → AV) : Prop where
  each : ∀ pl ∈ ps, Chain P n l pl (fun k => F (pl.take k)) (fun k => G (pl.take (k + 1)))

theorem any_order {l : List Oper} {ps : List (List (Nat × List Nat))} {F : List (Nat × List Nat) → St} {G : List (Nat × List Nat) → AV} (hPs : ∀ pl ∈ ps, Plan l pl) (hsw : Switch l ps) (hcs : Chains P n l ps F G) {ρ0 : Rho} {W0 : World} (hn : ρ0.length = n) {Q : Exit → Act → World → Prop}
    (hQs : ∀ pl ∈ ps, ∀ a w, Rel ρ0 W0 (F pl) a w → Q .normal a w) : ∀ (fuel : Nat) (pl : List (Nat × List Nat)), pl ∈ ps → ∀ (listed : Array Bool) (a : Act) (w : World) (c : Nat) (env : List AV), listed.size = l.length → listed.toList.count false = fuel →
      (∀ (i : Nat) (o : Oper) (e : Nat), lst listed i → l[i]? = some o → e ∈ edgesOf o → lst listed e) →
      c ≤ pl.length → (∀ (k i : Nat) (rs : List Nat) (o : Oper), pl[k]? = some (i, rs) → l[i]? = some o → isLoud o = true → (lst listed i ↔ k < c)) →
      EnvAt l pl (F []).env (fun k => G (pl.take (k + 1))) (lst listed) env → Rel ρ0 W0 ⟨env, (F (pl.take c)).σ⟩ a w → wpAny P .any l.toArray Q fuel listed a w := by
  intro fuel
  induction fuel with
  | zero =>
    intro pl hpl listed a w c env hsz hcnt hdown hcl hloud henv hR
    have hready : Region.ready .any l.toArray listed = [] := by
      refine List.eq_nil_iff_forall_not_mem.2 fun i hi => ?_
      obtain ⟨hu, o, ho, _⟩ := mem_ready.1 hi
      have hil : i < listed.size := by
        have := (Array.getElem?_eq_some_iff.1 ho).1
        rw [hsz]; simpa using this
      have : false ∈ listed.toList := by
        have e : listed[i] = false := by simpa [Array.getD, hil] using hu
        rw [← e]
        exact Array.getElem_mem_toList hil
      rw [← List.count_pos_iff] at this
      omega
    have e := (hcs.each pl hpl).fin (hPs pl hpl) hsz hcl hloud (by simpa using henv) hready
    exact ⟨hready, hQs pl hpl a w (by rw [show F pl = F (pl.take pl.length) by rw [List.take_length], ← e]; exact hR)⟩
  | succ fuel ih =>
    intro pl hpl listed a w c env hsz hcnt hdown hcl hloud henv hR
    refine ⟨fun hready => ?_, fun i hi => ?_⟩
    · have e := (hcs.each pl hpl).fin (hPs pl hpl) hsz hcl hloud (by simpa using henv) hready
      exact hQs pl hpl a w (by rw [show F pl = F (pl.take pl.length) by rw [List.take_length], ← e]; exact hR)
    have down : ∀ {j i : Nat}, Anc l j i → lst listed i → lst listed j := lst_down hdown
    obtain ⟨hu, o, ho, hpre⟩ := mem_ready.1 hi
    have ho' : l[i]? = some o := by simpa using ho
    have hil : i < l.length := (List.getElem?_eq_some_iff.1 ho').1
    have hisz : i < listed.size := by omega
    have huf : listed.getD i false = false := by simpa [Array.getD, hisz] using hu
    have hunl : ¬ lst listed i := by unfold lst; rw [huf]; exact Bool.false_ne_true
    have hanc : ∀ j, Anc l j i → lst listed j := by
      intro j hj
      cases hj with
      | one h he =>
        rw [ho'] at h; simp only [Option.some.injEq] at h; subst h
        obtain ⟨e, he', rfl⟩ := List.mem_map.1 he
        exact hpre e (by simpa using (List.mem_filter.1 he').1) (List.mem_filter.1 he').2
      | step h he hj =>
        rw [ho'] at h; simp only [Option.some.injEq] at h; subst h
        obtain ⟨e, he', rfl⟩ := List.mem_map.1 he
        exact down hj (hpre e (by simpa using (List.mem_filter.1 he').1) (List.mem_filter.1 he').2)
    have hdown' : ∀ (i' : Nat) (o' : Oper) (e : Nat), lst (listed.setIfInBounds i true) i' → l[i']? = some o' → e ∈ edgesOf o' → lst (listed.setIfInBounds i true) e := by
      intro i' o' e h1 h2 h3
      refine (lst_set hisz e).2 (.inl ?_)
      rcases (lst_set hisz i').1 h1 with h4 | rfl
      · exact hdown i' o' e h4 h2 h3
      · exact hanc e (.one h2 h3)
    have hcnt' : (listed.setIfInBounds i true).toList.count false = fuel := by
      have := count_false_set hisz huf
      omega
    have hlate : ∀ {pl : List (Nat × List Nat)} (j : Nat), Late l pl i j → ¬ lst listed j := fun j hj hl => hunl (down hj.1 hl)
    cases hb : isLoud o with
    | true =>
      -- the plan in which i is next
      have hlisted : ∀ (j : Nat) (oj : Oper), l[j]? = some oj → isLoud oj = true → lst listed j → ∃ (k : Nat) (rs : List Nat), k < c ∧ pl[k]? = some (j, rs) := fun j oj hj hbj hl => by
        obtain ⟨k, rs, hk⟩ := (hPs pl hpl).pos (List.getElem?_eq_some_iff.1 hj).1
        exact ⟨k, rs, (hloud k j rs oj hk hj hbj).1 hl, hk⟩
      obtain ⟨pl', hpl', b, k, rs, hcb, hbl, htk, hbk, hk, hnl, hmax⟩ := hsw pl hpl c i o hcl ho' hb (fun k rs hk => by
          rcases Nat.lt_or_ge k c with h | h
          · exact (hunl ((hloud k i rs o hk ho' hb).2 h)).elim
          · exact h) (fun j oj hj hoj hbj => hlisted j oj hoj hbj (hanc j hj))
      have hP := hPs pl' hpl'
      have hc := hcs.each pl' hpl'
      have hkl := pl_lt hk
      obtain ⟨o2, ho2, hdoes, hse, hquiet, hretro⟩ := hc.step k i rs hk
      rw [ho'] at ho2
      simp only [Option.some.injEq] at ho2
      subst ho2
      -- what is listed lies ahead of b, in both plans
      have hahead : ∀ j, lst listed j → ∀ k rs, pl[k]? = some (j, rs) → k < b := by
        intro j hl kj rj hkj
        have hjl : j < l.length := ((hPs pl hpl).all j).2 (List.mem_map.2 ⟨_, List.mem_of_getElem? hkj, rfl⟩)
        obtain ⟨oj, hoj⟩ : ∃ oj, l[j]? = some oj := ⟨_, List.getElem?_eq_getElem hjl⟩
        cases hbj : isLoud oj with
        | true => have := (hloud kj j rj oj hkj hoj hbj).1 hl; omega
        | false =>
          rcases Nat.lt_or_ge kj b with h | h
          · exact h
          · exfalso
            obtain ⟨q, oq, hq, hoq, hbq, hqc⟩ := hmax j oj hoj hbj fun k2 r2 h2 => by
              have := (hPs pl hpl).uniq hkj h2; omega
            obtain ⟨k3, r3, h3, h4⟩ := hlisted q oq hoq hbq (down hq hl)
            have := hqc k3 r3 h4
            omega
      have henv' : EnvAt l pl' (F []).env (fun k => G (pl'.take (k + 1))) (lst listed) env := by
        refine ⟨henv.len, fun k2 j r2 oj d hk2 hoj hd hl hlt => ?_, henv.keep⟩
        obtain ⟨k1, r1, hk1⟩ := (hPs pl hpl).pos (List.getElem?_eq_some_iff.1 hoj).1
        have hk1b := hahead j hl k1 r1 hk1
        have h2 : pl'[k1]? = some (j, r1) := by rw [take_get htk hk1b]; exact hk1
        have := hP.uniq hk2 h2
        subst this
        rw [henv.set k2 j r1 oj d hk1 hoj hd hl hlt, take_take_eq htk (by omega)]
      have hloud1 : ∀ (k2 j : Nat) (r2 : List Nat) (oj : Oper), pl'[k2]? = some (j, r2) → l[j]? = some oj → isLoud oj = true → (lst listed j ↔ k2 < c) := by
        intro k2 j r2 oj hk2 hoj hbj
        constructor
        · intro hl
          obtain ⟨k1, r1, h1, h2⟩ := hlisted j oj hoj hbj hl
          have h3 : pl'[k1]? = some (j, r1) := by rw [take_get htk (by omega)]; exact h2
          have := hP.uniq hk2 h3
          omega
        · intro hlt
          have h3 : pl[k2]? = some (j, r2) := by rw [← take_get htk (by omega)]; exact hk2
          exact (hloud k2 j r2 oj h3 hoj hbj).2 hlt
      have eS : F (pl.take c) = F (pl'.take c) := by rw [take_take_eq htk hcb]
      rw [eS] at hR
      have hflat : (F (pl'.take k)).σ = (F (pl'.take c)).σ := hc.flat c k (by omega) (by omega) hnl
      have hancp : ∀ j, Anc l j i → ∃ (k'' : Nat) (rs'' : List Nat), k'' < k ∧ pl'[k'']? = some (j, rs'') := fun j hj => hP.anc_pos hj hk
      have hlatep : ∀ j, Late l pl' i j → ¬ ∃ (k'' : Nat) (rs'' : List Nat), k'' < k ∧ pl'[k'']? = some (j, rs'') := by
        rintro j hj ⟨k2, r2, h2, h3⟩
        obtain ⟨k3, r3, h4, h5⟩ := hP.anc_pos hj.1 h3
        have := hP.uniq hk h5
        omega
      have hd : Does P n l o ⟨env, (F (pl'.take c)).σ⟩ (G (pl'.take (k + 1))) (F (pl'.take (k + 1))).σ := by
        rw [← hflat]
        have h2 := (by simpa using hc.env hP k (by omega) : EnvAt l pl' (F []).env _ _ _).agree hP henv' ho' (fun j hj => hancp j hj) hanc hlatep hlate
        intro env' hag
        exact hdoes env' ⟨hag.1.trans h2.1, fun t ht => (hag.2 t ht).trans (h2.2 t ht)⟩
      have h1 := hd env ⟨rfl, fun _ _ => rfl⟩ ρ0 W0 a w Q (wpAny P .any l.toArray Q fuel (listed.setIfInBounds i true)) hn hR fun a' w' hR' =>
        ih pl' hpl' (listed.setIfInBounds i true) a' w' (k + 1) (setE env o.dst (G (pl'.take (k + 1)))) (by simpa using hsz) hcnt' hdown' (by omega) (fun k' i' rs' o' hk' ho'' hb' => by
          rw [lst_set hisz]
          constructor
          · rintro (h | rfl)
            · have := (hloud1 k' i' rs' o' hk' ho'' hb').1 h; omega
            · have := hP.uniq hk hk'; omega
          · intro hlt
            by_cases hkk : k' = k
            · subst hkk
              rw [hk] at hk'
              simp only [Option.some.injEq, Prod.mk.injEq] at hk'
              exact .inr hk'.1.symm
            · refine .inl ((hloud1 k' i' rs' o' hk' ho'' hb').2 ?_)
              rcases Nat.lt_or_ge k' c with h | h
              · exact h
              · have := hnl k' i' rs' o' h (by omega) hk' ho''
                rw [hb'] at this; cases this) (henv'.put hP hk ho' (lst_set hisz)) hR'
      unfold wpOp
      simp only [ho]
      unfold wpOne at h1
      split
      · rename_i hw; rw [if_pos hw] at h1; exact .inl h1
      · rename_i hw; rw [if_neg hw] at h1; exact h1
    | false =>
      have hP := hPs pl hpl
      have hc := hcs.each pl hpl
      obtain ⟨k, rs, hk⟩ := hP.pos hil
      have hkl := pl_lt hk
      obtain ⟨o2, ho2, hdoes, hse, hquiet, hretro⟩ := hc.step k i rs hk
      rw [ho'] at ho2
      simp only [Option.some.injEq] at ho2
      subst ho2
      have hancp : ∀ k' : Nat, k ≤ k' → ∀ j, Anc l j i → ∃ (k'' : Nat) (rs'' : List Nat), k'' < k' ∧ pl[k'']? = some (j, rs'') := by
        intro k' hkk j hj
        obtain ⟨k2, r2, h1, h2⟩ := hP.anc_pos hj hk
        exact ⟨k2, r2, by omega, h2⟩
      have hlatep : ∀ j, Late l pl i j → ¬ ∃ (k'' : Nat) (rs'' : List Nat), k'' < k ∧ pl[k'']? = some (j, rs'') := by
        rintro j hj ⟨k2, r2, h2, h3⟩
        obtain ⟨k3, r3, h4, h5⟩ := hP.anc_pos hj.1 h3
        have := hP.uniq hk h5
        omega
      have hE : ∀ k, k ≤ pl.length → EnvAt l pl (F []).env (fun k => G (pl.take (k + 1))) (fun i => ∃ (k' : Nat) (rs : List Nat), k' < k ∧ pl[k']? = some (i, rs)) (F (pl.take k)).env := fun k hk => by simpa using hc.env hP k hk
      have shift : ∀ {st : St} {v : AV} {σ' : List AObj} {dn : Nat → Prop}, EnvAt l pl (F []).env (fun k => G (pl.take (k + 1))) dn st.env → (∀ j, Anc l j i → dn j) → (∀ j, Late l pl i j → ¬ dn j) → Does P n l o st v σ' → Does P n l o ⟨env, st.σ⟩ v σ' := by
        intro st v σ' dn he hdn hln hd env' hag
        have h2 := he.agree hP henv ho' hdn hanc hln hlate
        exact hd env' ⟨hag.1.trans h2.1, fun t ht => (hag.2 t ht).trans (h2.2 t ht)⟩
      have hkc : ∀ (j i' : Nat) (rs' : List Nat) (o' : Oper), c ≤ j → j < k → pl[j]? = some (i', rs') → l[i']? = some o' → isLoud o' = false := by
        intro j i' rs' o' h1 h2 hj hoj
        cases hb' : isLoud o' with
        | false => rfl
        | true =>
          rcases (hP.ord j k i' i rs' rs o' o h2 hj hk hoj ho').2 hb hb' with h3 | ⟨k2, a2, r2, o2, h4, h5, h6, h7, h8⟩
          · have := (hloud j i' rs' o' hj hoj hb').1 (hanc i' h3)
            omega
          · have := (hloud k2 a2 r2 o2 h5 h6 h7).1 (hanc a2 h8)
            omega
      have hd : Does P n l o ⟨env, (F (pl.take c)).σ⟩ (G (pl.take (k + 1))) (F (pl.take c)).σ := by
        by_cases hck : c ≤ k
        · have hflat : (F (pl.take k)).σ = (F (pl.take c)).σ := hc.flat c k hck (by omega) hkc
          have := shift (hE k (by omega)) (fun j hj => hancp k (Nat.le_refl _) j hj) hlatep hdoes
          rw [hquiet hb, hflat] at this
          exact this
        · -- the last loud place before c
          have hlast : ∀ c0, k < c0 → c0 ≤ c → Does P n l o ⟨env, (F (pl.take c0)).σ⟩ (G (pl.take (k + 1))) (F (pl.take c0)).σ := by
            intro c0
            induction c0 with
            | zero => intro h; omega
            | succ d ihd =>
              intro h1 h2
              obtain ⟨⟨b, rb⟩, hbk⟩ : ∃ q, pl[d]? = some q := ⟨_, List.getElem?_eq_getElem (by omega)⟩
              obtain ⟨ob, hob, _, hseb, hqb, hrb⟩ := hc.step d b rb hbk
              by_cases hdk : d = k
              · subst hdk
                rw [hk] at hbk
                simp only [Option.some.injEq, Prod.mk.injEq] at hbk
                obtain ⟨rfl, rfl⟩ := hbk
                have := shift (hE d (by omega)) (fun j hj => hancp d (Nat.le_refl _) j hj) hlatep hdoes
                rw [hquiet hb] at this ⊢
                exact this
              · have ih0 := ihd (by omega) (by omega)
                cases hbl : isLoud ob with
                | false => rw [hqb hbl]; exact ih0
                | true =>
                  rcases hrb with e | hr
                  · rw [e]; exact ih0
                  · by_cases h3 : Anc l i b
                    · -- it would be listed
                      have : lst listed b := (hloud d b rb ob hbk hob hbl).2 (by omega)
                      exact (hunl (down h3 this)).elim
                    · have h4 := ((hP.ord k d i b rs rb o ob (by omega) hk hbk ho' hob).1 hbl hb).resolve_left h3
                      obtain ⟨oq, u, hoq, hdq, hdv⟩ := hr i h4
                      rw [ho'] at hoq
                      simp only [Option.some.injEq] at hoq
                      subst hoq
                      have hE1 := hE (d + 1) (by omega)
                      have hd2 : Does P n l o (F (pl.take (d + 1))) (G (pl.take (k + 1))) (F (pl.take (d + 1))).σ := by
                        refine hdq.change fun env1 hl1 => ?_
                        cases hdst : o.dst with
                        | none => rfl
                        | some t =>
                          by_cases hlt : t < (F []).env.length
                          · rw [hdv t hdst, hE1.set k i rs o t hk ho' hdst ⟨k, rs, by omega, hk⟩ hlt]
                          · rw [setE_big (by rw [hl1, hE1.len]; exact Nat.le_of_not_lt hlt), setE_big (by rw [hl1, hE1.len]; exact Nat.le_of_not_lt hlt)]
                      refine shift hE1 (fun j hj => hancp (d + 1) (by omega) j hj) ?_ hd2
                      rintro j hj ⟨k2, r2, h5, h6⟩
                      by_cases hk2 : k2 = d
                      · subst hk2
                        rw [hbk] at h6
                        simp only [Option.some.injEq, Prod.mk.injEq] at h6
                        exact h3 (h6.1 ▸ hj.1)
                      · exact h3 (hj.2 k2 d b r2 rb ob (by omega) h6 hbk hob hbl)
          exact hlast c (by omega) (Nat.le_refl _)
      have h1 := hd env ⟨rfl, fun _ _ => rfl⟩ ρ0 W0 a w Q (wpAny P .any l.toArray Q fuel (listed.setIfInBounds i true)) hn hR fun a' w' hR' =>
        ih pl hpl (listed.setIfInBounds i true) a' w' c (setE env o.dst (G (pl.take (k + 1)))) (by simpa using hsz) hcnt' hdown' hcl (fun k' i' rs' o' hk' ho'' hb' => by
          rw [lst_set hisz, hloud k' i' rs' o' hk' ho'' hb']
          constructor
          · rintro (h | rfl)
            · exact h
            · rw [ho'] at ho''; simp only [Option.some.injEq] at ho''; subst ho''; rw [hb] at hb'; cases hb'
          · exact fun h => .inl h) (henv.put hP hk ho' (lst_set hisz)) hR'
      unfold wpOp
      simp only [ho]
      unfold wpOne at h1
      split
      · rename_i hw; rw [if_pos hw] at h1; exact .inl h1
      · rename_i hw; rw [if_neg hw] at h1; exact h1
end
end Go.Ab
