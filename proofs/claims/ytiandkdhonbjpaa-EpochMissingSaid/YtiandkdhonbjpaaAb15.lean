/-
  Regions that draw their order: the plan, the walk, and that it serves every order.
-/
import Derived.Test.YtiandkdhonbjpaaAb14
namespace Go.Ab

def edgesOf (o : Oper) : List Nat := (o.after.toList.filter (Region.binds .any)).map (·.on)
def isLoud (o : Oper) : Bool := isCall o.op || (loud o.op && (bsV o.op).isNone)

/-- j is ordered before i. -/
inductive Anc (l : List Oper) : Nat → Nat → Prop
  | one {i e : Nat} {o : Oper} (h : l[i]? = some o) (he : e ∈ edgesOf o) : Anc l e i
  | step {i e j : Nat} {o : Oper} (h : l[i]? = some o) (he : e ∈ edgesOf o) (hj : Anc l j e) : Anc l j i

structure Plan (l : List Oper) (pl : List (Nat × List Nat)) : Prop where
  nodup : (pl.map (·.1)).Nodup
  all : ∀ i, i < l.length ↔ i ∈ pl.map (·.1)
  lin : ∀ (k : Nat) (i : Nat) (rs : List Nat) (o : Oper) (e : Nat), pl[k]? = some (i, rs) → l[i]? = some o → e ∈ edgesOf o → ∃ (k' : Nat) (rs' : List Nat), k' < k ∧ pl[k']? = some (e, rs')
  dst : ∀ (i j : Nat) (oi oj : Oper) (d : Nat), l[i]? = some oi → l[j]? = some oj → oi.dst = some d → oj.dst = some d → i = j
  look : ∀ (i j : Nat) (oi oj : Oper) (d : Nat), l[i]? = some oi → l[j]? = some oj → oj.dst = some d → d ∈ looksL l oi → Anc l j i
  ord : ∀ (k k' a b : Nat) (ra rb : List Nat) (oa ob : Oper), k < k' → pl[k]? = some (a, ra) → pl[k']? = some (b, rb) → l[a]? = some oa → l[b]? = some ob →
    (isLoud ob = true → Anc l a b ∨ (isLoud oa = false ∧ a ∈ rb)) ∧ (isLoud ob = false → isLoud oa = true → Anc l a b)

def retroOk (Γ : Tab) (ops : List Oper) (st : St) : List Nat → Prop
  | [] => True
  | q :: qs =>
    (match nthOp ops q with
      | some o =>
        (match evV Γ ops st o with
          | some (u, σ', C) => C ∧ σ' = st.σ ∧ (match o.dst with | some d => u = nth st.env d | none => True)
          | none => False)
      | none => False) ∧ retroOk Γ ops st qs

/-- The walk along a plan. -/
def DC (P : Program) (Γ : Tab) (n : Nat) (ops : List Oper) (K : St → Prop) : List (Nat × List Nat) → St → Prop
  | [], st => K st
  | (i, rs) :: rest, st => ∃ o v σ', nthOp ops i = some o ∧ Does P n ops o st v σ' ∧ (isLoud o = false → σ' = st.σ) ∧ (σ' = st.σ ∨ retroOk Γ ops ⟨setE st.env o.dst v, σ'⟩ rs) ∧ DC P Γ n ops K rest ⟨setE st.env o.dst v, σ'⟩

section
variable {P : Program} {Γ : Tab} {n : Nat}

theorem nth_get : ∀ (l : List AV) (t : Nat), nth l t = (l[t]?).getD .top
  | [], t => by simp [nth]
  | _ :: _, 0 => by simp [nth]
  | _ :: xs, t + 1 => by simpa [nth] using nth_get xs t

theorem setE_length (env : List AV) (dst : Option Nat) (v : AV) : (setE env dst v).length = env.length := by
  cases dst <;> simp [setE, setN_eq]

theorem nth_setE_ne {env : List AV} {dst : Option Nat} {v : AV} {t : Nat} (h : dst ≠ some t) : nth (setE env dst v) t = nth env t := by
  cases dst with
  | none => rfl
  | some d =>
    have hne : d ≠ t := fun e => h (by rw [e])
    simp only [setE, setN_eq, nth_get, List.getElem?_set_ne hne]

theorem nth_setE_eq {env : List AV} {d : Nat} {v : AV} (h : d < env.length) : nth (setE env (some d) v) d = v := by
  simp [setE, setN_eq, nth_get, h]

theorem setE_big {env : List AV} {d : Nat} {v : AV} (h : env.length ≤ d) : setE env (some d) v = env := by
  simp only [setE, setN_eq]
  exact List.set_eq_of_length_le h

theorem Does.change {ops : List Oper} {o : Oper} {st : St} {u v : AV} {σ' : List AObj} (h : Does P n ops o st u σ') (e : ∀ env : List AV, env.length = st.env.length → setE env o.dst u = setE env o.dst v) : Does P n ops o st v σ' := by
  intro env' hag ρ0 W0 a w Q K hn hR hK
  exact h env' hag ρ0 W0 a w Q K hn hR (by rw [e env' hag.1]; exact hK)

/-- What the walk has shown, by places. -/
structure Chain (P : Program) (n : Nat) (l : List Oper) (pl : List (Nat × List Nat)) (S : Nat → St) (V : Nat → AV) : Prop where
  step : ∀ (k i : Nat) (rs : List Nat), pl[k]? = some (i, rs) → ∃ o, l[i]? = some o ∧ Does P n l o (S k) (V k) (S (k + 1)).σ ∧ (S (k + 1)).env = setE (S k).env o.dst (V k) ∧ (isLoud o = false → (S (k + 1)).σ = (S k).σ) ∧
    ((S (k + 1)).σ = (S k).σ ∨ ∀ q ∈ rs, ∃ oq u, l[q]? = some oq ∧ Does P n l oq (S (k + 1)) u (S (k + 1)).σ ∧ ∀ d, oq.dst = some d → u = nth (S (k + 1)).env d)

theorem retro_of (hΓ : TabOk P Γ) {l : List Oper} {st : St} : ∀ {rs : List Nat}, retroOk Γ l st rs → ∀ q ∈ rs, ∃ oq u, l[q]? = some oq ∧ Does P n l oq st u st.σ ∧ ∀ d, oq.dst = some d → u = nth st.env d
  | [], _, q, hq => by cases hq
  | r :: rs, h, q, hq => by
    simp only [retroOk] at h
    rcases List.mem_cons.1 hq with rfl | hm
    · have h1 := h.1
      split at h1
      · rename_i o ho
        split at h1
        · rename_i u σ' C he
          obtain ⟨hC, hs, hd⟩ := h1
          subst hs
          rw [nthOp_eq] at ho
          refine ⟨o, u, ho, Does.of_ev hΓ he hC, fun d hdd => ?_⟩
          rw [hdd] at hd
          exact hd
        · exact h1.elim
      · exact h1.elim
    · exact retro_of hΓ h.2 q hm

theorem DC.chain (hΓ : TabOk P Γ) {l : List Oper} {K : St → Prop} : ∀ {pl : List (Nat × List Nat)} {st : St}, DC P Γ n l K pl st → ∃ (S : Nat → St) (V : Nat → AV), S 0 = st ∧ K (S pl.length) ∧ Chain P n l pl S V
  | [], st, h => ⟨fun _ => st, fun _ => .top, rfl, h, ⟨fun k i rs hk => by simp at hk⟩⟩
  | (i, rs) :: rest, st, h => by
    obtain ⟨o, v, σ', ho, hd, hq, hr, hrest⟩ := h
    obtain ⟨S, V, h0, hK, hc⟩ := DC.chain hΓ hrest
    refine ⟨fun k => match k with | 0 => st | k + 1 => S k, fun k => match k with | 0 => v | k + 1 => V k, rfl, by simpa using hK, ⟨fun k i' rs' hk => ?_⟩⟩
    cases k with
    | zero =>
      simp only [List.getElem?_cons_zero, Option.some.injEq, Prod.mk.injEq] at hk
      obtain ⟨rfl, rfl⟩ := hk
      rw [nthOp_eq] at ho
      refine ⟨o, ho, ?_, ?_, ?_, ?_⟩
      · show Does P n l o st v (S 0).σ; rw [h0]; exact hd
      · show (S 0).env = _; rw [h0]
      · show _ → (S 0).σ = st.σ; rw [h0]; exact hq
      · show (S 0).σ = st.σ ∨ _
        rw [h0]
        rcases hr with e | hr
        · exact .inl e
        · refine .inr fun q hqm => ?_
          have := retro_of (n := n) hΓ hr q hqm
          show ∃ oq u, l[q]? = some oq ∧ Does P n l oq (S 0) u (S 0).σ ∧ ∀ d, oq.dst = some d → u = nth (S 0).env d
          rw [h0]
          exact this
    | succ k =>
      simp only [List.getElem?_cons_succ] at hk
      exact hc.step k i' rs' hk

/-- The frame at place k of the chain. -/
structure EnvAt (l : List Oper) (pl : List (Nat × List Nat)) (env0 : List AV) (V : Nat → AV) (done : Nat → Prop) (env : List AV) : Prop where
  len : env.length = env0.length
  set : ∀ (k i : Nat) (rs : List Nat) (o : Oper) (d : Nat), pl[k]? = some (i, rs) → l[i]? = some o → o.dst = some d → done i → d < env0.length → nth env d = V k
  keep : ∀ t, (∀ (i : Nat) (o : Oper), done i → l[i]? = some o → o.dst ≠ some t) → nth env t = nth env0 t

theorem Plan.pos {l : List Oper} {pl : List (Nat × List Nat)} (hP : Plan l pl) {i : Nat} (h : i < l.length) : ∃ (k : Nat) (rs : List Nat), pl[k]? = some (i, rs) := by
  have := (hP.all i).1 h
  obtain ⟨q, hq, e⟩ := List.mem_map.1 this
  obtain ⟨k, hk⟩ := List.mem_iff_getElem?.1 hq
  exact ⟨k, q.2, by rw [hk, ← e]⟩

theorem Plan.uniq {l : List Oper} {pl : List (Nat × List Nat)} (hP : Plan l pl) {i k k' : Nat} {rs rs' : List Nat} (h : pl[k]? = some (i, rs)) (h' : pl[k']? = some (i, rs')) : k = k' := by
  have h1 : (pl.map (·.1))[k]? = some i := by simp [h]
  have h2 : (pl.map (·.1))[k']? = some i := by simp [h']
  obtain ⟨l1, g1⟩ := List.getElem?_eq_some_iff.1 h1
  obtain ⟨l2, g2⟩ := List.getElem?_eq_some_iff.1 h2
  exact (List.getElem_inj hP.nodup).1 (g1.trans g2.symm)

theorem Plan.anc_pos {l : List Oper} {pl : List (Nat × List Nat)} (hP : Plan l pl) : ∀ {j i : Nat}, Anc l j i → ∀ {k : Nat} {rs : List Nat}, pl[k]? = some (i, rs) → ∃ (k' : Nat) (rs' : List Nat), k' < k ∧ pl[k']? = some (j, rs') := by
  intro j i h
  induction h with
  | one h he => intro k rs hk; exact hP.lin k _ rs _ _ hk h he
  | step h he hj ih =>
    intro k rs hk
    obtain ⟨k1, r1, hlt, h1⟩ := hP.lin k _ rs _ _ hk h he
    obtain ⟨k2, r2, hlt2, h2⟩ := ih h1
    exact ⟨k2, r2, by omega, h2⟩

theorem EnvAt.put {l : List Oper} {pl : List (Nat × List Nat)} (hP : Plan l pl) {env0 env : List AV} {V : Nat → AV} {done done' : Nat → Prop} (h : EnvAt l pl env0 V done env) {k i : Nat} {rs : List Nat} {o : Oper} (hk : pl[k]? = some (i, rs)) (ho : l[i]? = some o)
    (hd : ∀ j, done' j ↔ done j ∨ j = i) : EnvAt l pl env0 V done' (setE env o.dst (V k)) := by
  refine ⟨by rw [setE_length, h.len], fun k' j rs' o' d hk' ho' hd' hdone hlt => ?_, fun t ht => ?_⟩
  · by_cases hij : j = i
    · subst hij
      have := hP.uniq hk hk'
      subst this
      rw [ho] at ho'
      simp only [Option.some.injEq] at ho'
      subst ho'
      rw [hd']
      exact nth_setE_eq (by rw [h.len]; exact hlt)
    · have hne : o.dst ≠ some d := fun e => hij (hP.dst j i o' o d ho' ho hd' e)
      rw [nth_setE_ne hne]
      refine h.set k' j rs' o' d hk' ho' hd' ?_ hlt
      rcases (hd j).1 hdone with h1 | h1
      · exact h1
      · exact (hij h1).elim
  · rw [nth_setE_ne (ht i o ((hd i).2 (.inr rfl)) ho)]
    exact h.keep t fun j oj hj => ht j oj ((hd j).2 (.inl hj))

theorem Chain.env {l : List Oper} {pl : List (Nat × List Nat)} {S : Nat → St} {V : Nat → AV} (hP : Plan l pl) (hc : Chain P n l pl S V) : ∀ k, k ≤ pl.length → EnvAt l pl (S 0).env V (fun i => ∃ (k' : Nat) (rs : List Nat), k' < k ∧ pl[k']? = some (i, rs)) (S k).env
  | 0, _ => ⟨rfl, fun _ _ _ _ _ _ _ _ ⟨_, _, h, _⟩ => by omega, fun _ _ => rfl⟩
  | k + 1, hk => by
    have ih := Chain.env hP hc k (by omega)
    obtain ⟨⟨i, rs⟩, hi⟩ : ∃ q, pl[k]? = some q := ⟨_, List.getElem?_eq_getElem (by omega)⟩
    obtain ⟨o, ho, _, he, _⟩ := hc.step k i rs hi
    rw [he]
    refine ih.put hP hi ho fun j => ⟨fun ⟨k', rs', hlt, h⟩ => ?_, fun h => ?_⟩
    · by_cases hkk : k' = k
      · subst hkk
        rw [hi] at h
        simp only [Option.some.injEq, Prod.mk.injEq] at h
        exact .inr h.1.symm
      · exact .inl ⟨k', rs', by omega, h⟩
    · rcases h with ⟨k', rs', hlt, h⟩ | rfl
      · exact ⟨k', rs', by omega, h⟩
      · exact ⟨k, rs, by omega, hi⟩

/-- Two frames agree on what an operation looks at, if what is ordered before it is done in both, and it is itself in neither. -/
theorem EnvAt.agree {l : List Oper} {pl : List (Nat × List Nat)} (hP : Plan l pl) {env0 e1 e2 : List AV} {V : Nat → AV} {d1 d2 : Nat → Prop} (h1 : EnvAt l pl env0 V d1 e1) (h2 : EnvAt l pl env0 V d2 e2) {i : Nat} {o : Oper} (ho : l[i]? = some o)
    (a1 : ∀ j, Anc l j i → d1 j) (a2 : ∀ j, Anc l j i → d2 j) : Agree e1 e2 (looksL l o) := by
  refine ⟨h2.len.trans h1.len.symm, fun t ht => ?_⟩
  by_cases hex : ∃ (j : Nat) (oj : Oper), l[j]? = some oj ∧ oj.dst = some t
  · obtain ⟨j, oj, hj, hd⟩ := hex
    have ha := hP.look i j o oj t ho hj hd ht
    obtain ⟨k, rs, hk⟩ := hP.pos (List.getElem?_eq_some_iff.1 hj).1
    by_cases hlt : t < env0.length
    · rw [h1.set k j rs oj t hk hj hd (a1 j ha) hlt, h2.set k j rs oj t hk hj hd (a2 j ha) hlt]
    · rw [nth_get, nth_get, List.getElem?_eq_none (by rw [h2.len]; omega), List.getElem?_eq_none (by rw [h1.len]; omega)]
  · rw [h1.keep t fun j oj _ hj hd => hex ⟨j, oj, hj, hd⟩, h2.keep t fun j oj _ hj hd => hex ⟨j, oj, hj, hd⟩]

def lst (listed : Array Bool) (i : Nat) : Prop := listed.getD i false = true

theorem lst_set {listed : Array Bool} {i : Nat} (h : i < listed.size) (j : Nat) : lst (listed.setIfInBounds i true) j ↔ lst listed j ∨ j = i := by
  unfold lst
  by_cases hij : i = j
  · subst hij
    simp [h]
  · rw [getD_set_ne false hij]
    exact ⟨fun h => .inl h, fun h => h.resolve_right fun e => hij e.symm⟩

theorem count_false_set {listed : Array Bool} {i : Nat} (h : i < listed.size) (hu : listed.getD i false = false) : (listed.setIfInBounds i true).toList.count false + 1 = listed.toList.count false := by
  have hl : i < listed.toList.length := by simpa using h
  have hi : listed.toList[i] = false := by simpa [h] using hu
  simp only [Array.toList_setIfInBounds]
  rw [List.count_set hl, hi]
  have : 0 < listed.toList.count false := List.count_pos_iff.2 (by rw [← hi]; exact List.getElem_mem hl)
  simp only [beq_self_eq_true, if_true, Bool.beq_eq_decide_eq, Bool.true_eq_false, decide_false, if_false, Bool.false_eq_true, Nat.add_zero]
  omega

theorem any_order {l : List Oper} {pl : List (Nat × List Nat)} {S : Nat → St} {V : Nat → AV} (hP : Plan l pl) (hc : Chain P n l pl S V) {ρ0 : Rho} {W0 : World} (hn : ρ0.length = n) {Q : Exit → Act → World → Prop}
    (hQ : ∀ a w, Rel ρ0 W0 (S pl.length) a w → Q .normal a w) : ∀ (fuel : Nat) (listed : Array Bool) (a : Act) (w : World) (c : Nat) (env : List AV), listed.size = l.length → listed.toList.count false = fuel →
      (∀ (i : Nat) (o : Oper) (e : Nat), lst listed i → l[i]? = some o → e ∈ edgesOf o → lst listed e) →
      c ≤ pl.length → (∀ (k i : Nat) (rs : List Nat) (o : Oper), pl[k]? = some (i, rs) → l[i]? = some o → isLoud o = true → (lst listed i ↔ k < c)) →
      EnvAt l pl (S 0).env V (lst listed) env → Rel ρ0 W0 ⟨env, (S c).σ⟩ a w → wpAny P .any l.toArray Q fuel listed a w := by
  intro fuel
  have down : ∀ {listed : Array Bool}, (∀ (i : Nat) (o : Oper) (e : Nat), lst listed i → l[i]? = some o → e ∈ edgesOf o → lst listed e) → ∀ {j i : Nat}, Anc l j i → lst listed i → lst listed j := by
    intro listed hdown j i h
    induction h with
    | one h he => intro hl; exact hdown _ _ _ hl h he
    | step h he hj ih => intro hl; exact ih (hdown _ _ _ hl h he)
  have lt_of : ∀ {k : Nat} {q : Nat × List Nat}, pl[k]? = some q → k < pl.length := fun h => (List.getElem?_eq_some_iff.1 h).1
  have hlen : pl.length = l.length := by
    have h1 : (pl.map (·.1)).Perm (List.range l.length) := (List.perm_ext_iff_of_nodup hP.nodup List.nodup_range).2 fun i => by rw [List.mem_range]; exact (hP.all i).symm
    simpa using h1.length_eq
  -- between two places of which none is loud the objects are the same
  have flat : ∀ c k, c ≤ k → k ≤ pl.length → (∀ (j i : Nat) (rs : List Nat) (o : Oper), c ≤ j → j < k → pl[j]? = some (i, rs) → l[i]? = some o → isLoud o = false) → (S k).σ = (S c).σ := by
    intro c k hck
    induction k with
    | zero => intro _ _; rw [show c = 0 by omega]
    | succ k ih =>
      intro hk hq
      by_cases he : c = k + 1
      · rw [he]
      · obtain ⟨⟨i, rs⟩, hi⟩ : ∃ q, pl[k]? = some q := ⟨_, List.getElem?_eq_getElem (by omega)⟩
        obtain ⟨o, ho, _, _, hs, _⟩ := hc.step k i rs hi
        rw [hs (hq k i rs o (by omega) (by omega) hi ho)]
        exact ih (by omega) (by omega) fun j i rs o h1 h2 => hq j i rs o h1 (by omega)
  -- the end
  have fin : ∀ (listed : Array Bool) (a : Act) (w : World) (c : Nat) (env : List AV), listed.size = l.length → c ≤ pl.length →
      (∀ (k i : Nat) (rs : List Nat) (o : Oper), pl[k]? = some (i, rs) → l[i]? = some o → isLoud o = true → (lst listed i ↔ k < c)) → EnvAt l pl (S 0).env V (lst listed) env → Rel ρ0 W0 ⟨env, (S c).σ⟩ a w → Region.ready .any l.toArray listed = [] → Q .normal a w := by
    intro listed a w c env hsz hcl hloud henv hR hready
    have hall : ∀ (k i : Nat) (rs : List Nat), pl[k]? = some (i, rs) → lst listed i := by
      intro k
      induction k using Nat.strongRecOn with
      | _ k ih =>
        intro i rs hk
        obtain ⟨o, ho, _⟩ := hc.step k i rs hk
        by_cases hl : lst listed i
        · exact hl
        · exfalso
          have hil : i < l.length := (List.getElem?_eq_some_iff.1 ho).1
          have hu : listed.getD i true = false := by
            unfold lst at hl
            have : i < listed.size := by omega
            simp only [Array.getD, this, dite_true] at hl ⊢
            simpa using hl
          have : i ∈ Region.ready .any l.toArray listed := mem_ready.2 ⟨hu, o, by simpa using ho, fun e he hb => by
            obtain ⟨k', rs', hlt, h'⟩ := hP.lin k i rs o e.on hk ho (List.mem_map.2 ⟨e, List.mem_filter.2 ⟨by simpa using he, hb⟩, rfl⟩)
            exact ih k' hlt e.on rs' h'⟩
          rw [hready] at this
          cases this
    refine hQ a w ?_
    have e1 : (S pl.length).σ = (S c).σ := flat c pl.length hcl (Nat.le_refl _) fun j i rs o h1 h2 hj ho => by
      cases hb : isLoud o with
      | false => rfl
      | true => have := (hloud j i rs o hj ho hb).1 (hall j i rs hj); omega
    have hend := hc.env hP pl.length (Nat.le_refl _)
    have e2 : env = (S pl.length).env := by
      apply List.ext_getElem?
      intro t
      by_cases ht : t < (S 0).env.length
      · have hnth : nth env t = nth (S pl.length).env t := by
          by_cases hex : ∃ (j : Nat) (oj : Oper), l[j]? = some oj ∧ oj.dst = some t
          · obtain ⟨j, oj, hj, hd⟩ := hex
            obtain ⟨k, rs, hk⟩ := hP.pos (List.getElem?_eq_some_iff.1 hj).1
            rw [henv.set k j rs oj t hk hj hd (hall k j rs hk) ht, hend.set k j rs oj t hk hj hd ⟨k, rs, lt_of hk, hk⟩ ht]
          · rw [henv.keep t fun j oj _ hj hd => hex ⟨j, oj, hj, hd⟩, hend.keep t fun j oj _ hj hd => hex ⟨j, oj, hj, hd⟩]
        rw [nth_get, nth_get, List.getElem?_eq_getElem (by rw [henv.len]; exact ht), List.getElem?_eq_getElem (by rw [hend.len]; exact ht)] at hnth
        rw [List.getElem?_eq_getElem (by rw [henv.len]; exact ht), List.getElem?_eq_getElem (by rw [hend.len]; exact ht)]
        simpa using hnth
      · rw [List.getElem?_eq_none (by rw [henv.len]; omega), List.getElem?_eq_none (by rw [hend.len]; omega)]
    rw [← e1, e2] at hR
    exact hR
  induction fuel with
  | zero =>
    intro listed a w c env hsz hcnt hdown hcl hloud henv hR
    have hready : Region.ready .any l.toArray listed = [] := by
      refine List.eq_nil_iff_forall_not_mem.2 fun i hi => ?_
      obtain ⟨hu, o, ho, _⟩ := mem_ready.1 hi
      have hil : i < listed.size := by
        have := (Array.getElem?_eq_some_iff.1 ho).1
        rw [hsz]; simpa using this
      have : false ∈ listed.toList := by
        have e : listed[i] = false := by simpa [Array.getD, hil] using hu
        rw [← e]
        exact Array.getElem_mem_toList hil
      rw [← List.count_pos_iff] at this
      omega
    exact ⟨hready, fin listed a w c env hsz hcl hloud henv hR hready⟩
  | succ fuel ih =>
    intro listed a w c env hsz hcnt hdown hcl hloud henv hR
    refine ⟨fun hready => fin listed a w c env hsz hcl hloud henv hR hready, fun i hi => ?_⟩
    obtain ⟨hu, o, ho, hpre⟩ := mem_ready.1 hi
    have ho' : l[i]? = some o := by simpa using ho
    have hil : i < l.length := (List.getElem?_eq_some_iff.1 ho').1
    have hisz : i < listed.size := by omega
    have huf : listed.getD i false = false := by simpa [Array.getD, hisz] using hu
    have hunl : ¬ lst listed i := by unfold lst; rw [huf]; exact Bool.false_ne_true
    obtain ⟨k, rs, hk⟩ := hP.pos hil
    have hkl := lt_of hk
    obtain ⟨o2, ho2, hdoes, hse, hquiet, hretro⟩ := hc.step k i rs hk
    rw [ho'] at ho2
    simp only [Option.some.injEq] at ho2
    subst ho2
    have hanc : ∀ j, Anc l j i → lst listed j := by
      intro j hj
      cases hj with
      | one h he =>
        rw [ho'] at h; simp only [Option.some.injEq] at h; subst h
        obtain ⟨e, he', rfl⟩ := List.mem_map.1 he
        exact hpre e (by simpa using (List.mem_filter.1 he').1) (List.mem_filter.1 he').2
      | step h he hj =>
        rw [ho'] at h; simp only [Option.some.injEq] at h; subst h
        obtain ⟨e, he', rfl⟩ := List.mem_map.1 he
        exact down hdown hj (hpre e (by simpa using (List.mem_filter.1 he').1) (List.mem_filter.1 he').2)
    have hancp : ∀ k' : Nat, k ≤ k' → ∀ j, Anc l j i → ∃ (k'' : Nat) (rs'' : List Nat), k'' < k' ∧ pl[k'']? = some (j, rs'') := by
      intro k' hkk j hj
      obtain ⟨k2, r2, h1, h2⟩ := hP.anc_pos hj hk
      exact ⟨k2, r2, by omega, h2⟩
    have hdown' : ∀ (i' : Nat) (o' : Oper) (e : Nat), lst (listed.setIfInBounds i true) i' → l[i']? = some o' → e ∈ edgesOf o' → lst (listed.setIfInBounds i true) e := by
      intro i' o' e h1 h2 h3
      refine (lst_set hisz e).2 (.inl ?_)
      rcases (lst_set hisz i').1 h1 with h4 | rfl
      · exact hdown i' o' e h4 h2 h3
      · exact hanc e (.one h2 h3)
    have hcnt' : (listed.setIfInBounds i true).toList.count false = fuel := by
      have := count_false_set hisz huf
      omega
    have goal : ∀ c', c' ≤ pl.length → (∀ (k' i' : Nat) (rs' : List Nat) (o' : Oper), pl[k']? = some (i', rs') → l[i']? = some o' → isLoud o' = true → (lst (listed.setIfInBounds i true) i' ↔ k' < c')) →
        Does P n l o ⟨env, (S c).σ⟩ (V k) (S c').σ → wpOp P l.toArray Q i (wpAny P .any l.toArray Q fuel (listed.setIfInBounds i true)) a w := by
      intro c' hc'l hloud' hd
      have h1 := hd env ⟨rfl, fun _ _ => rfl⟩ ρ0 W0 a w Q (wpAny P .any l.toArray Q fuel (listed.setIfInBounds i true)) hn hR fun a' w' hR' =>
        ih (listed.setIfInBounds i true) a' w' c' (setE env o.dst (V k)) (by simpa using hsz) hcnt' hdown' hc'l hloud' (henv.put hP hk ho' (lst_set hisz)) hR'
      unfold wpOp
      simp only [ho]
      unfold wpOne at h1
      split
      · rename_i hw; rw [if_pos hw] at h1; exact .inl h1
      · rename_i hw; rw [if_neg hw] at h1; exact h1
    have shift : ∀ {st : St} {v : AV} {σ' : List AObj} {dn : Nat → Prop}, EnvAt l pl (S 0).env V dn st.env → (∀ j, Anc l j i → dn j) → Does P n l o st v σ' → Does P n l o ⟨env, st.σ⟩ v σ' := by
      intro st v σ' dn he hdn hd env' hag
      have h2 := he.agree hP henv ho' hdn hanc
      exact hd env' ⟨hag.1.trans h2.1, fun t ht => (hag.2 t ht).trans (h2.2 t ht)⟩
    cases hb : isLoud o with
    | true =>
      have hck : c ≤ k := by
        rcases Nat.lt_or_ge k c with h | h
        · exact (hunl ((hloud k i rs o hk ho' hb).2 h)).elim
        · exact h
      have hflat : (S k).σ = (S c).σ := flat c k hck (by omega) fun j i' rs' o' h1 h2 hj hoj => by
        cases hb' : isLoud o' with
        | false => rfl
        | true =>
          rcases (hP.ord j k i' i rs' rs o' o h2 hj hk hoj ho').1 hb with h3 | h3
          · have := (hloud j i' rs' o' hj hoj hb').1 (hanc i' h3); omega
          · rw [hb'] at h3; cases h3.1
      refine goal (k + 1) (by omega) (fun k' i' rs' o' hk' ho'' hb' => ?_) ?_
      · rw [lst_set hisz]
        constructor
        · rintro (h | rfl)
          · have := (hloud k' i' rs' o' hk' ho'' hb').1 h; omega
          · have := hP.uniq hk hk'; omega
        · intro hlt
          by_cases hkk : k' = k
          · subst hkk
            rw [hk] at hk'
            simp only [Option.some.injEq, Prod.mk.injEq] at hk'
            exact .inr hk'.1.symm
          · rcases (hP.ord k' k i' i rs' rs o' o (by omega) hk' hk ho'' ho').1 hb with h3 | h3
            · exact .inl (hanc i' h3)
            · rw [hb'] at h3; cases h3.1
      · rw [← hflat]
        exact shift (hc.env hP k (by omega)) (fun j hj => hancp k (Nat.le_refl _) j hj) hdoes
    | false =>
      have hkc : ∀ (j i' : Nat) (rs' : List Nat) (o' : Oper), c ≤ j → j < k → pl[j]? = some (i', rs') → l[i']? = some o' → isLoud o' = false := by
        intro j i' rs' o' h1 h2 hj hoj
        cases hb' : isLoud o' with
        | false => rfl
        | true =>
          have h3 := (hP.ord j k i' i rs' rs o' o h2 hj hk hoj ho').2 hb hb'
          have := (hloud j i' rs' o' hj hoj hb').1 (hanc i' h3)
          omega
      refine goal c hcl (fun k' i' rs' o' hk' ho'' hb' => ?_) ?_
      · rw [lst_set hisz, hloud k' i' rs' o' hk' ho'' hb']
        constructor
        · rintro (h | rfl)
          · exact h
          · rw [ho'] at ho''; simp only [Option.some.injEq] at ho''; subst ho''; rw [hb] at hb'; cases hb'
        · exact fun h => .inl h
      · by_cases hck : c ≤ k
        · have hflat : (S k).σ = (S c).σ := flat c k hck (by omega) hkc
          have := shift (hc.env hP k (by omega)) (fun j hj => hancp k (Nat.le_refl _) j hj) hdoes
          rw [hquiet hb, hflat] at this
          exact this
        · -- the last loud place before c
          have hlast : ∀ c0, k < c0 → c0 ≤ c → Does P n l o ⟨env, (S c0).σ⟩ (V k) (S c0).σ := by
            intro c0
            induction c0 with
            | zero => intro h; omega
            | succ d ihd =>
              intro h1 h2
              obtain ⟨⟨b, rb⟩, hbk⟩ : ∃ q, pl[d]? = some q := ⟨_, List.getElem?_eq_getElem (by omega)⟩
              obtain ⟨ob, hob, _, hseb, hqb, hrb⟩ := hc.step d b rb hbk
              by_cases hdk : d = k
              · subst hdk
                rw [hk] at hbk
                simp only [Option.some.injEq, Prod.mk.injEq] at hbk
                obtain ⟨rfl, rfl⟩ := hbk
                have := shift (hc.env hP d (by omega)) (fun j hj => hancp d (Nat.le_refl _) j hj) hdoes
                rw [hquiet hb] at this ⊢
                exact this
              · have ih0 := ihd (by omega) (by omega)
                rcases hrb with e | hr
                · rw [e]; exact ih0
                · cases hbl : isLoud ob with
                  | false => rw [hqb hbl]; exact ih0
                  | true =>
                    rcases (hP.ord k d i b rs rb o ob (by omega) hk hbk ho' hob).1 hbl with h3 | h3
                    · -- it would be listed
                      have : lst listed b := (hloud d b rb ob hbk hob hbl).2 (by omega)
                      exact (hunl (down hdown h3 this)).elim
                    · obtain ⟨oq, u, hoq, hdq, hdv⟩ := hr i h3.2
                      rw [ho'] at hoq
                      simp only [Option.some.injEq] at hoq
                      subst hoq
                      have hE := hc.env hP (d + 1) (by omega)
                      have hd2 : Does P n l o (S (d + 1)) (V k) (S (d + 1)).σ := by
                        refine hdq.change fun env1 hl1 => ?_
                        cases hdst : o.dst with
                        | none => rfl
                        | some t =>
                          by_cases hlt : t < (S 0).env.length
                          · rw [hdv t hdst, hE.set k i rs o t hk ho' hdst ⟨k, rs, by omega, hk⟩ hlt]
                          · rw [setE_big (by rw [hl1, hE.len]; exact Nat.le_of_not_lt hlt), setE_big (by rw [hl1, hE.len]; exact Nat.le_of_not_lt hlt)]
                      exact shift hE (fun j hj => hancp (d + 1) (by omega) j hj) hd2
          exact hlast c (by omega) (Nat.le_refl _)
end
end Go.Ab
