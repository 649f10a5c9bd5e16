/-
  Parts joined: D1 D2 D3 D4 D5 D6.
-/
import Derived.Test.YtngfnogoicfmaaaGreatDoorQA1
set_option linter.unusedSimpArgs false
set_option linter.unusedVariables false
namespace Go.Proofs.YtngfnogoicfmaaaGreatDoor
abbrev Rw := Nat → Int
def iota (x : Rw) : (List Nat → Int) → List Nat → Int
  | _, [] => 0
  | F, c :: cs => x c * F cs - iota x (fun l => F (c :: l)) cs
def det : List Rw → List Nat → Int
  | [] => fun _ => 1
  | r :: rs => iota r (det rs)
theorem iota_add (x y : Rw) : ∀ (F : List Nat → Int) (cs : List Nat),iota (fun j => x j + y j) F cs = iota x F cs + iota y F cs
  | _, [] => rfl
  | F, c :: cs => by
    rw [iota, iota, iota, iota_add x y, Int.add_mul]
    omega
theorem iota_smul (k : Int) (x : Rw) : ∀ (F : List Nat → Int) (cs : List Nat),iota (fun j => k * x j) F cs = k * iota x F cs
  | _, [] => by rw [iota, iota, Int.mul_zero]
  | F, c :: cs => by
    rw [iota, iota, iota_smul k x, Int.mul_sub, Int.mul_assoc]
theorem iota_zero : ∀ (F : List Nat → Int) (cs : List Nat), iota (fun _ => 0) F cs = 0
  | _, [] => rfl
  | F, c :: cs => by rw [iota, iota_zero, Int.zero_mul, Int.sub_zero]
theorem iota_addF (x : Rw) : ∀ (F G : List Nat → Int) (cs : List Nat),iota x (fun l => F l + G l) cs = iota x F cs + iota x G cs
  | _, _, [] => rfl
  | F, G, c :: cs => by
    rw [iota, iota, iota, iota_addF x, Int.mul_add]
    omega
theorem iota_smulF (x : Rw) (k : Int) : ∀ (F : List Nat → Int) (cs : List Nat),iota x (fun l => k * F l) cs = k * iota x F cs
  | _, [] => by rw [iota, iota, Int.mul_zero]
  | F, c :: cs => by
    rw [iota, iota, iota_smulF x k, Int.mul_sub, Int.mul_left_comm]
theorem iota_zeroF (x : Rw) : ∀ (cs : List Nat), iota x (fun _ => 0) cs = 0
  | [] => rfl
  | c :: cs => by rw [iota, iota_zeroF x, Int.mul_zero, Int.sub_zero]
theorem iota_subF (x : Rw) (F G : List Nat → Int) (cs : List Nat) : iota x (fun l => F l - G l) cs = iota x F cs - iota x G cs := by
  have h := iota_addF x F (fun l => -1 * G l) cs
  rw [iota_smulF] at h
  rw [show (fun l => F l - G l) = (fun l => F l + -1 * G l) from funext fun l => by omega, h]
  omega
theorem iota_congrF {x : Rw} {F G : List Nat → Int} (h : ∀ l,F l = G l) (cs : List Nat) : iota x F cs = iota x G cs := by rw [funext h]
theorem iota_swap (x y : Rw) : ∀ (F : List Nat → Int) (cs : List Nat), iota x (iota y F) cs = -iota y (iota x F) cs
  | _, [] => rfl
  | F, c :: cs => by
    have h1 : ∀ (x y : Rw),iota x (fun l => iota y F (c :: l)) cs = y c * iota x F cs - iota x (iota y (fun l => F (c :: l))) cs := fun x y => by
      rw [iota_congrF (G := fun l => y c * F l - iota y (fun l => F (c :: l)) l) (fun l => by rw [iota]),iota_subF,iota_smulF]
    rw [iota, iota, h1 x y, h1 y x, iota_swap x y (fun l => F (c :: l)) cs]
    omega
theorem iota_self (x : Rw) (F : List Nat → Int) (cs : List Nat) : iota x (iota x F) cs = 0 := by
  have := iota_swap x x F cs
  omega
theorem det_dup {x : Rw} : ∀ {rs : List Rw}, x ∈ rs → ∀ cs, iota x (det rs) cs = 0
  | y :: ys, h, cs => by
    rw [det]
    rcases List.mem_cons.1 h with e | h
    · subst e; exact iota_self _ _ _
    · rw [iota_swap, iota_congrF (G := fun _ => 0) (fun l => det_dup h l), iota_zeroF]
      rfl
theorem det_two {v : Rw} : ∀ {A B : List Rw}, v ∈ A ∨ v ∈ B → ∀ cs, det (A ++ v :: B) cs = 0
  | [], B, h, cs => by
    rcases h with h | h
    · cases h
    · exact det_dup h cs
  | a :: A, B, h, cs => by
    show iota a (det (A ++ v :: B)) cs = 0
    by_cases e : v ∈ A ∨ v ∈ B
    · rw [iota_congrF (G := fun _ => 0) (fun l => det_two e l), iota_zeroF]
    · have : v = a := by
        rcases h with h | h
        · rcases List.mem_cons.1 h with q | q
          · exact q
          · exact absurd (.inl q) e
        · exact absurd (.inr h) e
      subst this
      exact det_dup (by simp) cs
theorem det_add (x y : Rw) : ∀ (A B : List Rw) (cs : List Nat),det (A ++ (fun j => x j + y j) :: B) cs = det (A ++ x :: B) cs + det (A ++ y :: B) cs
  | [], B, cs => iota_add x y (det B) cs
  | a :: A, B, cs => by
    show iota a (det (A ++ (fun j => x j + y j) :: B)) cs = iota a (det (A ++ x :: B)) cs + iota a (det (A ++ y :: B)) cs
    rw [iota_congrF (G := fun l => det (A ++ x :: B) l + det (A ++ y :: B) l) (fun l => det_add x y A B l), iota_addF]
theorem det_smul (k : Int) (x : Rw) : ∀ (A B : List Rw) (cs : List Nat),det (A ++ (fun j => k * x j) :: B) cs = k * det (A ++ x :: B) cs
  | [], B, cs => iota_smul k x (det B) cs
  | a :: A, B, cs => by
    show iota a (det (A ++ (fun j => k * x j) :: B)) cs = k * iota a (det (A ++ x :: B)) cs
    rw [iota_congrF (G := fun l => k * det (A ++ x :: B) l) (fun l => det_smul k x A B l), iota_smulF]
theorem det_zero : ∀ (A B : List Rw) (cs : List Nat), det (A ++ (fun _ => 0) :: B) cs = 0
  | [], B, cs => iota_zero (det B) cs
  | a :: A, B, cs => by
    show iota a (det (A ++ (fun _ => 0) :: B)) cs = 0
    rw [iota_congrF (G := fun _ => 0) (fun l => det_zero A B l), iota_zeroF]
def lin : List Int → List Rw → Rw
  | k :: ks, r :: rs => fun j => k * r j + lin ks rs j
  | _, _ => fun _ => 0
theorem det_lin {A B : List Rw} : ∀ {ks : List Int} {rs : List Rw},(∀ r ∈ rs,r ∈ A ∨ r ∈ B) → ∀ cs,det (A ++ lin ks rs :: B) cs = 0
  | [], [], _, cs => det_zero A B cs
  | [], _ :: _, _, cs => det_zero A B cs
  | _ :: _, [], _, cs => det_zero A B cs
  | k :: ks, r :: rs, h, cs => by
    show det (A ++ (fun j => k * r j + lin ks rs j) :: B) cs = 0
    rw [det_add (fun j => k * r j) (lin ks rs),det_smul,det_two (h r (by simp)),det_lin fun q hq => h q (List.mem_cons_of_mem _ hq)]
    simp
theorem lin_app : ∀ {ks : List Int} {rs : List Rw} (ks2 : List Int) (rs2 : List Rw),ks.length = rs.length → ∀ j,lin (ks ++ ks2) (rs ++ rs2) j = lin ks rs j + lin ks2 rs2 j
  | [], [], ks2, rs2, _, j => by show _ = 0 + _; rw [Int.zero_add]; rfl
  | k :: ks, r :: rs, ks2, rs2, h, j => by
    show k * r j + lin (ks ++ ks2) (rs ++ rs2) j = k * r j + lin ks rs j + lin ks2 rs2 j
    rw [lin_app ks2 rs2 (by simpa using h)]
    omega
theorem cramer {A B : List Rw} {r : Rw} {ka kb : List Int} {k : Int} (ha : ka.length = A.length) (cs : List Nat) : det (A ++ lin (ka ++ k :: kb) (A ++ r :: B) :: B) cs = k * det (A ++ r :: B) cs := by
  have h : lin (ka ++ k :: kb) (A ++ r :: B) = fun j => lin ka A j + (fun j => k * r j + lin kb B j) j := funext fun j => lin_app (k :: kb) (r :: B) ha j
  rw [h,det_add (lin ka A) (fun j => k * r j + lin kb B j),det_lin (fun q hq => .inl hq),det_add (fun j => k * r j) (lin kb B),det_smul,det_lin (fun q hq => .inr hq)]
  omega
theorem det_perm {l m : List Rw} (h : l.Perm m) : ∃ s : Int, (s = 1 ∨ s = -1) ∧ ∀ cs, det l cs = s * det m cs := by
  induction h with
  | nil => exact ⟨1, .inl rfl, fun cs => by rw [Int.one_mul]⟩
  | cons x _ ih =>
    obtain ⟨s, h1, h2⟩ := ih
    refine ⟨s, h1, fun cs => ?_⟩
    rw [det, det, iota_congrF h2, iota_smulF]
  | swap x y l =>
    refine ⟨-1, .inr rfl, fun cs => ?_⟩
    rw [det, det, det, det, iota_swap]
    omega
  | trans _ _ ih1 ih2 =>
    obtain ⟨s, h1, h2⟩ := ih1
    obtain ⟨t, h3, h4⟩ := ih2
    refine ⟨s * t, ?_, fun cs => by rw [h2, h4, Int.mul_assoc]⟩
    rcases h1 with rfl | rfl <;> rcases h3 with rfl | rfl <;> simp
theorem det_perm0 {l m : List Rw} (h : l.Perm m) {cs : List Nat} : det l cs = 0 ↔ det m cs = 0 := by
  obtain ⟨s, h1, h2⟩ := det_perm h
  rw [h2]
  rcases h1 with rfl | rfl
  · rw [Int.one_mul]
  · omega
def expS (x : Rw) (F : List Nat → Int) : List Nat → Int → List Nat → Int
  | _, _, [] => 0
  | pre, s, c :: cs => s * x c * F (pre ++ cs) + expS x F (pre ++ [c]) (-s) cs
theorem expS_iota (x : Rw) (F : List Nat → Int) : ∀ (cs pre : List Nat) (s : Int),expS x F pre s cs = s * iota x (fun l => F (pre ++ l)) cs
  | [], pre, s => by rw [expS, iota, Int.mul_zero]
  | c :: cs, pre, s => by
    rw [expS, iota, expS_iota x F cs, Int.mul_sub, Int.neg_mul, Int.mul_assoc]
    simp only [List.append_assoc, List.cons_append, List.nil_append]
    omega
end Go.Proofs.YtngfnogoicfmaaaGreatDoor
namespace Go.Proofs.YtngfnogoicfmaaaGreatDoor
def colM (m : Nat) : List Nat := (List.range 6).filter fun j => m.testBit j
def colF (m j : Nat) : List Nat := (List.range j).filter fun j => m.testBit j
def colT (m j : Nat) : List Nat := (List.range' j (6 - j)).filter fun j => m.testBit j
theorem colT_0 (m : Nat) : colT m 0 = colM m := by
  unfold colT colM
  rw [List.range_eq_range']
theorem colT_6 (m : Nat) : colT m 6 = [] := rfl
theorem colF_0 (m : Nat) : colF m 0 = [] := rfl
theorem colT_s (m : Nat) {j : Nat} (h : j < 6) : colT m j = if m.testBit j then j :: colT m (j + 1) else colT m (j + 1) := by
  unfold colT
  rw [show 6 - j = (6 - (j + 1)) + 1 by omega, List.range'_succ, List.filter_cons]
theorem colF_s (m j : Nat) : colF m (j + 1) = if m.testBit j then colF m j ++ [j] else colF m j := by
  unfold colF
  rw [List.range_succ, List.filter_append]
  by_cases h : m.testBit j = true <;> simp [h, List.filter_cons]
theorem colM_off {m n j : Nat} (hj : j < 6) (h : ∀ k,n.testBit k = (m.testBit k && decide (k ≠ j))) : colM n = colF m j ++ colT m (j + 1) := by
  have hF : ∀ i, i ≤ j → colF n i = colF m i := fun i hi => by
    unfold colF
    refine List.filter_congr fun k hk => ?_
    have := List.mem_range.1 hk
    rw [h, decide_eq_true (by omega), Bool.and_true]
  have hT : ∀ i, j < i → colT n i = colT m i := fun i hi => by
    unfold colT
    refine List.filter_congr fun k hk => ?_
    have := List.mem_range'_1.1 hk
    rw [h, decide_eq_true (by omega), Bool.and_true]
  have hsplit : ∀ i, i ≤ 6 → colM n = colF n i ++ colT n i := by
    intro i
    induction i with
    | zero => intro _; rw [colF_0, colT_0]; rfl
    | succ i ih =>
      intro hi
      rw [ih (by omega), colF_s, colT_s n (by omega)]
      by_cases hb : n.testBit i = true
      · rw [if_pos hb, if_pos hb]; simp
      · rw [if_neg hb, if_neg hb]
  rw [hsplit (j + 1) (by omega), hT (j + 1) (by omega), colF_s, if_neg (by rw [h]; simp), hF j (Nat.le_refl _)]
end Go.Proofs.YtngfnogoicfmaaaGreatDoor
namespace Go.Proofs.YtngfnogoicfmaaaGreatDoor
def rwL (rows : List Rw) (is : List Nat) : List Rw := is.map fun i => rows.getD i (fun _ => 0)
def pickI (rows : List Rw) (is js : List Nat) : Option Nat := (List.range rows.length).find? fun i => decide (det (rwL rows (is ++ [i])) js ≠ 0)
def stepF (rows : List Rw) (st : List Nat × List Nat) (j : Nat) : List Nat × List Nat := match pickI rows st.1 (st.2 ++ [j]) with
  | some i => (st.1 ++ [i], st.2 ++ [j])
  | none => st
def frmP (rows : List Rw) : List Nat × List Nat := (List.range 6).foldl (stepF rows) ([], [])
structure FrmOk (rows : List Rw) (k : Nat) (st : List Nat × List Nat) : Prop where
  len : st.1.length = st.2.length
  det : det (rwL rows st.1) st.2 ≠ 0
  is : ∀ i ∈ st.1, i < rows.length
  js : st.2.Pairwise (· < ·) ∧ ∀ j ∈ st.2, j < k
theorem FrmOk.step {rows : List Rw} {k : Nat} {st : List Nat × List Nat} (h : FrmOk rows k st) : FrmOk rows (k + 1) (stepF rows st k) := by
  unfold stepF
  cases hp : pickI rows st.1 (st.2 ++ [k]) with
  | none => exact ⟨h.len, h.det, h.is, h.js.1, fun j hj => Nat.lt_succ_of_lt (h.js.2 j hj)⟩
  | some i =>
    unfold pickI at hp
    have h1 := List.find?_some hp
    have h2 := List.mem_of_find?_eq_some hp
    rw [decide_eq_true_eq] at h1
    refine ⟨by simp [h.len], h1, fun q hq => ?_, ?_, fun j hj => ?_⟩
    · rcases List.mem_append.1 hq with q1 | q1
      · exact h.is q q1
      · simp only [List.mem_singleton] at q1
        subst q1
        exact List.mem_range.1 h2
    · refine List.pairwise_append.2 ⟨h.js.1, by simp, fun a ha b hb => ?_⟩
      simp only [List.mem_singleton] at hb
      subst hb
      exact h.js.2 a ha
    · rcases List.mem_append.1 hj with q1 | q1
      · exact Nat.lt_succ_of_lt (h.js.2 j q1)
      · simp only [List.mem_singleton] at q1
        omega
theorem frm_ok (rows : List Rw) : FrmOk rows 6 (frmP rows) := by
  have key : ∀ k, FrmOk rows k ((List.range k).foldl (stepF rows) ([], [])) := by
    intro k
    induction k with
    | zero => exact ⟨rfl,(by show (1 : Int) ≠ 0;decide),(fun _ h => nomatch h),⟨List.Pairwise.nil,(fun _ h => nomatch h)⟩⟩
    | succ k ih =>
      rw [List.range_succ, List.foldl_append]
      exact ih.step
  exact key 6
theorem det_nd {rows : List Rw} : ∀ {is : List Nat}, ¬ is.Nodup → ∀ cs, det (rwL rows is) cs = 0
  | [], h, _ => absurd List.Pairwise.nil h
  | i :: t, h, cs => by
    show iota (rows.getD i fun _ => 0) (det (rwL rows t)) cs = 0
    by_cases hi : i ∈ t
    · exact det_dup (by unfold rwL; exact List.mem_map.2 ⟨i, hi, rfl⟩) cs
    · have ht : ¬ t.Nodup := fun q => h (List.nodup_cons.2 ⟨hi, q⟩)
      rw [iota_congrF (G := fun _ => 0) (fun l => det_nd ht l), iota_zeroF]
theorem perm_of : ∀ {l m : List Nat}, l.Nodup → m.Nodup → (∀ x ∈ l, x ∈ m) → m.length ≤ l.length → l.Perm m
  | [], m, _, _, _, h => by
    have : m = [] := List.length_eq_zero_iff.1 (Nat.le_zero.1 h)
    rw [this]
  | x :: l, m, h1, h2, h3, h4 => by
    have h5 := List.nodup_cons.1 h1
    have hx := h3 x (by simp)
    have h6 := List.length_erase_of_mem hx
    have h7 := List.perm_cons_erase hx
    have h8 := perm_of (l := l) (m := m.erase x) h5.2 (h2.erase x) (fun y hy=>(List.mem_erase_of_ne fun e=>by subst e;exact h5.1 hy).2 (h3 y (List.mem_cons_of_mem _ hy))) (by simp only [List.length_cons] at h4;omega)
    exact (h8.cons x).trans h7.symm
theorem rwL_all (rows : List Rw) : rwL rows (List.range rows.length) = rows := by
  unfold rwL
  refine List.ext_getElem (by simp) fun i h1 h2 => ?_
  simp only [List.getElem_map, List.getElem_range]
  rw [List.getD_eq_getElem?_getD, List.getElem?_eq_getElem h2]
  rfl
theorem mask_any : ∀ b0 b1 b2 b3 b4 b5 : Bool,∃ m,m < 64 ∧ m.testBit 0 = b0 ∧ m.testBit 1 = b1 ∧ m.testBit 2 = b2 ∧ m.testBit 3 = b3 ∧ m.testBit 4 = b4 ∧ m.testBit 5 = b5 := by
  intro b0 b1 b2 b3 b4 b5
  refine ⟨b0.toNat + 2 * (b1.toNat + 2 * (b2.toNat + 2 * (b3.toNat + 2 * (b4.toNat + 2 * b5.toNat)))), ?_⟩
  cases b0 <;> cases b1 <;> cases b2 <;> cases b3 <;> cases b4 <;> cases b5 <;> decide
theorem sub_filter : ∀ {n : Nat} {js : List Nat},js.Pairwise (· < ·) → (∀ j ∈ js,j < n) → (List.range n).filter (fun j => js.contains j) = js := by
  intro n js h1 h2
  have e : ∀ {a b : List Nat}, a.Pairwise (· < ·) → b.Pairwise (· < ·) → (∀ x, x ∈ a ↔ x ∈ b) → a = b := by
    intro a
    induction a with
    | nil =>
      intro b _ _ h
      cases b with
      | nil => rfl
      | cons y b => exact absurd ((h y).2 (by simp)) (by simp)
    | cons x a ih =>
      intro b ha hb h
      cases b with
      | nil => exact absurd ((h x).1 (by simp)) (by simp)
      | cons y b =>
        have p := List.pairwise_cons.1 ha
        have q := List.pairwise_cons.1 hb
        have hxy : x = y := by
          rcases List.mem_cons.1 ((h x).1 (by simp)) with e | e
          · exact e
          rcases List.mem_cons.1 ((h y).2 (by simp)) with f | f
          · exact f.symm
          have := p.1 y f
          have := q.1 x e
          omega
        subst hxy
        congr 1
        refine ih p.2 q.2 fun z => ⟨fun hz => ?_, fun hz => ?_⟩
        · rcases List.mem_cons.1 ((h z).1 (List.mem_cons_of_mem _ hz)) with f | f
          · have := p.1 z hz; omega
          · exact f
        · rcases List.mem_cons.1 ((h z).2 (List.mem_cons_of_mem _ hz)) with f | f
          · have := q.1 z hz; omega
          · exact f
  refine e (List.pairwise_lt_range.filter _) h1 fun x => ?_
  simp only [List.mem_filter, List.mem_range, List.contains_iff_mem]
  exact ⟨fun h => h.2, fun h => ⟨h2 x h, h⟩⟩
theorem rank_det {rows : List Rw} (h : (frmP rows).1.length = rows.length) : ∃ m,m < 64 ∧ (colM m).length = rows.length ∧ det rows (colM m) ≠ 0 := by
  have hf := frm_ok rows
  have hnd : (frmP rows).1.Nodup := by
    by_cases q : (frmP rows).1.Nodup
    · exact q
    · exact absurd (det_nd q _) hf.det
  have hp : (frmP rows).1.Perm (List.range rows.length) := perm_of hnd List.nodup_range (fun x hx => List.mem_range.2 (hf.is x hx)) (by rw [List.length_range,h];exact Nat.le_refl _)
  have hd : det rows (frmP rows).2 ≠ 0 := by
    have h1 := hf.det
    have h2 : (rwL rows (frmP rows).1).Perm rows := by
      have := hp.map fun i => rows.getD i (fun _ => 0)
      rw [show (List.range rows.length).map (fun i => rows.getD i fun _ => 0) = rows from rwL_all rows] at this
      exact this
    exact fun q => h1 ((det_perm0 h2).2 q)
  obtain ⟨m,m1,b0,b1,b2,b3,b4,b5⟩ := mask_any ((frmP rows).2.contains 0) ((frmP rows).2.contains 1) ((frmP rows).2.contains 2) ((frmP rows).2.contains 3) ((frmP rows).2.contains 4) ((frmP rows).2.contains 5)
  have hc : colM m = (frmP rows).2 := by
    rw [← sub_filter hf.js.1 hf.js.2]
    unfold colM
    refine List.filter_congr fun j hj => ?_
    have := List.mem_range.1 hj
    obtain rfl | rfl | rfl | rfl | rfl | rfl : j = 0 ∨ j = 1 ∨ j = 2 ∨ j = 3 ∨ j = 4 ∨ j = 5 := by omega
    · exact b0
    · exact b1
    · exact b2
    · exact b3
    · exact b4
    · exact b5
  exact ⟨m, m1, by rw [hc, ← hf.len, h], by rw [hc]; exact hd⟩
end Go.Proofs.YtngfnogoicfmaaaGreatDoor
namespace Go.Proofs.YtngfnogoicfmaaaGreatDoor
def gRw (rs : List Rw) (i : Nat) : Rw := rs.getD i fun _ => 0
def gK (ks : List Int) (i : Nat) : Int := ks.getD i 0
theorem cramer_set {rs : List Rw} {ks : List Int} (h : ks.length = rs.length) {i : Nat} (hi : i < rs.length) (cs : List Nat) : det (rs.set i (lin ks rs)) cs = gK ks i * det rs cs := by
  have hr : rs = rs.take i ++ rs[i] :: rs.drop (i + 1) := by rw [← List.drop_eq_getElem_cons hi, List.take_append_drop]
  have hk : ks = ks.take i ++ ks[i] :: ks.drop (i + 1) := by rw [← List.drop_eq_getElem_cons (by omega),List.take_append_drop]
  have hg : gK ks i = ks[i] := by unfold gK; rw [List.getD_eq_getElem?_getD, List.getElem?_eq_getElem (by omega)]; rfl
  have h1 := cramer (A := rs.take i) (B := rs.drop (i + 1)) (r := rs[i]) (ka := ks.take i) (kb := ks.drop (i + 1)) (k := ks[i]) (by rw [List.length_take,List.length_take,h]) cs
  rw [← hr, ← hk] at h1
  rw [List.set_eq_take_append_cons_drop, if_pos hi, hg]
  exact h1
theorem lin_zero : ∀ (rs : List Rw) (j : Nat), lin (List.replicate rs.length 0) rs j = 0
  | [], _ => rfl
  | r :: rs, j => by
    show 0 * r j + lin (List.replicate rs.length 0) rs j = 0
    rw [lin_zero rs j]
    simp
theorem lin_set : ∀ {ks : List Int} {rs : List Rw} {i : Nat} (n : Int),ks.length = rs.length → i < rs.length → ∀ j,lin (ks.set i (gK ks i + n)) rs j = lin ks rs j + n * gRw rs i j
  | k :: ks, r :: rs, 0, n, _, _, j => by
    show (k + n) * r j + lin ks rs j = k * r j + lin ks rs j + n * r j
    rw [Int.add_mul]
    omega
  | k :: ks, r :: rs, i + 1, n, h, hi, j => by
    have ih := lin_set (ks := ks) (rs := rs) (i := i) n (by simpa using h) (by simpa using hi) j
    show k * r j + lin (ks.set i (gK ks i + n)) rs j = k * r j + lin ks rs j + n * gRw rs i j
    rw [ih]
    omega
  | [], [], _, _, _, hi, _ => by simp at hi
  | [], _ :: _, _, _, h, _, _ => by simp at h
  | _ :: _, [], _, _, h, _, _ => by simp at h
def accK (n : Nat) (ts : List (Nat × Int)) : List Int := ts.foldl (fun ks t => ks.set t.1 (gK ks t.1 + t.2)) (List.replicate n 0)
def shfV (rs : List Rw) (ts : List (Nat × Int)) : Rw := ts.foldl (fun v t => fun j => v j + t.2 * gRw rs t.1 j) (fun _ => 0)
theorem accK_snoc (n : Nat) (ts : List (Nat × Int)) (t : Nat × Int) : accK n (ts ++ [t]) = (accK n ts).set t.1 (gK (accK n ts) t.1 + t.2) := by unfold accK;rw [List.foldl_append];rfl
theorem shfV_snoc (rs : List Rw) (ts : List (Nat × Int)) (t : Nat × Int) : shfV rs (ts ++ [t]) = fun j => shfV rs ts j + t.2 * gRw rs t.1 j := by unfold shfV;rw [List.foldl_append];rfl
theorem accK_len (n : Nat) (ts : List (Nat × Int)) : (accK n ts).length = n := by
  have : ∀ (ts : List (Nat × Int)) (ks : List Int),(ts.foldl (fun ks t => ks.set t.1 (gK ks t.1 + t.2)) ks).length = ks.length := by
    intro ts
    induction ts with
    | nil => intro ks; rfl
    | cons t ts ih => intro ks; rw [List.foldl_cons, ih, List.length_set]
  unfold accK
  rw [this, List.length_replicate]
theorem snocI {α : Type} {P : List α → Prop} (h0 : P []) (h1 : ∀ l a, P l → P (l ++ [a])) (l : List α) : P l := by
  have : ∀ n (l : List α), l.length = n → P l := by
    intro n
    induction n with
    | zero => intro l hl; rw [List.length_eq_zero_iff.1 hl]; exact h0
    | succ n ih =>
      intro l hl
      have hne : l ≠ [] := by intro e; rw [e] at hl; cases hl
      rw [← List.dropLast_concat_getLast hne]
      exact h1 _ _ (ih _ (by rw [List.length_dropLast, hl]; rfl))
  exact this _ l rfl
theorem shf_lin {rs : List Rw} (ts : List (Nat × Int)) : (∀ t ∈ ts,t.1 < rs.length) → shfV rs ts = lin (accK rs.length ts) rs := by
  refine snocI (P := fun ts => (∀ t ∈ ts,t.1 < rs.length) → shfV rs ts = lin (accK rs.length ts) rs) (fun _ => funext fun j => ?_) (fun ts t ih h => funext fun j => ?_) ts
  · exact (lin_zero rs j).symm
  · rw [shfV_snoc, accK_snoc, lin_set t.2 (accK_len _ _) (h t (by simp)), ih fun q hq => h q (by simp [hq])]
theorem gK_set {ks : List Int} {i j : Nat} {x : Int} (hi : i < ks.length) : gK (ks.set i x) j = if j = i then x else gK ks j := by
  unfold gK
  rw [List.getD_eq_getElem?_getD, List.getD_eq_getElem?_getD, List.getElem?_set]
  by_cases e : i = j
  · subst e; simp [hi]
  · rw [if_neg e, if_neg (fun q => e q.symm)]
theorem accK_bd {n : Nat} (ts : List (Nat × Int)) : (∀ t ∈ ts,-1 ≤ t.2 ∧ t.2 ≤ 1) → ∀ j,-(ts.length : Int) ≤ gK (accK n ts) j ∧ gK (accK n ts) j ≤ ts.length := by
  refine snocI (P := fun ts => (∀ t ∈ ts,-1 ≤ t.2 ∧ t.2 ≤ 1) → ∀ j,-(ts.length : Int) ≤ gK (accK n ts) j ∧ gK (accK n ts) j ≤ ts.length) (fun _ j => ?_) (fun ts t ih h j => ?_) ts
  · have : gK (accK n []) j = 0 := by
      unfold gK accK
      rw [List.foldl_nil, List.getD_eq_getElem?_getD, List.getElem?_replicate]
      split <;> rfl
    rw [this]
    simp
  · have h1 := ih (fun q hq => h q (by simp [hq])) j
    have h2 := h t (by simp)
    rw [accK_snoc, List.length_append]
    simp only [List.length_cons, List.length_nil]
    by_cases hl : t.1 < (accK n ts).length
    · rw [gK_set hl]
      have h3 := ih (fun q hq => h q (by simp [hq])) t.1
      split <;> omega
    · rw [List.set_eq_of_length_le (by omega)]
      omega
end Go.Proofs.YtngfnogoicfmaaaGreatDoor
namespace Go.Proofs.YtngfnogoicfmaaaGreatDoor
def cntK (j : Nat) : List (Nat × Int) → Int
  | [] => 0
  | t :: ts => (if t.1 = j then t.2 else 0) + cntK j ts
theorem cntK_app (j : Nat) : ∀ (a b : List (Nat × Int)), cntK j (a ++ b) = cntK j a + cntK j b
  | [], b => by show _ = 0 + _; rw [Int.zero_add]; rfl
  | t :: a, b => by
    show _ + cntK j (a ++ b) = _ + cntK j a + cntK j b
    rw [cntK_app j a b]
    omega
theorem gK_acc {n : Nat} {j : Nat} (hj : j < n) (ts : List (Nat × Int)) : gK (accK n ts) j = cntK j ts := by
  refine snocI (P := fun ts => gK (accK n ts) j = cntK j ts) ?_ (fun ts t ih => ?_) ts
  · unfold gK accK
    rw [List.foldl_nil, List.getD_eq_getElem?_getD, List.getElem?_replicate, if_pos hj]
    rfl
  · rw [accK_snoc, cntK_app]
    show _ = _ + ((if t.1 = j then t.2 else 0) + 0)
    by_cases hl : t.1 < (accK n ts).length
    · rw [gK_set hl]
      by_cases e : j = t.1
      · subst e
        rw [if_pos rfl, if_pos rfl, ih]
        omega
      · rw [if_neg e, if_neg (fun q => e q.symm), ih]
        omega
    · rw [List.set_eq_of_length_le (by omega), if_neg (by rw [accK_len] at hl; omega), ih]
      omega
def sumD {α : Type} (dk : α → Nat) (f : α → Nat × Int) (ts : List α) (j : Nat) : Nat → Int
  | 0 => 0
  | d + 1 => sumD dk f ts j d + cntK j ((ts.filter fun t => decide (dk t = d)).map f)
theorem sumD_cons {α : Type} (dk : α → Nat) (f : α → Nat × Int) (t : α) (ts : List α) (j : Nat) : ∀ d,sumD dk f (t :: ts) j d = (if dk t < d ∧ (f t).1 = j then (f t).2 else 0) + sumD dk f ts j d
  | 0 => by simp [sumD]
  | d + 1 => by
    rw [sumD, sumD, sumD_cons dk f t ts j d, List.filter_cons]
    by_cases e : dk t = d
    · rw [if_pos (decide_eq_true e), List.map_cons]
      show _ + ((if (f t).1 = j then (f t).2 else 0) + _) = _
      by_cases h : (f t).1 = j
      · rw [if_neg (by omega), if_pos h, if_pos ⟨by omega, h⟩]; omega
      · rw [if_neg (fun q => h q.2), if_neg h, if_neg (fun q => h q.2)]; omega
    · have e2 : decide (dk t = d) = false := decide_eq_false e
      rw [e2]
      simp only [Bool.false_eq_true, if_false]
      by_cases h : dk t < d ∧ (f t).1 = j
      · rw [if_pos h, if_pos ⟨by omega, h.2⟩]; omega
      · rw [if_neg h, if_neg (fun q => h ⟨by omega, q.2⟩)]; omega
theorem sumD_all {α : Type} (dk : α → Nat) (f : α → Nat × Int) (j : Nat) {d : Nat} : ∀ {ts : List α},(∀ t ∈ ts,dk t < d) → sumD dk f ts j d = cntK j (ts.map f)
  | [], _ => by
    have : ∀ d, sumD dk f ([] : List α) j d = 0 := by
      intro d
      induction d with
      | zero => rfl
      | succ d ih => rw [sumD, ih]; rfl
    rw [this]; rfl
  | t :: ts, h => by
    rw [sumD_cons, sumD_all dk f j fun q hq => h q (List.mem_cons_of_mem _ hq), List.map_cons]
    show _ = (if (f t).1 = j then (f t).2 else 0) + _
    have := h t (by simp)
    by_cases e : (f t).1 = j
    · rw [if_pos ⟨this, e⟩, if_pos e]
    · rw [if_neg (fun q => e q.2), if_neg e]
theorem desks_sum {α : Type} (dk : α → Nat) (f : α → Nat × Int) {n j : Nat} (hj : j < n) {d : Nat} {ts : List α} (h : ∀ t ∈ ts,dk t < d) :
    ((List.range d).map fun i => gK (accK n ((ts.filter fun t => decide (dk t = i)).map f)) j).foldl (· + ·) 0 = gK (accK n (ts.map f)) j := by
  rw [gK_acc hj, ← sumD_all dk f j h]
  have : ∀ d,((List.range d).map fun i => gK (accK n ((ts.filter fun t => decide (dk t = i)).map f)) j).foldl (· + ·) 0 = sumD dk f ts j d := by
    intro d
    induction d with
    | zero => rfl
    | succ d ih =>
      rw [List.range_succ, List.map_append, List.foldl_append, ih, sumD]
      simp only [List.map_cons, List.map_nil, List.foldl_cons, List.foldl_nil]
      rw [gK_acc hj]
  exact this d
end Go.Proofs.YtngfnogoicfmaaaGreatDoor
namespace Go.Proofs.YtngfnogoicfmaaaGreatDoor
def lpC (x : Rw) (F : List Nat → Int) (m : Nat) : Nat → Int × Int
  | 0 => (0, 1)
  | j + 1 => if m.testBit j = true then ((lpC x F m j).1 + (lpC x F m j).2 * x j * F (colF m j ++ colT m (j + 1)),-(lpC x F m j).2) else lpC x F m j
theorem lpC_inv (x : Rw) (F : List Nat → Int) (m : Nat) : ∀ j,j ≤ 6 → (lpC x F m j).1 + expS x F (colF m j) (lpC x F m j).2 (colT m j) = iota x F (colM m)
  | 0, _ => by
    rw [lpC, colF_0, colT_0, expS_iota]
    simp
  | j + 1, h => by
    rw [← lpC_inv x F m j (by omega), lpC, colF_s, colT_s m (show j < 6 by omega)]
    by_cases hb : m.testBit j = true
    · rw [if_pos hb, if_pos hb, if_pos hb, expS]
      simp only []
      omega
    · rw [if_neg hb, if_neg hb, if_neg hb]
theorem lpC_end (x : Rw) (F : List Nat → Int) (m : Nat) : (lpC x F m 6).1 = iota x F (colM m) := by
  have := lpC_inv x F m 6 (Nat.le_refl _)
  rw [colT_6, expS] at this
  omega
theorem lpC_sign (x : Rw) (F : List Nat → Int) (m : Nat) : ∀ j, (lpC x F m j).2 = 1 ∨ (lpC x F m j).2 = -1
  | 0 => .inl rfl
  | j + 1 => by
    rw [lpC]
    split
    · rcases lpC_sign x F m j with h | h <;> rw [h] <;> simp
    · exact lpC_sign x F m j
def okM (rows : List Rw) (m : Nat) : Bool := decide ((colM m).length = rows.length) && decide (det rows (colM m) ≠ 0)
theorem first_mask {rows : List Rw} (h : (frmP rows).1.length = rows.length) : ∃ m,m < 64 ∧ okM rows m = true ∧ ∀ k,k < m → okM rows k = false := by
  obtain ⟨m, h1, h2, h3⟩ := rank_det h
  have hm : okM rows m = true := by unfold okM; rw [decide_eq_true h2, decide_eq_true h3]; rfl
  clear h2 h3
  induction m using Nat.strongRecOn with
  | _ m ih =>
    by_cases e : ∃ k, k < m ∧ okM rows k = true
    · obtain ⟨k, k1, k2⟩ := e
      exact ih k k1 (by omega) k2
    · refine ⟨m, h1, hm, fun k hk => ?_⟩
      rw [Bool.eq_false_iff]
      exact fun q => e ⟨k, hk, q⟩
theorem counts_at {rs : List Rw} {ks : List Int} (h : ks.length = rs.length) {m : Nat} (hm : okM rs m = true) {i : Nat} (hi : i < rs.length) :
    det (rs.set i (lin ks rs)) (colM m) = gK ks i * det rs (colM m) ∧ det rs (colM m) ≠ 0 := by
  unfold okM at hm
  simp only [Bool.and_eq_true, decide_eq_true_eq] at hm
  exact ⟨cramer_set h hi _, hm.2⟩
theorem tdiv_whole {k w : Int} (h : w ≠ 0) : (k * w).tdiv w = k ∧ (k * w).tmod w = 0 := ⟨Int.mul_tdiv_cancel _ h,Int.mul_tmod_left _ _⟩
end Go.Proofs.YtngfnogoicfmaaaGreatDoor
