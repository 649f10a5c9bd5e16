/-
  Lists of records; the map of desks; counting the desks of a ballot (Choose$1, Chosen$2).
-/
import Derived.Test.YtgljhmnmmaclaaaQV1
set_option linter.unusedSimpArgs false
set_option linter.unusedVariables false
namespace Go.Proofs.Ytgljhmnmmaclaaa.Q
open Go.Ab
def gA (l : List Acc) (i : Nat) : Acc := l.getD i ⟨0, 0, tk0⟩
def gP (l : List Pro) (i : Nat) : Pro := l.getD i ⟨0, 0, 0, tk0⟩
def gV (l : List Vot) (i : Nat) : Vot := l.getD i ⟨0, 0, tk0⟩
def gS (l : List Sta) (i : Nat) : Sta := l.getD i ⟨0, tk0⟩
def gM (l : List Mov) (i : Nat) : Mov := l.getD i ⟨0, 0, 0, tk0⟩
def accE (l : List Acc) (i j : Nat) : AV := nth (accL (gA l i)) j
def proE (l : List Pro) (i j : Nat) : AV := nth (proL (gP l i)) j
def votE (l : List Vot) (i j : Nat) : AV := nth (votL (gV l i)) j
def staE (l : List Sta) (i j : Nat) : AV := nth (staL (gS l i)) j
def movE (l : List Mov) (i j : Nat) : AV := nth (movL (gM l i)) j
@[go_sem] theorem accE_0 (l : List Acc) (i : Nat) : accE l i 0 = .imm (.int .i64 (gA l i).p) := rfl
@[go_sem] theorem accE_1 (l : List Acc) (i : Nat) : accE l i 1 = .imm (.int .i64 (gA l i).v) := rfl
@[go_sem] theorem accE_2 (l : List Acc) (i : Nat) : accE l i 2 = .imm (.int .i64 (gA l i).x.s) := rfl
@[go_sem] theorem accE_3 (l : List Acc) (i : Nat) : accE l i 3 = .imm (.int .i64 (gA l i).x.c) := rfl
@[go_sem] theorem accE_4 (l : List Acc) (i : Nat) : accE l i 4 = .imm (.int .i64 (gA l i).x.n) := rfl
@[go_sem] theorem accE_5 (l : List Acc) (i : Nat) : accE l i 5 = .imm (.int .i64 (gA l i).x.d) := rfl
@[go_sem] theorem proE_0 (l : List Pro) (i : Nat) : proE l i 0 = .imm (.int .i64 (gP l i).d) := rfl
@[go_sem] theorem proE_1 (l : List Pro) (i : Nat) : proE l i 1 = .imm (.int .i64 (gP l i).b) := rfl
@[go_sem] theorem proE_2 (l : List Pro) (i : Nat) : proE l i 2 = .imm (.int .i64 (gP l i).v) := rfl
@[go_sem] theorem proE_3 (l : List Pro) (i : Nat) : proE l i 3 = .imm (.int .i64 (gP l i).x.s) := rfl
@[go_sem] theorem proE_4 (l : List Pro) (i : Nat) : proE l i 4 = .imm (.int .i64 (gP l i).x.c) := rfl
@[go_sem] theorem proE_5 (l : List Pro) (i : Nat) : proE l i 5 = .imm (.int .i64 (gP l i).x.n) := rfl
@[go_sem] theorem proE_6 (l : List Pro) (i : Nat) : proE l i 6 = .imm (.int .i64 (gP l i).x.d) := rfl
@[go_sem] theorem votE_0 (l : List Vot) (i : Nat) : votE l i 0 = .imm (.int .i64 (gV l i).d) := rfl
@[go_sem] theorem votE_1 (l : List Vot) (i : Nat) : votE l i 1 = .imm (.int .i64 (gV l i).b) := rfl
@[go_sem] theorem votE_2 (l : List Vot) (i : Nat) : votE l i 2 = .imm (.int .i64 (gV l i).x.s) := rfl
@[go_sem] theorem votE_3 (l : List Vot) (i : Nat) : votE l i 3 = .imm (.int .i64 (gV l i).x.c) := rfl
@[go_sem] theorem votE_4 (l : List Vot) (i : Nat) : votE l i 4 = .imm (.int .i64 (gV l i).x.n) := rfl
@[go_sem] theorem votE_5 (l : List Vot) (i : Nat) : votE l i 5 = .imm (.int .i64 (gV l i).x.d) := rfl
@[go_sem] theorem staE_0 (l : List Sta) (i : Nat) : staE l i 0 = .imm (.int .i64 (gS l i).b) := rfl
@[go_sem] theorem staE_1 (l : List Sta) (i : Nat) : staE l i 1 = .imm (.int .i64 (gS l i).x.s) := rfl
@[go_sem] theorem staE_2 (l : List Sta) (i : Nat) : staE l i 2 = .imm (.int .i64 (gS l i).x.c) := rfl
@[go_sem] theorem staE_3 (l : List Sta) (i : Nat) : staE l i 3 = .imm (.int .i64 (gS l i).x.n) := rfl
@[go_sem] theorem staE_4 (l : List Sta) (i : Nat) : staE l i 4 = .imm (.int .i64 (gS l i).x.d) := rfl
@[go_sem] theorem movE_0 (l : List Mov) (i : Nat) : movE l i 0 = .imm (.int .i64 (gM l i).k) := rfl
@[go_sem] theorem movE_1 (l : List Mov) (i : Nat) : movE l i 1 = .imm (.int .i64 (gM l i).b) := rfl
@[go_sem] theorem movE_2 (l : List Mov) (i : Nat) : movE l i 2 = .imm (.int .i64 (gM l i).t) := rfl
@[go_sem] theorem movE_3 (l : List Mov) (i : Nat) : movE l i 3 = .imm (.int .i64 (gM l i).x.s) := rfl
@[go_sem] theorem movE_4 (l : List Mov) (i : Nat) : movE l i 4 = .imm (.int .i64 (gM l i).x.c) := rfl
@[go_sem] theorem movE_5 (l : List Mov) (i : Nat) : movE l i 5 = .imm (.int .i64 (gM l i).x.n) := rfl
@[go_sem] theorem movE_6 (l : List Mov) (i : Nat) : movE l i 6 = .imm (.int .i64 (gM l i).x.d) := rfl
def Imms (vs : List AV) : Prop := ∀ v ∈ vs, ∃ x, v = .imm x
theorem nth_imms {vs : List AV} (h : Imms vs) (j : Nat) : (∃ x, nth vs j = .imm x) ∨ nth vs j = .top := by
  induction vs generalizing j with
  | nil => exact .inr rfl
  | cons v vs ih =>
    cases j with
    | zero => exact .inl (h v (by simp))
    | succ j => exact ih (fun u hu => h u (by simp [hu])) j
theorem nth_free {vs : List AV} (h : Imms vs) (j : Nat) : Free (nth vs j) := by rcases nth_imms h j with ⟨x,e⟩ | e <;> rw [e] <;> trivial
theorem nth_pl {vs : List AV} (h : Imms vs) (j : Nat) : Pl (nth vs j) := by rcases nth_imms h j with ⟨x,e⟩ | e <;> rw [e] <;> trivial
theorem accL_imms (a : Acc) : Imms (accL a) := by intro v hv;simp [accL] at hv;rcases hv with h | h | h | h | h | h <;> exact ⟨_,h⟩
theorem proL_imms (a : Pro) : Imms (proL a) := by intro v hv;simp [proL] at hv;rcases hv with h | h | h | h | h | h | h <;> exact ⟨_,h⟩
theorem votL_imms (a : Vot) : Imms (votL a) := by intro v hv;simp [votL] at hv;rcases hv with h | h | h | h | h | h <;> exact ⟨_,h⟩
theorem staL_imms (a : Sta) : Imms (staL a) := by intro v hv;simp [staL] at hv;rcases hv with h | h | h | h | h <;> exact ⟨_,h⟩
theorem movL_imms (a : Mov) : Imms (movL a) := by intro v hv;simp [movL] at hv;rcases hv with h | h | h | h | h | h | h <;> exact ⟨_,h⟩
@[simp] theorem accE_free (l : List Acc) (i j : Nat) : Free (accE l i j) := nth_free (accL_imms _) j
@[simp] theorem proE_free (l : List Pro) (i j : Nat) : Free (proE l i j) := nth_free (proL_imms _) j
@[simp] theorem votE_free (l : List Vot) (i j : Nat) : Free (votE l i j) := nth_free (votL_imms _) j
@[simp] theorem staE_free (l : List Sta) (i j : Nat) : Free (staE l i j) := nth_free (staL_imms _) j
@[simp] theorem movE_free (l : List Mov) (i j : Nat) : Free (movE l i j) := nth_free (movL_imms _) j
@[simp] theorem accE_pl (l : List Acc) (i j : Nat) : Pl (accE l i j) := nth_pl (accL_imms _) j
@[simp] theorem proE_pl (l : List Pro) (i j : Nat) : Pl (proE l i j) := nth_pl (proL_imms _) j
@[simp] theorem votE_pl (l : List Vot) (i j : Nat) : Pl (votE l i j) := nth_pl (votL_imms _) j
@[simp] theorem staE_pl (l : List Sta) (i j : Nat) : Pl (staE l i j) := nth_pl (staL_imms _) j
@[simp] theorem movE_pl (l : List Mov) (i j : Nat) : Pl (movE l i j) := nth_pl (movL_imms _) j
@[go_sem, reducible] def accs (l : List Acc) : AV := .view l.length 6 (accE l)
@[go_sem, reducible] def pros (l : List Pro) : AV := .view l.length 7 (proE l)
@[go_sem, reducible] def vots (l : List Vot) : AV := .view l.length 6 (votE l)
@[go_sem, reducible] def stas (l : List Sta) : AV := .view l.length 5 (staE l)
@[go_sem, reducible] def movs (l : List Mov) : AV := .view l.length 7 (movE l)
/-! ### The map of desks -/
def addD (D : List Int) (d : Int) : List Int := if d ∈ D then D else D ++ [d]
def dmE (D : List Int) : List (Value × AV) := D.map fun d => (.int .i64 d, .imm (.bool true))
theorem mput_dm_mem (d : Int) : ∀ D : List Int,mput (dmE D) (.int .i64 d) (.imm (.bool true)) = if d ∈ D then dmE D else dmE (D ++ [d])
  | [] => rfl
  | e :: D => by
    have ih := mput_dm_mem d D
    simp only [dmE] at ih
    simp only [dmE, List.map_cons, mput, keq]
    by_cases h : d = e
    · simp [h]
    · simp only [beq_iff_eq, h, if_false, List.mem_cons, false_or, ih]
      split <;> simp
@[go_sem] theorem mput_dm (D : List Int) (d : Int) : mput (dmE D) (.int .i64 d) (.imm (.bool true)) = dmE (addD D d) := by
  rw [mput_dm_mem, addD]; split <;> rfl
@[go_sem] theorem dmE_len (D : List Int) : (dmE D).length = D.length := by simp [dmE]
theorem dmE_pl (D : List Int) : PlL ((dmE D).map (·.2)) := by
  induction D with
  | nil => trivial
  | cons d D ih => exact ⟨trivial, ih⟩
theorem dmE_free (D : List Int) : FreeL ((dmE D).map (·.2)) := by
  induction D with
  | nil => trivial
  | cons d D ih => exact ⟨trivial, ih⟩
@[go_sem, reducible] def dmO (D : List Int) : AObj := .mp (.int .i64) (dmE D)
end Go.Proofs.Ytgljhmnmmaclaaa.Q
