/-
  What store.parse answers.
-/
import Derived.Test.YtngfnogoicfmaaaGreatDoorQGo
import Derived.Test.YtngfnogoicfmaaaGreatDoorQU3
set_option linter.unusedSimpArgs false
set_option linter.unusedVariables false
namespace Go.Proofs.YtngfnogoicfmaaaGreatDoor
open Go.Ab
@[go_sem] theorem gb8_0 (x : Nat) (l : List Nat) : gb8 (x :: l) 0 = x := rfl
@[go_sem] theorem gb8_1 (a x : Nat) (l : List Nat) : gb8 (a :: x :: l) 1 = x := rfl
@[go_sem] theorem gb8_2 (a b x : Nat) (l : List Nat) : gb8 (a :: b :: x :: l) 2 = x := rfl
@[go_sem] theorem gb8_3 (a b c x : Nat) (l : List Nat) : gb8 (a :: b :: c :: x :: l) 3 = x := rfl
@[go_sem] theorem gb8_4 (a b c d x : Nat) (l : List Nat) : gb8 (a :: b :: c :: d :: x :: l) 4 = x := rfl
@[go_sem] theorem gb8_5 (a b c d e x : Nat) (l : List Nat) : gb8 (a :: b :: c :: d :: e :: x :: l) 5 = x := rfl
@[go_sem] theorem gb8_6 (a b c d e f x : Nat) (l : List Nat) : gb8 (a :: b :: c :: d :: e :: f :: x :: l) 6 = x := rfl
@[go_sem] theorem gb8_7 (a b c d e f g x : Nat) (l : List Nat) : gb8 (a :: b :: c :: d :: e :: f :: g :: x :: l) 7 = x := rfl
def mk8 (k s b1 b2 b3 c n d : Nat) : Rcd × Bool :=
  let r : Rcd := ⟨k, s, (b1 * 65536 + b2 * 256 + b3 : Nat), if k = 1 then ⟨0, 0, 0, 0⟩ else ⟨s, c, (n : Int) - 1, d⟩⟩
  (r, r.ok)
def rc0 : Rcd := ⟨0, 0, 0, ⟨0, 0, 0, 0⟩⟩
def parseR : List Nat → Rcd × Bool
  | [k, s, x, y, z] => if k = 3 then mk8 k s 0 0 0 x y z else if k = 1 then mk8 k s x y z 0 0 0 else (rc0, false)
  | [k, s, x, y, z, c, n, d] => if k = 2 then mk8 k s x y z c n d else (rc0, false)
  | _ => (rc0, false)
theorem bor64 {a b : Nat} (ha : a < 4294967296) (hb : b < 4294967296) : bits .or .i64 (a : Int) (b : Int) = ((a ||| b : Nat) : Int) := by
  have hx : a ||| b < 2 ^ 32 := Nat.or_lt_two_pow (by omega) (by omega)
  have h1 : (BitVec.ofInt 64 (a : Int)).toNat = a := by simp [BitVec.toNat_ofInt]; omega
  have h2 : (BitVec.ofInt 64 (b : Int)).toNat = b := by simp [BitVec.toNat_ofInt]; omega
  show IntKind.i64.wrap (((BitVec.ofInt 64 (a : Int) ||| BitVec.ofInt 64 (b : Int)).toNat : Nat) : Int) = _
  rw [BitVec.toNat_or, h1, h2]
  exact wrapI (x := ((a ||| b : Nat) : Int)) (by omega) (by omega)
theorem or3 {x y z : Nat} (hx : x < 256) (hy : y < 256) (hz : z < 256) : bits .or .i64 (bits .or .i64 ((x : Int) * 2 ^ min 16 64) ((y : Int) * 2 ^ min 8 64)) (z : Int) = ((x * 65536 + y * 256 + z : Nat) : Int) := by
  have e1 : ((x : Int) * 2 ^ min 16 64) = ((x * 65536 : Nat) : Int) := by simp
  have e2 : ((y : Int) * 2 ^ min 8 64) = ((y * 256 : Nat) : Int) := by simp
  have j1 : x * 65536 ||| y * 256 = x * 65536 + y * 256 := nat_join 16 _ _ (by omega) (by omega)
  rw [e1, e2, bor64 (by omega) (by omega), j1, bor64 (by omega) (by omega), nat_join 8 _ _ (by omega) (by omega)]
set_option maxRecDepth 100000 in
set_option maxHeartbeats 4000000 in
theorem parse_other (b : List Nat) (h5 : b.length ≠ 5) (h8 : b.length ≠ 8) (hl : b.length ≤ 9223372036854775807) : Look Tryz.prog 87 [bys b] (.tup [rcA rc0,.imm (.bool false)]) := by
  refine Look.mk (by simp [Pl, PlL]) ?_
  (refine TC_of_T Γ_ok Tryz.func87 rfl (by kernel_rfl) ?_;simp only [Tryz.ntmps87,Tryz.results87,List.length_cons,List.length_nil,Nat.reduceSub,Nat.reduceAdd,List.replicate,List.cons_append,List.nil_append])
  (((refine goR0 _ _ _ _ _ _ _ _ ?_ ?_ ?_ ?_ ?_ ?_ ?_ ?_) <;> (repeat intro hb) <;> first | exact True.intro | refine Lf.mk ?_))
  all_goals rfl
@[go_sem] theorem min52 : min 5 2 = 2 := rfl
@[go_sem] theorem min33 : min 3 3 = 3 := rfl
@[go_sem] theorem min88 : min 8 8 = 8 := rfl
@[go_sem] theorem min58 : min 5 8 = 5 := rfl
attribute [local go_sem] rdE List.drop_succ_cons List.drop_zero
theorem valid_e (k s b s' c n d : Int) : Look Tryz.prog 37 [.agg [.imm (.int .i64 k),.imm (.int .i64 s),.imm (.int .i64 b),.imm (.int .i64 s'),.imm (.int .i64 c),.imm (.int .i64 n),.imm (.int .i64 d)]] (.imm (.bool (Rcd.ok ⟨k,s,b,⟨s',c,n,d⟩⟩))) := valid1_tc ⟨k,s,b,⟨s',c,n,d⟩⟩
@[go_sem] theorem bor000 : bits .or .i64 (bits .or .i64 (0 * 2 ^ min 16 64) (0 * 2 ^ min 8 64)) 0 = 0 := rfl
set_option maxRecDepth 100000 in
set_option maxHeartbeats 4000000 in
theorem parse_3 (s x y z : Nat) (hb : ByOk [3,s,x,y,z]) : Look Tryz.prog 87 [bys [3,s,x,y,z]] (.tup [rcA (parseR [3,s,x,y,z]).1,.imm (.bool (parseR [3,s,x,y,z]).2)]) := by
  refine Look.mk (by simp [Pl, PlL]) ?_
  have h1 := hb s (by simp)
  have h2 := hb x (by simp)
  have h3 := hb y (by simp)
  have h4 := hb z (by simp)
  clear hb
  (refine TC_of_T Γ_ok Tryz.func87 rfl (by kernel_rfl) ?_;simp only [Tryz.ntmps87,Tryz.results87,List.length_cons,List.length_nil,Nat.reduceSub,Nat.reduceAdd,List.replicate,List.cons_append,List.nil_append])
  (have cl1 := fun u1 u2 u3 u4 u5 u6 u7=>valid_e u1 u2 u3 u4 u5 u6 u7;repeat' (first|with_reducible refine T_seq_drawT (id := 5) Γ_ok drawsAny pl87_5 (by kernel_rfl) (fun K hK=>?_)|with_reducible refine T_last_drawT (id := 5) Γ_ok drawsAny pl87_5 (by kernel_rfl) (fun K hK=>?_)|with_reducible refine T_seq_drawT (id := 12) Γ_ok drawsAny pl87_12 (by kernel_rfl) (fun K hK=>?_)|with_reducible refine T_last_drawT (id := 12) Γ_ok drawsAny pl87_12 (by kernel_rfl) (fun K hK=>?_)|((refine goR0 _ _ _ _ _ _ _ _ ?_ ?_ ?_ ?_ ?_ ?_ ?_ ?_) <;> (repeat intro hb) <;> first|exact True.intro|refine Lf.mk ?_)))
  rfl
set_option maxRecDepth 100000 in
set_option maxHeartbeats 4000000 in
theorem parse_1 (s x y z : Nat) (hb : ByOk [1,s,x,y,z]) : Look Tryz.prog 87 [bys [1,s,x,y,z]] (.tup [rcA (parseR [1,s,x,y,z]).1,.imm (.bool (parseR [1,s,x,y,z]).2)]) := by
  refine Look.mk (by simp [Pl, PlL]) ?_
  have h1 := hb s (by simp)
  have h2 := hb x (by simp)
  have h3 := hb y (by simp)
  have h4 := hb z (by simp)
  clear hb
  (refine TC_of_T Γ_ok Tryz.func87 rfl (by kernel_rfl) ?_;simp only [Tryz.ntmps87,Tryz.results87,List.length_cons,List.length_nil,Nat.reduceSub,Nat.reduceAdd,List.replicate,List.cons_append,List.nil_append])
  (have cl1 := fun u1 u2 u3 u4 u5 u6 u7=>valid_e u1 u2 u3 u4 u5 u6 u7;repeat' (first|with_reducible refine T_seq_drawT (id := 5) Γ_ok drawsAny pl87_5 (by kernel_rfl) (fun K hK=>?_)|with_reducible refine T_last_drawT (id := 5) Γ_ok drawsAny pl87_5 (by kernel_rfl) (fun K hK=>?_)|with_reducible refine T_seq_drawT (id := 12) Γ_ok drawsAny pl87_12 (by kernel_rfl) (fun K hK=>?_)|with_reducible refine T_last_drawT (id := 12) Γ_ok drawsAny pl87_12 (by kernel_rfl) (fun K hK=>?_)|((refine goR0 _ _ _ _ _ _ _ _ ?_ ?_ ?_ ?_ ?_ ?_ ?_ ?_) <;> (repeat intro hb) <;> first|exact True.intro|refine Lf.mk ?_)))
  have e1 : IntKind.i64.wrap ((x : Int) * 2 ^ min 16 64) = (x : Int) * 2 ^ min 16 64 := wrapI (by simp;omega) (by simp;omega)
  have e2 : IntKind.i64.wrap ((y : Int) * 2 ^ min 8 64) = (y : Int) * 2 ^ min 8 64 := wrapI (by simp;omega) (by simp;omega)
  rw [e1, e2, or3 h2 h3 h4]
  rfl
set_option maxRecDepth 100000 in
set_option maxHeartbeats 4000000 in
theorem parse_2 (s x y z c n d : Nat) (hb : ByOk [2,s,x,y,z,c,n,d]) : Look Tryz.prog 87 [bys [2,s,x,y,z,c,n,d]] (.tup [rcA (parseR [2,s,x,y,z,c,n,d]).1,.imm (.bool (parseR [2,s,x,y,z,c,n,d]).2)]) := by
  refine Look.mk (by simp [Pl, PlL]) ?_
  have h1 := hb s (by simp)
  have h2 := hb x (by simp)
  have h3 := hb y (by simp)
  have h4 := hb z (by simp)
  have h5 := hb c (by simp)
  have h6 := hb n (by simp)
  have h7 := hb d (by simp)
  clear hb
  (refine TC_of_T Γ_ok Tryz.func87 rfl (by kernel_rfl) ?_;simp only [Tryz.ntmps87,Tryz.results87,List.length_cons,List.length_nil,Nat.reduceSub,Nat.reduceAdd,List.replicate,List.cons_append,List.nil_append])
  (have cl1 := fun u1 u2 u3 u4 u5 u6 u7=>valid_e u1 u2 u3 u4 u5 u6 u7;repeat' (first|with_reducible refine T_seq_drawT (id := 5) Γ_ok drawsAny pl87_5 (by kernel_rfl) (fun K hK=>?_)|with_reducible refine T_last_drawT (id := 5) Γ_ok drawsAny pl87_5 (by kernel_rfl) (fun K hK=>?_)|with_reducible refine T_seq_drawT (id := 12) Γ_ok drawsAny pl87_12 (by kernel_rfl) (fun K hK=>?_)|with_reducible refine T_last_drawT (id := 12) Γ_ok drawsAny pl87_12 (by kernel_rfl) (fun K hK=>?_)|((refine goR0 _ _ _ _ _ _ _ _ ?_ ?_ ?_ ?_ ?_ ?_ ?_ ?_) <;> (repeat intro hb) <;> first|exact True.intro|refine Lf.mk ?_)))
  have e1 : IntKind.i64.wrap ((x : Int) * 2 ^ min 16 64) = (x : Int) * 2 ^ min 16 64 := wrapI (by simp;omega) (by simp;omega)
  have e2 : IntKind.i64.wrap ((y : Int) * 2 ^ min 8 64) = (y : Int) * 2 ^ min 8 64 := wrapI (by simp;omega) (by simp;omega)
  rw [e1, e2, or3 h2 h3 h4]
  rfl
set_option maxRecDepth 100000 in
set_option maxHeartbeats 4000000 in
theorem parse_5n (k s x y z : Nat) (h3 : k ≠ 3) (h1 : k ≠ 1) : Look Tryz.prog 87 [bys [k,s,x,y,z]] (.tup [rcA rc0,.imm (.bool false)]) := by
  refine Look.mk (by simp [Pl, PlL]) ?_
  (refine TC_of_T Γ_ok Tryz.func87 rfl (by kernel_rfl) ?_;simp only [Tryz.ntmps87,Tryz.results87,List.length_cons,List.length_nil,Nat.reduceSub,Nat.reduceAdd,List.replicate,List.cons_append,List.nil_append])
  (((refine goR0 _ _ _ _ _ _ _ _ ?_ ?_ ?_ ?_ ?_ ?_ ?_ ?_) <;> (repeat intro hb) <;> first | exact True.intro | refine Lf.mk ?_))
  all_goals rfl
set_option maxRecDepth 100000 in
set_option maxHeartbeats 4000000 in
theorem parse_8n (k s x y z c n d : Nat) (h2 : k ≠ 2) : Look Tryz.prog 87 [bys [k,s,x,y,z,c,n,d]] (.tup [rcA rc0,.imm (.bool false)]) := by
  refine Look.mk (by simp [Pl, PlL]) ?_
  (refine TC_of_T Γ_ok Tryz.func87 rfl (by kernel_rfl) ?_;simp only [Tryz.ntmps87,Tryz.results87,List.length_cons,List.length_nil,Nat.reduceSub,Nat.reduceAdd,List.replicate,List.cons_append,List.nil_append])
  (((refine goR0 _ _ _ _ _ _ _ _ ?_ ?_ ?_ ?_ ?_ ?_ ?_ ?_) <;> (repeat intro hb) <;> first | exact True.intro | refine Lf.mk ?_))
  all_goals rfl
theorem parse_tc (b : List Nat) (hb : ByOk b) (hl : b.length ≤ 9223372036854775807) : Look Tryz.prog 87 [bys b] (.tup [rcA (parseR b).1,.imm (.bool (parseR b).2)]) := by
  by_cases h5 : b.length = 5
  · match b, h5 with
    | [k, s, x, y, z], _ =>
      by_cases h3 : k = 3
      · subst h3; exact parse_3 s x y z hb
      · by_cases h1 : k = 1
        · subst h1; exact parse_1 s x y z hb
        · have e : parseR [k, s, x, y, z] = (rc0, false) := by simp [parseR, h3, h1]
          rw [e]; exact parse_5n k s x y z h3 h1
  · by_cases h8 : b.length = 8
    · match b, h8 with
      | [k, s, x, y, z, c, n, d], _ =>
        by_cases h2 : k = 2
        · subst h2; exact parse_2 s x y z c n d hb
        · have e : parseR [k, s, x, y, z, c, n, d] = (rc0, false) := by simp [parseR, h2]
          rw [e]; exact parse_8n k s x y z c n d h2
    · have e : parseR b = (rc0, false) := by
        unfold parseR
        split
        · exact absurd rfl h5
        · exact absurd rfl h8
        · rfl
      rw [e]; exact parse_other b h5 h8 hl
end Go.Proofs.YtngfnogoicfmaaaGreatDoor
