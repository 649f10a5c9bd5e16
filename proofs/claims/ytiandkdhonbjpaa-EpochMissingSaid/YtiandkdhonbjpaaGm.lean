/-
  The type table of this program as plain data, held against the program.
-/
import Derived.Test.YtiandkdhonbjpaaAb11
import Derived.Test.YtiandkdhonbjpaaProg
import Derived.KernelRfl
namespace Go.Proofs.Ytiandkdhonbjpaa
open Go.Ab

def Γ : Tab := [
  (1, ⟨.func, 1, 8, [.func], none⟩),
  (2, ⟨.int .i64, 1, 8, [.int .i64], none⟩),
  (3, ⟨.int .i64, 1, 8, [.int .i64], none⟩),
  (4, ⟨.bool, 1, 1, [.bool], none⟩),
  (5, ⟨.int .u8, 1, 1, [.int .u8], none⟩),
  (9, ⟨.str, 1, 16, [.str], none⟩),
  (12, ⟨.int .u64, 1, 8, [.int .u64], none⟩),
  (20, ⟨.iface, 1, 16, [.iface], none⟩),
  (21, ⟨.int .i32, 1, 4, [.int .i32], none⟩),
  (22, ⟨.slice 24, 1, 24, [.slice], none⟩),
  (23, ⟨.strct [(3, 0), (3, 1), (3, 2), (3, 3)], 4, 32, [.int .i64, .int .i64, .int .i64, .int .i64], some [false, false, false, false]⟩),
  (24, ⟨.strct [(3, 0), (3, 1), (3, 2), (3, 3)], 4, 32, [.int .i64, .int .i64, .int .i64, .int .i64], some [false, false, false, false]⟩),
  (25, ⟨.func, 1, 8, [.func], none⟩),
  (26, ⟨.func, 1, 8, [.func], none⟩),
  (27, ⟨.int .i64, 1, 8, [.int .i64], none⟩),
  (29, ⟨.func, 1, 8, [.func], none⟩),
  (30, ⟨.func, 1, 8, [.func], none⟩),
  (31, ⟨.func, 1, 8, [.func], none⟩),
  (32, ⟨.func, 1, 8, [.func], none⟩),
  (33, ⟨.slice 3, 1, 24, [.slice], none⟩),
  (35, ⟨.func, 1, 8, [.func], none⟩),
  (36, ⟨.func, 1, 8, [.func], none⟩),
  (38, ⟨.func, 1, 8, [.func], none⟩),
  (39, ⟨.func, 1, 8, [.func], none⟩),
  (40, ⟨.func, 1, 8, [.func], none⟩),
  (41, ⟨.func, 1, 8, [.func], none⟩),
  (42, ⟨.func, 1, 8, [.func], none⟩),
  (43, ⟨.func, 1, 8, [.func], none⟩),
  (44, ⟨.func, 1, 8, [.func], none⟩),
  (46, ⟨.func, 1, 8, [.func], none⟩),
  (47, ⟨.func, 1, 8, [.func], none⟩),
  (48, ⟨.strct [(22, 0), (47, 1)], 2, 32, [.slice, .func], none⟩),
  (49, ⟨.strct [(22, 0), (47, 1)], 2, 32, [.slice, .func], none⟩),
  (50, ⟨.func, 1, 8, [.func], none⟩),
  (51, ⟨.func, 1, 8, [.func], none⟩),
  (52, ⟨.func, 1, 8, [.func], none⟩),
  (53, ⟨.func, 1, 8, [.func], none⟩),
  (54, ⟨.func, 1, 8, [.func], none⟩),
  (55, ⟨.func, 1, 8, [.func], none⟩),
  (57, ⟨.func, 1, 8, [.func], none⟩),
  (58, ⟨.func, 1, 8, [.func], none⟩),
  (59, ⟨.func, 1, 8, [.func], none⟩),
  (60, ⟨.func, 1, 8, [.func], none⟩),
  (61, ⟨.func, 1, 8, [.func], none⟩),
  (62, ⟨.func, 1, 8, [.func], none⟩),
  (63, ⟨.int .u64, 1, 8, [.int .u64], none⟩),
  (64, ⟨.func, 1, 8, [.func], none⟩),
  (65, ⟨.func, 1, 8, [.func], none⟩),
  (66, ⟨.func, 1, 8, [.func], none⟩),
  (67, ⟨.strct [(17, 0), (17, 1), (17, 2), (9, 3)], 4, 40, [.ptr, .ptr, .ptr, .str], none⟩),
  (69, ⟨.array 0 16, 0, 0, [], none⟩),
  (70, ⟨.strct [(69, 0)], 0, 0, [], none⟩),
  (72, ⟨.func, 1, 8, [.func], none⟩),
  (73, ⟨.int .u32, 1, 4, [.int .u32], none⟩),
  (76, ⟨.func, 1, 8, [.func], none⟩),
  (77, ⟨.ptr 5, 1, 8, [.ptr], none⟩),
  (80, ⟨.strct [(12, 0), (12, 1), (73, 2), (74, 3), (5, 4), (5, 5), (75, 6), (76, 7), (77, 8), (78, 9), (79, 10)], 11, 48, [.int .u64, .int .u64, .int .u32, .int .u8, .int .u8, .int .u8, .int .u8, .func, .ptr, .int .i32, .int .i32], none⟩)]

@[go_sem] theorem Γ_1 : Γ.get 1 = some ⟨.func, 1, 8, [.func], none⟩ := rfl
@[go_sem] theorem Γ_2 : Γ.get 2 = some ⟨.int .i64, 1, 8, [.int .i64], none⟩ := rfl
@[go_sem] theorem Γ_3 : Γ.get 3 = some ⟨.int .i64, 1, 8, [.int .i64], none⟩ := rfl
@[go_sem] theorem Γ_4 : Γ.get 4 = some ⟨.bool, 1, 1, [.bool], none⟩ := rfl
@[go_sem] theorem Γ_5 : Γ.get 5 = some ⟨.int .u8, 1, 1, [.int .u8], none⟩ := rfl
@[go_sem] theorem Γ_9 : Γ.get 9 = some ⟨.str, 1, 16, [.str], none⟩ := rfl
@[go_sem] theorem Γ_12 : Γ.get 12 = some ⟨.int .u64, 1, 8, [.int .u64], none⟩ := rfl
@[go_sem] theorem Γ_20 : Γ.get 20 = some ⟨.iface, 1, 16, [.iface], none⟩ := rfl
@[go_sem] theorem Γ_21 : Γ.get 21 = some ⟨.int .i32, 1, 4, [.int .i32], none⟩ := rfl
@[go_sem] theorem Γ_22 : Γ.get 22 = some ⟨.slice 24, 1, 24, [.slice], none⟩ := rfl
@[go_sem] theorem Γ_23 : Γ.get 23 = some ⟨.strct [(3, 0), (3, 1), (3, 2), (3, 3)], 4, 32, [.int .i64, .int .i64, .int .i64, .int .i64], some [false, false, false, false]⟩ := rfl
@[go_sem] theorem Γ_24 : Γ.get 24 = some ⟨.strct [(3, 0), (3, 1), (3, 2), (3, 3)], 4, 32, [.int .i64, .int .i64, .int .i64, .int .i64], some [false, false, false, false]⟩ := rfl
@[go_sem] theorem Γ_25 : Γ.get 25 = some ⟨.func, 1, 8, [.func], none⟩ := rfl
@[go_sem] theorem Γ_26 : Γ.get 26 = some ⟨.func, 1, 8, [.func], none⟩ := rfl
@[go_sem] theorem Γ_27 : Γ.get 27 = some ⟨.int .i64, 1, 8, [.int .i64], none⟩ := rfl
@[go_sem] theorem Γ_29 : Γ.get 29 = some ⟨.func, 1, 8, [.func], none⟩ := rfl
@[go_sem] theorem Γ_30 : Γ.get 30 = some ⟨.func, 1, 8, [.func], none⟩ := rfl
@[go_sem] theorem Γ_31 : Γ.get 31 = some ⟨.func, 1, 8, [.func], none⟩ := rfl
@[go_sem] theorem Γ_32 : Γ.get 32 = some ⟨.func, 1, 8, [.func], none⟩ := rfl
@[go_sem] theorem Γ_33 : Γ.get 33 = some ⟨.slice 3, 1, 24, [.slice], none⟩ := rfl
@[go_sem] theorem Γ_35 : Γ.get 35 = some ⟨.func, 1, 8, [.func], none⟩ := rfl
@[go_sem] theorem Γ_36 : Γ.get 36 = some ⟨.func, 1, 8, [.func], none⟩ := rfl
@[go_sem] theorem Γ_38 : Γ.get 38 = some ⟨.func, 1, 8, [.func], none⟩ := rfl
@[go_sem] theorem Γ_39 : Γ.get 39 = some ⟨.func, 1, 8, [.func], none⟩ := rfl
@[go_sem] theorem Γ_40 : Γ.get 40 = some ⟨.func, 1, 8, [.func], none⟩ := rfl
@[go_sem] theorem Γ_41 : Γ.get 41 = some ⟨.func, 1, 8, [.func], none⟩ := rfl
@[go_sem] theorem Γ_42 : Γ.get 42 = some ⟨.func, 1, 8, [.func], none⟩ := rfl
@[go_sem] theorem Γ_43 : Γ.get 43 = some ⟨.func, 1, 8, [.func], none⟩ := rfl
@[go_sem] theorem Γ_44 : Γ.get 44 = some ⟨.func, 1, 8, [.func], none⟩ := rfl
@[go_sem] theorem Γ_46 : Γ.get 46 = some ⟨.func, 1, 8, [.func], none⟩ := rfl
@[go_sem] theorem Γ_47 : Γ.get 47 = some ⟨.func, 1, 8, [.func], none⟩ := rfl
@[go_sem] theorem Γ_48 : Γ.get 48 = some ⟨.strct [(22, 0), (47, 1)], 2, 32, [.slice, .func], none⟩ := rfl
@[go_sem] theorem Γ_49 : Γ.get 49 = some ⟨.strct [(22, 0), (47, 1)], 2, 32, [.slice, .func], none⟩ := rfl
@[go_sem] theorem Γ_50 : Γ.get 50 = some ⟨.func, 1, 8, [.func], none⟩ := rfl
@[go_sem] theorem Γ_51 : Γ.get 51 = some ⟨.func, 1, 8, [.func], none⟩ := rfl
@[go_sem] theorem Γ_52 : Γ.get 52 = some ⟨.func, 1, 8, [.func], none⟩ := rfl
@[go_sem] theorem Γ_53 : Γ.get 53 = some ⟨.func, 1, 8, [.func], none⟩ := rfl
@[go_sem] theorem Γ_54 : Γ.get 54 = some ⟨.func, 1, 8, [.func], none⟩ := rfl
@[go_sem] theorem Γ_55 : Γ.get 55 = some ⟨.func, 1, 8, [.func], none⟩ := rfl
@[go_sem] theorem Γ_57 : Γ.get 57 = some ⟨.func, 1, 8, [.func], none⟩ := rfl
@[go_sem] theorem Γ_58 : Γ.get 58 = some ⟨.func, 1, 8, [.func], none⟩ := rfl
@[go_sem] theorem Γ_59 : Γ.get 59 = some ⟨.func, 1, 8, [.func], none⟩ := rfl
@[go_sem] theorem Γ_60 : Γ.get 60 = some ⟨.func, 1, 8, [.func], none⟩ := rfl
@[go_sem] theorem Γ_61 : Γ.get 61 = some ⟨.func, 1, 8, [.func], none⟩ := rfl
@[go_sem] theorem Γ_62 : Γ.get 62 = some ⟨.func, 1, 8, [.func], none⟩ := rfl
@[go_sem] theorem Γ_63 : Γ.get 63 = some ⟨.int .u64, 1, 8, [.int .u64], none⟩ := rfl
@[go_sem] theorem Γ_64 : Γ.get 64 = some ⟨.func, 1, 8, [.func], none⟩ := rfl
@[go_sem] theorem Γ_65 : Γ.get 65 = some ⟨.func, 1, 8, [.func], none⟩ := rfl
@[go_sem] theorem Γ_66 : Γ.get 66 = some ⟨.func, 1, 8, [.func], none⟩ := rfl
@[go_sem] theorem Γ_67 : Γ.get 67 = some ⟨.strct [(17, 0), (17, 1), (17, 2), (9, 3)], 4, 40, [.ptr, .ptr, .ptr, .str], none⟩ := rfl
@[go_sem] theorem Γ_69 : Γ.get 69 = some ⟨.array 0 16, 0, 0, [], none⟩ := rfl
@[go_sem] theorem Γ_70 : Γ.get 70 = some ⟨.strct [(69, 0)], 0, 0, [], none⟩ := rfl
@[go_sem] theorem Γ_72 : Γ.get 72 = some ⟨.func, 1, 8, [.func], none⟩ := rfl
@[go_sem] theorem Γ_73 : Γ.get 73 = some ⟨.int .u32, 1, 4, [.int .u32], none⟩ := rfl
@[go_sem] theorem Γ_76 : Γ.get 76 = some ⟨.func, 1, 8, [.func], none⟩ := rfl
@[go_sem] theorem Γ_77 : Γ.get 77 = some ⟨.ptr 5, 1, 8, [.ptr], none⟩ := rfl
@[go_sem] theorem Γ_80 : Γ.get 80 = some ⟨.strct [(12, 0), (12, 1), (73, 2), (74, 3), (5, 4), (5, 5), (75, 6), (76, 7), (77, 8), (78, 9), (79, 10)], 11, 48, [.int .u64, .int .u64, .int .u32, .int .u8, .int .u8, .int .u8, .int .u8, .func, .ptr, .int .i32, .int .i32], none⟩ := rfl
theorem Γ_chk : Γ.chk Try.prog = true := by kernel_rfl
theorem drawsAny : Try.prog.follows .mixedOrders = true := by kernel_rfl
theorem Γ_ok : TabOk Try.prog Γ := tabOk_of_chk Γ_chk

end Go.Proofs.Ytiandkdhonbjpaa
