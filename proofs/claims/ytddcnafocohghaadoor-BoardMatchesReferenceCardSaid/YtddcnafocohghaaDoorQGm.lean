/-
  The type table of this program as plain data, held against the program.
-/
import Derived.Test.YtddcnafocohghaaDoorQA3
import Derived.Test.YtddcnafocohghaaDoorProg
import Derived.KernelRfl
set_option linter.unusedSimpArgs false
set_option linter.unusedVariables false
namespace Go.Proofs.YtddcnafocohghaaDoor
open Go.Ab
set_option maxRecDepth 20000
def Γ : Tab := [
  (1, ⟨.func, 1, 8, [.func], none⟩),
  (2, ⟨.int .i64, 1, 8, [.int .i64], none⟩),
  (3, ⟨.int .i64, 1, 8, [.int .i64], none⟩),
  (4, ⟨.bool, 1, 1, [.bool], none⟩),
  (5, ⟨.int .u8, 1, 1, [.int .u8], none⟩),
  (9, ⟨.str, 1, 16, [.str], none⟩),
  (12, ⟨.int .u64, 1, 8, [.int .u64], none⟩),
  (20, ⟨.iface, 1, 16, [.iface], none⟩),
  (21, ⟨.int .i32, 1, 4, [.int .i32], none⟩),
  (22, ⟨.slice 43, 1, 24, [.slice], none⟩),
  (23, ⟨.strct [(22, 0), (3, 1), (3, 2)], 3, 40, [.slice, .int .i64, .int .i64], none⟩),
  (24, ⟨.strct [(22, 0), (3, 1), (3, 2)], 3, 40, [.slice, .int .i64, .int .i64], none⟩),
  (25, ⟨.array 6 3, 6, 48, [.int .i64, .int .i64, .int .i64, .int .i64, .int .i64, .int .i64], some [false, false, false, false, false, false]⟩),
  (26, ⟨.array 6 3, 6, 48, [.int .i64, .int .i64, .int .i64, .int .i64, .int .i64, .int .i64], some [false, false, false, false, false, false]⟩),
  (27, ⟨.slice 3, 1, 24, [.slice], none⟩),
  (28, ⟨.slice 26, 1, 24, [.slice], none⟩),
  (29, ⟨.func, 1, 8, [.func], none⟩),
  (30, ⟨.func, 1, 8, [.func], none⟩),
  (31, ⟨.int .i64, 1, 8, [.int .i64], none⟩),
  (33, ⟨.func, 1, 8, [.func], none⟩),
  (34, ⟨.func, 1, 8, [.func], none⟩),
  (36, ⟨.func, 1, 8, [.func], none⟩),
  (37, ⟨.func, 1, 8, [.func], none⟩),
  (38, ⟨.func, 1, 8, [.func], none⟩),
  (39, ⟨.func, 1, 8, [.func], none⟩),
  (40, ⟨.func, 1, 8, [.func], none⟩),
  (41, ⟨.array 6 3, 6, 48, [.int .i64, .int .i64, .int .i64, .int .i64, .int .i64, .int .i64], some [false, false, false, false, false, false]⟩),
  (42, ⟨.strct [(3, 0), (3, 1), (3, 2), (41, 3)], 9, 72, [.int .i64, .int .i64, .int .i64, .int .i64, .int .i64, .int .i64, .int .i64, .int .i64, .int .i64], some [false, false, false, false, false, false, false, false, false]⟩),
  (43, ⟨.strct [(3, 0), (3, 1), (3, 2), (41, 3)], 9, 72, [.int .i64, .int .i64, .int .i64, .int .i64, .int .i64, .int .i64, .int .i64, .int .i64, .int .i64], some [false, false, false, false, false, false, false, false, false]⟩),
  (44, ⟨.func, 1, 8, [.func], none⟩),
  (45, ⟨.func, 1, 8, [.func], none⟩),
  (46, ⟨.func, 1, 8, [.func], none⟩),
  (47, ⟨.func, 1, 8, [.func], none⟩),
  (48, ⟨.func, 1, 8, [.func], none⟩),
  (49, ⟨.func, 1, 8, [.func], none⟩),
  (50, ⟨.func, 1, 8, [.func], none⟩),
  (51, ⟨.func, 1, 8, [.func], none⟩),
  (52, ⟨.func, 1, 8, [.func], none⟩),
  (53, ⟨.func, 1, 8, [.func], none⟩),
  (54, ⟨.func, 1, 8, [.func], none⟩),
  (55, ⟨.map 57 4, 1, 8, [.map], none⟩),
  (57, ⟨.strct [(3, 0), (3, 1)], 2, 16, [.int .i64, .int .i64], some [false, false]⟩),
  (58, ⟨.func, 1, 8, [.func], none⟩),
  (60, ⟨.func, 1, 8, [.func], none⟩),
  (62, ⟨.func, 1, 8, [.func], none⟩),
  (63, ⟨.func, 1, 8, [.func], none⟩),
  (64, ⟨.map 3 43, 1, 8, [.map], none⟩),
  (65, ⟨.func, 1, 8, [.func], none⟩),
  (67, ⟨.func, 1, 8, [.func], none⟩),
  (68, ⟨.func, 1, 8, [.func], none⟩),
  (69, ⟨.func, 1, 8, [.func], none⟩),
  (70, ⟨.func, 1, 8, [.func], none⟩),
  (71, ⟨.func, 1, 8, [.func], none⟩),
  (72, ⟨.func, 1, 8, [.func], none⟩),
  (73, ⟨.slice 27, 1, 24, [.slice], none⟩),
  (75, ⟨.func, 1, 8, [.func], none⟩),
  (76, ⟨.func, 1, 8, [.func], none⟩),
  (77, ⟨.func, 1, 8, [.func], none⟩),
  (78, ⟨.func, 1, 8, [.func], none⟩),
  (79, ⟨.strct [(3, 0), (3, 1)], 2, 16, [.int .i64, .int .i64], some [false, false]⟩),
  (80, ⟨.strct [(3, 0), (3, 1)], 2, 16, [.int .i64, .int .i64], some [false, false]⟩),
  (82, ⟨.func, 1, 8, [.func], none⟩),
  (83, ⟨.func, 1, 8, [.func], none⟩),
  (84, ⟨.func, 1, 8, [.func], none⟩),
  (85, ⟨.func, 1, 8, [.func], none⟩),
  (86, ⟨.func, 1, 8, [.func], none⟩),
  (87, ⟨.int .u64, 1, 8, [.int .u64], none⟩),
  (88, ⟨.func, 1, 8, [.func], none⟩),
  (89, ⟨.func, 1, 8, [.func], none⟩),
  (90, ⟨.slice 22, 1, 24, [.slice], none⟩),
  (91, ⟨.func, 1, 8, [.func], none⟩),
  (92, ⟨.func, 1, 8, [.func], none⟩),
  (93, ⟨.func, 1, 8, [.func], none⟩),
  (94, ⟨.func, 1, 8, [.func], none⟩),
  (95, ⟨.func, 1, 8, [.func], none⟩),
  (96, ⟨.int .i64, 1, 8, [.int .i64], none⟩),
  (98, ⟨.func, 1, 8, [.func], none⟩),
  (99, ⟨.func, 1, 8, [.func], none⟩),
  (100, ⟨.func, 1, 8, [.func], none⟩),
  (102, ⟨.func, 1, 8, [.func], none⟩),
  (103, ⟨.func, 1, 8, [.func], none⟩),
  (104, ⟨.int .u32, 1, 4, [.int .u32], none⟩),
  (105, ⟨.func, 1, 8, [.func], none⟩),
  (106, ⟨.int .u64, 1, 8, [.int .u64], none⟩),
  (107, ⟨.func, 1, 8, [.func], none⟩),
  (108, ⟨.array 6 80, 12, 96, [.int .i64, .int .i64, .int .i64, .int .i64, .int .i64, .int .i64, .int .i64, .int .i64, .int .i64, .int .i64, .int .i64, .int .i64], some [false, false, false, false, false, false, false, false, false, false, false, false]⟩),
  (109, ⟨.int .u64, 1, 8, [.int .u64], none⟩),
  (110, ⟨.func, 1, 8, [.func], none⟩),
  (111, ⟨.func, 1, 8, [.func], none⟩),
  (112, ⟨.func, 1, 8, [.func], none⟩),
  (113, ⟨.ptr 3, 1, 8, [.ptr], none⟩),
  (114, ⟨.func, 1, 8, [.func], none⟩),
  (115, ⟨.func, 1, 8, [.func], none⟩),
  (116, ⟨.ptr 109, 1, 8, [.ptr], none⟩),
  (118, ⟨.func, 1, 8, [.func], none⟩),
  (119, ⟨.func, 1, 8, [.func], none⟩),
  (120, ⟨.strct [(17, 0), (17, 1), (17, 2), (9, 3)], 4, 40, [.ptr, .ptr, .ptr, .str], none⟩),
  (122, ⟨.array 0 16, 0, 0, [], none⟩),
  (123, ⟨.strct [(122, 0)], 0, 0, [], none⟩),
  (125, ⟨.func, 1, 8, [.func], none⟩),
  (128, ⟨.func, 1, 8, [.func], none⟩),
  (129, ⟨.ptr 5, 1, 8, [.ptr], none⟩),
  (132, ⟨.strct [(12, 0), (12, 1), (104, 2), (126, 3), (5, 4), (5, 5), (127, 6), (128, 7), (129, 8), (130, 9), (131, 10)], 11, 48, [.int .u64, .int .u64, .int .u32, .int .u8, .int .u8, .int .u8, .int .u8, .func, .ptr, .int .i32, .int .i32], none⟩)]
@[go_sem] theorem Γ_1 : Γ.get 1 = some ⟨.func, 1, 8, [.func], none⟩ := rfl
@[go_sem] theorem Γ_2 : Γ.get 2 = some ⟨.int .i64, 1, 8, [.int .i64], none⟩ := rfl
@[go_sem] theorem Γ_3 : Γ.get 3 = some ⟨.int .i64, 1, 8, [.int .i64], none⟩ := rfl
@[go_sem] theorem Γ_4 : Γ.get 4 = some ⟨.bool, 1, 1, [.bool], none⟩ := rfl
@[go_sem] theorem Γ_5 : Γ.get 5 = some ⟨.int .u8, 1, 1, [.int .u8], none⟩ := rfl
@[go_sem] theorem Γ_9 : Γ.get 9 = some ⟨.str, 1, 16, [.str], none⟩ := rfl
@[go_sem] theorem Γ_12 : Γ.get 12 = some ⟨.int .u64, 1, 8, [.int .u64], none⟩ := rfl
@[go_sem] theorem Γ_20 : Γ.get 20 = some ⟨.iface, 1, 16, [.iface], none⟩ := rfl
@[go_sem] theorem Γ_21 : Γ.get 21 = some ⟨.int .i32, 1, 4, [.int .i32], none⟩ := rfl
@[go_sem] theorem Γ_22 : Γ.get 22 = some ⟨.slice 43, 1, 24, [.slice], none⟩ := rfl
@[go_sem] theorem Γ_23 : Γ.get 23 = some ⟨.strct [(22, 0), (3, 1), (3, 2)], 3, 40, [.slice, .int .i64, .int .i64], none⟩ := rfl
@[go_sem] theorem Γ_24 : Γ.get 24 = some ⟨.strct [(22, 0), (3, 1), (3, 2)], 3, 40, [.slice, .int .i64, .int .i64], none⟩ := rfl
@[go_sem] theorem Γ_25 : Γ.get 25 = some ⟨.array 6 3, 6, 48, [.int .i64, .int .i64, .int .i64, .int .i64, .int .i64, .int .i64], some [false, false, false, false, false, false]⟩ := rfl
@[go_sem] theorem Γ_26 : Γ.get 26 = some ⟨.array 6 3, 6, 48, [.int .i64, .int .i64, .int .i64, .int .i64, .int .i64, .int .i64], some [false, false, false, false, false, false]⟩ := rfl
@[go_sem] theorem Γ_27 : Γ.get 27 = some ⟨.slice 3, 1, 24, [.slice], none⟩ := rfl
@[go_sem] theorem Γ_28 : Γ.get 28 = some ⟨.slice 26, 1, 24, [.slice], none⟩ := rfl
@[go_sem] theorem Γ_29 : Γ.get 29 = some ⟨.func, 1, 8, [.func], none⟩ := rfl
@[go_sem] theorem Γ_30 : Γ.get 30 = some ⟨.func, 1, 8, [.func], none⟩ := rfl
@[go_sem] theorem Γ_31 : Γ.get 31 = some ⟨.int .i64, 1, 8, [.int .i64], none⟩ := rfl
@[go_sem] theorem Γ_33 : Γ.get 33 = some ⟨.func, 1, 8, [.func], none⟩ := rfl
@[go_sem] theorem Γ_34 : Γ.get 34 = some ⟨.func, 1, 8, [.func], none⟩ := rfl
@[go_sem] theorem Γ_36 : Γ.get 36 = some ⟨.func, 1, 8, [.func], none⟩ := rfl
@[go_sem] theorem Γ_37 : Γ.get 37 = some ⟨.func, 1, 8, [.func], none⟩ := rfl
@[go_sem] theorem Γ_38 : Γ.get 38 = some ⟨.func, 1, 8, [.func], none⟩ := rfl
@[go_sem] theorem Γ_39 : Γ.get 39 = some ⟨.func, 1, 8, [.func], none⟩ := rfl
@[go_sem] theorem Γ_40 : Γ.get 40 = some ⟨.func, 1, 8, [.func], none⟩ := rfl
@[go_sem] theorem Γ_41 : Γ.get 41 = some ⟨.array 6 3, 6, 48, [.int .i64, .int .i64, .int .i64, .int .i64, .int .i64, .int .i64], some [false, false, false, false, false, false]⟩ := rfl
@[go_sem] theorem Γ_42 : Γ.get 42 = some ⟨.strct [(3, 0), (3, 1), (3, 2), (41, 3)], 9, 72, [.int .i64, .int .i64, .int .i64, .int .i64, .int .i64, .int .i64, .int .i64, .int .i64, .int .i64], some [false, false, false, false, false, false, false, false, false]⟩ := rfl
@[go_sem] theorem Γ_43 : Γ.get 43 = some ⟨.strct [(3, 0), (3, 1), (3, 2), (41, 3)], 9, 72, [.int .i64, .int .i64, .int .i64, .int .i64, .int .i64, .int .i64, .int .i64, .int .i64, .int .i64], some [false, false, false, false, false, false, false, false, false]⟩ := rfl
@[go_sem] theorem Γ_44 : Γ.get 44 = some ⟨.func, 1, 8, [.func], none⟩ := rfl
@[go_sem] theorem Γ_45 : Γ.get 45 = some ⟨.func, 1, 8, [.func], none⟩ := rfl
@[go_sem] theorem Γ_46 : Γ.get 46 = some ⟨.func, 1, 8, [.func], none⟩ := rfl
@[go_sem] theorem Γ_47 : Γ.get 47 = some ⟨.func, 1, 8, [.func], none⟩ := rfl
@[go_sem] theorem Γ_48 : Γ.get 48 = some ⟨.func, 1, 8, [.func], none⟩ := rfl
@[go_sem] theorem Γ_49 : Γ.get 49 = some ⟨.func, 1, 8, [.func], none⟩ := rfl
@[go_sem] theorem Γ_50 : Γ.get 50 = some ⟨.func, 1, 8, [.func], none⟩ := rfl
@[go_sem] theorem Γ_51 : Γ.get 51 = some ⟨.func, 1, 8, [.func], none⟩ := rfl
@[go_sem] theorem Γ_52 : Γ.get 52 = some ⟨.func, 1, 8, [.func], none⟩ := rfl
@[go_sem] theorem Γ_53 : Γ.get 53 = some ⟨.func, 1, 8, [.func], none⟩ := rfl
@[go_sem] theorem Γ_54 : Γ.get 54 = some ⟨.func, 1, 8, [.func], none⟩ := rfl
@[go_sem] theorem Γ_55 : Γ.get 55 = some ⟨.map 57 4, 1, 8, [.map], none⟩ := rfl
@[go_sem] theorem Γ_57 : Γ.get 57 = some ⟨.strct [(3, 0), (3, 1)], 2, 16, [.int .i64, .int .i64], some [false, false]⟩ := rfl
@[go_sem] theorem Γ_58 : Γ.get 58 = some ⟨.func, 1, 8, [.func], none⟩ := rfl
@[go_sem] theorem Γ_60 : Γ.get 60 = some ⟨.func, 1, 8, [.func], none⟩ := rfl
@[go_sem] theorem Γ_62 : Γ.get 62 = some ⟨.func, 1, 8, [.func], none⟩ := rfl
@[go_sem] theorem Γ_63 : Γ.get 63 = some ⟨.func, 1, 8, [.func], none⟩ := rfl
@[go_sem] theorem Γ_64 : Γ.get 64 = some ⟨.map 3 43, 1, 8, [.map], none⟩ := rfl
@[go_sem] theorem Γ_65 : Γ.get 65 = some ⟨.func, 1, 8, [.func], none⟩ := rfl
@[go_sem] theorem Γ_67 : Γ.get 67 = some ⟨.func, 1, 8, [.func], none⟩ := rfl
@[go_sem] theorem Γ_68 : Γ.get 68 = some ⟨.func, 1, 8, [.func], none⟩ := rfl
@[go_sem] theorem Γ_69 : Γ.get 69 = some ⟨.func, 1, 8, [.func], none⟩ := rfl
@[go_sem] theorem Γ_70 : Γ.get 70 = some ⟨.func, 1, 8, [.func], none⟩ := rfl
@[go_sem] theorem Γ_71 : Γ.get 71 = some ⟨.func, 1, 8, [.func], none⟩ := rfl
@[go_sem] theorem Γ_72 : Γ.get 72 = some ⟨.func, 1, 8, [.func], none⟩ := rfl
@[go_sem] theorem Γ_73 : Γ.get 73 = some ⟨.slice 27, 1, 24, [.slice], none⟩ := rfl
@[go_sem] theorem Γ_75 : Γ.get 75 = some ⟨.func, 1, 8, [.func], none⟩ := rfl
@[go_sem] theorem Γ_76 : Γ.get 76 = some ⟨.func, 1, 8, [.func], none⟩ := rfl
@[go_sem] theorem Γ_77 : Γ.get 77 = some ⟨.func, 1, 8, [.func], none⟩ := rfl
@[go_sem] theorem Γ_78 : Γ.get 78 = some ⟨.func, 1, 8, [.func], none⟩ := rfl
@[go_sem] theorem Γ_79 : Γ.get 79 = some ⟨.strct [(3, 0), (3, 1)], 2, 16, [.int .i64, .int .i64], some [false, false]⟩ := rfl
@[go_sem] theorem Γ_80 : Γ.get 80 = some ⟨.strct [(3, 0), (3, 1)], 2, 16, [.int .i64, .int .i64], some [false, false]⟩ := rfl
@[go_sem] theorem Γ_82 : Γ.get 82 = some ⟨.func, 1, 8, [.func], none⟩ := rfl
@[go_sem] theorem Γ_83 : Γ.get 83 = some ⟨.func, 1, 8, [.func], none⟩ := rfl
@[go_sem] theorem Γ_84 : Γ.get 84 = some ⟨.func, 1, 8, [.func], none⟩ := rfl
@[go_sem] theorem Γ_85 : Γ.get 85 = some ⟨.func, 1, 8, [.func], none⟩ := rfl
@[go_sem] theorem Γ_86 : Γ.get 86 = some ⟨.func, 1, 8, [.func], none⟩ := rfl
@[go_sem] theorem Γ_87 : Γ.get 87 = some ⟨.int .u64, 1, 8, [.int .u64], none⟩ := rfl
@[go_sem] theorem Γ_88 : Γ.get 88 = some ⟨.func, 1, 8, [.func], none⟩ := rfl
@[go_sem] theorem Γ_89 : Γ.get 89 = some ⟨.func, 1, 8, [.func], none⟩ := rfl
@[go_sem] theorem Γ_90 : Γ.get 90 = some ⟨.slice 22, 1, 24, [.slice], none⟩ := rfl
@[go_sem] theorem Γ_91 : Γ.get 91 = some ⟨.func, 1, 8, [.func], none⟩ := rfl
@[go_sem] theorem Γ_92 : Γ.get 92 = some ⟨.func, 1, 8, [.func], none⟩ := rfl
@[go_sem] theorem Γ_93 : Γ.get 93 = some ⟨.func, 1, 8, [.func], none⟩ := rfl
@[go_sem] theorem Γ_94 : Γ.get 94 = some ⟨.func, 1, 8, [.func], none⟩ := rfl
@[go_sem] theorem Γ_95 : Γ.get 95 = some ⟨.func, 1, 8, [.func], none⟩ := rfl
@[go_sem] theorem Γ_96 : Γ.get 96 = some ⟨.int .i64, 1, 8, [.int .i64], none⟩ := rfl
@[go_sem] theorem Γ_98 : Γ.get 98 = some ⟨.func, 1, 8, [.func], none⟩ := rfl
@[go_sem] theorem Γ_99 : Γ.get 99 = some ⟨.func, 1, 8, [.func], none⟩ := rfl
@[go_sem] theorem Γ_100 : Γ.get 100 = some ⟨.func, 1, 8, [.func], none⟩ := rfl
@[go_sem] theorem Γ_102 : Γ.get 102 = some ⟨.func, 1, 8, [.func], none⟩ := rfl
@[go_sem] theorem Γ_103 : Γ.get 103 = some ⟨.func, 1, 8, [.func], none⟩ := rfl
@[go_sem] theorem Γ_104 : Γ.get 104 = some ⟨.int .u32, 1, 4, [.int .u32], none⟩ := rfl
@[go_sem] theorem Γ_105 : Γ.get 105 = some ⟨.func, 1, 8, [.func], none⟩ := rfl
@[go_sem] theorem Γ_106 : Γ.get 106 = some ⟨.int .u64, 1, 8, [.int .u64], none⟩ := rfl
@[go_sem] theorem Γ_107 : Γ.get 107 = some ⟨.func, 1, 8, [.func], none⟩ := rfl
@[go_sem] theorem Γ_108 : Γ.get 108 = some ⟨.array 6 80, 12, 96, [.int .i64, .int .i64, .int .i64, .int .i64, .int .i64, .int .i64, .int .i64, .int .i64, .int .i64, .int .i64, .int .i64, .int .i64], some [false, false, false, false, false, false, false, false, false, false, false, false]⟩ := rfl
@[go_sem] theorem Γ_109 : Γ.get 109 = some ⟨.int .u64, 1, 8, [.int .u64], none⟩ := rfl
@[go_sem] theorem Γ_110 : Γ.get 110 = some ⟨.func, 1, 8, [.func], none⟩ := rfl
@[go_sem] theorem Γ_111 : Γ.get 111 = some ⟨.func, 1, 8, [.func], none⟩ := rfl
@[go_sem] theorem Γ_112 : Γ.get 112 = some ⟨.func, 1, 8, [.func], none⟩ := rfl
@[go_sem] theorem Γ_113 : Γ.get 113 = some ⟨.ptr 3, 1, 8, [.ptr], none⟩ := rfl
@[go_sem] theorem Γ_114 : Γ.get 114 = some ⟨.func, 1, 8, [.func], none⟩ := rfl
@[go_sem] theorem Γ_115 : Γ.get 115 = some ⟨.func, 1, 8, [.func], none⟩ := rfl
@[go_sem] theorem Γ_116 : Γ.get 116 = some ⟨.ptr 109, 1, 8, [.ptr], none⟩ := rfl
@[go_sem] theorem Γ_118 : Γ.get 118 = some ⟨.func, 1, 8, [.func], none⟩ := rfl
@[go_sem] theorem Γ_119 : Γ.get 119 = some ⟨.func, 1, 8, [.func], none⟩ := rfl
@[go_sem] theorem Γ_120 : Γ.get 120 = some ⟨.strct [(17, 0), (17, 1), (17, 2), (9, 3)], 4, 40, [.ptr, .ptr, .ptr, .str], none⟩ := rfl
@[go_sem] theorem Γ_122 : Γ.get 122 = some ⟨.array 0 16, 0, 0, [], none⟩ := rfl
@[go_sem] theorem Γ_123 : Γ.get 123 = some ⟨.strct [(122, 0)], 0, 0, [], none⟩ := rfl
@[go_sem] theorem Γ_125 : Γ.get 125 = some ⟨.func, 1, 8, [.func], none⟩ := rfl
@[go_sem] theorem Γ_128 : Γ.get 128 = some ⟨.func, 1, 8, [.func], none⟩ := rfl
@[go_sem] theorem Γ_129 : Γ.get 129 = some ⟨.ptr 5, 1, 8, [.ptr], none⟩ := rfl
@[go_sem] theorem Γ_132 : Γ.get 132 = some ⟨.strct [(12, 0), (12, 1), (104, 2), (126, 3), (5, 4), (5, 5), (127, 6), (128, 7), (129, 8), (130, 9), (131, 10)], 11, 48, [.int .u64, .int .u64, .int .u32, .int .u8, .int .u8, .int .u8, .int .u8, .func, .ptr, .int .i32, .int .i32], none⟩ := rfl
theorem Γ_chk : Γ.chk Tryd.prog = true := by kernel_rfl
theorem drawsAny : Tryd.prog.follows .mixedOrders = true := by kernel_rfl
theorem Γ_ok : TabOk Tryd.prog Γ := tabOk_of_chk Γ_chk
end Go.Proofs.YtddcnafocohghaaDoor
