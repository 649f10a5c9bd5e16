/-
  The type table of this program as plain data, held against the program.
-/
import Derived.Test.YtnomenmakhielaaDoorQL3
import Derived.Test.YtnomenmakhielaaDoorProg
import Derived.KernelRfl
set_option linter.unusedSimpArgs false
set_option linter.unusedVariables false
namespace Go.Proofs.YtnomenmakhielaaDoor
open Go.Ab

def Γ : Tab := [
  (1, ⟨.func, 1, 8, [.func], none⟩),
  (2, ⟨.int .i64, 1, 8, [.int .i64], none⟩),
  (3, ⟨.int .i64, 1, 8, [.int .i64], none⟩),
  (4, ⟨.bool, 1, 1, [.bool], none⟩),
  (5, ⟨.int .u8, 1, 1, [.int .u8], none⟩),
  (9, ⟨.str, 1, 16, [.str], none⟩),
  (12, ⟨.int .u64, 1, 8, [.int .u64], none⟩),
  (20, ⟨.iface, 1, 16, [.iface], none⟩),
  (21, ⟨.int .i32, 1, 4, [.int .i32], none⟩),
  (22, ⟨.slice 39, 1, 24, [.slice], none⟩),
  (23, ⟨.int .u16, 1, 2, [.int .u16], none⟩),
  (24, ⟨.func, 1, 8, [.func], none⟩),
  (25, ⟨.slice 35, 1, 24, [.slice], none⟩),
  (26, ⟨.slice 33, 1, 24, [.slice], none⟩),
  (27, ⟨.strct [(25, 0), (26, 1)], 2, 48, [.slice, .slice], none⟩),
  (28, ⟨.strct [(25, 0), (26, 1)], 2, 48, [.slice, .slice], none⟩),
  (29, ⟨.int .i64, 1, 8, [.int .i64], none⟩),
  (31, ⟨.func, 1, 8, [.func], none⟩),
  (32, ⟨.strct [(3, 0), (3, 1), (3, 2), (3, 3)], 4, 32, [.int .i64, .int .i64, .int .i64, .int .i64], some [false, false, false, false]⟩),
  (33, ⟨.strct [(3, 0), (3, 1), (3, 2), (3, 3)], 4, 32, [.int .i64, .int .i64, .int .i64, .int .i64], some [false, false, false, false]⟩),
  (34, ⟨.strct [(3, 0), (3, 1), (33, 2)], 6, 48, [.int .i64, .int .i64, .int .i64, .int .i64, .int .i64, .int .i64], some [false, false, false, false, false, false]⟩),
  (35, ⟨.strct [(3, 0), (3, 1), (33, 2)], 6, 48, [.int .i64, .int .i64, .int .i64, .int .i64, .int .i64, .int .i64], some [false, false, false, false, false, false]⟩),
  (36, ⟨.func, 1, 8, [.func], none⟩),
  (37, ⟨.func, 1, 8, [.func], none⟩),
  (38, ⟨.strct [(3, 0), (3, 1), (3, 2), (33, 3)], 7, 56, [.int .i64, .int .i64, .int .i64, .int .i64, .int .i64, .int .i64, .int .i64], some [false, false, false, false, false, false, false]⟩),
  (39, ⟨.strct [(3, 0), (3, 1), (3, 2), (33, 3)], 7, 56, [.int .i64, .int .i64, .int .i64, .int .i64, .int .i64, .int .i64, .int .i64], some [false, false, false, false, false, false, false]⟩),
  (40, ⟨.func, 1, 8, [.func], none⟩),
  (41, ⟨.slice 5, 1, 24, [.slice], none⟩),
  (42, ⟨.strct [(41, 0), (3, 1)], 2, 32, [.slice, .int .i64], none⟩),
  (43, ⟨.strct [(41, 0), (3, 1)], 2, 32, [.slice, .int .i64], none⟩),
  (45, ⟨.func, 1, 8, [.func], none⟩),
  (47, ⟨.func, 1, 8, [.func], none⟩),
  (48, ⟨.func, 1, 8, [.func], none⟩),
  (49, ⟨.func, 1, 8, [.func], none⟩),
  (50, ⟨.func, 1, 8, [.func], none⟩),
  (52, ⟨.func, 1, 8, [.func], none⟩),
  (53, ⟨.func, 1, 8, [.func], none⟩),
  (54, ⟨.func, 1, 8, [.func], none⟩),
  (55, ⟨.func, 1, 8, [.func], none⟩),
  (56, ⟨.func, 1, 8, [.func], none⟩),
  (57, ⟨.func, 1, 8, [.func], none⟩),
  (58, ⟨.func, 1, 8, [.func], none⟩),
  (59, ⟨.func, 1, 8, [.func], none⟩),
  (60, ⟨.func, 1, 8, [.func], none⟩),
  (61, ⟨.func, 1, 8, [.func], none⟩),
  (62, ⟨.map 3 64, 1, 8, [.map], none⟩),
  (63, ⟨.func, 1, 8, [.func], none⟩),
  (64, ⟨.func, 1, 8, [.func], none⟩),
  (65, ⟨.ptr 28, 1, 8, [.ptr], none⟩),
  (66, ⟨.func, 1, 8, [.func], none⟩),
  (67, ⟨.func, 1, 8, [.func], none⟩),
  (68, ⟨.func, 1, 8, [.func], none⟩),
  (69, ⟨.func, 1, 8, [.func], none⟩),
  (71, ⟨.func, 1, 8, [.func], none⟩),
  (72, ⟨.func, 1, 8, [.func], none⟩),
  (73, ⟨.func, 1, 8, [.func], none⟩),
  (74, ⟨.func, 1, 8, [.func], none⟩),
  (75, ⟨.func, 1, 8, [.func], none⟩),
  (76, ⟨.func, 1, 8, [.func], none⟩),
  (77, ⟨.func, 1, 8, [.func], none⟩),
  (78, ⟨.func, 1, 8, [.func], none⟩),
  (79, ⟨.func, 1, 8, [.func], none⟩),
  (80, ⟨.ptr 35, 1, 8, [.ptr], none⟩),
  (81, ⟨.func, 1, 8, [.func], none⟩),
  (82, ⟨.strct [(3, 0), (3, 1), (3, 2), (33, 3)], 7, 56, [.int .i64, .int .i64, .int .i64, .int .i64, .int .i64, .int .i64, .int .i64], some [false, false, false, false, false, false, false]⟩),
  (83, ⟨.strct [(3, 0), (3, 1), (3, 2), (33, 3)], 7, 56, [.int .i64, .int .i64, .int .i64, .int .i64, .int .i64, .int .i64, .int .i64], some [false, false, false, false, false, false, false]⟩),
  (85, ⟨.func, 1, 8, [.func], none⟩),
  (86, ⟨.strct [(3, 0), (3, 1), (33, 2)], 6, 48, [.int .i64, .int .i64, .int .i64, .int .i64, .int .i64, .int .i64], some [false, false, false, false, false, false]⟩),
  (87, ⟨.strct [(3, 0), (3, 1), (33, 2)], 6, 48, [.int .i64, .int .i64, .int .i64, .int .i64, .int .i64, .int .i64], some [false, false, false, false, false, false]⟩),
  (89, ⟨.func, 1, 8, [.func], none⟩),
  (91, ⟨.func, 1, 8, [.func], none⟩),
  (92, ⟨.int .u64, 1, 8, [.int .u64], none⟩),
  (93, ⟨.func, 1, 8, [.func], none⟩),
  (94, ⟨.func, 1, 8, [.func], none⟩),
  (95, ⟨.func, 1, 8, [.func], none⟩),
  (96, ⟨.func, 1, 8, [.func], none⟩),
  (97, ⟨.slice 41, 1, 24, [.slice], none⟩),
  (98, ⟨.func, 1, 8, [.func], none⟩),
  (100, ⟨.func, 1, 8, [.func], none⟩),
  (101, ⟨.int .u32, 1, 4, [.int .u32], none⟩),
  (102, ⟨.func, 1, 8, [.func], none⟩),
  (103, ⟨.func, 1, 8, [.func], none⟩),
  (104, ⟨.func, 1, 8, [.func], none⟩),
  (106, ⟨.func, 1, 8, [.func], none⟩),
  (107, ⟨.func, 1, 8, [.func], none⟩),
  (108, ⟨.strct [(26, 0), (107, 1)], 2, 32, [.slice, .func], none⟩),
  (109, ⟨.strct [(26, 0), (107, 1)], 2, 32, [.slice, .func], none⟩),
  (110, ⟨.func, 1, 8, [.func], none⟩),
  (111, ⟨.func, 1, 8, [.func], none⟩),
  (112, ⟨.func, 1, 8, [.func], none⟩),
  (114, ⟨.func, 1, 8, [.func], none⟩),
  (115, ⟨.func, 1, 8, [.func], none⟩),
  (116, ⟨.func, 1, 8, [.func], none⟩),
  (117, ⟨.func, 1, 8, [.func], none⟩),
  (119, ⟨.func, 1, 8, [.func], none⟩),
  (120, ⟨.func, 1, 8, [.func], none⟩),
  (121, ⟨.func, 1, 8, [.func], none⟩),
  (122, ⟨.array 16 101, 16, 64, [.int .u32, .int .u32, .int .u32, .int .u32, .int .u32, .int .u32, .int .u32, .int .u32, .int .u32, .int .u32, .int .u32, .int .u32, .int .u32, .int .u32, .int .u32, .int .u32], some [false, false, false, false, false, false, false, false, false, false, false, false, false, false, false, false]⟩),
  (123, ⟨.array 8 5, 8, 8, [.int .u8, .int .u8, .int .u8, .int .u8, .int .u8, .int .u8, .int .u8, .int .u8], some [false, false, false, false, false, false, false, false]⟩),
  (124, ⟨.func, 1, 8, [.func], none⟩),
  (125, ⟨.func, 1, 8, [.func], none⟩),
  (126, ⟨.func, 1, 8, [.func], none⟩),
  (127, ⟨.func, 1, 8, [.func], none⟩),
  (128, ⟨.func, 1, 8, [.func], none⟩),
  (129, ⟨.func, 1, 8, [.func], none⟩),
  (130, ⟨.strct [(17, 0), (17, 1), (17, 2), (9, 3)], 4, 40, [.ptr, .ptr, .ptr, .str], none⟩),
  (132, ⟨.array 0 16, 0, 0, [], none⟩),
  (133, ⟨.strct [(132, 0)], 0, 0, [], none⟩),
  (135, ⟨.func, 1, 8, [.func], none⟩),
  (138, ⟨.func, 1, 8, [.func], none⟩),
  (139, ⟨.ptr 5, 1, 8, [.ptr], none⟩),
  (142, ⟨.strct [(12, 0), (12, 1), (101, 2), (136, 3), (5, 4), (5, 5), (137, 6), (138, 7), (139, 8), (140, 9), (141, 10)], 11, 48, [.int .u64, .int .u64, .int .u32, .int .u8, .int .u8, .int .u8, .int .u8, .func, .ptr, .int .i32, .int .i32], none⟩)]

@[go_sem] theorem Γ_1 : Γ.get 1 = some ⟨.func, 1, 8, [.func], none⟩ := rfl
@[go_sem] theorem Γ_2 : Γ.get 2 = some ⟨.int .i64, 1, 8, [.int .i64], none⟩ := rfl
@[go_sem] theorem Γ_3 : Γ.get 3 = some ⟨.int .i64, 1, 8, [.int .i64], none⟩ := rfl
@[go_sem] theorem Γ_4 : Γ.get 4 = some ⟨.bool, 1, 1, [.bool], none⟩ := rfl
@[go_sem] theorem Γ_5 : Γ.get 5 = some ⟨.int .u8, 1, 1, [.int .u8], none⟩ := rfl
@[go_sem] theorem Γ_9 : Γ.get 9 = some ⟨.str, 1, 16, [.str], none⟩ := rfl
@[go_sem] theorem Γ_12 : Γ.get 12 = some ⟨.int .u64, 1, 8, [.int .u64], none⟩ := rfl
@[go_sem] theorem Γ_20 : Γ.get 20 = some ⟨.iface, 1, 16, [.iface], none⟩ := rfl
@[go_sem] theorem Γ_21 : Γ.get 21 = some ⟨.int .i32, 1, 4, [.int .i32], none⟩ := rfl
@[go_sem] theorem Γ_22 : Γ.get 22 = some ⟨.slice 39, 1, 24, [.slice], none⟩ := rfl
@[go_sem] theorem Γ_23 : Γ.get 23 = some ⟨.int .u16, 1, 2, [.int .u16], none⟩ := rfl
@[go_sem] theorem Γ_24 : Γ.get 24 = some ⟨.func, 1, 8, [.func], none⟩ := rfl
@[go_sem] theorem Γ_25 : Γ.get 25 = some ⟨.slice 35, 1, 24, [.slice], none⟩ := rfl
@[go_sem] theorem Γ_26 : Γ.get 26 = some ⟨.slice 33, 1, 24, [.slice], none⟩ := rfl
@[go_sem] theorem Γ_27 : Γ.get 27 = some ⟨.strct [(25, 0), (26, 1)], 2, 48, [.slice, .slice], none⟩ := rfl
@[go_sem] theorem Γ_28 : Γ.get 28 = some ⟨.strct [(25, 0), (26, 1)], 2, 48, [.slice, .slice], none⟩ := rfl
@[go_sem] theorem Γ_29 : Γ.get 29 = some ⟨.int .i64, 1, 8, [.int .i64], none⟩ := rfl
@[go_sem] theorem Γ_31 : Γ.get 31 = some ⟨.func, 1, 8, [.func], none⟩ := rfl
@[go_sem] theorem Γ_32 : Γ.get 32 = some ⟨.strct [(3, 0), (3, 1), (3, 2), (3, 3)], 4, 32, [.int .i64, .int .i64, .int .i64, .int .i64], some [false, false, false, false]⟩ := rfl
@[go_sem] theorem Γ_33 : Γ.get 33 = some ⟨.strct [(3, 0), (3, 1), (3, 2), (3, 3)], 4, 32, [.int .i64, .int .i64, .int .i64, .int .i64], some [false, false, false, false]⟩ := rfl
@[go_sem] theorem Γ_34 : Γ.get 34 = some ⟨.strct [(3, 0), (3, 1), (33, 2)], 6, 48, [.int .i64, .int .i64, .int .i64, .int .i64, .int .i64, .int .i64], some [false, false, false, false, false, false]⟩ := rfl
@[go_sem] theorem Γ_35 : Γ.get 35 = some ⟨.strct [(3, 0), (3, 1), (33, 2)], 6, 48, [.int .i64, .int .i64, .int .i64, .int .i64, .int .i64, .int .i64], some [false, false, false, false, false, false]⟩ := rfl
@[go_sem] theorem Γ_36 : Γ.get 36 = some ⟨.func, 1, 8, [.func], none⟩ := rfl
@[go_sem] theorem Γ_37 : Γ.get 37 = some ⟨.func, 1, 8, [.func], none⟩ := rfl
@[go_sem] theorem Γ_38 : Γ.get 38 = some ⟨.strct [(3, 0), (3, 1), (3, 2), (33, 3)], 7, 56, [.int .i64, .int .i64, .int .i64, .int .i64, .int .i64, .int .i64, .int .i64], some [false, false, false, false, false, false, false]⟩ := rfl
@[go_sem] theorem Γ_39 : Γ.get 39 = some ⟨.strct [(3, 0), (3, 1), (3, 2), (33, 3)], 7, 56, [.int .i64, .int .i64, .int .i64, .int .i64, .int .i64, .int .i64, .int .i64], some [false, false, false, false, false, false, false]⟩ := rfl
@[go_sem] theorem Γ_40 : Γ.get 40 = some ⟨.func, 1, 8, [.func], none⟩ := rfl
@[go_sem] theorem Γ_41 : Γ.get 41 = some ⟨.slice 5, 1, 24, [.slice], none⟩ := rfl
@[go_sem] theorem Γ_42 : Γ.get 42 = some ⟨.strct [(41, 0), (3, 1)], 2, 32, [.slice, .int .i64], none⟩ := rfl
@[go_sem] theorem Γ_43 : Γ.get 43 = some ⟨.strct [(41, 0), (3, 1)], 2, 32, [.slice, .int .i64], none⟩ := rfl
@[go_sem] theorem Γ_45 : Γ.get 45 = some ⟨.func, 1, 8, [.func], none⟩ := rfl
@[go_sem] theorem Γ_47 : Γ.get 47 = some ⟨.func, 1, 8, [.func], none⟩ := rfl
@[go_sem] theorem Γ_48 : Γ.get 48 = some ⟨.func, 1, 8, [.func], none⟩ := rfl
@[go_sem] theorem Γ_49 : Γ.get 49 = some ⟨.func, 1, 8, [.func], none⟩ := rfl
@[go_sem] theorem Γ_50 : Γ.get 50 = some ⟨.func, 1, 8, [.func], none⟩ := rfl
@[go_sem] theorem Γ_52 : Γ.get 52 = some ⟨.func, 1, 8, [.func], none⟩ := rfl
@[go_sem] theorem Γ_53 : Γ.get 53 = some ⟨.func, 1, 8, [.func], none⟩ := rfl
@[go_sem] theorem Γ_54 : Γ.get 54 = some ⟨.func, 1, 8, [.func], none⟩ := rfl
@[go_sem] theorem Γ_55 : Γ.get 55 = some ⟨.func, 1, 8, [.func], none⟩ := rfl
@[go_sem] theorem Γ_56 : Γ.get 56 = some ⟨.func, 1, 8, [.func], none⟩ := rfl
@[go_sem] theorem Γ_57 : Γ.get 57 = some ⟨.func, 1, 8, [.func], none⟩ := rfl
@[go_sem] theorem Γ_58 : Γ.get 58 = some ⟨.func, 1, 8, [.func], none⟩ := rfl
@[go_sem] theorem Γ_59 : Γ.get 59 = some ⟨.func, 1, 8, [.func], none⟩ := rfl
@[go_sem] theorem Γ_60 : Γ.get 60 = some ⟨.func, 1, 8, [.func], none⟩ := rfl
@[go_sem] theorem Γ_61 : Γ.get 61 = some ⟨.func, 1, 8, [.func], none⟩ := rfl
@[go_sem] theorem Γ_62 : Γ.get 62 = some ⟨.map 3 64, 1, 8, [.map], none⟩ := rfl
@[go_sem] theorem Γ_63 : Γ.get 63 = some ⟨.func, 1, 8, [.func], none⟩ := rfl
@[go_sem] theorem Γ_64 : Γ.get 64 = some ⟨.func, 1, 8, [.func], none⟩ := rfl
@[go_sem] theorem Γ_65 : Γ.get 65 = some ⟨.ptr 28, 1, 8, [.ptr], none⟩ := rfl
@[go_sem] theorem Γ_66 : Γ.get 66 = some ⟨.func, 1, 8, [.func], none⟩ := rfl
@[go_sem] theorem Γ_67 : Γ.get 67 = some ⟨.func, 1, 8, [.func], none⟩ := rfl
@[go_sem] theorem Γ_68 : Γ.get 68 = some ⟨.func, 1, 8, [.func], none⟩ := rfl
@[go_sem] theorem Γ_69 : Γ.get 69 = some ⟨.func, 1, 8, [.func], none⟩ := rfl
@[go_sem] theorem Γ_71 : Γ.get 71 = some ⟨.func, 1, 8, [.func], none⟩ := rfl
@[go_sem] theorem Γ_72 : Γ.get 72 = some ⟨.func, 1, 8, [.func], none⟩ := rfl
@[go_sem] theorem Γ_73 : Γ.get 73 = some ⟨.func, 1, 8, [.func], none⟩ := rfl
@[go_sem] theorem Γ_74 : Γ.get 74 = some ⟨.func, 1, 8, [.func], none⟩ := rfl
@[go_sem] theorem Γ_75 : Γ.get 75 = some ⟨.func, 1, 8, [.func], none⟩ := rfl
@[go_sem] theorem Γ_76 : Γ.get 76 = some ⟨.func, 1, 8, [.func], none⟩ := rfl
@[go_sem] theorem Γ_77 : Γ.get 77 = some ⟨.func, 1, 8, [.func], none⟩ := rfl
@[go_sem] theorem Γ_78 : Γ.get 78 = some ⟨.func, 1, 8, [.func], none⟩ := rfl
@[go_sem] theorem Γ_79 : Γ.get 79 = some ⟨.func, 1, 8, [.func], none⟩ := rfl
@[go_sem] theorem Γ_80 : Γ.get 80 = some ⟨.ptr 35, 1, 8, [.ptr], none⟩ := rfl
@[go_sem] theorem Γ_81 : Γ.get 81 = some ⟨.func, 1, 8, [.func], none⟩ := rfl
@[go_sem] theorem Γ_82 : Γ.get 82 = some ⟨.strct [(3, 0), (3, 1), (3, 2), (33, 3)], 7, 56, [.int .i64, .int .i64, .int .i64, .int .i64, .int .i64, .int .i64, .int .i64], some [false, false, false, false, false, false, false]⟩ := rfl
@[go_sem] theorem Γ_83 : Γ.get 83 = some ⟨.strct [(3, 0), (3, 1), (3, 2), (33, 3)], 7, 56, [.int .i64, .int .i64, .int .i64, .int .i64, .int .i64, .int .i64, .int .i64], some [false, false, false, false, false, false, false]⟩ := rfl
@[go_sem] theorem Γ_85 : Γ.get 85 = some ⟨.func, 1, 8, [.func], none⟩ := rfl
@[go_sem] theorem Γ_86 : Γ.get 86 = some ⟨.strct [(3, 0), (3, 1), (33, 2)], 6, 48, [.int .i64, .int .i64, .int .i64, .int .i64, .int .i64, .int .i64], some [false, false, false, false, false, false]⟩ := rfl
@[go_sem] theorem Γ_87 : Γ.get 87 = some ⟨.strct [(3, 0), (3, 1), (33, 2)], 6, 48, [.int .i64, .int .i64, .int .i64, .int .i64, .int .i64, .int .i64], some [false, false, false, false, false, false]⟩ := rfl
@[go_sem] theorem Γ_89 : Γ.get 89 = some ⟨.func, 1, 8, [.func], none⟩ := rfl
@[go_sem] theorem Γ_91 : Γ.get 91 = some ⟨.func, 1, 8, [.func], none⟩ := rfl
@[go_sem] theorem Γ_92 : Γ.get 92 = some ⟨.int .u64, 1, 8, [.int .u64], none⟩ := rfl
@[go_sem] theorem Γ_93 : Γ.get 93 = some ⟨.func, 1, 8, [.func], none⟩ := rfl
@[go_sem] theorem Γ_94 : Γ.get 94 = some ⟨.func, 1, 8, [.func], none⟩ := rfl
@[go_sem] theorem Γ_95 : Γ.get 95 = some ⟨.func, 1, 8, [.func], none⟩ := rfl
@[go_sem] theorem Γ_96 : Γ.get 96 = some ⟨.func, 1, 8, [.func], none⟩ := rfl
@[go_sem] theorem Γ_97 : Γ.get 97 = some ⟨.slice 41, 1, 24, [.slice], none⟩ := rfl
@[go_sem] theorem Γ_98 : Γ.get 98 = some ⟨.func, 1, 8, [.func], none⟩ := rfl
@[go_sem] theorem Γ_100 : Γ.get 100 = some ⟨.func, 1, 8, [.func], none⟩ := rfl
@[go_sem] theorem Γ_101 : Γ.get 101 = some ⟨.int .u32, 1, 4, [.int .u32], none⟩ := rfl
@[go_sem] theorem Γ_102 : Γ.get 102 = some ⟨.func, 1, 8, [.func], none⟩ := rfl
@[go_sem] theorem Γ_103 : Γ.get 103 = some ⟨.func, 1, 8, [.func], none⟩ := rfl
@[go_sem] theorem Γ_104 : Γ.get 104 = some ⟨.func, 1, 8, [.func], none⟩ := rfl
@[go_sem] theorem Γ_106 : Γ.get 106 = some ⟨.func, 1, 8, [.func], none⟩ := rfl
@[go_sem] theorem Γ_107 : Γ.get 107 = some ⟨.func, 1, 8, [.func], none⟩ := rfl
@[go_sem] theorem Γ_108 : Γ.get 108 = some ⟨.strct [(26, 0), (107, 1)], 2, 32, [.slice, .func], none⟩ := rfl
@[go_sem] theorem Γ_109 : Γ.get 109 = some ⟨.strct [(26, 0), (107, 1)], 2, 32, [.slice, .func], none⟩ := rfl
@[go_sem] theorem Γ_110 : Γ.get 110 = some ⟨.func, 1, 8, [.func], none⟩ := rfl
@[go_sem] theorem Γ_111 : Γ.get 111 = some ⟨.func, 1, 8, [.func], none⟩ := rfl
@[go_sem] theorem Γ_112 : Γ.get 112 = some ⟨.func, 1, 8, [.func], none⟩ := rfl
@[go_sem] theorem Γ_114 : Γ.get 114 = some ⟨.func, 1, 8, [.func], none⟩ := rfl
@[go_sem] theorem Γ_115 : Γ.get 115 = some ⟨.func, 1, 8, [.func], none⟩ := rfl
@[go_sem] theorem Γ_116 : Γ.get 116 = some ⟨.func, 1, 8, [.func], none⟩ := rfl
@[go_sem] theorem Γ_117 : Γ.get 117 = some ⟨.func, 1, 8, [.func], none⟩ := rfl
@[go_sem] theorem Γ_119 : Γ.get 119 = some ⟨.func, 1, 8, [.func], none⟩ := rfl
@[go_sem] theorem Γ_120 : Γ.get 120 = some ⟨.func, 1, 8, [.func], none⟩ := rfl
@[go_sem] theorem Γ_121 : Γ.get 121 = some ⟨.func, 1, 8, [.func], none⟩ := rfl
@[go_sem] theorem Γ_122 : Γ.get 122 = some ⟨.array 16 101, 16, 64, [.int .u32, .int .u32, .int .u32, .int .u32, .int .u32, .int .u32, .int .u32, .int .u32, .int .u32, .int .u32, .int .u32, .int .u32, .int .u32, .int .u32, .int .u32, .int .u32], some [false, false, false, false, false, false, false, false, false, false, false, false, false, false, false, false]⟩ := rfl
@[go_sem] theorem Γ_123 : Γ.get 123 = some ⟨.array 8 5, 8, 8, [.int .u8, .int .u8, .int .u8, .int .u8, .int .u8, .int .u8, .int .u8, .int .u8], some [false, false, false, false, false, false, false, false]⟩ := rfl
@[go_sem] theorem Γ_124 : Γ.get 124 = some ⟨.func, 1, 8, [.func], none⟩ := rfl
@[go_sem] theorem Γ_125 : Γ.get 125 = some ⟨.func, 1, 8, [.func], none⟩ := rfl
@[go_sem] theorem Γ_126 : Γ.get 126 = some ⟨.func, 1, 8, [.func], none⟩ := rfl
@[go_sem] theorem Γ_127 : Γ.get 127 = some ⟨.func, 1, 8, [.func], none⟩ := rfl
@[go_sem] theorem Γ_128 : Γ.get 128 = some ⟨.func, 1, 8, [.func], none⟩ := rfl
@[go_sem] theorem Γ_129 : Γ.get 129 = some ⟨.func, 1, 8, [.func], none⟩ := rfl
@[go_sem] theorem Γ_130 : Γ.get 130 = some ⟨.strct [(17, 0), (17, 1), (17, 2), (9, 3)], 4, 40, [.ptr, .ptr, .ptr, .str], none⟩ := rfl
@[go_sem] theorem Γ_132 : Γ.get 132 = some ⟨.array 0 16, 0, 0, [], none⟩ := rfl
@[go_sem] theorem Γ_133 : Γ.get 133 = some ⟨.strct [(132, 0)], 0, 0, [], none⟩ := rfl
@[go_sem] theorem Γ_135 : Γ.get 135 = some ⟨.func, 1, 8, [.func], none⟩ := rfl
@[go_sem] theorem Γ_138 : Γ.get 138 = some ⟨.func, 1, 8, [.func], none⟩ := rfl
@[go_sem] theorem Γ_139 : Γ.get 139 = some ⟨.ptr 5, 1, 8, [.ptr], none⟩ := rfl
@[go_sem] theorem Γ_142 : Γ.get 142 = some ⟨.strct [(12, 0), (12, 1), (101, 2), (136, 3), (5, 4), (5, 5), (137, 6), (138, 7), (139, 8), (140, 9), (141, 10)], 11, 48, [.int .u64, .int .u64, .int .u32, .int .u8, .int .u8, .int .u8, .int .u8, .func, .ptr, .int .i32, .int .i32], none⟩ := rfl
theorem Γ_chk : Γ.chk Tryd.prog = true := by kernel_rfl
theorem drawsAny : Tryd.prog.follows .mixedOrders = true := by kernel_rfl
theorem Γ_ok : TabOk Tryd.prog Γ := tabOk_of_chk Γ_chk

end Go.Proofs.YtnomenmakhielaaDoor
