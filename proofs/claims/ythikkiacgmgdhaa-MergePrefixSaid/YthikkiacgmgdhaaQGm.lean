/-
  The type table of this program as plain data, held against the program.
-/
import Derived.Test.YthikkiacgmgdhaaQA3
import Derived.Test.YthikkiacgmgdhaaProg
import Derived.KernelRfl
set_option linter.unusedSimpArgs false
set_option linter.unusedVariables false
namespace Go.Proofs.Ythikkiacgmgdhaa
open Go.Ab
set_option maxRecDepth 20000

def Γ : Tab := [
  (1, ⟨.func, 1, 8, [.func], none⟩),
  (2, ⟨.int .i64, 1, 8, [.int .i64], none⟩),
  (3, ⟨.int .i64, 1, 8, [.int .i64], none⟩),
  (4, ⟨.bool, 1, 1, [.bool], none⟩),
  (5, ⟨.int .u8, 1, 1, [.int .u8], none⟩),
  (9, ⟨.str, 1, 16, [.str], none⟩),
  (12, ⟨.int .u64, 1, 8, [.int .u64], none⟩),
  (20, ⟨.iface, 1, 16, [.iface], none⟩),
  (21, ⟨.int .i32, 1, 4, [.int .i32], none⟩),
  (22, ⟨.slice 31, 1, 24, [.slice], none⟩),
  (23, ⟨.strct [(3, 0), (3, 1), (3, 2), (3, 3)], 4, 32, [.int .i64, .int .i64, .int .i64, .int .i64], some [false, false, false, false]⟩),
  (24, ⟨.strct [(3, 0), (3, 1), (3, 2), (3, 3)], 4, 32, [.int .i64, .int .i64, .int .i64, .int .i64], some [false, false, false, false]⟩),
  (25, ⟨.slice 3, 1, 24, [.slice], none⟩),
  (26, ⟨.strct [(24, 0), (3, 4), (25, 5)], 6, 64, [.int .i64, .int .i64, .int .i64, .int .i64, .int .i64, .slice], none⟩),
  (27, ⟨.strct [(24, 0), (3, 4), (25, 5)], 6, 64, [.int .i64, .int .i64, .int .i64, .int .i64, .int .i64, .slice], none⟩),
  (28, ⟨.func, 1, 8, [.func], none⟩),
  (29, ⟨.slice 27, 1, 24, [.slice], none⟩),
  (30, ⟨.strct [(3, 0), (29, 1)], 2, 32, [.int .i64, .slice], none⟩),
  (31, ⟨.strct [(3, 0), (29, 1)], 2, 32, [.int .i64, .slice], none⟩),
  (32, ⟨.func, 1, 8, [.func], none⟩),
  (33, ⟨.slice 51, 1, 24, [.slice], none⟩),
  (34, ⟨.int .i64, 1, 8, [.int .i64], none⟩),
  (36, ⟨.func, 1, 8, [.func], none⟩),
  (37, ⟨.func, 1, 8, [.func], none⟩),
  (38, ⟨.slice 24, 1, 24, [.slice], none⟩),
  (40, ⟨.func, 1, 8, [.func], none⟩),
  (41, ⟨.func, 1, 8, [.func], none⟩),
  (43, ⟨.func, 1, 8, [.func], none⟩),
  (44, ⟨.func, 1, 8, [.func], none⟩),
  (45, ⟨.func, 1, 8, [.func], none⟩),
  (46, ⟨.func, 1, 8, [.func], none⟩),
  (47, ⟨.func, 1, 8, [.func], none⟩),
  (48, ⟨.slice 4, 1, 24, [.slice], none⟩),
  (49, ⟨.func, 1, 8, [.func], none⟩),
  (50, ⟨.strct [(3, 0), (3, 1), (3, 2)], 3, 24, [.int .i64, .int .i64, .int .i64], some [false, false, false]⟩),
  (51, ⟨.strct [(3, 0), (3, 1), (3, 2)], 3, 24, [.int .i64, .int .i64, .int .i64], some [false, false, false]⟩),
  (53, ⟨.func, 1, 8, [.func], none⟩),
  (54, ⟨.func, 1, 8, [.func], none⟩),
  (55, ⟨.func, 1, 8, [.func], none⟩),
  (56, ⟨.func, 1, 8, [.func], none⟩),
  (57, ⟨.func, 1, 8, [.func], none⟩),
  (58, ⟨.slice 99, 1, 24, [.slice], none⟩),
  (59, ⟨.slice 5, 1, 24, [.slice], none⟩),
  (60, ⟨.slice 142, 1, 24, [.slice], none⟩),
  (61, ⟨.slice 144, 1, 24, [.slice], none⟩),
  (62, ⟨.slice 71, 1, 24, [.slice], none⟩),
  (63, ⟨.slice 73, 1, 24, [.slice], none⟩),
  (64, ⟨.strct [(60, 0), (61, 1), (62, 2), (63, 3)], 4, 96, [.slice, .slice, .slice, .slice], none⟩),
  (65, ⟨.strct [(60, 0), (61, 1), (62, 2), (63, 3)], 4, 96, [.slice, .slice, .slice, .slice], none⟩),
  (67, ⟨.func, 1, 8, [.func], none⟩),
  (69, ⟨.func, 1, 8, [.func], none⟩),
  (70, ⟨.strct [(3, 0), (24, 1)], 5, 40, [.int .i64, .int .i64, .int .i64, .int .i64, .int .i64], some [false, false, false, false, false]⟩),
  (71, ⟨.strct [(3, 0), (24, 1)], 5, 40, [.int .i64, .int .i64, .int .i64, .int .i64, .int .i64], some [false, false, false, false, false]⟩),
  (72, ⟨.strct [(3, 0), (3, 1), (24, 2)], 6, 48, [.int .i64, .int .i64, .int .i64, .int .i64, .int .i64, .int .i64], some [false, false, false, false, false, false]⟩),
  (73, ⟨.strct [(3, 0), (3, 1), (24, 2)], 6, 48, [.int .i64, .int .i64, .int .i64, .int .i64, .int .i64, .int .i64], some [false, false, false, false, false, false]⟩),
  (74, ⟨.func, 1, 8, [.func], none⟩),
  (75, ⟨.func, 1, 8, [.func], none⟩),
  (76, ⟨.func, 1, 8, [.func], none⟩),
  (77, ⟨.map 3 82, 1, 8, [.map], none⟩),
  (78, ⟨.func, 1, 8, [.func], none⟩),
  (79, ⟨.func, 1, 8, [.func], none⟩),
  (80, ⟨.func, 1, 8, [.func], none⟩),
  (81, ⟨.func, 1, 8, [.func], none⟩),
  (82, ⟨.map 3 27, 1, 8, [.map], none⟩),
  (83, ⟨.func, 1, 8, [.func], none⟩),
  (84, ⟨.func, 1, 8, [.func], none⟩),
  (85, ⟨.func, 1, 8, [.func], none⟩),
  (86, ⟨.func, 1, 8, [.func], none⟩),
  (87, ⟨.map 3 24, 1, 8, [.map], none⟩),
  (89, ⟨.array 8 4, 8, 8, [.bool, .bool, .bool, .bool, .bool, .bool, .bool, .bool], some [true, true, true, true, true, true, true, true]⟩),
  (90, ⟨.array 8 4, 8, 8, [.bool, .bool, .bool, .bool, .bool, .bool, .bool, .bool], some [true, true, true, true, true, true, true, true]⟩),
  (91, ⟨.func, 1, 8, [.func], none⟩),
  (92, ⟨.func, 1, 8, [.func], none⟩),
  (93, ⟨.func, 1, 8, [.func], none⟩),
  (94, ⟨.func, 1, 8, [.func], none⟩),
  (95, ⟨.func, 1, 8, [.func], none⟩),
  (96, ⟨.map 3 103, 1, 8, [.map], none⟩),
  (97, ⟨.func, 1, 8, [.func], none⟩),
  (98, ⟨.strct [(3, 0), (3, 1), (3, 2), (24, 3)], 7, 56, [.int .i64, .int .i64, .int .i64, .int .i64, .int .i64, .int .i64, .int .i64], some [false, false, false, false, false, false, false]⟩),
  (99, ⟨.strct [(3, 0), (3, 1), (3, 2), (24, 3)], 7, 56, [.int .i64, .int .i64, .int .i64, .int .i64, .int .i64, .int .i64, .int .i64], some [false, false, false, false, false, false, false]⟩),
  (100, ⟨.func, 1, 8, [.func], none⟩),
  (101, ⟨.func, 1, 8, [.func], none⟩),
  (102, ⟨.strct [(100, 0), (101, 1)], 2, 16, [.func, .func], none⟩),
  (103, ⟨.strct [(100, 0), (101, 1)], 2, 16, [.func, .func], none⟩),
  (105, ⟨.ptr 107, 1, 8, [.ptr], none⟩),
  (106, ⟨.strct [(65, 0), (3, 4), (87, 5)], 6, 112, [.slice, .slice, .slice, .slice, .int .i64, .map], none⟩),
  (107, ⟨.strct [(65, 0), (3, 4), (87, 5)], 6, 112, [.slice, .slice, .slice, .slice, .int .i64, .map], none⟩),
  (108, ⟨.func, 1, 8, [.func], none⟩),
  (109, ⟨.func, 1, 8, [.func], none⟩),
  (110, ⟨.func, 1, 8, [.func], none⟩),
  (111, ⟨.map 71 4, 1, 8, [.map], none⟩),
  (112, ⟨.func, 1, 8, [.func], none⟩),
  (113, ⟨.func, 1, 8, [.func], none⟩),
  (114, ⟨.func, 1, 8, [.func], none⟩),
  (115, ⟨.func, 1, 8, [.func], none⟩),
  (116, ⟨.func, 1, 8, [.func], none⟩),
  (117, ⟨.func, 1, 8, [.func], none⟩),
  (118, ⟨.func, 1, 8, [.func], none⟩),
  (119, ⟨.func, 1, 8, [.func], none⟩),
  (120, ⟨.func, 1, 8, [.func], none⟩),
  (121, ⟨.int .u64, 1, 8, [.int .u64], none⟩),
  (122, ⟨.ptr 90, 1, 8, [.ptr], none⟩),
  (123, ⟨.func, 1, 8, [.func], none⟩),
  (124, ⟨.func, 1, 8, [.func], none⟩),
  (125, ⟨.map 3 4, 1, 8, [.map], none⟩),
  (126, ⟨.func, 1, 8, [.func], none⟩),
  (127, ⟨.func, 1, 8, [.func], none⟩),
  (128, ⟨.func, 1, 8, [.func], none⟩),
  (129, ⟨.int .i64, 1, 8, [.int .i64], none⟩),
  (131, ⟨.func, 1, 8, [.func], none⟩),
  (132, ⟨.func, 1, 8, [.func], none⟩),
  (133, ⟨.func, 1, 8, [.func], none⟩),
  (135, ⟨.func, 1, 8, [.func], none⟩),
  (136, ⟨.func, 1, 8, [.func], none⟩),
  (137, ⟨.int .u32, 1, 4, [.int .u32], none⟩),
  (138, ⟨.func, 1, 8, [.func], none⟩),
  (139, ⟨.int .u64, 1, 8, [.int .u64], none⟩),
  (140, ⟨.func, 1, 8, [.func], none⟩),
  (141, ⟨.strct [(3, 0), (3, 1), (24, 2)], 6, 48, [.int .i64, .int .i64, .int .i64, .int .i64, .int .i64, .int .i64], some [false, false, false, false, false, false]⟩),
  (142, ⟨.strct [(3, 0), (3, 1), (24, 2)], 6, 48, [.int .i64, .int .i64, .int .i64, .int .i64, .int .i64, .int .i64], some [false, false, false, false, false, false]⟩),
  (143, ⟨.strct [(3, 0), (3, 1), (3, 2), (24, 3)], 7, 56, [.int .i64, .int .i64, .int .i64, .int .i64, .int .i64, .int .i64, .int .i64], some [false, false, false, false, false, false, false]⟩),
  (144, ⟨.strct [(3, 0), (3, 1), (3, 2), (24, 3)], 7, 56, [.int .i64, .int .i64, .int .i64, .int .i64, .int .i64, .int .i64, .int .i64], some [false, false, false, false, false, false, false]⟩),
  (146, ⟨.func, 1, 8, [.func], none⟩),
  (148, ⟨.func, 1, 8, [.func], none⟩),
  (150, ⟨.func, 1, 8, [.func], none⟩),
  (151, ⟨.func, 1, 8, [.func], none⟩),
  (152, ⟨.func, 1, 8, [.func], none⟩),
  (153, ⟨.int .u64, 1, 8, [.int .u64], none⟩),
  (154, ⟨.func, 1, 8, [.func], none⟩),
  (155, ⟨.func, 1, 8, [.func], none⟩),
  (156, ⟨.func, 1, 8, [.func], none⟩),
  (157, ⟨.ptr 3, 1, 8, [.ptr], none⟩),
  (158, ⟨.func, 1, 8, [.func], none⟩),
  (159, ⟨.func, 1, 8, [.func], none⟩),
  (160, ⟨.func, 1, 8, [.func], none⟩),
  (161, ⟨.ptr 153, 1, 8, [.ptr], none⟩),
  (163, ⟨.func, 1, 8, [.func], none⟩),
  (164, ⟨.func, 1, 8, [.func], none⟩),
  (165, ⟨.strct [(17, 0), (17, 1), (17, 2), (9, 3)], 4, 40, [.ptr, .ptr, .ptr, .str], none⟩),
  (167, ⟨.array 0 16, 0, 0, [], none⟩),
  (168, ⟨.strct [(167, 0)], 0, 0, [], none⟩),
  (170, ⟨.func, 1, 8, [.func], none⟩),
  (173, ⟨.func, 1, 8, [.func], none⟩),
  (174, ⟨.ptr 5, 1, 8, [.ptr], none⟩),
  (177, ⟨.strct [(12, 0), (12, 1), (137, 2), (171, 3), (5, 4), (5, 5), (172, 6), (173, 7), (174, 8), (175, 9), (176, 10)], 11, 48, [.int .u64, .int .u64, .int .u32, .int .u8, .int .u8, .int .u8, .int .u8, .func, .ptr, .int .i32, .int .i32], none⟩)]

@[go_sem] theorem Γ_1 : Γ.get 1 = some ⟨.func, 1, 8, [.func], none⟩ := rfl
@[go_sem] theorem Γ_2 : Γ.get 2 = some ⟨.int .i64, 1, 8, [.int .i64], none⟩ := rfl
@[go_sem] theorem Γ_3 : Γ.get 3 = some ⟨.int .i64, 1, 8, [.int .i64], none⟩ := rfl
@[go_sem] theorem Γ_4 : Γ.get 4 = some ⟨.bool, 1, 1, [.bool], none⟩ := rfl
@[go_sem] theorem Γ_5 : Γ.get 5 = some ⟨.int .u8, 1, 1, [.int .u8], none⟩ := rfl
@[go_sem] theorem Γ_9 : Γ.get 9 = some ⟨.str, 1, 16, [.str], none⟩ := rfl
@[go_sem] theorem Γ_12 : Γ.get 12 = some ⟨.int .u64, 1, 8, [.int .u64], none⟩ := rfl
@[go_sem] theorem Γ_20 : Γ.get 20 = some ⟨.iface, 1, 16, [.iface], none⟩ := rfl
@[go_sem] theorem Γ_21 : Γ.get 21 = some ⟨.int .i32, 1, 4, [.int .i32], none⟩ := rfl
@[go_sem] theorem Γ_22 : Γ.get 22 = some ⟨.slice 31, 1, 24, [.slice], none⟩ := rfl
@[go_sem] theorem Γ_23 : Γ.get 23 = some ⟨.strct [(3, 0), (3, 1), (3, 2), (3, 3)], 4, 32, [.int .i64, .int .i64, .int .i64, .int .i64], some [false, false, false, false]⟩ := rfl
@[go_sem] theorem Γ_24 : Γ.get 24 = some ⟨.strct [(3, 0), (3, 1), (3, 2), (3, 3)], 4, 32, [.int .i64, .int .i64, .int .i64, .int .i64], some [false, false, false, false]⟩ := rfl
@[go_sem] theorem Γ_25 : Γ.get 25 = some ⟨.slice 3, 1, 24, [.slice], none⟩ := rfl
@[go_sem] theorem Γ_26 : Γ.get 26 = some ⟨.strct [(24, 0), (3, 4), (25, 5)], 6, 64, [.int .i64, .int .i64, .int .i64, .int .i64, .int .i64, .slice], none⟩ := rfl
@[go_sem] theorem Γ_27 : Γ.get 27 = some ⟨.strct [(24, 0), (3, 4), (25, 5)], 6, 64, [.int .i64, .int .i64, .int .i64, .int .i64, .int .i64, .slice], none⟩ := rfl
@[go_sem] theorem Γ_28 : Γ.get 28 = some ⟨.func, 1, 8, [.func], none⟩ := rfl
@[go_sem] theorem Γ_29 : Γ.get 29 = some ⟨.slice 27, 1, 24, [.slice], none⟩ := rfl
@[go_sem] theorem Γ_30 : Γ.get 30 = some ⟨.strct [(3, 0), (29, 1)], 2, 32, [.int .i64, .slice], none⟩ := rfl
@[go_sem] theorem Γ_31 : Γ.get 31 = some ⟨.strct [(3, 0), (29, 1)], 2, 32, [.int .i64, .slice], none⟩ := rfl
@[go_sem] theorem Γ_32 : Γ.get 32 = some ⟨.func, 1, 8, [.func], none⟩ := rfl
@[go_sem] theorem Γ_33 : Γ.get 33 = some ⟨.slice 51, 1, 24, [.slice], none⟩ := rfl
@[go_sem] theorem Γ_34 : Γ.get 34 = some ⟨.int .i64, 1, 8, [.int .i64], none⟩ := rfl
@[go_sem] theorem Γ_36 : Γ.get 36 = some ⟨.func, 1, 8, [.func], none⟩ := rfl
@[go_sem] theorem Γ_37 : Γ.get 37 = some ⟨.func, 1, 8, [.func], none⟩ := rfl
@[go_sem] theorem Γ_38 : Γ.get 38 = some ⟨.slice 24, 1, 24, [.slice], none⟩ := rfl
@[go_sem] theorem Γ_40 : Γ.get 40 = some ⟨.func, 1, 8, [.func], none⟩ := rfl
@[go_sem] theorem Γ_41 : Γ.get 41 = some ⟨.func, 1, 8, [.func], none⟩ := rfl
@[go_sem] theorem Γ_43 : Γ.get 43 = some ⟨.func, 1, 8, [.func], none⟩ := rfl
@[go_sem] theorem Γ_44 : Γ.get 44 = some ⟨.func, 1, 8, [.func], none⟩ := rfl
@[go_sem] theorem Γ_45 : Γ.get 45 = some ⟨.func, 1, 8, [.func], none⟩ := rfl
@[go_sem] theorem Γ_46 : Γ.get 46 = some ⟨.func, 1, 8, [.func], none⟩ := rfl
@[go_sem] theorem Γ_47 : Γ.get 47 = some ⟨.func, 1, 8, [.func], none⟩ := rfl
@[go_sem] theorem Γ_48 : Γ.get 48 = some ⟨.slice 4, 1, 24, [.slice], none⟩ := rfl
@[go_sem] theorem Γ_49 : Γ.get 49 = some ⟨.func, 1, 8, [.func], none⟩ := rfl
@[go_sem] theorem Γ_50 : Γ.get 50 = some ⟨.strct [(3, 0), (3, 1), (3, 2)], 3, 24, [.int .i64, .int .i64, .int .i64], some [false, false, false]⟩ := rfl
@[go_sem] theorem Γ_51 : Γ.get 51 = some ⟨.strct [(3, 0), (3, 1), (3, 2)], 3, 24, [.int .i64, .int .i64, .int .i64], some [false, false, false]⟩ := rfl
@[go_sem] theorem Γ_53 : Γ.get 53 = some ⟨.func, 1, 8, [.func], none⟩ := rfl
@[go_sem] theorem Γ_54 : Γ.get 54 = some ⟨.func, 1, 8, [.func], none⟩ := rfl
@[go_sem] theorem Γ_55 : Γ.get 55 = some ⟨.func, 1, 8, [.func], none⟩ := rfl
@[go_sem] theorem Γ_56 : Γ.get 56 = some ⟨.func, 1, 8, [.func], none⟩ := rfl
@[go_sem] theorem Γ_57 : Γ.get 57 = some ⟨.func, 1, 8, [.func], none⟩ := rfl
@[go_sem] theorem Γ_58 : Γ.get 58 = some ⟨.slice 99, 1, 24, [.slice], none⟩ := rfl
@[go_sem] theorem Γ_59 : Γ.get 59 = some ⟨.slice 5, 1, 24, [.slice], none⟩ := rfl
@[go_sem] theorem Γ_60 : Γ.get 60 = some ⟨.slice 142, 1, 24, [.slice], none⟩ := rfl
@[go_sem] theorem Γ_61 : Γ.get 61 = some ⟨.slice 144, 1, 24, [.slice], none⟩ := rfl
@[go_sem] theorem Γ_62 : Γ.get 62 = some ⟨.slice 71, 1, 24, [.slice], none⟩ := rfl
@[go_sem] theorem Γ_63 : Γ.get 63 = some ⟨.slice 73, 1, 24, [.slice], none⟩ := rfl
@[go_sem] theorem Γ_64 : Γ.get 64 = some ⟨.strct [(60, 0), (61, 1), (62, 2), (63, 3)], 4, 96, [.slice, .slice, .slice, .slice], none⟩ := rfl
@[go_sem] theorem Γ_65 : Γ.get 65 = some ⟨.strct [(60, 0), (61, 1), (62, 2), (63, 3)], 4, 96, [.slice, .slice, .slice, .slice], none⟩ := rfl
@[go_sem] theorem Γ_67 : Γ.get 67 = some ⟨.func, 1, 8, [.func], none⟩ := rfl
@[go_sem] theorem Γ_69 : Γ.get 69 = some ⟨.func, 1, 8, [.func], none⟩ := rfl
@[go_sem] theorem Γ_70 : Γ.get 70 = some ⟨.strct [(3, 0), (24, 1)], 5, 40, [.int .i64, .int .i64, .int .i64, .int .i64, .int .i64], some [false, false, false, false, false]⟩ := rfl
@[go_sem] theorem Γ_71 : Γ.get 71 = some ⟨.strct [(3, 0), (24, 1)], 5, 40, [.int .i64, .int .i64, .int .i64, .int .i64, .int .i64], some [false, false, false, false, false]⟩ := rfl
@[go_sem] theorem Γ_72 : Γ.get 72 = some ⟨.strct [(3, 0), (3, 1), (24, 2)], 6, 48, [.int .i64, .int .i64, .int .i64, .int .i64, .int .i64, .int .i64], some [false, false, false, false, false, false]⟩ := rfl
@[go_sem] theorem Γ_73 : Γ.get 73 = some ⟨.strct [(3, 0), (3, 1), (24, 2)], 6, 48, [.int .i64, .int .i64, .int .i64, .int .i64, .int .i64, .int .i64], some [false, false, false, false, false, false]⟩ := rfl
@[go_sem] theorem Γ_74 : Γ.get 74 = some ⟨.func, 1, 8, [.func], none⟩ := rfl
@[go_sem] theorem Γ_75 : Γ.get 75 = some ⟨.func, 1, 8, [.func], none⟩ := rfl
@[go_sem] theorem Γ_76 : Γ.get 76 = some ⟨.func, 1, 8, [.func], none⟩ := rfl
@[go_sem] theorem Γ_77 : Γ.get 77 = some ⟨.map 3 82, 1, 8, [.map], none⟩ := rfl
@[go_sem] theorem Γ_78 : Γ.get 78 = some ⟨.func, 1, 8, [.func], none⟩ := rfl
@[go_sem] theorem Γ_79 : Γ.get 79 = some ⟨.func, 1, 8, [.func], none⟩ := rfl
@[go_sem] theorem Γ_80 : Γ.get 80 = some ⟨.func, 1, 8, [.func], none⟩ := rfl
@[go_sem] theorem Γ_81 : Γ.get 81 = some ⟨.func, 1, 8, [.func], none⟩ := rfl
@[go_sem] theorem Γ_82 : Γ.get 82 = some ⟨.map 3 27, 1, 8, [.map], none⟩ := rfl
@[go_sem] theorem Γ_83 : Γ.get 83 = some ⟨.func, 1, 8, [.func], none⟩ := rfl
@[go_sem] theorem Γ_84 : Γ.get 84 = some ⟨.func, 1, 8, [.func], none⟩ := rfl
@[go_sem] theorem Γ_85 : Γ.get 85 = some ⟨.func, 1, 8, [.func], none⟩ := rfl
@[go_sem] theorem Γ_86 : Γ.get 86 = some ⟨.func, 1, 8, [.func], none⟩ := rfl
@[go_sem] theorem Γ_87 : Γ.get 87 = some ⟨.map 3 24, 1, 8, [.map], none⟩ := rfl
@[go_sem] theorem Γ_89 : Γ.get 89 = some ⟨.array 8 4, 8, 8, [.bool, .bool, .bool, .bool, .bool, .bool, .bool, .bool], some [true, true, true, true, true, true, true, true]⟩ := rfl
@[go_sem] theorem Γ_90 : Γ.get 90 = some ⟨.array 8 4, 8, 8, [.bool, .bool, .bool, .bool, .bool, .bool, .bool, .bool], some [true, true, true, true, true, true, true, true]⟩ := rfl
@[go_sem] theorem Γ_91 : Γ.get 91 = some ⟨.func, 1, 8, [.func], none⟩ := rfl
@[go_sem] theorem Γ_92 : Γ.get 92 = some ⟨.func, 1, 8, [.func], none⟩ := rfl
@[go_sem] theorem Γ_93 : Γ.get 93 = some ⟨.func, 1, 8, [.func], none⟩ := rfl
@[go_sem] theorem Γ_94 : Γ.get 94 = some ⟨.func, 1, 8, [.func], none⟩ := rfl
@[go_sem] theorem Γ_95 : Γ.get 95 = some ⟨.func, 1, 8, [.func], none⟩ := rfl
@[go_sem] theorem Γ_96 : Γ.get 96 = some ⟨.map 3 103, 1, 8, [.map], none⟩ := rfl
@[go_sem] theorem Γ_97 : Γ.get 97 = some ⟨.func, 1, 8, [.func], none⟩ := rfl
@[go_sem] theorem Γ_98 : Γ.get 98 = some ⟨.strct [(3, 0), (3, 1), (3, 2), (24, 3)], 7, 56, [.int .i64, .int .i64, .int .i64, .int .i64, .int .i64, .int .i64, .int .i64], some [false, false, false, false, false, false, false]⟩ := rfl
@[go_sem] theorem Γ_99 : Γ.get 99 = some ⟨.strct [(3, 0), (3, 1), (3, 2), (24, 3)], 7, 56, [.int .i64, .int .i64, .int .i64, .int .i64, .int .i64, .int .i64, .int .i64], some [false, false, false, false, false, false, false]⟩ := rfl
@[go_sem] theorem Γ_100 : Γ.get 100 = some ⟨.func, 1, 8, [.func], none⟩ := rfl
@[go_sem] theorem Γ_101 : Γ.get 101 = some ⟨.func, 1, 8, [.func], none⟩ := rfl
@[go_sem] theorem Γ_102 : Γ.get 102 = some ⟨.strct [(100, 0), (101, 1)], 2, 16, [.func, .func], none⟩ := rfl
@[go_sem] theorem Γ_103 : Γ.get 103 = some ⟨.strct [(100, 0), (101, 1)], 2, 16, [.func, .func], none⟩ := rfl
@[go_sem] theorem Γ_105 : Γ.get 105 = some ⟨.ptr 107, 1, 8, [.ptr], none⟩ := rfl
@[go_sem] theorem Γ_106 : Γ.get 106 = some ⟨.strct [(65, 0), (3, 4), (87, 5)], 6, 112, [.slice, .slice, .slice, .slice, .int .i64, .map], none⟩ := rfl
@[go_sem] theorem Γ_107 : Γ.get 107 = some ⟨.strct [(65, 0), (3, 4), (87, 5)], 6, 112, [.slice, .slice, .slice, .slice, .int .i64, .map], none⟩ := rfl
@[go_sem] theorem Γ_108 : Γ.get 108 = some ⟨.func, 1, 8, [.func], none⟩ := rfl
@[go_sem] theorem Γ_109 : Γ.get 109 = some ⟨.func, 1, 8, [.func], none⟩ := rfl
@[go_sem] theorem Γ_110 : Γ.get 110 = some ⟨.func, 1, 8, [.func], none⟩ := rfl
@[go_sem] theorem Γ_111 : Γ.get 111 = some ⟨.map 71 4, 1, 8, [.map], none⟩ := rfl
@[go_sem] theorem Γ_112 : Γ.get 112 = some ⟨.func, 1, 8, [.func], none⟩ := rfl
@[go_sem] theorem Γ_113 : Γ.get 113 = some ⟨.func, 1, 8, [.func], none⟩ := rfl
@[go_sem] theorem Γ_114 : Γ.get 114 = some ⟨.func, 1, 8, [.func], none⟩ := rfl
@[go_sem] theorem Γ_115 : Γ.get 115 = some ⟨.func, 1, 8, [.func], none⟩ := rfl
@[go_sem] theorem Γ_116 : Γ.get 116 = some ⟨.func, 1, 8, [.func], none⟩ := rfl
@[go_sem] theorem Γ_117 : Γ.get 117 = some ⟨.func, 1, 8, [.func], none⟩ := rfl
@[go_sem] theorem Γ_118 : Γ.get 118 = some ⟨.func, 1, 8, [.func], none⟩ := rfl
@[go_sem] theorem Γ_119 : Γ.get 119 = some ⟨.func, 1, 8, [.func], none⟩ := rfl
@[go_sem] theorem Γ_120 : Γ.get 120 = some ⟨.func, 1, 8, [.func], none⟩ := rfl
@[go_sem] theorem Γ_121 : Γ.get 121 = some ⟨.int .u64, 1, 8, [.int .u64], none⟩ := rfl
@[go_sem] theorem Γ_122 : Γ.get 122 = some ⟨.ptr 90, 1, 8, [.ptr], none⟩ := rfl
@[go_sem] theorem Γ_123 : Γ.get 123 = some ⟨.func, 1, 8, [.func], none⟩ := rfl
@[go_sem] theorem Γ_124 : Γ.get 124 = some ⟨.func, 1, 8, [.func], none⟩ := rfl
@[go_sem] theorem Γ_125 : Γ.get 125 = some ⟨.map 3 4, 1, 8, [.map], none⟩ := rfl
@[go_sem] theorem Γ_126 : Γ.get 126 = some ⟨.func, 1, 8, [.func], none⟩ := rfl
@[go_sem] theorem Γ_127 : Γ.get 127 = some ⟨.func, 1, 8, [.func], none⟩ := rfl
@[go_sem] theorem Γ_128 : Γ.get 128 = some ⟨.func, 1, 8, [.func], none⟩ := rfl
@[go_sem] theorem Γ_129 : Γ.get 129 = some ⟨.int .i64, 1, 8, [.int .i64], none⟩ := rfl
@[go_sem] theorem Γ_131 : Γ.get 131 = some ⟨.func, 1, 8, [.func], none⟩ := rfl
@[go_sem] theorem Γ_132 : Γ.get 132 = some ⟨.func, 1, 8, [.func], none⟩ := rfl
@[go_sem] theorem Γ_133 : Γ.get 133 = some ⟨.func, 1, 8, [.func], none⟩ := rfl
@[go_sem] theorem Γ_135 : Γ.get 135 = some ⟨.func, 1, 8, [.func], none⟩ := rfl
@[go_sem] theorem Γ_136 : Γ.get 136 = some ⟨.func, 1, 8, [.func], none⟩ := rfl
@[go_sem] theorem Γ_137 : Γ.get 137 = some ⟨.int .u32, 1, 4, [.int .u32], none⟩ := rfl
@[go_sem] theorem Γ_138 : Γ.get 138 = some ⟨.func, 1, 8, [.func], none⟩ := rfl
@[go_sem] theorem Γ_139 : Γ.get 139 = some ⟨.int .u64, 1, 8, [.int .u64], none⟩ := rfl
@[go_sem] theorem Γ_140 : Γ.get 140 = some ⟨.func, 1, 8, [.func], none⟩ := rfl
@[go_sem] theorem Γ_141 : Γ.get 141 = some ⟨.strct [(3, 0), (3, 1), (24, 2)], 6, 48, [.int .i64, .int .i64, .int .i64, .int .i64, .int .i64, .int .i64], some [false, false, false, false, false, false]⟩ := rfl
@[go_sem] theorem Γ_142 : Γ.get 142 = some ⟨.strct [(3, 0), (3, 1), (24, 2)], 6, 48, [.int .i64, .int .i64, .int .i64, .int .i64, .int .i64, .int .i64], some [false, false, false, false, false, false]⟩ := rfl
@[go_sem] theorem Γ_143 : Γ.get 143 = some ⟨.strct [(3, 0), (3, 1), (3, 2), (24, 3)], 7, 56, [.int .i64, .int .i64, .int .i64, .int .i64, .int .i64, .int .i64, .int .i64], some [false, false, false, false, false, false, false]⟩ := rfl
@[go_sem] theorem Γ_144 : Γ.get 144 = some ⟨.strct [(3, 0), (3, 1), (3, 2), (24, 3)], 7, 56, [.int .i64, .int .i64, .int .i64, .int .i64, .int .i64, .int .i64, .int .i64], some [false, false, false, false, false, false, false]⟩ := rfl
@[go_sem] theorem Γ_146 : Γ.get 146 = some ⟨.func, 1, 8, [.func], none⟩ := rfl
@[go_sem] theorem Γ_148 : Γ.get 148 = some ⟨.func, 1, 8, [.func], none⟩ := rfl
@[go_sem] theorem Γ_150 : Γ.get 150 = some ⟨.func, 1, 8, [.func], none⟩ := rfl
@[go_sem] theorem Γ_151 : Γ.get 151 = some ⟨.func, 1, 8, [.func], none⟩ := rfl
@[go_sem] theorem Γ_152 : Γ.get 152 = some ⟨.func, 1, 8, [.func], none⟩ := rfl
@[go_sem] theorem Γ_153 : Γ.get 153 = some ⟨.int .u64, 1, 8, [.int .u64], none⟩ := rfl
@[go_sem] theorem Γ_154 : Γ.get 154 = some ⟨.func, 1, 8, [.func], none⟩ := rfl
@[go_sem] theorem Γ_155 : Γ.get 155 = some ⟨.func, 1, 8, [.func], none⟩ := rfl
@[go_sem] theorem Γ_156 : Γ.get 156 = some ⟨.func, 1, 8, [.func], none⟩ := rfl
@[go_sem] theorem Γ_157 : Γ.get 157 = some ⟨.ptr 3, 1, 8, [.ptr], none⟩ := rfl
@[go_sem] theorem Γ_158 : Γ.get 158 = some ⟨.func, 1, 8, [.func], none⟩ := rfl
@[go_sem] theorem Γ_159 : Γ.get 159 = some ⟨.func, 1, 8, [.func], none⟩ := rfl
@[go_sem] theorem Γ_160 : Γ.get 160 = some ⟨.func, 1, 8, [.func], none⟩ := rfl
@[go_sem] theorem Γ_161 : Γ.get 161 = some ⟨.ptr 153, 1, 8, [.ptr], none⟩ := rfl
@[go_sem] theorem Γ_163 : Γ.get 163 = some ⟨.func, 1, 8, [.func], none⟩ := rfl
@[go_sem] theorem Γ_164 : Γ.get 164 = some ⟨.func, 1, 8, [.func], none⟩ := rfl
@[go_sem] theorem Γ_165 : Γ.get 165 = some ⟨.strct [(17, 0), (17, 1), (17, 2), (9, 3)], 4, 40, [.ptr, .ptr, .ptr, .str], none⟩ := rfl
@[go_sem] theorem Γ_167 : Γ.get 167 = some ⟨.array 0 16, 0, 0, [], none⟩ := rfl
@[go_sem] theorem Γ_168 : Γ.get 168 = some ⟨.strct [(167, 0)], 0, 0, [], none⟩ := rfl
@[go_sem] theorem Γ_170 : Γ.get 170 = some ⟨.func, 1, 8, [.func], none⟩ := rfl
@[go_sem] theorem Γ_173 : Γ.get 173 = some ⟨.func, 1, 8, [.func], none⟩ := rfl
@[go_sem] theorem Γ_174 : Γ.get 174 = some ⟨.ptr 5, 1, 8, [.ptr], none⟩ := rfl
@[go_sem] theorem Γ_177 : Γ.get 177 = some ⟨.strct [(12, 0), (12, 1), (137, 2), (171, 3), (5, 4), (5, 5), (172, 6), (173, 7), (174, 8), (175, 9), (176, 10)], 11, 48, [.int .u64, .int .u64, .int .u32, .int .u8, .int .u8, .int .u8, .int .u8, .func, .ptr, .int .i32, .int .i32], none⟩ := rfl
theorem Γ_chk : Γ.chk Try.prog = true := by kernel_rfl
theorem drawsAny : Try.prog.follows .mixedOrders = true := by kernel_rfl
theorem Γ_ok : TabOk Try.prog Γ := tabOk_of_chk Γ_chk

end Go.Proofs.Ythikkiacgmgdhaa
