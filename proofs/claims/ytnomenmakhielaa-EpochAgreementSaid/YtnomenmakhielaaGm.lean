/-
  The type table of this program as plain data, held against the program.
-/
import Derived.Test.YtnomenmakhielaaAb11
import Derived.Test.YtnomenmakhielaaProg
import Derived.KernelRfl
namespace Go.Proofs.Ytnomenmakhielaa
open Go.Ab

def Γ : Tab := [
  (1, ⟨.func, 1, 8, [.func], none⟩),
  (2, ⟨.int .i64, 1, 8, [.int .i64], none⟩),
  (3, ⟨.int .i64, 1, 8, [.int .i64], none⟩),
  (4, ⟨.bool, 1, 1, [.bool], none⟩),
  (5, ⟨.int .u8, 1, 1, [.int .u8], none⟩),
  (9, ⟨.str, 1, 16, [.str], none⟩),
  (12, ⟨.int .u64, 1, 8, [.int .u64], none⟩),
  (20, ⟨.iface, 1, 16, [.iface], none⟩),
  (21, ⟨.int .i32, 1, 4, [.int .i32], none⟩),
  (22, ⟨.slice 60, 1, 24, [.slice], none⟩),
  (23, ⟨.func, 1, 8, [.func], none⟩),
  (24, ⟨.slice 41, 1, 24, [.slice], none⟩),
  (26, ⟨.func, 1, 8, [.func], none⟩),
  (27, ⟨.slice 101, 1, 24, [.slice], none⟩),
  (28, ⟨.slice 103, 1, 24, [.slice], none⟩),
  (29, ⟨.slice 56, 1, 24, [.slice], none⟩),
  (30, ⟨.slice 82, 1, 24, [.slice], none⟩),
  (31, ⟨.strct [(27, 0), (28, 1), (29, 2), (30, 3)], 4, 96, [.slice, .slice, .slice, .slice], none⟩),
  (32, ⟨.strct [(27, 0), (28, 1), (29, 2), (30, 3)], 4, 96, [.slice, .slice, .slice, .slice], none⟩),
  (33, ⟨.int .i64, 1, 8, [.int .i64], none⟩),
  (35, ⟨.func, 1, 8, [.func], none⟩),
  (37, ⟨.func, 1, 8, [.func], none⟩),
  (38, ⟨.func, 1, 8, [.func], none⟩),
  (39, ⟨.func, 1, 8, [.func], none⟩),
  (40, ⟨.strct [(3, 0), (3, 1), (3, 2), (3, 3)], 4, 32, [.int .i64, .int .i64, .int .i64, .int .i64], some [false, false, false, false]⟩),
  (41, ⟨.strct [(3, 0), (3, 1), (3, 2), (3, 3)], 4, 32, [.int .i64, .int .i64, .int .i64, .int .i64], some [false, false, false, false]⟩),
  (43, ⟨.func, 1, 8, [.func], none⟩),
  (44, ⟨.func, 1, 8, [.func], none⟩),
  (45, ⟨.func, 1, 8, [.func], none⟩),
  (46, ⟨.slice 3, 1, 24, [.slice], none⟩),
  (48, ⟨.func, 1, 8, [.func], none⟩),
  (50, ⟨.func, 1, 8, [.func], none⟩),
  (51, ⟨.func, 1, 8, [.func], none⟩),
  (52, ⟨.func, 1, 8, [.func], none⟩),
  (54, ⟨.func, 1, 8, [.func], none⟩),
  (55, ⟨.strct [(3, 0), (41, 1)], 5, 40, [.int .i64, .int .i64, .int .i64, .int .i64, .int .i64], some [false, false, false, false, false]⟩),
  (56, ⟨.strct [(3, 0), (41, 1)], 5, 40, [.int .i64, .int .i64, .int .i64, .int .i64, .int .i64], some [false, false, false, false, false]⟩),
  (57, ⟨.map 3 64, 1, 8, [.map], none⟩),
  (58, ⟨.func, 1, 8, [.func], none⟩),
  (59, ⟨.strct [(3, 0), (3, 1), (3, 2), (41, 3)], 7, 56, [.int .i64, .int .i64, .int .i64, .int .i64, .int .i64, .int .i64, .int .i64], some [false, false, false, false, false, false, false]⟩),
  (60, ⟨.strct [(3, 0), (3, 1), (3, 2), (41, 3)], 7, 56, [.int .i64, .int .i64, .int .i64, .int .i64, .int .i64, .int .i64, .int .i64], some [false, false, false, false, false, false, false]⟩),
  (61, ⟨.func, 1, 8, [.func], none⟩),
  (62, ⟨.func, 1, 8, [.func], none⟩),
  (63, ⟨.strct [(61, 0), (62, 1)], 2, 16, [.func, .func], none⟩),
  (64, ⟨.strct [(61, 0), (62, 1)], 2, 16, [.func, .func], none⟩),
  (66, ⟨.func, 1, 8, [.func], none⟩),
  (67, ⟨.ptr 70, 1, 8, [.ptr], none⟩),
  (68, ⟨.map 3 41, 1, 8, [.map], none⟩),
  (69, ⟨.strct [(32, 0), (3, 4), (68, 5)], 6, 112, [.slice, .slice, .slice, .slice, .int .i64, .map], none⟩),
  (70, ⟨.strct [(32, 0), (3, 4), (68, 5)], 6, 112, [.slice, .slice, .slice, .slice, .int .i64, .map], none⟩),
  (71, ⟨.func, 1, 8, [.func], none⟩),
  (72, ⟨.func, 1, 8, [.func], none⟩),
  (73, ⟨.func, 1, 8, [.func], none⟩),
  (74, ⟨.strct [(24, 0), (73, 1)], 2, 32, [.slice, .func], none⟩),
  (75, ⟨.strct [(24, 0), (73, 1)], 2, 32, [.slice, .func], none⟩),
  (76, ⟨.func, 1, 8, [.func], none⟩),
  (77, ⟨.func, 1, 8, [.func], none⟩),
  (78, ⟨.func, 1, 8, [.func], none⟩),
  (79, ⟨.func, 1, 8, [.func], none⟩),
  (81, ⟨.strct [(3, 0), (3, 1), (41, 2)], 6, 48, [.int .i64, .int .i64, .int .i64, .int .i64, .int .i64, .int .i64], some [false, false, false, false, false, false]⟩),
  (82, ⟨.strct [(3, 0), (3, 1), (41, 2)], 6, 48, [.int .i64, .int .i64, .int .i64, .int .i64, .int .i64, .int .i64], some [false, false, false, false, false, false]⟩),
  (83, ⟨.func, 1, 8, [.func], none⟩),
  (84, ⟨.func, 1, 8, [.func], none⟩),
  (85, ⟨.func, 1, 8, [.func], none⟩),
  (86, ⟨.map 56 4, 1, 8, [.map], none⟩),
  (87, ⟨.func, 1, 8, [.func], none⟩),
  (88, ⟨.func, 1, 8, [.func], none⟩),
  (89, ⟨.func, 1, 8, [.func], none⟩),
  (90, ⟨.func, 1, 8, [.func], none⟩),
  (91, ⟨.func, 1, 8, [.func], none⟩),
  (92, ⟨.func, 1, 8, [.func], none⟩),
  (93, ⟨.func, 1, 8, [.func], none⟩),
  (94, ⟨.func, 1, 8, [.func], none⟩),
  (95, ⟨.func, 1, 8, [.func], none⟩),
  (96, ⟨.func, 1, 8, [.func], none⟩),
  (97, ⟨.func, 1, 8, [.func], none⟩),
  (98, ⟨.map 3 4, 1, 8, [.map], none⟩),
  (99, ⟨.func, 1, 8, [.func], none⟩),
  (100, ⟨.strct [(3, 0), (3, 1), (41, 2)], 6, 48, [.int .i64, .int .i64, .int .i64, .int .i64, .int .i64, .int .i64], some [false, false, false, false, false, false]⟩),
  (101, ⟨.strct [(3, 0), (3, 1), (41, 2)], 6, 48, [.int .i64, .int .i64, .int .i64, .int .i64, .int .i64, .int .i64], some [false, false, false, false, false, false]⟩),
  (102, ⟨.strct [(3, 0), (3, 1), (3, 2), (41, 3)], 7, 56, [.int .i64, .int .i64, .int .i64, .int .i64, .int .i64, .int .i64, .int .i64], some [false, false, false, false, false, false, false]⟩),
  (103, ⟨.strct [(3, 0), (3, 1), (3, 2), (41, 3)], 7, 56, [.int .i64, .int .i64, .int .i64, .int .i64, .int .i64, .int .i64, .int .i64], some [false, false, false, false, false, false, false]⟩),
  (105, ⟨.func, 1, 8, [.func], none⟩),
  (107, ⟨.func, 1, 8, [.func], none⟩),
  (109, ⟨.func, 1, 8, [.func], none⟩),
  (110, ⟨.func, 1, 8, [.func], none⟩),
  (111, ⟨.int .u64, 1, 8, [.int .u64], none⟩),
  (112, ⟨.func, 1, 8, [.func], none⟩),
  (113, ⟨.func, 1, 8, [.func], none⟩),
  (114, ⟨.func, 1, 8, [.func], none⟩),
  (115, ⟨.func, 1, 8, [.func], none⟩),
  (116, ⟨.func, 1, 8, [.func], none⟩),
  (117, ⟨.func, 1, 8, [.func], none⟩),
  (118, ⟨.strct [(17, 0), (17, 1), (17, 2), (9, 3)], 4, 40, [.ptr, .ptr, .ptr, .str], none⟩),
  (120, ⟨.array 0 16, 0, 0, [], none⟩),
  (121, ⟨.strct [(120, 0)], 0, 0, [], none⟩),
  (123, ⟨.func, 1, 8, [.func], none⟩),
  (124, ⟨.int .u32, 1, 4, [.int .u32], none⟩),
  (127, ⟨.func, 1, 8, [.func], none⟩),
  (128, ⟨.ptr 5, 1, 8, [.ptr], none⟩),
  (131, ⟨.strct [(12, 0), (12, 1), (124, 2), (125, 3), (5, 4), (5, 5), (126, 6), (127, 7), (128, 8), (129, 9), (130, 10)], 11, 48, [.int .u64, .int .u64, .int .u32, .int .u8, .int .u8, .int .u8, .int .u8, .func, .ptr, .int .i32, .int .i32], none⟩)]

@[go_sem] theorem Γ_1 : Γ.get 1 = some ⟨.func, 1, 8, [.func], none⟩ := rfl
@[go_sem] theorem Γ_2 : Γ.get 2 = some ⟨.int .i64, 1, 8, [.int .i64], none⟩ := rfl
@[go_sem] theorem Γ_3 : Γ.get 3 = some ⟨.int .i64, 1, 8, [.int .i64], none⟩ := rfl
@[go_sem] theorem Γ_4 : Γ.get 4 = some ⟨.bool, 1, 1, [.bool], none⟩ := rfl
@[go_sem] theorem Γ_5 : Γ.get 5 = some ⟨.int .u8, 1, 1, [.int .u8], none⟩ := rfl
@[go_sem] theorem Γ_9 : Γ.get 9 = some ⟨.str, 1, 16, [.str], none⟩ := rfl
@[go_sem] theorem Γ_12 : Γ.get 12 = some ⟨.int .u64, 1, 8, [.int .u64], none⟩ := rfl
@[go_sem] theorem Γ_20 : Γ.get 20 = some ⟨.iface, 1, 16, [.iface], none⟩ := rfl
@[go_sem] theorem Γ_21 : Γ.get 21 = some ⟨.int .i32, 1, 4, [.int .i32], none⟩ := rfl
@[go_sem] theorem Γ_22 : Γ.get 22 = some ⟨.slice 60, 1, 24, [.slice], none⟩ := rfl
@[go_sem] theorem Γ_23 : Γ.get 23 = some ⟨.func, 1, 8, [.func], none⟩ := rfl
@[go_sem] theorem Γ_24 : Γ.get 24 = some ⟨.slice 41, 1, 24, [.slice], none⟩ := rfl
@[go_sem] theorem Γ_26 : Γ.get 26 = some ⟨.func, 1, 8, [.func], none⟩ := rfl
@[go_sem] theorem Γ_27 : Γ.get 27 = some ⟨.slice 101, 1, 24, [.slice], none⟩ := rfl
@[go_sem] theorem Γ_28 : Γ.get 28 = some ⟨.slice 103, 1, 24, [.slice], none⟩ := rfl
@[go_sem] theorem Γ_29 : Γ.get 29 = some ⟨.slice 56, 1, 24, [.slice], none⟩ := rfl
@[go_sem] theorem Γ_30 : Γ.get 30 = some ⟨.slice 82, 1, 24, [.slice], none⟩ := rfl
@[go_sem] theorem Γ_31 : Γ.get 31 = some ⟨.strct [(27, 0), (28, 1), (29, 2), (30, 3)], 4, 96, [.slice, .slice, .slice, .slice], none⟩ := rfl
@[go_sem] theorem Γ_32 : Γ.get 32 = some ⟨.strct [(27, 0), (28, 1), (29, 2), (30, 3)], 4, 96, [.slice, .slice, .slice, .slice], none⟩ := rfl
@[go_sem] theorem Γ_33 : Γ.get 33 = some ⟨.int .i64, 1, 8, [.int .i64], none⟩ := rfl
@[go_sem] theorem Γ_35 : Γ.get 35 = some ⟨.func, 1, 8, [.func], none⟩ := rfl
@[go_sem] theorem Γ_37 : Γ.get 37 = some ⟨.func, 1, 8, [.func], none⟩ := rfl
@[go_sem] theorem Γ_38 : Γ.get 38 = some ⟨.func, 1, 8, [.func], none⟩ := rfl
@[go_sem] theorem Γ_39 : Γ.get 39 = some ⟨.func, 1, 8, [.func], none⟩ := rfl
@[go_sem] theorem Γ_40 : Γ.get 40 = some ⟨.strct [(3, 0), (3, 1), (3, 2), (3, 3)], 4, 32, [.int .i64, .int .i64, .int .i64, .int .i64], some [false, false, false, false]⟩ := rfl
@[go_sem] theorem Γ_41 : Γ.get 41 = some ⟨.strct [(3, 0), (3, 1), (3, 2), (3, 3)], 4, 32, [.int .i64, .int .i64, .int .i64, .int .i64], some [false, false, false, false]⟩ := rfl
@[go_sem] theorem Γ_43 : Γ.get 43 = some ⟨.func, 1, 8, [.func], none⟩ := rfl
@[go_sem] theorem Γ_44 : Γ.get 44 = some ⟨.func, 1, 8, [.func], none⟩ := rfl
@[go_sem] theorem Γ_45 : Γ.get 45 = some ⟨.func, 1, 8, [.func], none⟩ := rfl
@[go_sem] theorem Γ_46 : Γ.get 46 = some ⟨.slice 3, 1, 24, [.slice], none⟩ := rfl
@[go_sem] theorem Γ_48 : Γ.get 48 = some ⟨.func, 1, 8, [.func], none⟩ := rfl
@[go_sem] theorem Γ_50 : Γ.get 50 = some ⟨.func, 1, 8, [.func], none⟩ := rfl
@[go_sem] theorem Γ_51 : Γ.get 51 = some ⟨.func, 1, 8, [.func], none⟩ := rfl
@[go_sem] theorem Γ_52 : Γ.get 52 = some ⟨.func, 1, 8, [.func], none⟩ := rfl
@[go_sem] theorem Γ_54 : Γ.get 54 = some ⟨.func, 1, 8, [.func], none⟩ := rfl
@[go_sem] theorem Γ_55 : Γ.get 55 = some ⟨.strct [(3, 0), (41, 1)], 5, 40, [.int .i64, .int .i64, .int .i64, .int .i64, .int .i64], some [false, false, false, false, false]⟩ := rfl
@[go_sem] theorem Γ_56 : Γ.get 56 = some ⟨.strct [(3, 0), (41, 1)], 5, 40, [.int .i64, .int .i64, .int .i64, .int .i64, .int .i64], some [false, false, false, false, false]⟩ := rfl
@[go_sem] theorem Γ_57 : Γ.get 57 = some ⟨.map 3 64, 1, 8, [.map], none⟩ := rfl
@[go_sem] theorem Γ_58 : Γ.get 58 = some ⟨.func, 1, 8, [.func], none⟩ := rfl
@[go_sem] theorem Γ_59 : Γ.get 59 = some ⟨.strct [(3, 0), (3, 1), (3, 2), (41, 3)], 7, 56, [.int .i64, .int .i64, .int .i64, .int .i64, .int .i64, .int .i64, .int .i64], some [false, false, false, false, false, false, false]⟩ := rfl
@[go_sem] theorem Γ_60 : Γ.get 60 = some ⟨.strct [(3, 0), (3, 1), (3, 2), (41, 3)], 7, 56, [.int .i64, .int .i64, .int .i64, .int .i64, .int .i64, .int .i64, .int .i64], some [false, false, false, false, false, false, false]⟩ := rfl
@[go_sem] theorem Γ_61 : Γ.get 61 = some ⟨.func, 1, 8, [.func], none⟩ := rfl
@[go_sem] theorem Γ_62 : Γ.get 62 = some ⟨.func, 1, 8, [.func], none⟩ := rfl
@[go_sem] theorem Γ_63 : Γ.get 63 = some ⟨.strct [(61, 0), (62, 1)], 2, 16, [.func, .func], none⟩ := rfl
@[go_sem] theorem Γ_64 : Γ.get 64 = some ⟨.strct [(61, 0), (62, 1)], 2, 16, [.func, .func], none⟩ := rfl
@[go_sem] theorem Γ_66 : Γ.get 66 = some ⟨.func, 1, 8, [.func], none⟩ := rfl
@[go_sem] theorem Γ_67 : Γ.get 67 = some ⟨.ptr 70, 1, 8, [.ptr], none⟩ := rfl
@[go_sem] theorem Γ_68 : Γ.get 68 = some ⟨.map 3 41, 1, 8, [.map], none⟩ := rfl
@[go_sem] theorem Γ_69 : Γ.get 69 = some ⟨.strct [(32, 0), (3, 4), (68, 5)], 6, 112, [.slice, .slice, .slice, .slice, .int .i64, .map], none⟩ := rfl
@[go_sem] theorem Γ_70 : Γ.get 70 = some ⟨.strct [(32, 0), (3, 4), (68, 5)], 6, 112, [.slice, .slice, .slice, .slice, .int .i64, .map], none⟩ := rfl
@[go_sem] theorem Γ_71 : Γ.get 71 = some ⟨.func, 1, 8, [.func], none⟩ := rfl
@[go_sem] theorem Γ_72 : Γ.get 72 = some ⟨.func, 1, 8, [.func], none⟩ := rfl
@[go_sem] theorem Γ_73 : Γ.get 73 = some ⟨.func, 1, 8, [.func], none⟩ := rfl
@[go_sem] theorem Γ_74 : Γ.get 74 = some ⟨.strct [(24, 0), (73, 1)], 2, 32, [.slice, .func], none⟩ := rfl
@[go_sem] theorem Γ_75 : Γ.get 75 = some ⟨.strct [(24, 0), (73, 1)], 2, 32, [.slice, .func], none⟩ := rfl
@[go_sem] theorem Γ_76 : Γ.get 76 = some ⟨.func, 1, 8, [.func], none⟩ := rfl
@[go_sem] theorem Γ_77 : Γ.get 77 = some ⟨.func, 1, 8, [.func], none⟩ := rfl
@[go_sem] theorem Γ_78 : Γ.get 78 = some ⟨.func, 1, 8, [.func], none⟩ := rfl
@[go_sem] theorem Γ_79 : Γ.get 79 = some ⟨.func, 1, 8, [.func], none⟩ := rfl
@[go_sem] theorem Γ_81 : Γ.get 81 = some ⟨.strct [(3, 0), (3, 1), (41, 2)], 6, 48, [.int .i64, .int .i64, .int .i64, .int .i64, .int .i64, .int .i64], some [false, false, false, false, false, false]⟩ := rfl
@[go_sem] theorem Γ_82 : Γ.get 82 = some ⟨.strct [(3, 0), (3, 1), (41, 2)], 6, 48, [.int .i64, .int .i64, .int .i64, .int .i64, .int .i64, .int .i64], some [false, false, false, false, false, false]⟩ := rfl
@[go_sem] theorem Γ_83 : Γ.get 83 = some ⟨.func, 1, 8, [.func], none⟩ := rfl
@[go_sem] theorem Γ_84 : Γ.get 84 = some ⟨.func, 1, 8, [.func], none⟩ := rfl
@[go_sem] theorem Γ_85 : Γ.get 85 = some ⟨.func, 1, 8, [.func], none⟩ := rfl
@[go_sem] theorem Γ_86 : Γ.get 86 = some ⟨.map 56 4, 1, 8, [.map], none⟩ := rfl
@[go_sem] theorem Γ_87 : Γ.get 87 = some ⟨.func, 1, 8, [.func], none⟩ := rfl
@[go_sem] theorem Γ_88 : Γ.get 88 = some ⟨.func, 1, 8, [.func], none⟩ := rfl
@[go_sem] theorem Γ_89 : Γ.get 89 = some ⟨.func, 1, 8, [.func], none⟩ := rfl
@[go_sem] theorem Γ_90 : Γ.get 90 = some ⟨.func, 1, 8, [.func], none⟩ := rfl
@[go_sem] theorem Γ_91 : Γ.get 91 = some ⟨.func, 1, 8, [.func], none⟩ := rfl
@[go_sem] theorem Γ_92 : Γ.get 92 = some ⟨.func, 1, 8, [.func], none⟩ := rfl
@[go_sem] theorem Γ_93 : Γ.get 93 = some ⟨.func, 1, 8, [.func], none⟩ := rfl
@[go_sem] theorem Γ_94 : Γ.get 94 = some ⟨.func, 1, 8, [.func], none⟩ := rfl
@[go_sem] theorem Γ_95 : Γ.get 95 = some ⟨.func, 1, 8, [.func], none⟩ := rfl
@[go_sem] theorem Γ_96 : Γ.get 96 = some ⟨.func, 1, 8, [.func], none⟩ := rfl
@[go_sem] theorem Γ_97 : Γ.get 97 = some ⟨.func, 1, 8, [.func], none⟩ := rfl
@[go_sem] theorem Γ_98 : Γ.get 98 = some ⟨.map 3 4, 1, 8, [.map], none⟩ := rfl
@[go_sem] theorem Γ_99 : Γ.get 99 = some ⟨.func, 1, 8, [.func], none⟩ := rfl
@[go_sem] theorem Γ_100 : Γ.get 100 = some ⟨.strct [(3, 0), (3, 1), (41, 2)], 6, 48, [.int .i64, .int .i64, .int .i64, .int .i64, .int .i64, .int .i64], some [false, false, false, false, false, false]⟩ := rfl
@[go_sem] theorem Γ_101 : Γ.get 101 = some ⟨.strct [(3, 0), (3, 1), (41, 2)], 6, 48, [.int .i64, .int .i64, .int .i64, .int .i64, .int .i64, .int .i64], some [false, false, false, false, false, false]⟩ := rfl
@[go_sem] theorem Γ_102 : Γ.get 102 = some ⟨.strct [(3, 0), (3, 1), (3, 2), (41, 3)], 7, 56, [.int .i64, .int .i64, .int .i64, .int .i64, .int .i64, .int .i64, .int .i64], some [false, false, false, false, false, false, false]⟩ := rfl
@[go_sem] theorem Γ_103 : Γ.get 103 = some ⟨.strct [(3, 0), (3, 1), (3, 2), (41, 3)], 7, 56, [.int .i64, .int .i64, .int .i64, .int .i64, .int .i64, .int .i64, .int .i64], some [false, false, false, false, false, false, false]⟩ := rfl
@[go_sem] theorem Γ_105 : Γ.get 105 = some ⟨.func, 1, 8, [.func], none⟩ := rfl
@[go_sem] theorem Γ_107 : Γ.get 107 = some ⟨.func, 1, 8, [.func], none⟩ := rfl
@[go_sem] theorem Γ_109 : Γ.get 109 = some ⟨.func, 1, 8, [.func], none⟩ := rfl
@[go_sem] theorem Γ_110 : Γ.get 110 = some ⟨.func, 1, 8, [.func], none⟩ := rfl
@[go_sem] theorem Γ_111 : Γ.get 111 = some ⟨.int .u64, 1, 8, [.int .u64], none⟩ := rfl
@[go_sem] theorem Γ_112 : Γ.get 112 = some ⟨.func, 1, 8, [.func], none⟩ := rfl
@[go_sem] theorem Γ_113 : Γ.get 113 = some ⟨.func, 1, 8, [.func], none⟩ := rfl
@[go_sem] theorem Γ_114 : Γ.get 114 = some ⟨.func, 1, 8, [.func], none⟩ := rfl
@[go_sem] theorem Γ_115 : Γ.get 115 = some ⟨.func, 1, 8, [.func], none⟩ := rfl
@[go_sem] theorem Γ_116 : Γ.get 116 = some ⟨.func, 1, 8, [.func], none⟩ := rfl
@[go_sem] theorem Γ_117 : Γ.get 117 = some ⟨.func, 1, 8, [.func], none⟩ := rfl
@[go_sem] theorem Γ_118 : Γ.get 118 = some ⟨.strct [(17, 0), (17, 1), (17, 2), (9, 3)], 4, 40, [.ptr, .ptr, .ptr, .str], none⟩ := rfl
@[go_sem] theorem Γ_120 : Γ.get 120 = some ⟨.array 0 16, 0, 0, [], none⟩ := rfl
@[go_sem] theorem Γ_121 : Γ.get 121 = some ⟨.strct [(120, 0)], 0, 0, [], none⟩ := rfl
@[go_sem] theorem Γ_123 : Γ.get 123 = some ⟨.func, 1, 8, [.func], none⟩ := rfl
@[go_sem] theorem Γ_124 : Γ.get 124 = some ⟨.int .u32, 1, 4, [.int .u32], none⟩ := rfl
@[go_sem] theorem Γ_127 : Γ.get 127 = some ⟨.func, 1, 8, [.func], none⟩ := rfl
@[go_sem] theorem Γ_128 : Γ.get 128 = some ⟨.ptr 5, 1, 8, [.ptr], none⟩ := rfl
@[go_sem] theorem Γ_131 : Γ.get 131 = some ⟨.strct [(12, 0), (12, 1), (124, 2), (125, 3), (5, 4), (5, 5), (126, 6), (127, 7), (128, 8), (129, 9), (130, 10)], 11, 48, [.int .u64, .int .u64, .int .u32, .int .u8, .int .u8, .int .u8, .int .u8, .func, .ptr, .int .i32, .int .i32], none⟩ := rfl
theorem Γ_chk : Γ.chk Try.prog = true := by kernel_rfl
theorem drawsAny : Try.prog.follows .mixedOrders = true := by kernel_rfl
theorem Γ_ok : TabOk Try.prog Γ := tabOk_of_chk Γ_chk

end Go.Proofs.Ytnomenmakhielaa
