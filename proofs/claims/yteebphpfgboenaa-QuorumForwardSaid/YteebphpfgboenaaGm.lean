/-
  The type table of this program as plain data, held against the program.
-/
import Derived.Test.YteebphpfgboenaaAb11
import Derived.Test.YteebphpfgboenaaProg
import Derived.KernelRfl
namespace Go.Proofs.Yteebphpfgboenaa
open Go.Ab

def Γ : Tab := [
  (1, ⟨.func, 1, 8, [.func], none⟩),
  (2, ⟨.int .i64, 1, 8, [.int .i64], none⟩),
  (3, ⟨.int .i64, 1, 8, [.int .i64], none⟩),
  (4, ⟨.bool, 1, 1, [.bool], none⟩),
  (5, ⟨.int .u8, 1, 1, [.int .u8], none⟩),
  (9, ⟨.str, 1, 16, [.str], none⟩),
  (12, ⟨.int .u64, 1, 8, [.int .u64], none⟩),
  (20, ⟨.iface, 1, 16, [.iface], none⟩),
  (21, ⟨.int .i32, 1, 4, [.int .i32], none⟩),
  (22, ⟨.slice 47, 1, 24, [.slice], none⟩),
  (23, ⟨.func, 1, 8, [.func], none⟩),
  (24, ⟨.slice 42, 1, 24, [.slice], none⟩),
  (25, ⟨.slice 49, 1, 24, [.slice], none⟩),
  (26, ⟨.slice 38, 1, 24, [.slice], none⟩),
  (27, ⟨.slice 44, 1, 24, [.slice], none⟩),
  (28, ⟨.strct [(24, 0), (25, 1), (26, 2), (27, 3)], 4, 96, [.slice, .slice, .slice, .slice], none⟩),
  (29, ⟨.strct [(24, 0), (25, 1), (26, 2), (27, 3)], 4, 96, [.slice, .slice, .slice, .slice], none⟩),
  (30, ⟨.int .i64, 1, 8, [.int .i64], none⟩),
  (32, ⟨.func, 1, 8, [.func], none⟩),
  (34, ⟨.func, 1, 8, [.func], none⟩),
  (35, ⟨.strct [(3, 0), (3, 1), (3, 2), (3, 3)], 4, 32, [.int .i64, .int .i64, .int .i64, .int .i64], some [false, false, false, false]⟩),
  (36, ⟨.strct [(3, 0), (3, 1), (3, 2), (3, 3)], 4, 32, [.int .i64, .int .i64, .int .i64, .int .i64], some [false, false, false, false]⟩),
  (37, ⟨.strct [(3, 0), (36, 1)], 5, 40, [.int .i64, .int .i64, .int .i64, .int .i64, .int .i64], some [false, false, false, false, false]⟩),
  (38, ⟨.strct [(3, 0), (36, 1)], 5, 40, [.int .i64, .int .i64, .int .i64, .int .i64, .int .i64], some [false, false, false, false, false]⟩),
  (39, ⟨.func, 1, 8, [.func], none⟩),
  (40, ⟨.func, 1, 8, [.func], none⟩),
  (41, ⟨.strct [(3, 0), (3, 1), (36, 2)], 6, 48, [.int .i64, .int .i64, .int .i64, .int .i64, .int .i64, .int .i64], some [false, false, false, false, false, false]⟩),
  (42, ⟨.strct [(3, 0), (3, 1), (36, 2)], 6, 48, [.int .i64, .int .i64, .int .i64, .int .i64, .int .i64, .int .i64], some [false, false, false, false, false, false]⟩),
  (43, ⟨.strct [(3, 0), (3, 1), (36, 2)], 6, 48, [.int .i64, .int .i64, .int .i64, .int .i64, .int .i64, .int .i64], some [false, false, false, false, false, false]⟩),
  (44, ⟨.strct [(3, 0), (3, 1), (36, 2)], 6, 48, [.int .i64, .int .i64, .int .i64, .int .i64, .int .i64, .int .i64], some [false, false, false, false, false, false]⟩),
  (45, ⟨.func, 1, 8, [.func], none⟩),
  (46, ⟨.strct [(3, 0), (3, 1), (3, 2), (36, 3)], 7, 56, [.int .i64, .int .i64, .int .i64, .int .i64, .int .i64, .int .i64, .int .i64], some [false, false, false, false, false, false, false]⟩),
  (47, ⟨.strct [(3, 0), (3, 1), (3, 2), (36, 3)], 7, 56, [.int .i64, .int .i64, .int .i64, .int .i64, .int .i64, .int .i64, .int .i64], some [false, false, false, false, false, false, false]⟩),
  (48, ⟨.strct [(3, 0), (3, 1), (3, 2), (36, 3)], 7, 56, [.int .i64, .int .i64, .int .i64, .int .i64, .int .i64, .int .i64, .int .i64], some [false, false, false, false, false, false, false]⟩),
  (49, ⟨.strct [(3, 0), (3, 1), (3, 2), (36, 3)], 7, 56, [.int .i64, .int .i64, .int .i64, .int .i64, .int .i64, .int .i64, .int .i64], some [false, false, false, false, false, false, false]⟩),
  (50, ⟨.func, 1, 8, [.func], none⟩),
  (51, ⟨.func, 1, 8, [.func], none⟩),
  (52, ⟨.func, 1, 8, [.func], none⟩),
  (53, ⟨.func, 1, 8, [.func], none⟩),
  (54, ⟨.func, 1, 8, [.func], none⟩),
  (55, ⟨.func, 1, 8, [.func], none⟩),
  (57, ⟨.func, 1, 8, [.func], none⟩),
  (59, ⟨.func, 1, 8, [.func], none⟩),
  (60, ⟨.map 3 64, 1, 8, [.map], none⟩),
  (61, ⟨.func, 1, 8, [.func], none⟩),
  (62, ⟨.func, 1, 8, [.func], none⟩),
  (63, ⟨.strct [(51, 0), (62, 1)], 2, 16, [.func, .func], none⟩),
  (64, ⟨.strct [(51, 0), (62, 1)], 2, 16, [.func, .func], none⟩),
  (66, ⟨.func, 1, 8, [.func], none⟩),
  (67, ⟨.ptr 70, 1, 8, [.ptr], none⟩),
  (68, ⟨.map 3 36, 1, 8, [.map], none⟩),
  (69, ⟨.strct [(29, 0), (3, 4), (68, 5)], 6, 112, [.slice, .slice, .slice, .slice, .int .i64, .map], none⟩),
  (70, ⟨.strct [(29, 0), (3, 4), (68, 5)], 6, 112, [.slice, .slice, .slice, .slice, .int .i64, .map], none⟩),
  (71, ⟨.func, 1, 8, [.func], none⟩),
  (72, ⟨.func, 1, 8, [.func], none⟩),
  (73, ⟨.func, 1, 8, [.func], none⟩),
  (74, ⟨.map 38 4, 1, 8, [.map], none⟩),
  (75, ⟨.func, 1, 8, [.func], none⟩),
  (76, ⟨.func, 1, 8, [.func], none⟩),
  (77, ⟨.func, 1, 8, [.func], none⟩),
  (78, ⟨.func, 1, 8, [.func], none⟩),
  (79, ⟨.func, 1, 8, [.func], none⟩),
  (80, ⟨.func, 1, 8, [.func], none⟩),
  (81, ⟨.func, 1, 8, [.func], none⟩),
  (82, ⟨.func, 1, 8, [.func], none⟩),
  (83, ⟨.func, 1, 8, [.func], none⟩),
  (84, ⟨.func, 1, 8, [.func], none⟩),
  (85, ⟨.func, 1, 8, [.func], none⟩),
  (86, ⟨.map 3 4, 1, 8, [.map], none⟩),
  (87, ⟨.func, 1, 8, [.func], none⟩),
  (90, ⟨.func, 1, 8, [.func], none⟩),
  (91, ⟨.func, 1, 8, [.func], none⟩),
  (92, ⟨.func, 1, 8, [.func], none⟩),
  (93, ⟨.int .u64, 1, 8, [.int .u64], none⟩),
  (94, ⟨.func, 1, 8, [.func], none⟩),
  (95, ⟨.strct [(17, 0), (17, 1), (17, 2), (9, 3)], 4, 40, [.ptr, .ptr, .ptr, .str], none⟩),
  (97, ⟨.array 0 16, 0, 0, [], none⟩),
  (98, ⟨.strct [(97, 0)], 0, 0, [], none⟩),
  (100, ⟨.func, 1, 8, [.func], none⟩),
  (101, ⟨.int .u32, 1, 4, [.int .u32], none⟩),
  (104, ⟨.func, 1, 8, [.func], none⟩),
  (105, ⟨.ptr 5, 1, 8, [.ptr], none⟩),
  (108, ⟨.strct [(12, 0), (12, 1), (101, 2), (102, 3), (5, 4), (5, 5), (103, 6), (104, 7), (105, 8), (106, 9), (107, 10)], 11, 48, [.int .u64, .int .u64, .int .u32, .int .u8, .int .u8, .int .u8, .int .u8, .func, .ptr, .int .i32, .int .i32], none⟩)]

@[go_sem] theorem Γ_1 : Γ.get 1 = some ⟨.func, 1, 8, [.func], none⟩ := rfl
@[go_sem] theorem Γ_2 : Γ.get 2 = some ⟨.int .i64, 1, 8, [.int .i64], none⟩ := rfl
@[go_sem] theorem Γ_3 : Γ.get 3 = some ⟨.int .i64, 1, 8, [.int .i64], none⟩ := rfl
@[go_sem] theorem Γ_4 : Γ.get 4 = some ⟨.bool, 1, 1, [.bool], none⟩ := rfl
@[go_sem] theorem Γ_5 : Γ.get 5 = some ⟨.int .u8, 1, 1, [.int .u8], none⟩ := rfl
@[go_sem] theorem Γ_9 : Γ.get 9 = some ⟨.str, 1, 16, [.str], none⟩ := rfl
@[go_sem] theorem Γ_12 : Γ.get 12 = some ⟨.int .u64, 1, 8, [.int .u64], none⟩ := rfl
@[go_sem] theorem Γ_20 : Γ.get 20 = some ⟨.iface, 1, 16, [.iface], none⟩ := rfl
@[go_sem] theorem Γ_21 : Γ.get 21 = some ⟨.int .i32, 1, 4, [.int .i32], none⟩ := rfl
@[go_sem] theorem Γ_22 : Γ.get 22 = some ⟨.slice 47, 1, 24, [.slice], none⟩ := rfl
@[go_sem] theorem Γ_23 : Γ.get 23 = some ⟨.func, 1, 8, [.func], none⟩ := rfl
@[go_sem] theorem Γ_24 : Γ.get 24 = some ⟨.slice 42, 1, 24, [.slice], none⟩ := rfl
@[go_sem] theorem Γ_25 : Γ.get 25 = some ⟨.slice 49, 1, 24, [.slice], none⟩ := rfl
@[go_sem] theorem Γ_26 : Γ.get 26 = some ⟨.slice 38, 1, 24, [.slice], none⟩ := rfl
@[go_sem] theorem Γ_27 : Γ.get 27 = some ⟨.slice 44, 1, 24, [.slice], none⟩ := rfl
@[go_sem] theorem Γ_28 : Γ.get 28 = some ⟨.strct [(24, 0), (25, 1), (26, 2), (27, 3)], 4, 96, [.slice, .slice, .slice, .slice], none⟩ := rfl
@[go_sem] theorem Γ_29 : Γ.get 29 = some ⟨.strct [(24, 0), (25, 1), (26, 2), (27, 3)], 4, 96, [.slice, .slice, .slice, .slice], none⟩ := rfl
@[go_sem] theorem Γ_30 : Γ.get 30 = some ⟨.int .i64, 1, 8, [.int .i64], none⟩ := rfl
@[go_sem] theorem Γ_32 : Γ.get 32 = some ⟨.func, 1, 8, [.func], none⟩ := rfl
@[go_sem] theorem Γ_34 : Γ.get 34 = some ⟨.func, 1, 8, [.func], none⟩ := rfl
@[go_sem] theorem Γ_35 : Γ.get 35 = some ⟨.strct [(3, 0), (3, 1), (3, 2), (3, 3)], 4, 32, [.int .i64, .int .i64, .int .i64, .int .i64], some [false, false, false, false]⟩ := rfl
@[go_sem] theorem Γ_36 : Γ.get 36 = some ⟨.strct [(3, 0), (3, 1), (3, 2), (3, 3)], 4, 32, [.int .i64, .int .i64, .int .i64, .int .i64], some [false, false, false, false]⟩ := rfl
@[go_sem] theorem Γ_37 : Γ.get 37 = some ⟨.strct [(3, 0), (36, 1)], 5, 40, [.int .i64, .int .i64, .int .i64, .int .i64, .int .i64], some [false, false, false, false, false]⟩ := rfl
@[go_sem] theorem Γ_38 : Γ.get 38 = some ⟨.strct [(3, 0), (36, 1)], 5, 40, [.int .i64, .int .i64, .int .i64, .int .i64, .int .i64], some [false, false, false, false, false]⟩ := rfl
@[go_sem] theorem Γ_39 : Γ.get 39 = some ⟨.func, 1, 8, [.func], none⟩ := rfl
@[go_sem] theorem Γ_40 : Γ.get 40 = some ⟨.func, 1, 8, [.func], none⟩ := rfl
@[go_sem] theorem Γ_41 : Γ.get 41 = some ⟨.strct [(3, 0), (3, 1), (36, 2)], 6, 48, [.int .i64, .int .i64, .int .i64, .int .i64, .int .i64, .int .i64], some [false, false, false, false, false, false]⟩ := rfl
@[go_sem] theorem Γ_42 : Γ.get 42 = some ⟨.strct [(3, 0), (3, 1), (36, 2)], 6, 48, [.int .i64, .int .i64, .int .i64, .int .i64, .int .i64, .int .i64], some [false, false, false, false, false, false]⟩ := rfl
@[go_sem] theorem Γ_43 : Γ.get 43 = some ⟨.strct [(3, 0), (3, 1), (36, 2)], 6, 48, [.int .i64, .int .i64, .int .i64, .int .i64, .int .i64, .int .i64], some [false, false, false, false, false, false]⟩ := rfl
@[go_sem] theorem Γ_44 : Γ.get 44 = some ⟨.strct [(3, 0), (3, 1), (36, 2)], 6, 48, [.int .i64, .int .i64, .int .i64, .int .i64, .int .i64, .int .i64], some [false, false, false, false, false, false]⟩ := rfl
@[go_sem] theorem Γ_45 : Γ.get 45 = some ⟨.func, 1, 8, [.func], none⟩ := rfl
@[go_sem] theorem Γ_46 : Γ.get 46 = some ⟨.strct [(3, 0), (3, 1), (3, 2), (36, 3)], 7, 56, [.int .i64, .int .i64, .int .i64, .int .i64, .int .i64, .int .i64, .int .i64], some [false, false, false, false, false, false, false]⟩ := rfl
@[go_sem] theorem Γ_47 : Γ.get 47 = some ⟨.strct [(3, 0), (3, 1), (3, 2), (36, 3)], 7, 56, [.int .i64, .int .i64, .int .i64, .int .i64, .int .i64, .int .i64, .int .i64], some [false, false, false, false, false, false, false]⟩ := rfl
@[go_sem] theorem Γ_48 : Γ.get 48 = some ⟨.strct [(3, 0), (3, 1), (3, 2), (36, 3)], 7, 56, [.int .i64, .int .i64, .int .i64, .int .i64, .int .i64, .int .i64, .int .i64], some [false, false, false, false, false, false, false]⟩ := rfl
@[go_sem] theorem Γ_49 : Γ.get 49 = some ⟨.strct [(3, 0), (3, 1), (3, 2), (36, 3)], 7, 56, [.int .i64, .int .i64, .int .i64, .int .i64, .int .i64, .int .i64, .int .i64], some [false, false, false, false, false, false, false]⟩ := rfl
@[go_sem] theorem Γ_50 : Γ.get 50 = some ⟨.func, 1, 8, [.func], none⟩ := rfl
@[go_sem] theorem Γ_51 : Γ.get 51 = some ⟨.func, 1, 8, [.func], none⟩ := rfl
@[go_sem] theorem Γ_52 : Γ.get 52 = some ⟨.func, 1, 8, [.func], none⟩ := rfl
@[go_sem] theorem Γ_53 : Γ.get 53 = some ⟨.func, 1, 8, [.func], none⟩ := rfl
@[go_sem] theorem Γ_54 : Γ.get 54 = some ⟨.func, 1, 8, [.func], none⟩ := rfl
@[go_sem] theorem Γ_55 : Γ.get 55 = some ⟨.func, 1, 8, [.func], none⟩ := rfl
@[go_sem] theorem Γ_57 : Γ.get 57 = some ⟨.func, 1, 8, [.func], none⟩ := rfl
@[go_sem] theorem Γ_59 : Γ.get 59 = some ⟨.func, 1, 8, [.func], none⟩ := rfl
@[go_sem] theorem Γ_60 : Γ.get 60 = some ⟨.map 3 64, 1, 8, [.map], none⟩ := rfl
@[go_sem] theorem Γ_61 : Γ.get 61 = some ⟨.func, 1, 8, [.func], none⟩ := rfl
@[go_sem] theorem Γ_62 : Γ.get 62 = some ⟨.func, 1, 8, [.func], none⟩ := rfl
@[go_sem] theorem Γ_63 : Γ.get 63 = some ⟨.strct [(51, 0), (62, 1)], 2, 16, [.func, .func], none⟩ := rfl
@[go_sem] theorem Γ_64 : Γ.get 64 = some ⟨.strct [(51, 0), (62, 1)], 2, 16, [.func, .func], none⟩ := rfl
@[go_sem] theorem Γ_66 : Γ.get 66 = some ⟨.func, 1, 8, [.func], none⟩ := rfl
@[go_sem] theorem Γ_67 : Γ.get 67 = some ⟨.ptr 70, 1, 8, [.ptr], none⟩ := rfl
@[go_sem] theorem Γ_68 : Γ.get 68 = some ⟨.map 3 36, 1, 8, [.map], none⟩ := rfl
@[go_sem] theorem Γ_69 : Γ.get 69 = some ⟨.strct [(29, 0), (3, 4), (68, 5)], 6, 112, [.slice, .slice, .slice, .slice, .int .i64, .map], none⟩ := rfl
@[go_sem] theorem Γ_70 : Γ.get 70 = some ⟨.strct [(29, 0), (3, 4), (68, 5)], 6, 112, [.slice, .slice, .slice, .slice, .int .i64, .map], none⟩ := rfl
@[go_sem] theorem Γ_71 : Γ.get 71 = some ⟨.func, 1, 8, [.func], none⟩ := rfl
@[go_sem] theorem Γ_72 : Γ.get 72 = some ⟨.func, 1, 8, [.func], none⟩ := rfl
@[go_sem] theorem Γ_73 : Γ.get 73 = some ⟨.func, 1, 8, [.func], none⟩ := rfl
@[go_sem] theorem Γ_74 : Γ.get 74 = some ⟨.map 38 4, 1, 8, [.map], none⟩ := rfl
@[go_sem] theorem Γ_75 : Γ.get 75 = some ⟨.func, 1, 8, [.func], none⟩ := rfl
@[go_sem] theorem Γ_76 : Γ.get 76 = some ⟨.func, 1, 8, [.func], none⟩ := rfl
@[go_sem] theorem Γ_77 : Γ.get 77 = some ⟨.func, 1, 8, [.func], none⟩ := rfl
@[go_sem] theorem Γ_78 : Γ.get 78 = some ⟨.func, 1, 8, [.func], none⟩ := rfl
@[go_sem] theorem Γ_79 : Γ.get 79 = some ⟨.func, 1, 8, [.func], none⟩ := rfl
@[go_sem] theorem Γ_80 : Γ.get 80 = some ⟨.func, 1, 8, [.func], none⟩ := rfl
@[go_sem] theorem Γ_81 : Γ.get 81 = some ⟨.func, 1, 8, [.func], none⟩ := rfl
@[go_sem] theorem Γ_82 : Γ.get 82 = some ⟨.func, 1, 8, [.func], none⟩ := rfl
@[go_sem] theorem Γ_83 : Γ.get 83 = some ⟨.func, 1, 8, [.func], none⟩ := rfl
@[go_sem] theorem Γ_84 : Γ.get 84 = some ⟨.func, 1, 8, [.func], none⟩ := rfl
@[go_sem] theorem Γ_85 : Γ.get 85 = some ⟨.func, 1, 8, [.func], none⟩ := rfl
@[go_sem] theorem Γ_86 : Γ.get 86 = some ⟨.map 3 4, 1, 8, [.map], none⟩ := rfl
@[go_sem] theorem Γ_87 : Γ.get 87 = some ⟨.func, 1, 8, [.func], none⟩ := rfl
@[go_sem] theorem Γ_90 : Γ.get 90 = some ⟨.func, 1, 8, [.func], none⟩ := rfl
@[go_sem] theorem Γ_91 : Γ.get 91 = some ⟨.func, 1, 8, [.func], none⟩ := rfl
@[go_sem] theorem Γ_92 : Γ.get 92 = some ⟨.func, 1, 8, [.func], none⟩ := rfl
@[go_sem] theorem Γ_93 : Γ.get 93 = some ⟨.int .u64, 1, 8, [.int .u64], none⟩ := rfl
@[go_sem] theorem Γ_94 : Γ.get 94 = some ⟨.func, 1, 8, [.func], none⟩ := rfl
@[go_sem] theorem Γ_95 : Γ.get 95 = some ⟨.strct [(17, 0), (17, 1), (17, 2), (9, 3)], 4, 40, [.ptr, .ptr, .ptr, .str], none⟩ := rfl
@[go_sem] theorem Γ_97 : Γ.get 97 = some ⟨.array 0 16, 0, 0, [], none⟩ := rfl
@[go_sem] theorem Γ_98 : Γ.get 98 = some ⟨.strct [(97, 0)], 0, 0, [], none⟩ := rfl
@[go_sem] theorem Γ_100 : Γ.get 100 = some ⟨.func, 1, 8, [.func], none⟩ := rfl
@[go_sem] theorem Γ_101 : Γ.get 101 = some ⟨.int .u32, 1, 4, [.int .u32], none⟩ := rfl
@[go_sem] theorem Γ_104 : Γ.get 104 = some ⟨.func, 1, 8, [.func], none⟩ := rfl
@[go_sem] theorem Γ_105 : Γ.get 105 = some ⟨.ptr 5, 1, 8, [.ptr], none⟩ := rfl
@[go_sem] theorem Γ_108 : Γ.get 108 = some ⟨.strct [(12, 0), (12, 1), (101, 2), (102, 3), (5, 4), (5, 5), (103, 6), (104, 7), (105, 8), (106, 9), (107, 10)], 11, 48, [.int .u64, .int .u64, .int .u32, .int .u8, .int .u8, .int .u8, .int .u8, .func, .ptr, .int .i32, .int .i32], none⟩ := rfl
theorem Γ_chk : Γ.chk Try.prog = true := by kernel_rfl
theorem drawsAny : Try.prog.follows .mixedOrders = true := by kernel_rfl
theorem Γ_ok : TabOk Try.prog Γ := tabOk_of_chk Γ_chk

end Go.Proofs.Yteebphpfgboenaa
