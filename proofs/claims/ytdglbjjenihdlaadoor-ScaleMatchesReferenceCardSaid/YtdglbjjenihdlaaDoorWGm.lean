/-
  The type table of this program as plain data, held against the program.
-/
import Derived.Test.YtdglbjjenihdlaaDoorWA3
import Derived.Test.YtdglbjjenihdlaaDoorProg
import Derived.KernelRfl
set_option linter.unusedSimpArgs false
set_option linter.unusedVariables false
namespace Go.Proofs.YtdglbjjenihdlaaDoor
open Go.Ab
set_option maxRecDepth 20000
def Γ : Tab := [
  (1, ⟨.func, 1, 8, [.func], none⟩),
  (2, ⟨.int .i64, 1, 8, [.int .i64], none⟩),
  (3, ⟨.int .i64, 1, 8, [.int .i64], none⟩),
  (4, ⟨.bool, 1, 1, [.bool], none⟩),
  (5, ⟨.int .u8, 1, 1, [.int .u8], none⟩),
  (9, ⟨.str, 1, 16, [.str], none⟩),
  (12, ⟨.int .u64, 1, 8, [.int .u64], none⟩),
  (20, ⟨.iface, 1, 16, [.iface], none⟩),
  (21, ⟨.int .i32, 1, 4, [.int .i32], none⟩),
  (22, ⟨.slice 24, 1, 24, [.slice], none⟩),
  (23,⟨.array 6 3,6,48,[.int .i64,.int .i64,.int .i64,.int .i64,.int .i64,.int .i64],some [false,false,false,false,false,false]⟩),
  (24,⟨.array 6 3,6,48,[.int .i64,.int .i64,.int .i64,.int .i64,.int .i64,.int .i64],some [false,false,false,false,false,false]⟩),
  (25, ⟨.func, 1, 8, [.func], none⟩),
  (26, ⟨.int .i64, 1, 8, [.int .i64], none⟩),
  (28, ⟨.func, 1, 8, [.func], none⟩),
  (30, ⟨.func, 1, 8, [.func], none⟩),
  (31, ⟨.func, 1, 8, [.func], none⟩),
  (32, ⟨.func, 1, 8, [.func], none⟩),
  (33, ⟨.func, 1, 8, [.func], none⟩),
  (34, ⟨.func, 1, 8, [.func], none⟩),
  (36, ⟨.func, 1, 8, [.func], none⟩),
  (37, ⟨.func, 1, 8, [.func], none⟩),
  (38, ⟨.func, 1, 8, [.func], none⟩),
  (40, ⟨.func, 1, 8, [.func], none⟩),
  (41, ⟨.func, 1, 8, [.func], none⟩),
  (42, ⟨.func, 1, 8, [.func], none⟩),
  (43, ⟨.func, 1, 8, [.func], none⟩),
  (45, ⟨.func, 1, 8, [.func], none⟩),
  (46, ⟨.int .i8, 1, 1, [.int .i8], none⟩),
  (48, ⟨.func, 1, 8, [.func], none⟩),
  (49, ⟨.func, 1, 8, [.func], none⟩),
  (50, ⟨.func, 1, 8, [.func], none⟩),
  (51, ⟨.func, 1, 8, [.func], none⟩),
  (52, ⟨.func, 1, 8, [.func], none⟩),
  (53, ⟨.func, 1, 8, [.func], none⟩),
  (54, ⟨.func, 1, 8, [.func], none⟩),
  (55, ⟨.func, 1, 8, [.func], none⟩),
  (56, ⟨.func, 1, 8, [.func], none⟩),
  (57, ⟨.func, 1, 8, [.func], none⟩),
  (58, ⟨.func, 1, 8, [.func], none⟩),
  (59, ⟨.func, 1, 8, [.func], none⟩),
  (60, ⟨.func, 1, 8, [.func], none⟩),
  (61, ⟨.slice 92, 1, 24, [.slice], none⟩),
  (62, ⟨.slice 92, 1, 24, [.slice], none⟩),
  (64, ⟨.func, 1, 8, [.func], none⟩),
  (65, ⟨.func, 1, 8, [.func], none⟩),
  (66, ⟨.func, 1, 8, [.func], none⟩),
  (67, ⟨.func, 1, 8, [.func], none⟩),
  (68, ⟨.func, 1, 8, [.func], none⟩),
  (69, ⟨.int .u64, 1, 8, [.int .u64], none⟩),
  (70, ⟨.func, 1, 8, [.func], none⟩),
  (71, ⟨.slice 62, 1, 24, [.slice], none⟩),
  (72, ⟨.func, 1, 8, [.func], none⟩),
  (73, ⟨.func, 1, 8, [.func], none⟩),
  (74, ⟨.func, 1, 8, [.func], none⟩),
  (76, ⟨.func, 1, 8, [.func], none⟩),
  (77, ⟨.func, 1, 8, [.func], none⟩),
  (78, ⟨.int .u64, 1, 8, [.int .u64], none⟩),
  (79, ⟨.func, 1, 8, [.func], none⟩),
  (80, ⟨.func, 1, 8, [.func], none⟩),
  (81, ⟨.func, 1, 8, [.func], none⟩),
  (82, ⟨.func, 1, 8, [.func], none⟩),
  (83, ⟨.func, 1, 8, [.func], none⟩),
  (84, ⟨.int .i64, 1, 8, [.int .i64], none⟩),
  (86, ⟨.func, 1, 8, [.func], none⟩),
  (87, ⟨.func, 1, 8, [.func], none⟩),
  (88, ⟨.func, 1, 8, [.func], none⟩),
  (90, ⟨.func, 1, 8, [.func], none⟩),
  (91, ⟨.func, 1, 8, [.func], none⟩),
  (92, ⟨.int .u32, 1, 4, [.int .u32], none⟩),
  (93, ⟨.func, 1, 8, [.func], none⟩),
  (94, ⟨.func, 1, 8, [.func], none⟩),
  (95, ⟨.func, 1, 8, [.func], none⟩),
  (96, ⟨.func, 1, 8, [.func], none⟩),
  (97, ⟨.func, 1, 8, [.func], none⟩),
  (98, ⟨.func, 1, 8, [.func], none⟩),
  (99, ⟨.func, 1, 8, [.func], none⟩),
  (100, ⟨.func, 1, 8, [.func], none⟩),
  (101, ⟨.func, 1, 8, [.func], none⟩),
  (102, ⟨.func, 1, 8, [.func], none⟩),
  (103, ⟨.int .u64, 1, 8, [.int .u64], none⟩),
  (104, ⟨.func, 1, 8, [.func], none⟩),
  (105, ⟨.func, 1, 8, [.func], none⟩),
  (106, ⟨.func, 1, 8, [.func], none⟩),
  (107, ⟨.ptr 3, 1, 8, [.ptr], none⟩),
  (108, ⟨.func, 1, 8, [.func], none⟩),
  (109, ⟨.strct [(26, 0)], 1, 8, [.int .i64], some [false]⟩),
  (110, ⟨.strct [(26, 0)], 1, 8, [.int .i64], some [false]⟩),
  (111, ⟨.func, 1, 8, [.func], none⟩),
  (112, ⟨.func, 1, 8, [.func], none⟩),
  (113, ⟨.func, 1, 8, [.func], none⟩),
  (114, ⟨.ptr 103, 1, 8, [.ptr], none⟩),
  (116, ⟨.func, 1, 8, [.func], none⟩),
  (117, ⟨.func, 1, 8, [.func], none⟩),
  (118, ⟨.strct [(17, 0), (17, 1), (17, 2), (9, 3)], 4, 40, [.ptr, .ptr, .ptr, .str], none⟩),
  (120, ⟨.array 0 16, 0, 0, [], none⟩),
  (121, ⟨.strct [(120, 0)], 0, 0, [], none⟩),
  (123, ⟨.func, 1, 8, [.func], none⟩),
  (126, ⟨.func, 1, 8, [.func], none⟩),
  (127, ⟨.ptr 5, 1, 8, [.ptr], none⟩),
  (130,⟨.strct [(12,0),(12,1),(92,2),(124,3),(5,4),(5,5),(125,6),(126,7),(127,8),(128,9),(129,10)],11,48,[.int .u64,.int .u64,.int .u32,.int .u8,.int .u8,.int .u8,.int .u8,.func,.ptr,.int .i32,.int .i32],none⟩)]
@[go_sem] theorem Γ_1 : Γ.get 1 = some ⟨.func, 1, 8, [.func], none⟩ := rfl
@[go_sem] theorem Γ_2 : Γ.get 2 = some ⟨.int .i64, 1, 8, [.int .i64], none⟩ := rfl
@[go_sem] theorem Γ_3 : Γ.get 3 = some ⟨.int .i64, 1, 8, [.int .i64], none⟩ := rfl
@[go_sem] theorem Γ_4 : Γ.get 4 = some ⟨.bool, 1, 1, [.bool], none⟩ := rfl
@[go_sem] theorem Γ_5 : Γ.get 5 = some ⟨.int .u8, 1, 1, [.int .u8], none⟩ := rfl
@[go_sem] theorem Γ_9 : Γ.get 9 = some ⟨.str, 1, 16, [.str], none⟩ := rfl
@[go_sem] theorem Γ_12 : Γ.get 12 = some ⟨.int .u64, 1, 8, [.int .u64], none⟩ := rfl
@[go_sem] theorem Γ_20 : Γ.get 20 = some ⟨.iface, 1, 16, [.iface], none⟩ := rfl
@[go_sem] theorem Γ_21 : Γ.get 21 = some ⟨.int .i32, 1, 4, [.int .i32], none⟩ := rfl
@[go_sem] theorem Γ_22 : Γ.get 22 = some ⟨.slice 24, 1, 24, [.slice], none⟩ := rfl
@[go_sem] theorem Γ_23 : Γ.get 23 = some ⟨.array 6 3,6,48,[.int .i64,.int .i64,.int .i64,.int .i64,.int .i64,.int .i64],some [false,false,false,false,false,false]⟩ := rfl
@[go_sem] theorem Γ_24 : Γ.get 24 = some ⟨.array 6 3,6,48,[.int .i64,.int .i64,.int .i64,.int .i64,.int .i64,.int .i64],some [false,false,false,false,false,false]⟩ := rfl
@[go_sem] theorem Γ_25 : Γ.get 25 = some ⟨.func, 1, 8, [.func], none⟩ := rfl
@[go_sem] theorem Γ_26 : Γ.get 26 = some ⟨.int .i64, 1, 8, [.int .i64], none⟩ := rfl
@[go_sem] theorem Γ_28 : Γ.get 28 = some ⟨.func, 1, 8, [.func], none⟩ := rfl
@[go_sem] theorem Γ_30 : Γ.get 30 = some ⟨.func, 1, 8, [.func], none⟩ := rfl
@[go_sem] theorem Γ_31 : Γ.get 31 = some ⟨.func, 1, 8, [.func], none⟩ := rfl
@[go_sem] theorem Γ_32 : Γ.get 32 = some ⟨.func, 1, 8, [.func], none⟩ := rfl
@[go_sem] theorem Γ_33 : Γ.get 33 = some ⟨.func, 1, 8, [.func], none⟩ := rfl
@[go_sem] theorem Γ_34 : Γ.get 34 = some ⟨.func, 1, 8, [.func], none⟩ := rfl
@[go_sem] theorem Γ_36 : Γ.get 36 = some ⟨.func, 1, 8, [.func], none⟩ := rfl
@[go_sem] theorem Γ_37 : Γ.get 37 = some ⟨.func, 1, 8, [.func], none⟩ := rfl
@[go_sem] theorem Γ_38 : Γ.get 38 = some ⟨.func, 1, 8, [.func], none⟩ := rfl
@[go_sem] theorem Γ_40 : Γ.get 40 = some ⟨.func, 1, 8, [.func], none⟩ := rfl
@[go_sem] theorem Γ_41 : Γ.get 41 = some ⟨.func, 1, 8, [.func], none⟩ := rfl
@[go_sem] theorem Γ_42 : Γ.get 42 = some ⟨.func, 1, 8, [.func], none⟩ := rfl
@[go_sem] theorem Γ_43 : Γ.get 43 = some ⟨.func, 1, 8, [.func], none⟩ := rfl
@[go_sem] theorem Γ_45 : Γ.get 45 = some ⟨.func, 1, 8, [.func], none⟩ := rfl
@[go_sem] theorem Γ_46 : Γ.get 46 = some ⟨.int .i8, 1, 1, [.int .i8], none⟩ := rfl
@[go_sem] theorem Γ_48 : Γ.get 48 = some ⟨.func, 1, 8, [.func], none⟩ := rfl
@[go_sem] theorem Γ_49 : Γ.get 49 = some ⟨.func, 1, 8, [.func], none⟩ := rfl
@[go_sem] theorem Γ_50 : Γ.get 50 = some ⟨.func, 1, 8, [.func], none⟩ := rfl
@[go_sem] theorem Γ_51 : Γ.get 51 = some ⟨.func, 1, 8, [.func], none⟩ := rfl
@[go_sem] theorem Γ_52 : Γ.get 52 = some ⟨.func, 1, 8, [.func], none⟩ := rfl
@[go_sem] theorem Γ_53 : Γ.get 53 = some ⟨.func, 1, 8, [.func], none⟩ := rfl
@[go_sem] theorem Γ_54 : Γ.get 54 = some ⟨.func, 1, 8, [.func], none⟩ := rfl
@[go_sem] theorem Γ_55 : Γ.get 55 = some ⟨.func, 1, 8, [.func], none⟩ := rfl
@[go_sem] theorem Γ_56 : Γ.get 56 = some ⟨.func, 1, 8, [.func], none⟩ := rfl
@[go_sem] theorem Γ_57 : Γ.get 57 = some ⟨.func, 1, 8, [.func], none⟩ := rfl
@[go_sem] theorem Γ_58 : Γ.get 58 = some ⟨.func, 1, 8, [.func], none⟩ := rfl
@[go_sem] theorem Γ_59 : Γ.get 59 = some ⟨.func, 1, 8, [.func], none⟩ := rfl
@[go_sem] theorem Γ_60 : Γ.get 60 = some ⟨.func, 1, 8, [.func], none⟩ := rfl
@[go_sem] theorem Γ_61 : Γ.get 61 = some ⟨.slice 92, 1, 24, [.slice], none⟩ := rfl
@[go_sem] theorem Γ_62 : Γ.get 62 = some ⟨.slice 92, 1, 24, [.slice], none⟩ := rfl
@[go_sem] theorem Γ_64 : Γ.get 64 = some ⟨.func, 1, 8, [.func], none⟩ := rfl
@[go_sem] theorem Γ_65 : Γ.get 65 = some ⟨.func, 1, 8, [.func], none⟩ := rfl
@[go_sem] theorem Γ_66 : Γ.get 66 = some ⟨.func, 1, 8, [.func], none⟩ := rfl
@[go_sem] theorem Γ_67 : Γ.get 67 = some ⟨.func, 1, 8, [.func], none⟩ := rfl
@[go_sem] theorem Γ_68 : Γ.get 68 = some ⟨.func, 1, 8, [.func], none⟩ := rfl
@[go_sem] theorem Γ_69 : Γ.get 69 = some ⟨.int .u64, 1, 8, [.int .u64], none⟩ := rfl
@[go_sem] theorem Γ_70 : Γ.get 70 = some ⟨.func, 1, 8, [.func], none⟩ := rfl
@[go_sem] theorem Γ_71 : Γ.get 71 = some ⟨.slice 62, 1, 24, [.slice], none⟩ := rfl
@[go_sem] theorem Γ_72 : Γ.get 72 = some ⟨.func, 1, 8, [.func], none⟩ := rfl
@[go_sem] theorem Γ_73 : Γ.get 73 = some ⟨.func, 1, 8, [.func], none⟩ := rfl
@[go_sem] theorem Γ_74 : Γ.get 74 = some ⟨.func, 1, 8, [.func], none⟩ := rfl
@[go_sem] theorem Γ_76 : Γ.get 76 = some ⟨.func, 1, 8, [.func], none⟩ := rfl
@[go_sem] theorem Γ_77 : Γ.get 77 = some ⟨.func, 1, 8, [.func], none⟩ := rfl
@[go_sem] theorem Γ_78 : Γ.get 78 = some ⟨.int .u64, 1, 8, [.int .u64], none⟩ := rfl
@[go_sem] theorem Γ_79 : Γ.get 79 = some ⟨.func, 1, 8, [.func], none⟩ := rfl
@[go_sem] theorem Γ_80 : Γ.get 80 = some ⟨.func, 1, 8, [.func], none⟩ := rfl
@[go_sem] theorem Γ_81 : Γ.get 81 = some ⟨.func, 1, 8, [.func], none⟩ := rfl
@[go_sem] theorem Γ_82 : Γ.get 82 = some ⟨.func, 1, 8, [.func], none⟩ := rfl
@[go_sem] theorem Γ_83 : Γ.get 83 = some ⟨.func, 1, 8, [.func], none⟩ := rfl
@[go_sem] theorem Γ_84 : Γ.get 84 = some ⟨.int .i64, 1, 8, [.int .i64], none⟩ := rfl
@[go_sem] theorem Γ_86 : Γ.get 86 = some ⟨.func, 1, 8, [.func], none⟩ := rfl
@[go_sem] theorem Γ_87 : Γ.get 87 = some ⟨.func, 1, 8, [.func], none⟩ := rfl
@[go_sem] theorem Γ_88 : Γ.get 88 = some ⟨.func, 1, 8, [.func], none⟩ := rfl
@[go_sem] theorem Γ_90 : Γ.get 90 = some ⟨.func, 1, 8, [.func], none⟩ := rfl
@[go_sem] theorem Γ_91 : Γ.get 91 = some ⟨.func, 1, 8, [.func], none⟩ := rfl
@[go_sem] theorem Γ_92 : Γ.get 92 = some ⟨.int .u32, 1, 4, [.int .u32], none⟩ := rfl
@[go_sem] theorem Γ_93 : Γ.get 93 = some ⟨.func, 1, 8, [.func], none⟩ := rfl
@[go_sem] theorem Γ_94 : Γ.get 94 = some ⟨.func, 1, 8, [.func], none⟩ := rfl
@[go_sem] theorem Γ_95 : Γ.get 95 = some ⟨.func, 1, 8, [.func], none⟩ := rfl
@[go_sem] theorem Γ_96 : Γ.get 96 = some ⟨.func, 1, 8, [.func], none⟩ := rfl
@[go_sem] theorem Γ_97 : Γ.get 97 = some ⟨.func, 1, 8, [.func], none⟩ := rfl
@[go_sem] theorem Γ_98 : Γ.get 98 = some ⟨.func, 1, 8, [.func], none⟩ := rfl
@[go_sem] theorem Γ_99 : Γ.get 99 = some ⟨.func, 1, 8, [.func], none⟩ := rfl
@[go_sem] theorem Γ_100 : Γ.get 100 = some ⟨.func, 1, 8, [.func], none⟩ := rfl
@[go_sem] theorem Γ_101 : Γ.get 101 = some ⟨.func, 1, 8, [.func], none⟩ := rfl
@[go_sem] theorem Γ_102 : Γ.get 102 = some ⟨.func, 1, 8, [.func], none⟩ := rfl
@[go_sem] theorem Γ_103 : Γ.get 103 = some ⟨.int .u64, 1, 8, [.int .u64], none⟩ := rfl
@[go_sem] theorem Γ_104 : Γ.get 104 = some ⟨.func, 1, 8, [.func], none⟩ := rfl
@[go_sem] theorem Γ_105 : Γ.get 105 = some ⟨.func, 1, 8, [.func], none⟩ := rfl
@[go_sem] theorem Γ_106 : Γ.get 106 = some ⟨.func, 1, 8, [.func], none⟩ := rfl
@[go_sem] theorem Γ_107 : Γ.get 107 = some ⟨.ptr 3, 1, 8, [.ptr], none⟩ := rfl
@[go_sem] theorem Γ_108 : Γ.get 108 = some ⟨.func, 1, 8, [.func], none⟩ := rfl
@[go_sem] theorem Γ_109 : Γ.get 109 = some ⟨.strct [(26, 0)], 1, 8, [.int .i64], some [false]⟩ := rfl
@[go_sem] theorem Γ_110 : Γ.get 110 = some ⟨.strct [(26, 0)], 1, 8, [.int .i64], some [false]⟩ := rfl
@[go_sem] theorem Γ_111 : Γ.get 111 = some ⟨.func, 1, 8, [.func], none⟩ := rfl
@[go_sem] theorem Γ_112 : Γ.get 112 = some ⟨.func, 1, 8, [.func], none⟩ := rfl
@[go_sem] theorem Γ_113 : Γ.get 113 = some ⟨.func, 1, 8, [.func], none⟩ := rfl
@[go_sem] theorem Γ_114 : Γ.get 114 = some ⟨.ptr 103, 1, 8, [.ptr], none⟩ := rfl
@[go_sem] theorem Γ_116 : Γ.get 116 = some ⟨.func, 1, 8, [.func], none⟩ := rfl
@[go_sem] theorem Γ_117 : Γ.get 117 = some ⟨.func, 1, 8, [.func], none⟩ := rfl
@[go_sem] theorem Γ_118 : Γ.get 118 = some ⟨.strct [(17,0),(17,1),(17,2),(9,3)],4,40,[.ptr,.ptr,.ptr,.str],none⟩ := rfl
@[go_sem] theorem Γ_120 : Γ.get 120 = some ⟨.array 0 16, 0, 0, [], none⟩ := rfl
@[go_sem] theorem Γ_121 : Γ.get 121 = some ⟨.strct [(120, 0)], 0, 0, [], none⟩ := rfl
@[go_sem] theorem Γ_123 : Γ.get 123 = some ⟨.func, 1, 8, [.func], none⟩ := rfl
@[go_sem] theorem Γ_126 : Γ.get 126 = some ⟨.func, 1, 8, [.func], none⟩ := rfl
@[go_sem] theorem Γ_127 : Γ.get 127 = some ⟨.ptr 5, 1, 8, [.ptr], none⟩ := rfl
@[go_sem] theorem Γ_130 : Γ.get 130 = some ⟨.strct [(12,0),(12,1),(92,2),(124,3),(5,4),(5,5),(125,6),(126,7),(127,8),(128,9),(129,10)],11,48,[.int .u64,.int .u64,.int .u32,.int .u8,.int .u8,.int .u8,.int .u8,.func,.ptr,.int .i32,.int .i32],none⟩ := rfl
theorem Γ_chk : Γ.chk Tryd.prog = true := by kernel_rfl
theorem drawsAny : Tryd.prog.follows .mixedOrders = true := by kernel_rfl
theorem Γ_ok : TabOk Tryd.prog Γ := tabOk_of_chk Γ_chk
end Go.Proofs.YtdglbjjenihdlaaDoor
