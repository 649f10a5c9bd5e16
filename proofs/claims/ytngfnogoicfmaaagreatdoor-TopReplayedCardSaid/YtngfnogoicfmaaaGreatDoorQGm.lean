/-
  The type table of this program as plain data, held against the program.
-/
import Derived.Test.YtngfnogoicfmaaaGreatDoorQA3
import Derived.Test.YtngfnogoicfmaaaGreatDoorProg
import Derived.KernelRfl
set_option linter.unusedSimpArgs false
set_option linter.unusedVariables false
namespace Go.Proofs.YtngfnogoicfmaaaGreatDoor
open Go.Ab
set_option maxRecDepth 20000
def zb141 : List ZC := List.replicate 256 (.bool)
def sb141 : Nat := 256
def zb142 : List ZC := List.replicate 256 (.bool)
def sb142 : Nat := 256
def zb170 : List ZC := List.replicate 256 (.int .u8)
def sb170 : Nat := 256
def Γ : Tab := [
  (1, ⟨.func, 1, 8, [.func], none⟩),
  (2, ⟨.int .i64, 1, 8, [.int .i64], none⟩),
  (3, ⟨.int .i64, 1, 8, [.int .i64], none⟩),
  (4, ⟨.bool, 1, 1, [.bool], none⟩),
  (5, ⟨.int .u8, 1, 1, [.int .u8], none⟩),
  (9, ⟨.str, 1, 16, [.str], none⟩),
  (12, ⟨.int .u64, 1, 8, [.int .u64], none⟩),
  (20, ⟨.iface, 1, 16, [.iface], none⟩),
  (21, ⟨.int .i32, 1, 4, [.int .i32], none⟩),
  (22, ⟨.slice 57, 1, 24, [.slice], none⟩),
  (23, ⟨.slice 47, 1, 24, [.slice], none⟩),
  (24, ⟨.func, 1, 8, [.func], none⟩),
  (25, ⟨.slice 37, 1, 24, [.slice], none⟩),
  (26, ⟨.int .i64, 1, 8, [.int .i64], none⟩),
  (28, ⟨.func, 1, 8, [.func], none⟩),
  (29, ⟨.func, 1, 8, [.func], none⟩),
  (31, ⟨.func, 1, 8, [.func], none⟩),
  (32, ⟨.func, 1, 8, [.func], none⟩),
  (33, ⟨.slice 3, 1, 24, [.slice], none⟩),
  (35, ⟨.func, 1, 8, [.func], none⟩),
  (36,⟨.array 6 3,6,48,[.int .i64,.int .i64,.int .i64,.int .i64,.int .i64,.int .i64],some [false,false,false,false,false,false]⟩),
  (37,⟨.array 6 3,6,48,[.int .i64,.int .i64,.int .i64,.int .i64,.int .i64,.int .i64],some [false,false,false,false,false,false]⟩),
  (39, ⟨.func, 1, 8, [.func], none⟩),
  (41, ⟨.func, 1, 8, [.func], none⟩),
  (42, ⟨.func, 1, 8, [.func], none⟩),
  (43, ⟨.func, 1, 8, [.func], none⟩),
  (44, ⟨.func, 1, 8, [.func], none⟩),
  (45, ⟨.slice 49, 1, 24, [.slice], none⟩),
  (46,⟨.strct [(3,0),(3,1),(3,2),(3,3)],4,32,[.int .i64,.int .i64,.int .i64,.int .i64],some [false,false,false,false]⟩),
  (47,⟨.strct [(3,0),(3,1),(3,2),(3,3)],4,32,[.int .i64,.int .i64,.int .i64,.int .i64],some [false,false,false,false]⟩),
  (48,⟨.strct [(3,0),(3,1),(3,2),(47,3)],7,56,[.int .i64,.int .i64,.int .i64,.int .i64,.int .i64,.int .i64,.int .i64],some [false,false,false,false,false,false,false]⟩),
  (49,⟨.strct [(3,0),(3,1),(3,2),(47,3)],7,56,[.int .i64,.int .i64,.int .i64,.int .i64,.int .i64,.int .i64,.int .i64],some [false,false,false,false,false,false,false]⟩),
  (50, ⟨.slice 107, 1, 24, [.slice], none⟩),
  (51, ⟨.strct [(50, 0), (23, 1)], 2, 48, [.slice, .slice], none⟩),
  (52, ⟨.strct [(50, 0), (23, 1)], 2, 48, [.slice, .slice], none⟩),
  (54, ⟨.func, 1, 8, [.func], none⟩),
  (55, ⟨.func, 1, 8, [.func], none⟩),
  (56,⟨.strct [(9,0),(37,1)],7,64,[.str,.int .i64,.int .i64,.int .i64,.int .i64,.int .i64,.int .i64],none⟩),
  (57,⟨.strct [(9,0),(37,1)],7,64,[.str,.int .i64,.int .i64,.int .i64,.int .i64,.int .i64,.int .i64],none⟩),
  (58, ⟨.func, 1, 8, [.func], none⟩),
  (59, ⟨.func, 1, 8, [.func], none⟩),
  (60, ⟨.ptr 37, 1, 8, [.ptr], none⟩),
  (61, ⟨.func, 1, 8, [.func], none⟩),
  (62, ⟨.func, 1, 8, [.func], none⟩),
  (64, ⟨.func, 1, 8, [.func], none⟩),
  (65, ⟨.func, 1, 8, [.func], none⟩),
  (66, ⟨.slice 5, 1, 24, [.slice], none⟩),
  (67, ⟨.strct [(66, 0), (3, 1)], 2, 32, [.slice, .int .i64], none⟩),
  (68, ⟨.strct [(66, 0), (3, 1)], 2, 32, [.slice, .int .i64], none⟩),
  (70, ⟨.func, 1, 8, [.func], none⟩),
  (71, ⟨.func, 1, 8, [.func], none⟩),
  (72, ⟨.func, 1, 8, [.func], none⟩),
  (74, ⟨.func, 1, 8, [.func], none⟩),
  (75, ⟨.func, 1, 8, [.func], none⟩),
  (76, ⟨.func, 1, 8, [.func], none⟩),
  (77, ⟨.func, 1, 8, [.func], none⟩),
  (78, ⟨.func, 1, 8, [.func], none⟩),
  (79, ⟨.func, 1, 8, [.func], none⟩),
  (80, ⟨.func, 1, 8, [.func], none⟩),
  (81, ⟨.func, 1, 8, [.func], none⟩),
  (82, ⟨.func, 1, 8, [.func], none⟩),
  (83, ⟨.func, 1, 8, [.func], none⟩),
  (84, ⟨.map 3 86, 1, 8, [.map], none⟩),
  (85, ⟨.func, 1, 8, [.func], none⟩),
  (86, ⟨.func, 1, 8, [.func], none⟩),
  (87, ⟨.ptr 52, 1, 8, [.ptr], none⟩),
  (88, ⟨.map 9 3, 1, 8, [.map], none⟩),
  (89, ⟨.func, 1, 8, [.func], none⟩),
  (90, ⟨.func, 1, 8, [.func], none⟩),
  (91, ⟨.func, 1, 8, [.func], none⟩),
  (92, ⟨.strct [(33, 0), (33, 1)], 2, 48, [.slice, .slice], none⟩),
  (93, ⟨.strct [(33, 0), (33, 1)], 2, 48, [.slice, .slice], none⟩),
  (94, ⟨.func, 1, 8, [.func], none⟩),
  (95, ⟨.func, 1, 8, [.func], none⟩),
  (96, ⟨.func, 1, 8, [.func], none⟩),
  (98, ⟨.func, 1, 8, [.func], none⟩),
  (99, ⟨.func, 1, 8, [.func], none⟩),
  (100, ⟨.func, 1, 8, [.func], none⟩),
  (101, ⟨.int .u64, 1, 8, [.int .u64], none⟩),
  (102, ⟨.func, 1, 8, [.func], none⟩),
  (103, ⟨.func, 1, 8, [.func], none⟩),
  (104, ⟨.ptr 107, 1, 8, [.ptr], none⟩),
  (105, ⟨.func, 1, 8, [.func], none⟩),
  (106,⟨.strct [(3,0),(3,1),(47,2)],6,48,[.int .i64,.int .i64,.int .i64,.int .i64,.int .i64,.int .i64],some [false,false,false,false,false,false]⟩),
  (107,⟨.strct [(3,0),(3,1),(47,2)],6,48,[.int .i64,.int .i64,.int .i64,.int .i64,.int .i64,.int .i64],some [false,false,false,false,false,false]⟩),
  (108,⟨.strct [(3,0),(3,1),(3,2),(47,3)],7,56,[.int .i64,.int .i64,.int .i64,.int .i64,.int .i64,.int .i64,.int .i64],some [false,false,false,false,false,false,false]⟩),
  (109,⟨.strct [(3,0),(3,1),(3,2),(47,3)],7,56,[.int .i64,.int .i64,.int .i64,.int .i64,.int .i64,.int .i64,.int .i64],some [false,false,false,false,false,false,false]⟩),
  (111, ⟨.func, 1, 8, [.func], none⟩),
  (112,⟨.strct [(3,0),(3,1),(47,2)],6,48,[.int .i64,.int .i64,.int .i64,.int .i64,.int .i64,.int .i64],some [false,false,false,false,false,false]⟩),
  (113,⟨.strct [(3,0),(3,1),(47,2)],6,48,[.int .i64,.int .i64,.int .i64,.int .i64,.int .i64,.int .i64],some [false,false,false,false,false,false]⟩),
  (115, ⟨.func, 1, 8, [.func], none⟩),
  (117, ⟨.func, 1, 8, [.func], none⟩),
  (118, ⟨.func, 1, 8, [.func], none⟩),
  (119, ⟨.strct [(25, 0), (33, 1), (33, 2), (3, 3)], 4, 80, [.slice, .slice, .slice, .int .i64], none⟩),
  (120, ⟨.strct [(25, 0), (33, 1), (33, 2), (3, 3)], 4, 80, [.slice, .slice, .slice, .int .i64], none⟩),
  (121, ⟨.func, 1, 8, [.func], none⟩),
  (122, ⟨.func, 1, 8, [.func], none⟩),
  (123, ⟨.func, 1, 8, [.func], none⟩),
  (124, ⟨.func, 1, 8, [.func], none⟩),
  (125, ⟨.func, 1, 8, [.func], none⟩),
  (126, ⟨.func, 1, 8, [.func], none⟩),
  (127, ⟨.func, 1, 8, [.func], none⟩),
  (128, ⟨.slice 66, 1, 24, [.slice], none⟩),
  (129, ⟨.func, 1, 8, [.func], none⟩),
  (130, ⟨.func, 1, 8, [.func], none⟩),
  (131, ⟨.func, 1, 8, [.func], none⟩),
  (132, ⟨.func, 1, 8, [.func], none⟩),
  (134, ⟨.func, 1, 8, [.func], none⟩),
  (135, ⟨.func, 1, 8, [.func], none⟩),
  (136, ⟨.strct [(23, 0), (135, 1)], 2, 32, [.slice, .func], none⟩),
  (137, ⟨.strct [(23, 0), (135, 1)], 2, 32, [.slice, .func], none⟩),
  (138, ⟨.func, 1, 8, [.func], none⟩),
  (139, ⟨.func, 1, 8, [.func], none⟩),
  (140, ⟨.func, 1, 8, [.func], none⟩),
  (141, ⟨.array 256 4, sb141, 256, zb141, none⟩),
  (142, ⟨.array 256 4, sb142, 256, zb142, none⟩),
  (144, ⟨.func, 1, 8, [.func], none⟩),
  (145, ⟨.func, 1, 8, [.func], none⟩),
  (146, ⟨.ptr 142, 1, 8, [.ptr], none⟩),
  (147, ⟨.func, 1, 8, [.func], none⟩),
  (148, ⟨.func, 1, 8, [.func], none⟩),
  (149, ⟨.func, 1, 8, [.func], none⟩),
  (151, ⟨.func, 1, 8, [.func], none⟩),
  (152, ⟨.int .u32, 1, 4, [.int .u32], none⟩),
  (153, ⟨.func, 1, 8, [.func], none⟩),
  (154, ⟨.func, 1, 8, [.func], none⟩),
  (156, ⟨.func, 1, 8, [.func], none⟩),
  (157, ⟨.func, 1, 8, [.func], none⟩),
  (158, ⟨.func, 1, 8, [.func], none⟩),
  (159, ⟨.func, 1, 8, [.func], none⟩),
  (161, ⟨.func, 1, 8, [.func], none⟩),
  (162, ⟨.func, 1, 8, [.func], none⟩),
  (163, ⟨.slice 4, 1, 24, [.slice], none⟩),
  (164,⟨.array 8 5,8,8,[.int .u8,.int .u8,.int .u8,.int .u8,.int .u8,.int .u8,.int .u8,.int .u8],some [false,false,false,false,false,false,false,false]⟩),
  (165,⟨.array 16 152,16,64,[.int .u32,.int .u32,.int .u32,.int .u32,.int .u32,.int .u32,.int .u32,.int .u32,.int .u32,.int .u32,.int .u32,.int .u32,.int .u32,.int .u32,.int .u32,.int .u32],some [false,false,false,false,false,false,false,false,false,false,false,false,false,false,false,false]⟩),
  (166, ⟨.func, 1, 8, [.func], none⟩),
  (167, ⟨.func, 1, 8, [.func], none⟩),
  (168, ⟨.func, 1, 8, [.func], none⟩),
  (169, ⟨.func, 1, 8, [.func], none⟩),
  (170, ⟨.array 256 5, sb170, 256, zb170, none⟩),
  (171, ⟨.strct [(5, 0), (5, 1)], 2, 2, [.int .u8, .int .u8], some [false, false]⟩),
  (172, ⟨.strct [(5, 0), (5, 1)], 2, 2, [.int .u8, .int .u8], some [false, false]⟩),
  (173,⟨.array 16 172,32,32,[.int .u8,.int .u8,.int .u8,.int .u8,.int .u8,.int .u8,.int .u8,.int .u8,.int .u8,.int .u8,.int .u8,.int .u8,.int .u8,.int .u8,.int .u8,.int .u8,.int .u8,.int .u8,.int .u8,.int .u8,.int .u8,.int .u8,.int .u8,.int .u8,.int .u8,.int .u8,.int .u8,.int .u8,.int .u8,.int .u8,.int .u8,.int .u8],some [false,false,false,false,false,false,false,false,false,false,false,false,false,false,false,false,false,false,false,false,false,false,false,false,false,false,false,false,false,false,false,false]⟩),
  (174, ⟨.func, 1, 8, [.func], none⟩),
  (175, ⟨.func, 1, 8, [.func], none⟩),
  (176, ⟨.func, 1, 8, [.func], none⟩),
  (177, ⟨.func, 1, 8, [.func], none⟩),
  (178, ⟨.func, 1, 8, [.func], none⟩),
  (179, ⟨.strct [(17, 0), (17, 1), (17, 2), (9, 3)], 4, 40, [.ptr, .ptr, .ptr, .str], none⟩),
  (181, ⟨.array 0 16, 0, 0, [], none⟩),
  (182, ⟨.strct [(181, 0)], 0, 0, [], none⟩),
  (184, ⟨.func, 1, 8, [.func], none⟩),
  (187, ⟨.func, 1, 8, [.func], none⟩),
  (188, ⟨.ptr 5, 1, 8, [.ptr], none⟩),
  (191,⟨.strct [(12,0),(12,1),(152,2),(185,3),(5,4),(5,5),(186,6),(187,7),(188,8),(189,9),(190,10)],11,48,[.int .u64,.int .u64,.int .u32,.int .u8,.int .u8,.int .u8,.int .u8,.func,.ptr,.int .i32,.int .i32],none⟩)]
@[go_sem] theorem Γ_1 : Γ.get 1 = some ⟨.func, 1, 8, [.func], none⟩ := rfl
@[go_sem] theorem Γ_2 : Γ.get 2 = some ⟨.int .i64, 1, 8, [.int .i64], none⟩ := rfl
@[go_sem] theorem Γ_3 : Γ.get 3 = some ⟨.int .i64, 1, 8, [.int .i64], none⟩ := rfl
@[go_sem] theorem Γ_4 : Γ.get 4 = some ⟨.bool, 1, 1, [.bool], none⟩ := rfl
@[go_sem] theorem Γ_5 : Γ.get 5 = some ⟨.int .u8, 1, 1, [.int .u8], none⟩ := rfl
@[go_sem] theorem Γ_9 : Γ.get 9 = some ⟨.str, 1, 16, [.str], none⟩ := rfl
@[go_sem] theorem Γ_12 : Γ.get 12 = some ⟨.int .u64, 1, 8, [.int .u64], none⟩ := rfl
@[go_sem] theorem Γ_20 : Γ.get 20 = some ⟨.iface, 1, 16, [.iface], none⟩ := rfl
@[go_sem] theorem Γ_21 : Γ.get 21 = some ⟨.int .i32, 1, 4, [.int .i32], none⟩ := rfl
@[go_sem] theorem Γ_22 : Γ.get 22 = some ⟨.slice 57, 1, 24, [.slice], none⟩ := rfl
@[go_sem] theorem Γ_23 : Γ.get 23 = some ⟨.slice 47, 1, 24, [.slice], none⟩ := rfl
@[go_sem] theorem Γ_24 : Γ.get 24 = some ⟨.func, 1, 8, [.func], none⟩ := rfl
@[go_sem] theorem Γ_25 : Γ.get 25 = some ⟨.slice 37, 1, 24, [.slice], none⟩ := rfl
@[go_sem] theorem Γ_26 : Γ.get 26 = some ⟨.int .i64, 1, 8, [.int .i64], none⟩ := rfl
@[go_sem] theorem Γ_28 : Γ.get 28 = some ⟨.func, 1, 8, [.func], none⟩ := rfl
@[go_sem] theorem Γ_29 : Γ.get 29 = some ⟨.func, 1, 8, [.func], none⟩ := rfl
@[go_sem] theorem Γ_31 : Γ.get 31 = some ⟨.func, 1, 8, [.func], none⟩ := rfl
@[go_sem] theorem Γ_32 : Γ.get 32 = some ⟨.func, 1, 8, [.func], none⟩ := rfl
@[go_sem] theorem Γ_33 : Γ.get 33 = some ⟨.slice 3, 1, 24, [.slice], none⟩ := rfl
@[go_sem] theorem Γ_35 : Γ.get 35 = some ⟨.func, 1, 8, [.func], none⟩ := rfl
@[go_sem] theorem Γ_36 : Γ.get 36 = some ⟨.array 6 3,6,48,[.int .i64,.int .i64,.int .i64,.int .i64,.int .i64,.int .i64],some [false,false,false,false,false,false]⟩ := rfl
@[go_sem] theorem Γ_37 : Γ.get 37 = some ⟨.array 6 3,6,48,[.int .i64,.int .i64,.int .i64,.int .i64,.int .i64,.int .i64],some [false,false,false,false,false,false]⟩ := rfl
@[go_sem] theorem Γ_39 : Γ.get 39 = some ⟨.func, 1, 8, [.func], none⟩ := rfl
@[go_sem] theorem Γ_41 : Γ.get 41 = some ⟨.func, 1, 8, [.func], none⟩ := rfl
@[go_sem] theorem Γ_42 : Γ.get 42 = some ⟨.func, 1, 8, [.func], none⟩ := rfl
@[go_sem] theorem Γ_43 : Γ.get 43 = some ⟨.func, 1, 8, [.func], none⟩ := rfl
@[go_sem] theorem Γ_44 : Γ.get 44 = some ⟨.func, 1, 8, [.func], none⟩ := rfl
@[go_sem] theorem Γ_45 : Γ.get 45 = some ⟨.slice 49, 1, 24, [.slice], none⟩ := rfl
@[go_sem] theorem Γ_46 : Γ.get 46 = some ⟨.strct [(3,0),(3,1),(3,2),(3,3)],4,32,[.int .i64,.int .i64,.int .i64,.int .i64],some [false,false,false,false]⟩ := rfl
@[go_sem] theorem Γ_47 : Γ.get 47 = some ⟨.strct [(3,0),(3,1),(3,2),(3,3)],4,32,[.int .i64,.int .i64,.int .i64,.int .i64],some [false,false,false,false]⟩ := rfl
@[go_sem] theorem Γ_48 : Γ.get 48 = some ⟨.strct [(3,0),(3,1),(3,2),(47,3)],7,56,[.int .i64,.int .i64,.int .i64,.int .i64,.int .i64,.int .i64,.int .i64],some [false,false,false,false,false,false,false]⟩ := rfl
@[go_sem] theorem Γ_49 : Γ.get 49 = some ⟨.strct [(3,0),(3,1),(3,2),(47,3)],7,56,[.int .i64,.int .i64,.int .i64,.int .i64,.int .i64,.int .i64,.int .i64],some [false,false,false,false,false,false,false]⟩ := rfl
@[go_sem] theorem Γ_50 : Γ.get 50 = some ⟨.slice 107, 1, 24, [.slice], none⟩ := rfl
@[go_sem] theorem Γ_51 : Γ.get 51 = some ⟨.strct [(50, 0), (23, 1)], 2, 48, [.slice, .slice], none⟩ := rfl
@[go_sem] theorem Γ_52 : Γ.get 52 = some ⟨.strct [(50, 0), (23, 1)], 2, 48, [.slice, .slice], none⟩ := rfl
@[go_sem] theorem Γ_54 : Γ.get 54 = some ⟨.func, 1, 8, [.func], none⟩ := rfl
@[go_sem] theorem Γ_55 : Γ.get 55 = some ⟨.func, 1, 8, [.func], none⟩ := rfl
@[go_sem] theorem Γ_56 : Γ.get 56 = some ⟨.strct [(9,0),(37,1)],7,64,[.str,.int .i64,.int .i64,.int .i64,.int .i64,.int .i64,.int .i64],none⟩ := rfl
@[go_sem] theorem Γ_57 : Γ.get 57 = some ⟨.strct [(9,0),(37,1)],7,64,[.str,.int .i64,.int .i64,.int .i64,.int .i64,.int .i64,.int .i64],none⟩ := rfl
@[go_sem] theorem Γ_58 : Γ.get 58 = some ⟨.func, 1, 8, [.func], none⟩ := rfl
@[go_sem] theorem Γ_59 : Γ.get 59 = some ⟨.func, 1, 8, [.func], none⟩ := rfl
@[go_sem] theorem Γ_60 : Γ.get 60 = some ⟨.ptr 37, 1, 8, [.ptr], none⟩ := rfl
@[go_sem] theorem Γ_61 : Γ.get 61 = some ⟨.func, 1, 8, [.func], none⟩ := rfl
@[go_sem] theorem Γ_62 : Γ.get 62 = some ⟨.func, 1, 8, [.func], none⟩ := rfl
@[go_sem] theorem Γ_64 : Γ.get 64 = some ⟨.func, 1, 8, [.func], none⟩ := rfl
@[go_sem] theorem Γ_65 : Γ.get 65 = some ⟨.func, 1, 8, [.func], none⟩ := rfl
@[go_sem] theorem Γ_66 : Γ.get 66 = some ⟨.slice 5, 1, 24, [.slice], none⟩ := rfl
@[go_sem] theorem Γ_67 : Γ.get 67 = some ⟨.strct [(66, 0), (3, 1)], 2, 32, [.slice, .int .i64], none⟩ := rfl
@[go_sem] theorem Γ_68 : Γ.get 68 = some ⟨.strct [(66, 0), (3, 1)], 2, 32, [.slice, .int .i64], none⟩ := rfl
@[go_sem] theorem Γ_70 : Γ.get 70 = some ⟨.func, 1, 8, [.func], none⟩ := rfl
@[go_sem] theorem Γ_71 : Γ.get 71 = some ⟨.func, 1, 8, [.func], none⟩ := rfl
@[go_sem] theorem Γ_72 : Γ.get 72 = some ⟨.func, 1, 8, [.func], none⟩ := rfl
@[go_sem] theorem Γ_74 : Γ.get 74 = some ⟨.func, 1, 8, [.func], none⟩ := rfl
@[go_sem] theorem Γ_75 : Γ.get 75 = some ⟨.func, 1, 8, [.func], none⟩ := rfl
@[go_sem] theorem Γ_76 : Γ.get 76 = some ⟨.func, 1, 8, [.func], none⟩ := rfl
@[go_sem] theorem Γ_77 : Γ.get 77 = some ⟨.func, 1, 8, [.func], none⟩ := rfl
@[go_sem] theorem Γ_78 : Γ.get 78 = some ⟨.func, 1, 8, [.func], none⟩ := rfl
@[go_sem] theorem Γ_79 : Γ.get 79 = some ⟨.func, 1, 8, [.func], none⟩ := rfl
@[go_sem] theorem Γ_80 : Γ.get 80 = some ⟨.func, 1, 8, [.func], none⟩ := rfl
@[go_sem] theorem Γ_81 : Γ.get 81 = some ⟨.func, 1, 8, [.func], none⟩ := rfl
@[go_sem] theorem Γ_82 : Γ.get 82 = some ⟨.func, 1, 8, [.func], none⟩ := rfl
@[go_sem] theorem Γ_83 : Γ.get 83 = some ⟨.func, 1, 8, [.func], none⟩ := rfl
@[go_sem] theorem Γ_84 : Γ.get 84 = some ⟨.map 3 86, 1, 8, [.map], none⟩ := rfl
@[go_sem] theorem Γ_85 : Γ.get 85 = some ⟨.func, 1, 8, [.func], none⟩ := rfl
@[go_sem] theorem Γ_86 : Γ.get 86 = some ⟨.func, 1, 8, [.func], none⟩ := rfl
@[go_sem] theorem Γ_87 : Γ.get 87 = some ⟨.ptr 52, 1, 8, [.ptr], none⟩ := rfl
@[go_sem] theorem Γ_88 : Γ.get 88 = some ⟨.map 9 3, 1, 8, [.map], none⟩ := rfl
@[go_sem] theorem Γ_89 : Γ.get 89 = some ⟨.func, 1, 8, [.func], none⟩ := rfl
@[go_sem] theorem Γ_90 : Γ.get 90 = some ⟨.func, 1, 8, [.func], none⟩ := rfl
@[go_sem] theorem Γ_91 : Γ.get 91 = some ⟨.func, 1, 8, [.func], none⟩ := rfl
@[go_sem] theorem Γ_92 : Γ.get 92 = some ⟨.strct [(33, 0), (33, 1)], 2, 48, [.slice, .slice], none⟩ := rfl
@[go_sem] theorem Γ_93 : Γ.get 93 = some ⟨.strct [(33, 0), (33, 1)], 2, 48, [.slice, .slice], none⟩ := rfl
@[go_sem] theorem Γ_94 : Γ.get 94 = some ⟨.func, 1, 8, [.func], none⟩ := rfl
@[go_sem] theorem Γ_95 : Γ.get 95 = some ⟨.func, 1, 8, [.func], none⟩ := rfl
@[go_sem] theorem Γ_96 : Γ.get 96 = some ⟨.func, 1, 8, [.func], none⟩ := rfl
@[go_sem] theorem Γ_98 : Γ.get 98 = some ⟨.func, 1, 8, [.func], none⟩ := rfl
@[go_sem] theorem Γ_99 : Γ.get 99 = some ⟨.func, 1, 8, [.func], none⟩ := rfl
@[go_sem] theorem Γ_100 : Γ.get 100 = some ⟨.func, 1, 8, [.func], none⟩ := rfl
@[go_sem] theorem Γ_101 : Γ.get 101 = some ⟨.int .u64, 1, 8, [.int .u64], none⟩ := rfl
@[go_sem] theorem Γ_102 : Γ.get 102 = some ⟨.func, 1, 8, [.func], none⟩ := rfl
@[go_sem] theorem Γ_103 : Γ.get 103 = some ⟨.func, 1, 8, [.func], none⟩ := rfl
@[go_sem] theorem Γ_104 : Γ.get 104 = some ⟨.ptr 107, 1, 8, [.ptr], none⟩ := rfl
@[go_sem] theorem Γ_105 : Γ.get 105 = some ⟨.func, 1, 8, [.func], none⟩ := rfl
@[go_sem] theorem Γ_106 : Γ.get 106 = some ⟨.strct [(3,0),(3,1),(47,2)],6,48,[.int .i64,.int .i64,.int .i64,.int .i64,.int .i64,.int .i64],some [false,false,false,false,false,false]⟩ := rfl
@[go_sem] theorem Γ_107 : Γ.get 107 = some ⟨.strct [(3,0),(3,1),(47,2)],6,48,[.int .i64,.int .i64,.int .i64,.int .i64,.int .i64,.int .i64],some [false,false,false,false,false,false]⟩ := rfl
@[go_sem] theorem Γ_108 : Γ.get 108 = some ⟨.strct [(3,0),(3,1),(3,2),(47,3)],7,56,[.int .i64,.int .i64,.int .i64,.int .i64,.int .i64,.int .i64,.int .i64],some [false,false,false,false,false,false,false]⟩ := rfl
@[go_sem] theorem Γ_109 : Γ.get 109 = some ⟨.strct [(3,0),(3,1),(3,2),(47,3)],7,56,[.int .i64,.int .i64,.int .i64,.int .i64,.int .i64,.int .i64,.int .i64],some [false,false,false,false,false,false,false]⟩ := rfl
@[go_sem] theorem Γ_111 : Γ.get 111 = some ⟨.func, 1, 8, [.func], none⟩ := rfl
@[go_sem] theorem Γ_112 : Γ.get 112 = some ⟨.strct [(3,0),(3,1),(47,2)],6,48,[.int .i64,.int .i64,.int .i64,.int .i64,.int .i64,.int .i64],some [false,false,false,false,false,false]⟩ := rfl
@[go_sem] theorem Γ_113 : Γ.get 113 = some ⟨.strct [(3,0),(3,1),(47,2)],6,48,[.int .i64,.int .i64,.int .i64,.int .i64,.int .i64,.int .i64],some [false,false,false,false,false,false]⟩ := rfl
@[go_sem] theorem Γ_115 : Γ.get 115 = some ⟨.func, 1, 8, [.func], none⟩ := rfl
@[go_sem] theorem Γ_117 : Γ.get 117 = some ⟨.func, 1, 8, [.func], none⟩ := rfl
@[go_sem] theorem Γ_118 : Γ.get 118 = some ⟨.func, 1, 8, [.func], none⟩ := rfl
@[go_sem] theorem Γ_119 : Γ.get 119 = some ⟨.strct [(25,0),(33,1),(33,2),(3,3)],4,80,[.slice,.slice,.slice,.int .i64],none⟩ := rfl
@[go_sem] theorem Γ_120 : Γ.get 120 = some ⟨.strct [(25,0),(33,1),(33,2),(3,3)],4,80,[.slice,.slice,.slice,.int .i64],none⟩ := rfl
@[go_sem] theorem Γ_121 : Γ.get 121 = some ⟨.func, 1, 8, [.func], none⟩ := rfl
@[go_sem] theorem Γ_122 : Γ.get 122 = some ⟨.func, 1, 8, [.func], none⟩ := rfl
@[go_sem] theorem Γ_123 : Γ.get 123 = some ⟨.func, 1, 8, [.func], none⟩ := rfl
@[go_sem] theorem Γ_124 : Γ.get 124 = some ⟨.func, 1, 8, [.func], none⟩ := rfl
@[go_sem] theorem Γ_125 : Γ.get 125 = some ⟨.func, 1, 8, [.func], none⟩ := rfl
@[go_sem] theorem Γ_126 : Γ.get 126 = some ⟨.func, 1, 8, [.func], none⟩ := rfl
@[go_sem] theorem Γ_127 : Γ.get 127 = some ⟨.func, 1, 8, [.func], none⟩ := rfl
@[go_sem] theorem Γ_128 : Γ.get 128 = some ⟨.slice 66, 1, 24, [.slice], none⟩ := rfl
@[go_sem] theorem Γ_129 : Γ.get 129 = some ⟨.func, 1, 8, [.func], none⟩ := rfl
@[go_sem] theorem Γ_130 : Γ.get 130 = some ⟨.func, 1, 8, [.func], none⟩ := rfl
@[go_sem] theorem Γ_131 : Γ.get 131 = some ⟨.func, 1, 8, [.func], none⟩ := rfl
@[go_sem] theorem Γ_132 : Γ.get 132 = some ⟨.func, 1, 8, [.func], none⟩ := rfl
@[go_sem] theorem Γ_134 : Γ.get 134 = some ⟨.func, 1, 8, [.func], none⟩ := rfl
@[go_sem] theorem Γ_135 : Γ.get 135 = some ⟨.func, 1, 8, [.func], none⟩ := rfl
@[go_sem] theorem Γ_136 : Γ.get 136 = some ⟨.strct [(23, 0), (135, 1)], 2, 32, [.slice, .func], none⟩ := rfl
@[go_sem] theorem Γ_137 : Γ.get 137 = some ⟨.strct [(23, 0), (135, 1)], 2, 32, [.slice, .func], none⟩ := rfl
@[go_sem] theorem Γ_138 : Γ.get 138 = some ⟨.func, 1, 8, [.func], none⟩ := rfl
@[go_sem] theorem Γ_139 : Γ.get 139 = some ⟨.func, 1, 8, [.func], none⟩ := rfl
@[go_sem] theorem Γ_140 : Γ.get 140 = some ⟨.func, 1, 8, [.func], none⟩ := rfl
@[go_sem] theorem Γ_141 : Γ.get 141 = some ⟨.array 256 4, sb141, 256, zb141, none⟩ := rfl
@[go_sem] theorem Γ_142 : Γ.get 142 = some ⟨.array 256 4, sb142, 256, zb142, none⟩ := rfl
@[go_sem] theorem Γ_144 : Γ.get 144 = some ⟨.func, 1, 8, [.func], none⟩ := rfl
@[go_sem] theorem Γ_145 : Γ.get 145 = some ⟨.func, 1, 8, [.func], none⟩ := rfl
@[go_sem] theorem Γ_146 : Γ.get 146 = some ⟨.ptr 142, 1, 8, [.ptr], none⟩ := rfl
@[go_sem] theorem Γ_147 : Γ.get 147 = some ⟨.func, 1, 8, [.func], none⟩ := rfl
@[go_sem] theorem Γ_148 : Γ.get 148 = some ⟨.func, 1, 8, [.func], none⟩ := rfl
@[go_sem] theorem Γ_149 : Γ.get 149 = some ⟨.func, 1, 8, [.func], none⟩ := rfl
@[go_sem] theorem Γ_151 : Γ.get 151 = some ⟨.func, 1, 8, [.func], none⟩ := rfl
@[go_sem] theorem Γ_152 : Γ.get 152 = some ⟨.int .u32, 1, 4, [.int .u32], none⟩ := rfl
@[go_sem] theorem Γ_153 : Γ.get 153 = some ⟨.func, 1, 8, [.func], none⟩ := rfl
@[go_sem] theorem Γ_154 : Γ.get 154 = some ⟨.func, 1, 8, [.func], none⟩ := rfl
@[go_sem] theorem Γ_156 : Γ.get 156 = some ⟨.func, 1, 8, [.func], none⟩ := rfl
@[go_sem] theorem Γ_157 : Γ.get 157 = some ⟨.func, 1, 8, [.func], none⟩ := rfl
@[go_sem] theorem Γ_158 : Γ.get 158 = some ⟨.func, 1, 8, [.func], none⟩ := rfl
@[go_sem] theorem Γ_159 : Γ.get 159 = some ⟨.func, 1, 8, [.func], none⟩ := rfl
@[go_sem] theorem Γ_161 : Γ.get 161 = some ⟨.func, 1, 8, [.func], none⟩ := rfl
@[go_sem] theorem Γ_162 : Γ.get 162 = some ⟨.func, 1, 8, [.func], none⟩ := rfl
@[go_sem] theorem Γ_163 : Γ.get 163 = some ⟨.slice 4, 1, 24, [.slice], none⟩ := rfl
@[go_sem] theorem Γ_164 : Γ.get 164 = some ⟨.array 8 5,8,8,[.int .u8,.int .u8,.int .u8,.int .u8,.int .u8,.int .u8,.int .u8,.int .u8],some [false,false,false,false,false,false,false,false]⟩ := rfl
@[go_sem] theorem Γ_165 : Γ.get 165 = some ⟨.array 16 152,16,64,[.int .u32,.int .u32,.int .u32,.int .u32,.int .u32,.int .u32,.int .u32,.int .u32,.int .u32,.int .u32,.int .u32,.int .u32,.int .u32,.int .u32,.int .u32,.int .u32],some [false,false,false,false,false,false,false,false,false,false,false,false,false,false,false,false]⟩ := rfl
@[go_sem] theorem Γ_166 : Γ.get 166 = some ⟨.func, 1, 8, [.func], none⟩ := rfl
@[go_sem] theorem Γ_167 : Γ.get 167 = some ⟨.func, 1, 8, [.func], none⟩ := rfl
@[go_sem] theorem Γ_168 : Γ.get 168 = some ⟨.func, 1, 8, [.func], none⟩ := rfl
@[go_sem] theorem Γ_169 : Γ.get 169 = some ⟨.func, 1, 8, [.func], none⟩ := rfl
@[go_sem] theorem Γ_170 : Γ.get 170 = some ⟨.array 256 5, sb170, 256, zb170, none⟩ := rfl
@[go_sem] theorem Γ_171 : Γ.get 171 = some ⟨.strct [(5,0),(5,1)],2,2,[.int .u8,.int .u8],some [false,false]⟩ := rfl
@[go_sem] theorem Γ_172 : Γ.get 172 = some ⟨.strct [(5,0),(5,1)],2,2,[.int .u8,.int .u8],some [false,false]⟩ := rfl
@[go_sem] theorem Γ_173 : Γ.get 173 = some ⟨.array 16 172,32,32,[.int .u8,.int .u8,.int .u8,.int .u8,.int .u8,.int .u8,.int .u8,.int .u8,.int .u8,.int .u8,.int .u8,.int .u8,.int .u8,.int .u8,.int .u8,.int .u8,.int .u8,.int .u8,.int .u8,.int .u8,.int .u8,.int .u8,.int .u8,.int .u8,.int .u8,.int .u8,.int .u8,.int .u8,.int .u8,.int .u8,.int .u8,.int .u8],some [false,false,false,false,false,false,false,false,false,false,false,false,false,false,false,false,false,false,false,false,false,false,false,false,false,false,false,false,false,false,false,false]⟩ := rfl
@[go_sem] theorem Γ_174 : Γ.get 174 = some ⟨.func, 1, 8, [.func], none⟩ := rfl
@[go_sem] theorem Γ_175 : Γ.get 175 = some ⟨.func, 1, 8, [.func], none⟩ := rfl
@[go_sem] theorem Γ_176 : Γ.get 176 = some ⟨.func, 1, 8, [.func], none⟩ := rfl
@[go_sem] theorem Γ_177 : Γ.get 177 = some ⟨.func, 1, 8, [.func], none⟩ := rfl
@[go_sem] theorem Γ_178 : Γ.get 178 = some ⟨.func, 1, 8, [.func], none⟩ := rfl
@[go_sem] theorem Γ_179 : Γ.get 179 = some ⟨.strct [(17,0),(17,1),(17,2),(9,3)],4,40,[.ptr,.ptr,.ptr,.str],none⟩ := rfl
@[go_sem] theorem Γ_181 : Γ.get 181 = some ⟨.array 0 16, 0, 0, [], none⟩ := rfl
@[go_sem] theorem Γ_182 : Γ.get 182 = some ⟨.strct [(181, 0)], 0, 0, [], none⟩ := rfl
@[go_sem] theorem Γ_184 : Γ.get 184 = some ⟨.func, 1, 8, [.func], none⟩ := rfl
@[go_sem] theorem Γ_187 : Γ.get 187 = some ⟨.func, 1, 8, [.func], none⟩ := rfl
@[go_sem] theorem Γ_188 : Γ.get 188 = some ⟨.ptr 5, 1, 8, [.ptr], none⟩ := rfl
@[go_sem] theorem Γ_191 : Γ.get 191 = some ⟨.strct [(12,0),(12,1),(152,2),(185,3),(5,4),(5,5),(186,6),(187,7),(188,8),(189,9),(190,10)],11,48,[.int .u64,.int .u64,.int .u32,.int .u8,.int .u8,.int .u8,.int .u8,.func,.ptr,.int .i32,.int .i32],none⟩ := rfl
theorem Γ_chk : Γ.chk Tryz.prog = true := by kernel_rfl
theorem drawsAny : Tryz.prog.follows .mixedOrders = true := by kernel_rfl
theorem Γ_ok : TabOk Tryz.prog Γ := tabOk_of_chk Γ_chk
end Go.Proofs.YtngfnogoicfmaaaGreatDoor
