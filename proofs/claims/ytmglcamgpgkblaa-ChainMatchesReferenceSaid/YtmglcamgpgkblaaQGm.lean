/-
  The type table of this program as plain data, held against the program.
-/
import Derived.Test.YtmglcamgpgkblaaQA3
import Derived.Test.YtmglcamgpgkblaaProg
import Derived.KernelRfl
set_option linter.unusedSimpArgs false
set_option linter.unusedVariables false
namespace Go.Proofs.Ytmglcamgpgkblaa
open Go.Ab
set_option maxRecDepth 20000
def Γ : Tab := [
  (1, ⟨.func, 1, 8, [.func], none⟩),
  (2, ⟨.int .i64, 1, 8, [.int .i64], none⟩),
  (3, ⟨.int .i64, 1, 8, [.int .i64], none⟩),
  (4, ⟨.bool, 1, 1, [.bool], none⟩),
  (5, ⟨.int .u8, 1, 1, [.int .u8], none⟩),
  (9, ⟨.str, 1, 16, [.str], none⟩),
  (12, ⟨.int .u64, 1, 8, [.int .u64], none⟩),
  (20, ⟨.iface, 1, 16, [.iface], none⟩),
  (21, ⟨.int .i32, 1, 4, [.int .i32], none⟩),
  (22, ⟨.slice 47, 1, 24, [.slice], none⟩),
  (23, ⟨.slice 45, 1, 24, [.slice], none⟩),
  (24, ⟨.slice 3, 1, 24, [.slice], none⟩),
  (25, ⟨.strct [(3, 0), (22, 1), (23, 2), (24, 3)], 4, 80, [.int .i64, .slice, .slice, .slice], none⟩),
  (26, ⟨.strct [(3, 0), (22, 1), (23, 2), (24, 3)], 4, 80, [.int .i64, .slice, .slice, .slice], none⟩),
  (27, ⟨.slice 41, 1, 24, [.slice], none⟩),
  (28, ⟨.func, 1, 8, [.func], none⟩),
  (29, ⟨.func, 1, 8, [.func], none⟩),
  (30,⟨.array 6 3,6,48,[.int .i64,.int .i64,.int .i64,.int .i64,.int .i64,.int .i64],some [false,false,false,false,false,false]⟩),
  (31,⟨.array 6 3,6,48,[.int .i64,.int .i64,.int .i64,.int .i64,.int .i64,.int .i64],some [false,false,false,false,false,false]⟩),
  (32, ⟨.int .i64, 1, 8, [.int .i64], none⟩),
  (34, ⟨.func, 1, 8, [.func], none⟩),
  (36, ⟨.func, 1, 8, [.func], none⟩),
  (37, ⟨.func, 1, 8, [.func], none⟩),
  (38, ⟨.func, 1, 8, [.func], none⟩),
  (39, ⟨.func, 1, 8, [.func], none⟩),
  (40, ⟨.strct [(3, 0), (3, 1), (3, 2)], 3, 24, [.int .i64, .int .i64, .int .i64], some [false, false, false]⟩),
  (41, ⟨.strct [(3, 0), (3, 1), (3, 2)], 3, 24, [.int .i64, .int .i64, .int .i64], some [false, false, false]⟩),
  (42, ⟨.func, 1, 8, [.func], none⟩),
  (43, ⟨.func, 1, 8, [.func], none⟩),
  (44,⟨.strct [(3,0),(3,1),(31,2),(3,8)],9,72,[.int .i64,.int .i64,.int .i64,.int .i64,.int .i64,.int .i64,.int .i64,.int .i64,.int .i64],some [false,false,false,false,false,false,false,false,false]⟩),
  (45,⟨.strct [(3,0),(3,1),(31,2),(3,8)],9,72,[.int .i64,.int .i64,.int .i64,.int .i64,.int .i64,.int .i64,.int .i64,.int .i64,.int .i64],some [false,false,false,false,false,false,false,false,false]⟩),
  (46,⟨.strct [(3,0),(3,1),(3,2),(31,3),(4,9)],10,80,[.int .i64,.int .i64,.int .i64,.int .i64,.int .i64,.int .i64,.int .i64,.int .i64,.int .i64,.bool],some [false,false,false,false,false,false,false,false,false,true]⟩),
  (47,⟨.strct [(3,0),(3,1),(3,2),(31,3),(4,9)],10,80,[.int .i64,.int .i64,.int .i64,.int .i64,.int .i64,.int .i64,.int .i64,.int .i64,.int .i64,.bool],some [false,false,false,false,false,false,false,false,false,true]⟩),
  (48, ⟨.func, 1, 8, [.func], none⟩),
  (49, ⟨.func, 1, 8, [.func], none⟩),
  (50, ⟨.slice 31, 1, 24, [.slice], none⟩),
  (51, ⟨.func, 1, 8, [.func], none⟩),
  (52, ⟨.func, 1, 8, [.func], none⟩),
  (53, ⟨.func, 1, 8, [.func], none⟩),
  (54, ⟨.slice 72, 1, 24, [.slice], none⟩),
  (55, ⟨.slice 72, 1, 24, [.slice], none⟩),
  (56, ⟨.func, 1, 8, [.func], none⟩),
  (57, ⟨.func, 1, 8, [.func], none⟩),
  (58,⟨.strct [(41,0),(31,3)],9,72,[.int .i64,.int .i64,.int .i64,.int .i64,.int .i64,.int .i64,.int .i64,.int .i64,.int .i64],some [false,false,false,false,false,false,false,false,false]⟩),
  (59,⟨.strct [(41,0),(31,3)],9,72,[.int .i64,.int .i64,.int .i64,.int .i64,.int .i64,.int .i64,.int .i64,.int .i64,.int .i64],some [false,false,false,false,false,false,false,false,false]⟩),
  (61, ⟨.func, 1, 8, [.func], none⟩),
  (62, ⟨.func, 1, 8, [.func], none⟩),
  (63, ⟨.func, 1, 8, [.func], none⟩),
  (64, ⟨.func, 1, 8, [.func], none⟩),
  (65, ⟨.func, 1, 8, [.func], none⟩),
  (66, ⟨.slice 104, 1, 24, [.slice], none⟩),
  (67, ⟨.func, 1, 8, [.func], none⟩),
  (68, ⟨.func, 1, 8, [.func], none⟩),
  (69, ⟨.func, 1, 8, [.func], none⟩),
  (70, ⟨.func, 1, 8, [.func], none⟩),
  (71, ⟨.slice 29, 1, 24, [.slice], none⟩),
  (72, ⟨.slice 74, 1, 24, [.slice], none⟩),
  (73,⟨.strct [(41,0),(31,3)],9,72,[.int .i64,.int .i64,.int .i64,.int .i64,.int .i64,.int .i64,.int .i64,.int .i64,.int .i64],some [false,false,false,false,false,false,false,false,false]⟩),
  (74,⟨.strct [(41,0),(31,3)],9,72,[.int .i64,.int .i64,.int .i64,.int .i64,.int .i64,.int .i64,.int .i64,.int .i64,.int .i64],some [false,false,false,false,false,false,false,false,false]⟩),
  (75, ⟨.func, 1, 8, [.func], none⟩),
  (77, ⟨.func, 1, 8, [.func], none⟩),
  (78, ⟨.func, 1, 8, [.func], none⟩),
  (79, ⟨.func, 1, 8, [.func], none⟩),
  (80, ⟨.func, 1, 8, [.func], none⟩),
  (81, ⟨.func, 1, 8, [.func], none⟩),
  (82, ⟨.func, 1, 8, [.func], none⟩),
  (83, ⟨.func, 1, 8, [.func], none⟩),
  (84, ⟨.slice 87, 1, 24, [.slice], none⟩),
  (85,⟨.array 2 31,12,96,[.int .i64,.int .i64,.int .i64,.int .i64,.int .i64,.int .i64,.int .i64,.int .i64,.int .i64,.int .i64,.int .i64,.int .i64],some [false,false,false,false,false,false,false,false,false,false,false,false]⟩),
  (86,⟨.strct [(3,0),(85,1)],13,104,[.int .i64,.int .i64,.int .i64,.int .i64,.int .i64,.int .i64,.int .i64,.int .i64,.int .i64,.int .i64,.int .i64,.int .i64,.int .i64],some [false,false,false,false,false,false,false,false,false,false,false,false,false]⟩),
  (87,⟨.strct [(3,0),(85,1)],13,104,[.int .i64,.int .i64,.int .i64,.int .i64,.int .i64,.int .i64,.int .i64,.int .i64,.int .i64,.int .i64,.int .i64,.int .i64,.int .i64],some [false,false,false,false,false,false,false,false,false,false,false,false,false]⟩),
  (88, ⟨.func, 1, 8, [.func], none⟩),
  (89, ⟨.slice 84, 1, 24, [.slice], none⟩),
  (90, ⟨.func, 1, 8, [.func], none⟩),
  (91, ⟨.func, 1, 8, [.func], none⟩),
  (92, ⟨.func, 1, 8, [.func], none⟩),
  (93, ⟨.func, 1, 8, [.func], none⟩),
  (94, ⟨.func, 1, 8, [.func], none⟩),
  (95, ⟨.func, 1, 8, [.func], none⟩),
  (96, ⟨.func, 1, 8, [.func], none⟩),
  (97, ⟨.func, 1, 8, [.func], none⟩),
  (98, ⟨.slice 100, 1, 24, [.slice], none⟩),
  (99, ⟨.slice 98, 1, 24, [.slice], none⟩),
  (100, ⟨.slice 31, 1, 24, [.slice], none⟩),
  (101, ⟨.func, 1, 8, [.func], none⟩),
  (102, ⟨.func, 1, 8, [.func], none⟩),
  (103, ⟨.func, 1, 8, [.func], none⟩),
  (104, ⟨.slice 59, 1, 24, [.slice], none⟩),
  (105, ⟨.func, 1, 8, [.func], none⟩),
  (106, ⟨.func, 1, 8, [.func], none⟩),
  (107, ⟨.func, 1, 8, [.func], none⟩),
  (108,⟨.array 8 47,80,640,[.int .i64,.int .i64,.int .i64,.int .i64,.int .i64,.int .i64,.int .i64,.int .i64,.int .i64,.bool,.int .i64,.int .i64,.int .i64,.int .i64,.int .i64,.int .i64,.int .i64,.int .i64,.int .i64,.bool,.int .i64,.int .i64,.int .i64,.int .i64,.int .i64,.int .i64,.int .i64,.int .i64,.int .i64,.bool,.int .i64,.int .i64,.int .i64,.int .i64,.int .i64,.int .i64,.int .i64,.int .i64,.int .i64,.bool,.int .i64,.int .i64,.int .i64,.int .i64,.int .i64,.int .i64,.int .i64,.int .i64,.int .i64,.bool,.int .i64,.int .i64,.int .i64,.int .i64,.int .i64,.int .i64,.int .i64,.int .i64,.int .i64,.bool,.int .i64,.int .i64,.int .i64,.int .i64,.int .i64,.int .i64,.int .i64,.int .i64,.int .i64,.bool,.int .i64,.int .i64,.int .i64,.int .i64,.int .i64,.int .i64,.int .i64,.int .i64,.int .i64,.bool],some [false,false,false,false,false,false,false,false,false,true,false,false,false,false,false,false,false,false,false,true,false,false,false,false,false,false,false,false,false,true,false,false,false,false,false,false,false,false,false,true,false,false,false,false,false,false,false,false,false,true,false,false,false,false,false,false,false,false,false,true,false,false,false,false,false,false,false,false,false,true,false,false,false,false,false,false,false,false,false,true]⟩),
  (109, ⟨.func, 1, 8, [.func], none⟩),
  (110, ⟨.func, 1, 8, [.func], none⟩),
  (111, ⟨.func, 1, 8, [.func], none⟩),
  (112, ⟨.func, 1, 8, [.func], none⟩),
  (113, ⟨.func, 1, 8, [.func], none⟩),
  (114, ⟨.func, 1, 8, [.func], none⟩),
  (115, ⟨.func, 1, 8, [.func], none⟩),
  (116, ⟨.int .u64, 1, 8, [.int .u64], none⟩),
  (117, ⟨.func, 1, 8, [.func], none⟩),
  (118, ⟨.ptr 87, 1, 8, [.ptr], none⟩),
  (119, ⟨.func, 1, 8, [.func], none⟩),
  (120, ⟨.func, 1, 8, [.func], none⟩),
  (121, ⟨.func, 1, 8, [.func], none⟩),
  (122, ⟨.func, 1, 8, [.func], none⟩),
  (123, ⟨.int .i64, 1, 8, [.int .i64], none⟩),
  (125, ⟨.func, 1, 8, [.func], none⟩),
  (126, ⟨.func, 1, 8, [.func], none⟩),
  (127, ⟨.func, 1, 8, [.func], none⟩),
  (129, ⟨.func, 1, 8, [.func], none⟩),
  (130, ⟨.func, 1, 8, [.func], none⟩),
  (131, ⟨.int .u32, 1, 4, [.int .u32], none⟩),
  (132, ⟨.func, 1, 8, [.func], none⟩),
  (133, ⟨.int .u64, 1, 8, [.int .u64], none⟩),
  (134, ⟨.int .u64, 1, 8, [.int .u64], none⟩),
  (135, ⟨.func, 1, 8, [.func], none⟩),
  (136, ⟨.func, 1, 8, [.func], none⟩),
  (137, ⟨.func, 1, 8, [.func], none⟩),
  (138, ⟨.ptr 3, 1, 8, [.ptr], none⟩),
  (139, ⟨.func, 1, 8, [.func], none⟩),
  (140, ⟨.ptr 134, 1, 8, [.ptr], none⟩),
  (142, ⟨.func, 1, 8, [.func], none⟩),
  (143, ⟨.func, 1, 8, [.func], none⟩),
  (144, ⟨.strct [(17, 0), (17, 1), (17, 2), (9, 3)], 4, 40, [.ptr, .ptr, .ptr, .str], none⟩),
  (146, ⟨.array 0 16, 0, 0, [], none⟩),
  (147, ⟨.strct [(146, 0)], 0, 0, [], none⟩),
  (149, ⟨.func, 1, 8, [.func], none⟩),
  (152, ⟨.func, 1, 8, [.func], none⟩),
  (153, ⟨.ptr 5, 1, 8, [.ptr], none⟩),
  (156,⟨.strct [(12,0),(12,1),(131,2),(150,3),(5,4),(5,5),(151,6),(152,7),(153,8),(154,9),(155,10)],11,48,[.int .u64,.int .u64,.int .u32,.int .u8,.int .u8,.int .u8,.int .u8,.func,.ptr,.int .i32,.int .i32],none⟩)]
@[go_sem] theorem Γ_1 : Γ.get 1 = some ⟨.func, 1, 8, [.func], none⟩ := rfl
@[go_sem] theorem Γ_2 : Γ.get 2 = some ⟨.int .i64, 1, 8, [.int .i64], none⟩ := rfl
@[go_sem] theorem Γ_3 : Γ.get 3 = some ⟨.int .i64, 1, 8, [.int .i64], none⟩ := rfl
@[go_sem] theorem Γ_4 : Γ.get 4 = some ⟨.bool, 1, 1, [.bool], none⟩ := rfl
@[go_sem] theorem Γ_5 : Γ.get 5 = some ⟨.int .u8, 1, 1, [.int .u8], none⟩ := rfl
@[go_sem] theorem Γ_9 : Γ.get 9 = some ⟨.str, 1, 16, [.str], none⟩ := rfl
@[go_sem] theorem Γ_12 : Γ.get 12 = some ⟨.int .u64, 1, 8, [.int .u64], none⟩ := rfl
@[go_sem] theorem Γ_20 : Γ.get 20 = some ⟨.iface, 1, 16, [.iface], none⟩ := rfl
@[go_sem] theorem Γ_21 : Γ.get 21 = some ⟨.int .i32, 1, 4, [.int .i32], none⟩ := rfl
@[go_sem] theorem Γ_22 : Γ.get 22 = some ⟨.slice 47, 1, 24, [.slice], none⟩ := rfl
@[go_sem] theorem Γ_23 : Γ.get 23 = some ⟨.slice 45, 1, 24, [.slice], none⟩ := rfl
@[go_sem] theorem Γ_24 : Γ.get 24 = some ⟨.slice 3, 1, 24, [.slice], none⟩ := rfl
@[go_sem] theorem Γ_25 : Γ.get 25 = some ⟨.strct [(3,0),(22,1),(23,2),(24,3)],4,80,[.int .i64,.slice,.slice,.slice],none⟩ := rfl
@[go_sem] theorem Γ_26 : Γ.get 26 = some ⟨.strct [(3,0),(22,1),(23,2),(24,3)],4,80,[.int .i64,.slice,.slice,.slice],none⟩ := rfl
@[go_sem] theorem Γ_27 : Γ.get 27 = some ⟨.slice 41, 1, 24, [.slice], none⟩ := rfl
@[go_sem] theorem Γ_28 : Γ.get 28 = some ⟨.func, 1, 8, [.func], none⟩ := rfl
@[go_sem] theorem Γ_29 : Γ.get 29 = some ⟨.func, 1, 8, [.func], none⟩ := rfl
@[go_sem] theorem Γ_30 : Γ.get 30 = some ⟨.array 6 3,6,48,[.int .i64,.int .i64,.int .i64,.int .i64,.int .i64,.int .i64],some [false,false,false,false,false,false]⟩ := rfl
@[go_sem] theorem Γ_31 : Γ.get 31 = some ⟨.array 6 3,6,48,[.int .i64,.int .i64,.int .i64,.int .i64,.int .i64,.int .i64],some [false,false,false,false,false,false]⟩ := rfl
@[go_sem] theorem Γ_32 : Γ.get 32 = some ⟨.int .i64, 1, 8, [.int .i64], none⟩ := rfl
@[go_sem] theorem Γ_34 : Γ.get 34 = some ⟨.func, 1, 8, [.func], none⟩ := rfl
@[go_sem] theorem Γ_36 : Γ.get 36 = some ⟨.func, 1, 8, [.func], none⟩ := rfl
@[go_sem] theorem Γ_37 : Γ.get 37 = some ⟨.func, 1, 8, [.func], none⟩ := rfl
@[go_sem] theorem Γ_38 : Γ.get 38 = some ⟨.func, 1, 8, [.func], none⟩ := rfl
@[go_sem] theorem Γ_39 : Γ.get 39 = some ⟨.func, 1, 8, [.func], none⟩ := rfl
@[go_sem] theorem Γ_40 : Γ.get 40 = some ⟨.strct [(3,0),(3,1),(3,2)],3,24,[.int .i64,.int .i64,.int .i64],some [false,false,false]⟩ := rfl
@[go_sem] theorem Γ_41 : Γ.get 41 = some ⟨.strct [(3,0),(3,1),(3,2)],3,24,[.int .i64,.int .i64,.int .i64],some [false,false,false]⟩ := rfl
@[go_sem] theorem Γ_42 : Γ.get 42 = some ⟨.func, 1, 8, [.func], none⟩ := rfl
@[go_sem] theorem Γ_43 : Γ.get 43 = some ⟨.func, 1, 8, [.func], none⟩ := rfl
@[go_sem] theorem Γ_44 : Γ.get 44 = some ⟨.strct [(3,0),(3,1),(31,2),(3,8)],9,72,[.int .i64,.int .i64,.int .i64,.int .i64,.int .i64,.int .i64,.int .i64,.int .i64,.int .i64],some [false,false,false,false,false,false,false,false,false]⟩ := rfl
@[go_sem] theorem Γ_45 : Γ.get 45 = some ⟨.strct [(3,0),(3,1),(31,2),(3,8)],9,72,[.int .i64,.int .i64,.int .i64,.int .i64,.int .i64,.int .i64,.int .i64,.int .i64,.int .i64],some [false,false,false,false,false,false,false,false,false]⟩ := rfl
@[go_sem] theorem Γ_46 : Γ.get 46 = some ⟨.strct [(3,0),(3,1),(3,2),(31,3),(4,9)],10,80,[.int .i64,.int .i64,.int .i64,.int .i64,.int .i64,.int .i64,.int .i64,.int .i64,.int .i64,.bool],some [false,false,false,false,false,false,false,false,false,true]⟩ := rfl
@[go_sem] theorem Γ_47 : Γ.get 47 = some ⟨.strct [(3,0),(3,1),(3,2),(31,3),(4,9)],10,80,[.int .i64,.int .i64,.int .i64,.int .i64,.int .i64,.int .i64,.int .i64,.int .i64,.int .i64,.bool],some [false,false,false,false,false,false,false,false,false,true]⟩ := rfl
@[go_sem] theorem Γ_48 : Γ.get 48 = some ⟨.func, 1, 8, [.func], none⟩ := rfl
@[go_sem] theorem Γ_49 : Γ.get 49 = some ⟨.func, 1, 8, [.func], none⟩ := rfl
@[go_sem] theorem Γ_50 : Γ.get 50 = some ⟨.slice 31, 1, 24, [.slice], none⟩ := rfl
@[go_sem] theorem Γ_51 : Γ.get 51 = some ⟨.func, 1, 8, [.func], none⟩ := rfl
@[go_sem] theorem Γ_52 : Γ.get 52 = some ⟨.func, 1, 8, [.func], none⟩ := rfl
@[go_sem] theorem Γ_53 : Γ.get 53 = some ⟨.func, 1, 8, [.func], none⟩ := rfl
@[go_sem] theorem Γ_54 : Γ.get 54 = some ⟨.slice 72, 1, 24, [.slice], none⟩ := rfl
@[go_sem] theorem Γ_55 : Γ.get 55 = some ⟨.slice 72, 1, 24, [.slice], none⟩ := rfl
@[go_sem] theorem Γ_56 : Γ.get 56 = some ⟨.func, 1, 8, [.func], none⟩ := rfl
@[go_sem] theorem Γ_57 : Γ.get 57 = some ⟨.func, 1, 8, [.func], none⟩ := rfl
@[go_sem] theorem Γ_58 : Γ.get 58 = some ⟨.strct [(41,0),(31,3)],9,72,[.int .i64,.int .i64,.int .i64,.int .i64,.int .i64,.int .i64,.int .i64,.int .i64,.int .i64],some [false,false,false,false,false,false,false,false,false]⟩ := rfl
@[go_sem] theorem Γ_59 : Γ.get 59 = some ⟨.strct [(41,0),(31,3)],9,72,[.int .i64,.int .i64,.int .i64,.int .i64,.int .i64,.int .i64,.int .i64,.int .i64,.int .i64],some [false,false,false,false,false,false,false,false,false]⟩ := rfl
@[go_sem] theorem Γ_61 : Γ.get 61 = some ⟨.func, 1, 8, [.func], none⟩ := rfl
@[go_sem] theorem Γ_62 : Γ.get 62 = some ⟨.func, 1, 8, [.func], none⟩ := rfl
@[go_sem] theorem Γ_63 : Γ.get 63 = some ⟨.func, 1, 8, [.func], none⟩ := rfl
@[go_sem] theorem Γ_64 : Γ.get 64 = some ⟨.func, 1, 8, [.func], none⟩ := rfl
@[go_sem] theorem Γ_65 : Γ.get 65 = some ⟨.func, 1, 8, [.func], none⟩ := rfl
@[go_sem] theorem Γ_66 : Γ.get 66 = some ⟨.slice 104, 1, 24, [.slice], none⟩ := rfl
@[go_sem] theorem Γ_67 : Γ.get 67 = some ⟨.func, 1, 8, [.func], none⟩ := rfl
@[go_sem] theorem Γ_68 : Γ.get 68 = some ⟨.func, 1, 8, [.func], none⟩ := rfl
@[go_sem] theorem Γ_69 : Γ.get 69 = some ⟨.func, 1, 8, [.func], none⟩ := rfl
@[go_sem] theorem Γ_70 : Γ.get 70 = some ⟨.func, 1, 8, [.func], none⟩ := rfl
@[go_sem] theorem Γ_71 : Γ.get 71 = some ⟨.slice 29, 1, 24, [.slice], none⟩ := rfl
@[go_sem] theorem Γ_72 : Γ.get 72 = some ⟨.slice 74, 1, 24, [.slice], none⟩ := rfl
@[go_sem] theorem Γ_73 : Γ.get 73 = some ⟨.strct [(41,0),(31,3)],9,72,[.int .i64,.int .i64,.int .i64,.int .i64,.int .i64,.int .i64,.int .i64,.int .i64,.int .i64],some [false,false,false,false,false,false,false,false,false]⟩ := rfl
@[go_sem] theorem Γ_74 : Γ.get 74 = some ⟨.strct [(41,0),(31,3)],9,72,[.int .i64,.int .i64,.int .i64,.int .i64,.int .i64,.int .i64,.int .i64,.int .i64,.int .i64],some [false,false,false,false,false,false,false,false,false]⟩ := rfl
@[go_sem] theorem Γ_75 : Γ.get 75 = some ⟨.func, 1, 8, [.func], none⟩ := rfl
@[go_sem] theorem Γ_77 : Γ.get 77 = some ⟨.func, 1, 8, [.func], none⟩ := rfl
@[go_sem] theorem Γ_78 : Γ.get 78 = some ⟨.func, 1, 8, [.func], none⟩ := rfl
@[go_sem] theorem Γ_79 : Γ.get 79 = some ⟨.func, 1, 8, [.func], none⟩ := rfl
@[go_sem] theorem Γ_80 : Γ.get 80 = some ⟨.func, 1, 8, [.func], none⟩ := rfl
@[go_sem] theorem Γ_81 : Γ.get 81 = some ⟨.func, 1, 8, [.func], none⟩ := rfl
@[go_sem] theorem Γ_82 : Γ.get 82 = some ⟨.func, 1, 8, [.func], none⟩ := rfl
@[go_sem] theorem Γ_83 : Γ.get 83 = some ⟨.func, 1, 8, [.func], none⟩ := rfl
@[go_sem] theorem Γ_84 : Γ.get 84 = some ⟨.slice 87, 1, 24, [.slice], none⟩ := rfl
@[go_sem] theorem Γ_85 : Γ.get 85 = some ⟨.array 2 31,12,96,[.int .i64,.int .i64,.int .i64,.int .i64,.int .i64,.int .i64,.int .i64,.int .i64,.int .i64,.int .i64,.int .i64,.int .i64],some [false,false,false,false,false,false,false,false,false,false,false,false]⟩ := rfl
@[go_sem] theorem Γ_86 : Γ.get 86 = some ⟨.strct [(3,0),(85,1)],13,104,[.int .i64,.int .i64,.int .i64,.int .i64,.int .i64,.int .i64,.int .i64,.int .i64,.int .i64,.int .i64,.int .i64,.int .i64,.int .i64],some [false,false,false,false,false,false,false,false,false,false,false,false,false]⟩ := rfl
@[go_sem] theorem Γ_87 : Γ.get 87 = some ⟨.strct [(3,0),(85,1)],13,104,[.int .i64,.int .i64,.int .i64,.int .i64,.int .i64,.int .i64,.int .i64,.int .i64,.int .i64,.int .i64,.int .i64,.int .i64,.int .i64],some [false,false,false,false,false,false,false,false,false,false,false,false,false]⟩ := rfl
@[go_sem] theorem Γ_88 : Γ.get 88 = some ⟨.func, 1, 8, [.func], none⟩ := rfl
@[go_sem] theorem Γ_89 : Γ.get 89 = some ⟨.slice 84, 1, 24, [.slice], none⟩ := rfl
@[go_sem] theorem Γ_90 : Γ.get 90 = some ⟨.func, 1, 8, [.func], none⟩ := rfl
@[go_sem] theorem Γ_91 : Γ.get 91 = some ⟨.func, 1, 8, [.func], none⟩ := rfl
@[go_sem] theorem Γ_92 : Γ.get 92 = some ⟨.func, 1, 8, [.func], none⟩ := rfl
@[go_sem] theorem Γ_93 : Γ.get 93 = some ⟨.func, 1, 8, [.func], none⟩ := rfl
@[go_sem] theorem Γ_94 : Γ.get 94 = some ⟨.func, 1, 8, [.func], none⟩ := rfl
@[go_sem] theorem Γ_95 : Γ.get 95 = some ⟨.func, 1, 8, [.func], none⟩ := rfl
@[go_sem] theorem Γ_96 : Γ.get 96 = some ⟨.func, 1, 8, [.func], none⟩ := rfl
@[go_sem] theorem Γ_97 : Γ.get 97 = some ⟨.func, 1, 8, [.func], none⟩ := rfl
@[go_sem] theorem Γ_98 : Γ.get 98 = some ⟨.slice 100, 1, 24, [.slice], none⟩ := rfl
@[go_sem] theorem Γ_99 : Γ.get 99 = some ⟨.slice 98, 1, 24, [.slice], none⟩ := rfl
@[go_sem] theorem Γ_100 : Γ.get 100 = some ⟨.slice 31, 1, 24, [.slice], none⟩ := rfl
@[go_sem] theorem Γ_101 : Γ.get 101 = some ⟨.func, 1, 8, [.func], none⟩ := rfl
@[go_sem] theorem Γ_102 : Γ.get 102 = some ⟨.func, 1, 8, [.func], none⟩ := rfl
@[go_sem] theorem Γ_103 : Γ.get 103 = some ⟨.func, 1, 8, [.func], none⟩ := rfl
@[go_sem] theorem Γ_104 : Γ.get 104 = some ⟨.slice 59, 1, 24, [.slice], none⟩ := rfl
@[go_sem] theorem Γ_105 : Γ.get 105 = some ⟨.func, 1, 8, [.func], none⟩ := rfl
@[go_sem] theorem Γ_106 : Γ.get 106 = some ⟨.func, 1, 8, [.func], none⟩ := rfl
@[go_sem] theorem Γ_107 : Γ.get 107 = some ⟨.func, 1, 8, [.func], none⟩ := rfl
@[go_sem] theorem Γ_108 : Γ.get 108 = some ⟨.array 8 47,80,640,[.int .i64,.int .i64,.int .i64,.int .i64,.int .i64,.int .i64,.int .i64,.int .i64,.int .i64,.bool,.int .i64,.int .i64,.int .i64,.int .i64,.int .i64,.int .i64,.int .i64,.int .i64,.int .i64,.bool,.int .i64,.int .i64,.int .i64,.int .i64,.int .i64,.int .i64,.int .i64,.int .i64,.int .i64,.bool,.int .i64,.int .i64,.int .i64,.int .i64,.int .i64,.int .i64,.int .i64,.int .i64,.int .i64,.bool,.int .i64,.int .i64,.int .i64,.int .i64,.int .i64,.int .i64,.int .i64,.int .i64,.int .i64,.bool,.int .i64,.int .i64,.int .i64,.int .i64,.int .i64,.int .i64,.int .i64,.int .i64,.int .i64,.bool,.int .i64,.int .i64,.int .i64,.int .i64,.int .i64,.int .i64,.int .i64,.int .i64,.int .i64,.bool,.int .i64,.int .i64,.int .i64,.int .i64,.int .i64,.int .i64,.int .i64,.int .i64,.int .i64,.bool],some [false,false,false,false,false,false,false,false,false,true,false,false,false,false,false,false,false,false,false,true,false,false,false,false,false,false,false,false,false,true,false,false,false,false,false,false,false,false,false,true,false,false,false,false,false,false,false,false,false,true,false,false,false,false,false,false,false,false,false,true,false,false,false,false,false,false,false,false,false,true,false,false,false,false,false,false,false,false,false,true]⟩ := rfl
@[go_sem] theorem Γ_109 : Γ.get 109 = some ⟨.func, 1, 8, [.func], none⟩ := rfl
@[go_sem] theorem Γ_110 : Γ.get 110 = some ⟨.func, 1, 8, [.func], none⟩ := rfl
@[go_sem] theorem Γ_111 : Γ.get 111 = some ⟨.func, 1, 8, [.func], none⟩ := rfl
@[go_sem] theorem Γ_112 : Γ.get 112 = some ⟨.func, 1, 8, [.func], none⟩ := rfl
@[go_sem] theorem Γ_113 : Γ.get 113 = some ⟨.func, 1, 8, [.func], none⟩ := rfl
@[go_sem] theorem Γ_114 : Γ.get 114 = some ⟨.func, 1, 8, [.func], none⟩ := rfl
@[go_sem] theorem Γ_115 : Γ.get 115 = some ⟨.func, 1, 8, [.func], none⟩ := rfl
@[go_sem] theorem Γ_116 : Γ.get 116 = some ⟨.int .u64, 1, 8, [.int .u64], none⟩ := rfl
@[go_sem] theorem Γ_117 : Γ.get 117 = some ⟨.func, 1, 8, [.func], none⟩ := rfl
@[go_sem] theorem Γ_118 : Γ.get 118 = some ⟨.ptr 87, 1, 8, [.ptr], none⟩ := rfl
@[go_sem] theorem Γ_119 : Γ.get 119 = some ⟨.func, 1, 8, [.func], none⟩ := rfl
@[go_sem] theorem Γ_120 : Γ.get 120 = some ⟨.func, 1, 8, [.func], none⟩ := rfl
@[go_sem] theorem Γ_121 : Γ.get 121 = some ⟨.func, 1, 8, [.func], none⟩ := rfl
@[go_sem] theorem Γ_122 : Γ.get 122 = some ⟨.func, 1, 8, [.func], none⟩ := rfl
@[go_sem] theorem Γ_123 : Γ.get 123 = some ⟨.int .i64, 1, 8, [.int .i64], none⟩ := rfl
@[go_sem] theorem Γ_125 : Γ.get 125 = some ⟨.func, 1, 8, [.func], none⟩ := rfl
@[go_sem] theorem Γ_126 : Γ.get 126 = some ⟨.func, 1, 8, [.func], none⟩ := rfl
@[go_sem] theorem Γ_127 : Γ.get 127 = some ⟨.func, 1, 8, [.func], none⟩ := rfl
@[go_sem] theorem Γ_129 : Γ.get 129 = some ⟨.func, 1, 8, [.func], none⟩ := rfl
@[go_sem] theorem Γ_130 : Γ.get 130 = some ⟨.func, 1, 8, [.func], none⟩ := rfl
@[go_sem] theorem Γ_131 : Γ.get 131 = some ⟨.int .u32, 1, 4, [.int .u32], none⟩ := rfl
@[go_sem] theorem Γ_132 : Γ.get 132 = some ⟨.func, 1, 8, [.func], none⟩ := rfl
@[go_sem] theorem Γ_133 : Γ.get 133 = some ⟨.int .u64, 1, 8, [.int .u64], none⟩ := rfl
@[go_sem] theorem Γ_134 : Γ.get 134 = some ⟨.int .u64, 1, 8, [.int .u64], none⟩ := rfl
@[go_sem] theorem Γ_135 : Γ.get 135 = some ⟨.func, 1, 8, [.func], none⟩ := rfl
@[go_sem] theorem Γ_136 : Γ.get 136 = some ⟨.func, 1, 8, [.func], none⟩ := rfl
@[go_sem] theorem Γ_137 : Γ.get 137 = some ⟨.func, 1, 8, [.func], none⟩ := rfl
@[go_sem] theorem Γ_138 : Γ.get 138 = some ⟨.ptr 3, 1, 8, [.ptr], none⟩ := rfl
@[go_sem] theorem Γ_139 : Γ.get 139 = some ⟨.func, 1, 8, [.func], none⟩ := rfl
@[go_sem] theorem Γ_140 : Γ.get 140 = some ⟨.ptr 134, 1, 8, [.ptr], none⟩ := rfl
@[go_sem] theorem Γ_142 : Γ.get 142 = some ⟨.func, 1, 8, [.func], none⟩ := rfl
@[go_sem] theorem Γ_143 : Γ.get 143 = some ⟨.func, 1, 8, [.func], none⟩ := rfl
@[go_sem] theorem Γ_144 : Γ.get 144 = some ⟨.strct [(17,0),(17,1),(17,2),(9,3)],4,40,[.ptr,.ptr,.ptr,.str],none⟩ := rfl
@[go_sem] theorem Γ_146 : Γ.get 146 = some ⟨.array 0 16, 0, 0, [], none⟩ := rfl
@[go_sem] theorem Γ_147 : Γ.get 147 = some ⟨.strct [(146, 0)], 0, 0, [], none⟩ := rfl
@[go_sem] theorem Γ_149 : Γ.get 149 = some ⟨.func, 1, 8, [.func], none⟩ := rfl
@[go_sem] theorem Γ_152 : Γ.get 152 = some ⟨.func, 1, 8, [.func], none⟩ := rfl
@[go_sem] theorem Γ_153 : Γ.get 153 = some ⟨.ptr 5, 1, 8, [.ptr], none⟩ := rfl
@[go_sem] theorem Γ_156 : Γ.get 156 = some ⟨.strct [(12,0),(12,1),(131,2),(150,3),(5,4),(5,5),(151,6),(152,7),(153,8),(154,9),(155,10)],11,48,[.int .u64,.int .u64,.int .u32,.int .u8,.int .u8,.int .u8,.int .u8,.func,.ptr,.int .i32,.int .i32],none⟩ := rfl
theorem Γ_chk : Γ.chk Try.prog = true := by kernel_rfl
theorem drawsAny : Try.prog.follows .mixedOrders = true := by kernel_rfl
theorem Γ_ok : TabOk Try.prog Γ := tabOk_of_chk Γ_chk
end Go.Proofs.Ytmglcamgpgkblaa
