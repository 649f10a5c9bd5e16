/-
  The type table of this program as plain data, held against the program.
-/
import Derived.Test.YtgljhmnmmaclaaaQA3
import Derived.Test.YtgljhmnmmaclaaaProg
import Derived.KernelRfl
set_option linter.unusedSimpArgs false
set_option linter.unusedVariables false
namespace Go.Proofs.Ytgljhmnmmaclaaa
open Go.Ab
set_option maxRecDepth 20000
def Γ : Tab := [
  (1, ⟨.func, 1, 8, [.func], none⟩),
  (2, ⟨.int .i64, 1, 8, [.int .i64], none⟩),
  (3, ⟨.int .i64, 1, 8, [.int .i64], none⟩),
  (4, ⟨.bool, 1, 1, [.bool], none⟩),
  (5, ⟨.int .u8, 1, 1, [.int .u8], none⟩),
  (9, ⟨.str, 1, 16, [.str], none⟩),
  (12, ⟨.int .u64, 1, 8, [.int .u64], none⟩),
  (20, ⟨.iface, 1, 16, [.iface], none⟩),
  (21, ⟨.int .i32, 1, 4, [.int .i32], none⟩),
  (22, ⟨.slice 70, 1, 24, [.slice], none⟩),
  (23, ⟨.slice 5, 1, 24, [.slice], none⟩),
  (24, ⟨.func, 1, 8, [.func], none⟩),
  (25, ⟨.slice 120, 1, 24, [.slice], none⟩),
  (26, ⟨.slice 122, 1, 24, [.slice], none⟩),
  (27, ⟨.slice 40, 1, 24, [.slice], none⟩),
  (28, ⟨.slice 45, 1, 24, [.slice], none⟩),
  (29, ⟨.strct [(25, 0), (26, 1), (27, 2), (28, 3)], 4, 96, [.slice, .slice, .slice, .slice], none⟩),
  (30, ⟨.strct [(25, 0), (26, 1), (27, 2), (28, 3)], 4, 96, [.slice, .slice, .slice, .slice], none⟩),
  (31, ⟨.int .i64, 1, 8, [.int .i64], none⟩),
  (33, ⟨.func, 1, 8, [.func], none⟩),
  (35, ⟨.func, 1, 8, [.func], none⟩),
  (36, ⟨.slice 49, 1, 24, [.slice], none⟩),
  (37,⟨.strct [(3,0),(3,1),(3,2),(3,3)],4,32,[.int .i64,.int .i64,.int .i64,.int .i64],some [false,false,false,false]⟩),
  (38,⟨.strct [(3,0),(3,1),(3,2),(3,3)],4,32,[.int .i64,.int .i64,.int .i64,.int .i64],some [false,false,false,false]⟩),
  (39,⟨.strct [(3,0),(38,1)],5,40,[.int .i64,.int .i64,.int .i64,.int .i64,.int .i64],some [false,false,false,false,false]⟩),
  (40,⟨.strct [(3,0),(38,1)],5,40,[.int .i64,.int .i64,.int .i64,.int .i64,.int .i64],some [false,false,false,false,false]⟩),
  (41, ⟨.slice 3, 1, 24, [.slice], none⟩),
  (42,⟨.strct [(38,0),(3,4),(41,5)],6,64,[.int .i64,.int .i64,.int .i64,.int .i64,.int .i64,.slice],none⟩),
  (43,⟨.strct [(38,0),(3,4),(41,5)],6,64,[.int .i64,.int .i64,.int .i64,.int .i64,.int .i64,.slice],none⟩),
  (44,⟨.strct [(3,0),(3,1),(38,2)],6,48,[.int .i64,.int .i64,.int .i64,.int .i64,.int .i64,.int .i64],some [false,false,false,false,false,false]⟩),
  (45,⟨.strct [(3,0),(3,1),(38,2)],6,48,[.int .i64,.int .i64,.int .i64,.int .i64,.int .i64,.int .i64],some [false,false,false,false,false,false]⟩),
  (46, ⟨.func, 1, 8, [.func], none⟩),
  (47, ⟨.slice 43, 1, 24, [.slice], none⟩),
  (48, ⟨.strct [(3, 0), (47, 1)], 2, 32, [.int .i64, .slice], none⟩),
  (49, ⟨.strct [(3, 0), (47, 1)], 2, 32, [.int .i64, .slice], none⟩),
  (50, ⟨.func, 1, 8, [.func], none⟩),
  (51, ⟨.slice 38, 1, 24, [.slice], none⟩),
  (53, ⟨.func, 1, 8, [.func], none⟩),
  (55, ⟨.func, 1, 8, [.func], none⟩),
  (56, ⟨.func, 1, 8, [.func], none⟩),
  (57, ⟨.func, 1, 8, [.func], none⟩),
  (58, ⟨.func, 1, 8, [.func], none⟩),
  (59, ⟨.slice 65, 1, 24, [.slice], none⟩),
  (61, ⟨.func, 1, 8, [.func], none⟩),
  (62, ⟨.func, 1, 8, [.func], none⟩),
  (63, ⟨.func, 1, 8, [.func], none⟩),
  (64, ⟨.strct [(3, 0), (3, 1), (3, 2)], 3, 24, [.int .i64, .int .i64, .int .i64], some [false, false, false]⟩),
  (65, ⟨.strct [(3, 0), (3, 1), (3, 2)], 3, 24, [.int .i64, .int .i64, .int .i64], some [false, false, false]⟩),
  (66, ⟨.func, 1, 8, [.func], none⟩),
  (67, ⟨.map 3 74, 1, 8, [.map], none⟩),
  (68, ⟨.func, 1, 8, [.func], none⟩),
  (69,⟨.strct [(3,0),(3,1),(3,2),(38,3)],7,56,[.int .i64,.int .i64,.int .i64,.int .i64,.int .i64,.int .i64,.int .i64],some [false,false,false,false,false,false,false]⟩),
  (70,⟨.strct [(3,0),(3,1),(3,2),(38,3)],7,56,[.int .i64,.int .i64,.int .i64,.int .i64,.int .i64,.int .i64,.int .i64],some [false,false,false,false,false,false,false]⟩),
  (71, ⟨.func, 1, 8, [.func], none⟩),
  (72, ⟨.func, 1, 8, [.func], none⟩),
  (73, ⟨.strct [(71, 0), (72, 1)], 2, 16, [.func, .func], none⟩),
  (74, ⟨.strct [(71, 0), (72, 1)], 2, 16, [.func, .func], none⟩),
  (76, ⟨.func, 1, 8, [.func], none⟩),
  (77, ⟨.ptr 80, 1, 8, [.ptr], none⟩),
  (78, ⟨.map 3 38, 1, 8, [.map], none⟩),
  (79, ⟨.strct [(30, 0), (3, 4), (78, 5)], 6, 112, [.slice, .slice, .slice, .slice, .int .i64, .map], none⟩),
  (80, ⟨.strct [(30, 0), (3, 4), (78, 5)], 6, 112, [.slice, .slice, .slice, .slice, .int .i64, .map], none⟩),
  (81, ⟨.func, 1, 8, [.func], none⟩),
  (82, ⟨.func, 1, 8, [.func], none⟩),
  (83, ⟨.func, 1, 8, [.func], none⟩),
  (84, ⟨.func, 1, 8, [.func], none⟩),
  (85, ⟨.map 40 4, 1, 8, [.map], none⟩),
  (86, ⟨.func, 1, 8, [.func], none⟩),
  (87, ⟨.func, 1, 8, [.func], none⟩),
  (88, ⟨.func, 1, 8, [.func], none⟩),
  (89, ⟨.func, 1, 8, [.func], none⟩),
  (90, ⟨.func, 1, 8, [.func], none⟩),
  (91, ⟨.func, 1, 8, [.func], none⟩),
  (92, ⟨.func, 1, 8, [.func], none⟩),
  (93, ⟨.func, 1, 8, [.func], none⟩),
  (94, ⟨.func, 1, 8, [.func], none⟩),
  (95, ⟨.func, 1, 8, [.func], none⟩),
  (97, ⟨.map 3 101, 1, 8, [.map], none⟩),
  (98, ⟨.func, 1, 8, [.func], none⟩),
  (99,⟨.array 8 4,8,8,[.bool,.bool,.bool,.bool,.bool,.bool,.bool,.bool],some [true,true,true,true,true,true,true,true]⟩),
  (100,⟨.array 8 4,8,8,[.bool,.bool,.bool,.bool,.bool,.bool,.bool,.bool],some [true,true,true,true,true,true,true,true]⟩),
  (101, ⟨.map 3 43, 1, 8, [.map], none⟩),
  (102, ⟨.func, 1, 8, [.func], none⟩),
  (103, ⟨.func, 1, 8, [.func], none⟩),
  (104, ⟨.func, 1, 8, [.func], none⟩),
  (106, ⟨.func, 1, 8, [.func], none⟩),
  (107, ⟨.func, 1, 8, [.func], none⟩),
  (108, ⟨.func, 1, 8, [.func], none⟩),
  (109, ⟨.func, 1, 8, [.func], none⟩),
  (110, ⟨.func, 1, 8, [.func], none⟩),
  (111, ⟨.map 3 4, 1, 8, [.map], none⟩),
  (112, ⟨.func, 1, 8, [.func], none⟩),
  (113, ⟨.ptr 100, 1, 8, [.ptr], none⟩),
  (114, ⟨.func, 1, 8, [.func], none⟩),
  (115, ⟨.func, 1, 8, [.func], none⟩),
  (116, ⟨.func, 1, 8, [.func], none⟩),
  (117, ⟨.func, 1, 8, [.func], none⟩),
  (118, ⟨.int .u64, 1, 8, [.int .u64], none⟩),
  (119,⟨.strct [(3,0),(3,1),(38,2)],6,48,[.int .i64,.int .i64,.int .i64,.int .i64,.int .i64,.int .i64],some [false,false,false,false,false,false]⟩),
  (120,⟨.strct [(3,0),(3,1),(38,2)],6,48,[.int .i64,.int .i64,.int .i64,.int .i64,.int .i64,.int .i64],some [false,false,false,false,false,false]⟩),
  (121,⟨.strct [(3,0),(3,1),(3,2),(38,3)],7,56,[.int .i64,.int .i64,.int .i64,.int .i64,.int .i64,.int .i64,.int .i64],some [false,false,false,false,false,false,false]⟩),
  (122,⟨.strct [(3,0),(3,1),(3,2),(38,3)],7,56,[.int .i64,.int .i64,.int .i64,.int .i64,.int .i64,.int .i64,.int .i64],some [false,false,false,false,false,false,false]⟩),
  (124, ⟨.func, 1, 8, [.func], none⟩),
  (126, ⟨.func, 1, 8, [.func], none⟩),
  (128, ⟨.func, 1, 8, [.func], none⟩),
  (129, ⟨.func, 1, 8, [.func], none⟩),
  (130, ⟨.func, 1, 8, [.func], none⟩),
  (131, ⟨.func, 1, 8, [.func], none⟩),
  (132, ⟨.func, 1, 8, [.func], none⟩),
  (133, ⟨.func, 1, 8, [.func], none⟩),
  (134, ⟨.int .i64, 1, 8, [.int .i64], none⟩),
  (136, ⟨.func, 1, 8, [.func], none⟩),
  (137, ⟨.func, 1, 8, [.func], none⟩),
  (138, ⟨.func, 1, 8, [.func], none⟩),
  (140, ⟨.func, 1, 8, [.func], none⟩),
  (141, ⟨.func, 1, 8, [.func], none⟩),
  (142, ⟨.int .u32, 1, 4, [.int .u32], none⟩),
  (143, ⟨.func, 1, 8, [.func], none⟩),
  (144, ⟨.int .u64, 1, 8, [.int .u64], none⟩),
  (145, ⟨.func, 1, 8, [.func], none⟩),
  (146, ⟨.func, 1, 8, [.func], none⟩),
  (147, ⟨.int .u64, 1, 8, [.int .u64], none⟩),
  (148, ⟨.func, 1, 8, [.func], none⟩),
  (149, ⟨.func, 1, 8, [.func], none⟩),
  (150, ⟨.func, 1, 8, [.func], none⟩),
  (151, ⟨.ptr 3, 1, 8, [.ptr], none⟩),
  (152, ⟨.func, 1, 8, [.func], none⟩),
  (153, ⟨.ptr 147, 1, 8, [.ptr], none⟩),
  (155, ⟨.func, 1, 8, [.func], none⟩),
  (156, ⟨.func, 1, 8, [.func], none⟩),
  (157, ⟨.strct [(17, 0), (17, 1), (17, 2), (9, 3)], 4, 40, [.ptr, .ptr, .ptr, .str], none⟩),
  (159, ⟨.array 0 16, 0, 0, [], none⟩),
  (160, ⟨.strct [(159, 0)], 0, 0, [], none⟩),
  (162, ⟨.func, 1, 8, [.func], none⟩),
  (165, ⟨.func, 1, 8, [.func], none⟩),
  (166, ⟨.ptr 5, 1, 8, [.ptr], none⟩),
  (169,⟨.strct [(12,0),(12,1),(142,2),(163,3),(5,4),(5,5),(164,6),(165,7),(166,8),(167,9),(168,10)],11,48,[.int .u64,.int .u64,.int .u32,.int .u8,.int .u8,.int .u8,.int .u8,.func,.ptr,.int .i32,.int .i32],none⟩)]
@[go_sem] theorem Γ_1 : Γ.get 1 = some ⟨.func, 1, 8, [.func], none⟩ := rfl
@[go_sem] theorem Γ_2 : Γ.get 2 = some ⟨.int .i64, 1, 8, [.int .i64], none⟩ := rfl
@[go_sem] theorem Γ_3 : Γ.get 3 = some ⟨.int .i64, 1, 8, [.int .i64], none⟩ := rfl
@[go_sem] theorem Γ_4 : Γ.get 4 = some ⟨.bool, 1, 1, [.bool], none⟩ := rfl
@[go_sem] theorem Γ_5 : Γ.get 5 = some ⟨.int .u8, 1, 1, [.int .u8], none⟩ := rfl
@[go_sem] theorem Γ_9 : Γ.get 9 = some ⟨.str, 1, 16, [.str], none⟩ := rfl
@[go_sem] theorem Γ_12 : Γ.get 12 = some ⟨.int .u64, 1, 8, [.int .u64], none⟩ := rfl
@[go_sem] theorem Γ_20 : Γ.get 20 = some ⟨.iface, 1, 16, [.iface], none⟩ := rfl
@[go_sem] theorem Γ_21 : Γ.get 21 = some ⟨.int .i32, 1, 4, [.int .i32], none⟩ := rfl
@[go_sem] theorem Γ_22 : Γ.get 22 = some ⟨.slice 70, 1, 24, [.slice], none⟩ := rfl
@[go_sem] theorem Γ_23 : Γ.get 23 = some ⟨.slice 5, 1, 24, [.slice], none⟩ := rfl
@[go_sem] theorem Γ_24 : Γ.get 24 = some ⟨.func, 1, 8, [.func], none⟩ := rfl
@[go_sem] theorem Γ_25 : Γ.get 25 = some ⟨.slice 120, 1, 24, [.slice], none⟩ := rfl
@[go_sem] theorem Γ_26 : Γ.get 26 = some ⟨.slice 122, 1, 24, [.slice], none⟩ := rfl
@[go_sem] theorem Γ_27 : Γ.get 27 = some ⟨.slice 40, 1, 24, [.slice], none⟩ := rfl
@[go_sem] theorem Γ_28 : Γ.get 28 = some ⟨.slice 45, 1, 24, [.slice], none⟩ := rfl
@[go_sem] theorem Γ_29 : Γ.get 29 = some ⟨.strct [(25,0),(26,1),(27,2),(28,3)],4,96,[.slice,.slice,.slice,.slice],none⟩ := rfl
@[go_sem] theorem Γ_30 : Γ.get 30 = some ⟨.strct [(25,0),(26,1),(27,2),(28,3)],4,96,[.slice,.slice,.slice,.slice],none⟩ := rfl
@[go_sem] theorem Γ_31 : Γ.get 31 = some ⟨.int .i64, 1, 8, [.int .i64], none⟩ := rfl
@[go_sem] theorem Γ_33 : Γ.get 33 = some ⟨.func, 1, 8, [.func], none⟩ := rfl
@[go_sem] theorem Γ_35 : Γ.get 35 = some ⟨.func, 1, 8, [.func], none⟩ := rfl
@[go_sem] theorem Γ_36 : Γ.get 36 = some ⟨.slice 49, 1, 24, [.slice], none⟩ := rfl
@[go_sem] theorem Γ_37 : Γ.get 37 = some ⟨.strct [(3,0),(3,1),(3,2),(3,3)],4,32,[.int .i64,.int .i64,.int .i64,.int .i64],some [false,false,false,false]⟩ := rfl
@[go_sem] theorem Γ_38 : Γ.get 38 = some ⟨.strct [(3,0),(3,1),(3,2),(3,3)],4,32,[.int .i64,.int .i64,.int .i64,.int .i64],some [false,false,false,false]⟩ := rfl
@[go_sem] theorem Γ_39 : Γ.get 39 = some ⟨.strct [(3,0),(38,1)],5,40,[.int .i64,.int .i64,.int .i64,.int .i64,.int .i64],some [false,false,false,false,false]⟩ := rfl
@[go_sem] theorem Γ_40 : Γ.get 40 = some ⟨.strct [(3,0),(38,1)],5,40,[.int .i64,.int .i64,.int .i64,.int .i64,.int .i64],some [false,false,false,false,false]⟩ := rfl
@[go_sem] theorem Γ_41 : Γ.get 41 = some ⟨.slice 3, 1, 24, [.slice], none⟩ := rfl
@[go_sem] theorem Γ_42 : Γ.get 42 = some ⟨.strct [(38,0),(3,4),(41,5)],6,64,[.int .i64,.int .i64,.int .i64,.int .i64,.int .i64,.slice],none⟩ := rfl
@[go_sem] theorem Γ_43 : Γ.get 43 = some ⟨.strct [(38,0),(3,4),(41,5)],6,64,[.int .i64,.int .i64,.int .i64,.int .i64,.int .i64,.slice],none⟩ := rfl
@[go_sem] theorem Γ_44 : Γ.get 44 = some ⟨.strct [(3,0),(3,1),(38,2)],6,48,[.int .i64,.int .i64,.int .i64,.int .i64,.int .i64,.int .i64],some [false,false,false,false,false,false]⟩ := rfl
@[go_sem] theorem Γ_45 : Γ.get 45 = some ⟨.strct [(3,0),(3,1),(38,2)],6,48,[.int .i64,.int .i64,.int .i64,.int .i64,.int .i64,.int .i64],some [false,false,false,false,false,false]⟩ := rfl
@[go_sem] theorem Γ_46 : Γ.get 46 = some ⟨.func, 1, 8, [.func], none⟩ := rfl
@[go_sem] theorem Γ_47 : Γ.get 47 = some ⟨.slice 43, 1, 24, [.slice], none⟩ := rfl
@[go_sem] theorem Γ_48 : Γ.get 48 = some ⟨.strct [(3, 0), (47, 1)], 2, 32, [.int .i64, .slice], none⟩ := rfl
@[go_sem] theorem Γ_49 : Γ.get 49 = some ⟨.strct [(3, 0), (47, 1)], 2, 32, [.int .i64, .slice], none⟩ := rfl
@[go_sem] theorem Γ_50 : Γ.get 50 = some ⟨.func, 1, 8, [.func], none⟩ := rfl
@[go_sem] theorem Γ_51 : Γ.get 51 = some ⟨.slice 38, 1, 24, [.slice], none⟩ := rfl
@[go_sem] theorem Γ_53 : Γ.get 53 = some ⟨.func, 1, 8, [.func], none⟩ := rfl
@[go_sem] theorem Γ_55 : Γ.get 55 = some ⟨.func, 1, 8, [.func], none⟩ := rfl
@[go_sem] theorem Γ_56 : Γ.get 56 = some ⟨.func, 1, 8, [.func], none⟩ := rfl
@[go_sem] theorem Γ_57 : Γ.get 57 = some ⟨.func, 1, 8, [.func], none⟩ := rfl
@[go_sem] theorem Γ_58 : Γ.get 58 = some ⟨.func, 1, 8, [.func], none⟩ := rfl
@[go_sem] theorem Γ_59 : Γ.get 59 = some ⟨.slice 65, 1, 24, [.slice], none⟩ := rfl
@[go_sem] theorem Γ_61 : Γ.get 61 = some ⟨.func, 1, 8, [.func], none⟩ := rfl
@[go_sem] theorem Γ_62 : Γ.get 62 = some ⟨.func, 1, 8, [.func], none⟩ := rfl
@[go_sem] theorem Γ_63 : Γ.get 63 = some ⟨.func, 1, 8, [.func], none⟩ := rfl
@[go_sem] theorem Γ_64 : Γ.get 64 = some ⟨.strct [(3,0),(3,1),(3,2)],3,24,[.int .i64,.int .i64,.int .i64],some [false,false,false]⟩ := rfl
@[go_sem] theorem Γ_65 : Γ.get 65 = some ⟨.strct [(3,0),(3,1),(3,2)],3,24,[.int .i64,.int .i64,.int .i64],some [false,false,false]⟩ := rfl
@[go_sem] theorem Γ_66 : Γ.get 66 = some ⟨.func, 1, 8, [.func], none⟩ := rfl
@[go_sem] theorem Γ_67 : Γ.get 67 = some ⟨.map 3 74, 1, 8, [.map], none⟩ := rfl
@[go_sem] theorem Γ_68 : Γ.get 68 = some ⟨.func, 1, 8, [.func], none⟩ := rfl
@[go_sem] theorem Γ_69 : Γ.get 69 = some ⟨.strct [(3,0),(3,1),(3,2),(38,3)],7,56,[.int .i64,.int .i64,.int .i64,.int .i64,.int .i64,.int .i64,.int .i64],some [false,false,false,false,false,false,false]⟩ := rfl
@[go_sem] theorem Γ_70 : Γ.get 70 = some ⟨.strct [(3,0),(3,1),(3,2),(38,3)],7,56,[.int .i64,.int .i64,.int .i64,.int .i64,.int .i64,.int .i64,.int .i64],some [false,false,false,false,false,false,false]⟩ := rfl
@[go_sem] theorem Γ_71 : Γ.get 71 = some ⟨.func, 1, 8, [.func], none⟩ := rfl
@[go_sem] theorem Γ_72 : Γ.get 72 = some ⟨.func, 1, 8, [.func], none⟩ := rfl
@[go_sem] theorem Γ_73 : Γ.get 73 = some ⟨.strct [(71, 0), (72, 1)], 2, 16, [.func, .func], none⟩ := rfl
@[go_sem] theorem Γ_74 : Γ.get 74 = some ⟨.strct [(71, 0), (72, 1)], 2, 16, [.func, .func], none⟩ := rfl
@[go_sem] theorem Γ_76 : Γ.get 76 = some ⟨.func, 1, 8, [.func], none⟩ := rfl
@[go_sem] theorem Γ_77 : Γ.get 77 = some ⟨.ptr 80, 1, 8, [.ptr], none⟩ := rfl
@[go_sem] theorem Γ_78 : Γ.get 78 = some ⟨.map 3 38, 1, 8, [.map], none⟩ := rfl
@[go_sem] theorem Γ_79 : Γ.get 79 = some ⟨.strct [(30,0),(3,4),(78,5)],6,112,[.slice,.slice,.slice,.slice,.int .i64,.map],none⟩ := rfl
@[go_sem] theorem Γ_80 : Γ.get 80 = some ⟨.strct [(30,0),(3,4),(78,5)],6,112,[.slice,.slice,.slice,.slice,.int .i64,.map],none⟩ := rfl
@[go_sem] theorem Γ_81 : Γ.get 81 = some ⟨.func, 1, 8, [.func], none⟩ := rfl
@[go_sem] theorem Γ_82 : Γ.get 82 = some ⟨.func, 1, 8, [.func], none⟩ := rfl
@[go_sem] theorem Γ_83 : Γ.get 83 = some ⟨.func, 1, 8, [.func], none⟩ := rfl
@[go_sem] theorem Γ_84 : Γ.get 84 = some ⟨.func, 1, 8, [.func], none⟩ := rfl
@[go_sem] theorem Γ_85 : Γ.get 85 = some ⟨.map 40 4, 1, 8, [.map], none⟩ := rfl
@[go_sem] theorem Γ_86 : Γ.get 86 = some ⟨.func, 1, 8, [.func], none⟩ := rfl
@[go_sem] theorem Γ_87 : Γ.get 87 = some ⟨.func, 1, 8, [.func], none⟩ := rfl
@[go_sem] theorem Γ_88 : Γ.get 88 = some ⟨.func, 1, 8, [.func], none⟩ := rfl
@[go_sem] theorem Γ_89 : Γ.get 89 = some ⟨.func, 1, 8, [.func], none⟩ := rfl
@[go_sem] theorem Γ_90 : Γ.get 90 = some ⟨.func, 1, 8, [.func], none⟩ := rfl
@[go_sem] theorem Γ_91 : Γ.get 91 = some ⟨.func, 1, 8, [.func], none⟩ := rfl
@[go_sem] theorem Γ_92 : Γ.get 92 = some ⟨.func, 1, 8, [.func], none⟩ := rfl
@[go_sem] theorem Γ_93 : Γ.get 93 = some ⟨.func, 1, 8, [.func], none⟩ := rfl
@[go_sem] theorem Γ_94 : Γ.get 94 = some ⟨.func, 1, 8, [.func], none⟩ := rfl
@[go_sem] theorem Γ_95 : Γ.get 95 = some ⟨.func, 1, 8, [.func], none⟩ := rfl
@[go_sem] theorem Γ_97 : Γ.get 97 = some ⟨.map 3 101, 1, 8, [.map], none⟩ := rfl
@[go_sem] theorem Γ_98 : Γ.get 98 = some ⟨.func, 1, 8, [.func], none⟩ := rfl
@[go_sem] theorem Γ_99 : Γ.get 99 = some ⟨.array 8 4,8,8,[.bool,.bool,.bool,.bool,.bool,.bool,.bool,.bool],some [true,true,true,true,true,true,true,true]⟩ := rfl
@[go_sem] theorem Γ_100 : Γ.get 100 = some ⟨.array 8 4,8,8,[.bool,.bool,.bool,.bool,.bool,.bool,.bool,.bool],some [true,true,true,true,true,true,true,true]⟩ := rfl
@[go_sem] theorem Γ_101 : Γ.get 101 = some ⟨.map 3 43, 1, 8, [.map], none⟩ := rfl
@[go_sem] theorem Γ_102 : Γ.get 102 = some ⟨.func, 1, 8, [.func], none⟩ := rfl
@[go_sem] theorem Γ_103 : Γ.get 103 = some ⟨.func, 1, 8, [.func], none⟩ := rfl
@[go_sem] theorem Γ_104 : Γ.get 104 = some ⟨.func, 1, 8, [.func], none⟩ := rfl
@[go_sem] theorem Γ_106 : Γ.get 106 = some ⟨.func, 1, 8, [.func], none⟩ := rfl
@[go_sem] theorem Γ_107 : Γ.get 107 = some ⟨.func, 1, 8, [.func], none⟩ := rfl
@[go_sem] theorem Γ_108 : Γ.get 108 = some ⟨.func, 1, 8, [.func], none⟩ := rfl
@[go_sem] theorem Γ_109 : Γ.get 109 = some ⟨.func, 1, 8, [.func], none⟩ := rfl
@[go_sem] theorem Γ_110 : Γ.get 110 = some ⟨.func, 1, 8, [.func], none⟩ := rfl
@[go_sem] theorem Γ_111 : Γ.get 111 = some ⟨.map 3 4, 1, 8, [.map], none⟩ := rfl
@[go_sem] theorem Γ_112 : Γ.get 112 = some ⟨.func, 1, 8, [.func], none⟩ := rfl
@[go_sem] theorem Γ_113 : Γ.get 113 = some ⟨.ptr 100, 1, 8, [.ptr], none⟩ := rfl
@[go_sem] theorem Γ_114 : Γ.get 114 = some ⟨.func, 1, 8, [.func], none⟩ := rfl
@[go_sem] theorem Γ_115 : Γ.get 115 = some ⟨.func, 1, 8, [.func], none⟩ := rfl
@[go_sem] theorem Γ_116 : Γ.get 116 = some ⟨.func, 1, 8, [.func], none⟩ := rfl
@[go_sem] theorem Γ_117 : Γ.get 117 = some ⟨.func, 1, 8, [.func], none⟩ := rfl
@[go_sem] theorem Γ_118 : Γ.get 118 = some ⟨.int .u64, 1, 8, [.int .u64], none⟩ := rfl
@[go_sem] theorem Γ_119 : Γ.get 119 = some ⟨.strct [(3,0),(3,1),(38,2)],6,48,[.int .i64,.int .i64,.int .i64,.int .i64,.int .i64,.int .i64],some [false,false,false,false,false,false]⟩ := rfl
@[go_sem] theorem Γ_120 : Γ.get 120 = some ⟨.strct [(3,0),(3,1),(38,2)],6,48,[.int .i64,.int .i64,.int .i64,.int .i64,.int .i64,.int .i64],some [false,false,false,false,false,false]⟩ := rfl
@[go_sem] theorem Γ_121 : Γ.get 121 = some ⟨.strct [(3,0),(3,1),(3,2),(38,3)],7,56,[.int .i64,.int .i64,.int .i64,.int .i64,.int .i64,.int .i64,.int .i64],some [false,false,false,false,false,false,false]⟩ := rfl
@[go_sem] theorem Γ_122 : Γ.get 122 = some ⟨.strct [(3,0),(3,1),(3,2),(38,3)],7,56,[.int .i64,.int .i64,.int .i64,.int .i64,.int .i64,.int .i64,.int .i64],some [false,false,false,false,false,false,false]⟩ := rfl
@[go_sem] theorem Γ_124 : Γ.get 124 = some ⟨.func, 1, 8, [.func], none⟩ := rfl
@[go_sem] theorem Γ_126 : Γ.get 126 = some ⟨.func, 1, 8, [.func], none⟩ := rfl
@[go_sem] theorem Γ_128 : Γ.get 128 = some ⟨.func, 1, 8, [.func], none⟩ := rfl
@[go_sem] theorem Γ_129 : Γ.get 129 = some ⟨.func, 1, 8, [.func], none⟩ := rfl
@[go_sem] theorem Γ_130 : Γ.get 130 = some ⟨.func, 1, 8, [.func], none⟩ := rfl
@[go_sem] theorem Γ_131 : Γ.get 131 = some ⟨.func, 1, 8, [.func], none⟩ := rfl
@[go_sem] theorem Γ_132 : Γ.get 132 = some ⟨.func, 1, 8, [.func], none⟩ := rfl
@[go_sem] theorem Γ_133 : Γ.get 133 = some ⟨.func, 1, 8, [.func], none⟩ := rfl
@[go_sem] theorem Γ_134 : Γ.get 134 = some ⟨.int .i64, 1, 8, [.int .i64], none⟩ := rfl
@[go_sem] theorem Γ_136 : Γ.get 136 = some ⟨.func, 1, 8, [.func], none⟩ := rfl
@[go_sem] theorem Γ_137 : Γ.get 137 = some ⟨.func, 1, 8, [.func], none⟩ := rfl
@[go_sem] theorem Γ_138 : Γ.get 138 = some ⟨.func, 1, 8, [.func], none⟩ := rfl
@[go_sem] theorem Γ_140 : Γ.get 140 = some ⟨.func, 1, 8, [.func], none⟩ := rfl
@[go_sem] theorem Γ_141 : Γ.get 141 = some ⟨.func, 1, 8, [.func], none⟩ := rfl
@[go_sem] theorem Γ_142 : Γ.get 142 = some ⟨.int .u32, 1, 4, [.int .u32], none⟩ := rfl
@[go_sem] theorem Γ_143 : Γ.get 143 = some ⟨.func, 1, 8, [.func], none⟩ := rfl
@[go_sem] theorem Γ_144 : Γ.get 144 = some ⟨.int .u64, 1, 8, [.int .u64], none⟩ := rfl
@[go_sem] theorem Γ_145 : Γ.get 145 = some ⟨.func, 1, 8, [.func], none⟩ := rfl
@[go_sem] theorem Γ_146 : Γ.get 146 = some ⟨.func, 1, 8, [.func], none⟩ := rfl
@[go_sem] theorem Γ_147 : Γ.get 147 = some ⟨.int .u64, 1, 8, [.int .u64], none⟩ := rfl
@[go_sem] theorem Γ_148 : Γ.get 148 = some ⟨.func, 1, 8, [.func], none⟩ := rfl
@[go_sem] theorem Γ_149 : Γ.get 149 = some ⟨.func, 1, 8, [.func], none⟩ := rfl
@[go_sem] theorem Γ_150 : Γ.get 150 = some ⟨.func, 1, 8, [.func], none⟩ := rfl
@[go_sem] theorem Γ_151 : Γ.get 151 = some ⟨.ptr 3, 1, 8, [.ptr], none⟩ := rfl
@[go_sem] theorem Γ_152 : Γ.get 152 = some ⟨.func, 1, 8, [.func], none⟩ := rfl
@[go_sem] theorem Γ_153 : Γ.get 153 = some ⟨.ptr 147, 1, 8, [.ptr], none⟩ := rfl
@[go_sem] theorem Γ_155 : Γ.get 155 = some ⟨.func, 1, 8, [.func], none⟩ := rfl
@[go_sem] theorem Γ_156 : Γ.get 156 = some ⟨.func, 1, 8, [.func], none⟩ := rfl
@[go_sem] theorem Γ_157 : Γ.get 157 = some ⟨.strct [(17,0),(17,1),(17,2),(9,3)],4,40,[.ptr,.ptr,.ptr,.str],none⟩ := rfl
@[go_sem] theorem Γ_159 : Γ.get 159 = some ⟨.array 0 16, 0, 0, [], none⟩ := rfl
@[go_sem] theorem Γ_160 : Γ.get 160 = some ⟨.strct [(159, 0)], 0, 0, [], none⟩ := rfl
@[go_sem] theorem Γ_162 : Γ.get 162 = some ⟨.func, 1, 8, [.func], none⟩ := rfl
@[go_sem] theorem Γ_165 : Γ.get 165 = some ⟨.func, 1, 8, [.func], none⟩ := rfl
@[go_sem] theorem Γ_166 : Γ.get 166 = some ⟨.ptr 5, 1, 8, [.ptr], none⟩ := rfl
@[go_sem] theorem Γ_169 : Γ.get 169 = some ⟨.strct [(12,0),(12,1),(142,2),(163,3),(5,4),(5,5),(164,6),(165,7),(166,8),(167,9),(168,10)],11,48,[.int .u64,.int .u64,.int .u32,.int .u8,.int .u8,.int .u8,.int .u8,.func,.ptr,.int .i32,.int .i32],none⟩ := rfl
theorem Γ_chk : Γ.chk Try.prog = true := by kernel_rfl
theorem drawsAny : Try.prog.follows .mixedOrders = true := by kernel_rfl
theorem Γ_ok : TabOk Try.prog Γ := tabOk_of_chk Γ_chk
end Go.Proofs.Ytgljhmnmmaclaaa
