/-
 The type table of this program as plain data, held against the program.
-/
import Derived.Test.YtonmienclploaaaGreatDoorQA3
import Derived.Test.YtonmienclploaaaGreatDoorProg
import Derived.KernelRfl
set_option linter.unusedSimpArgs false
set_option linter.unusedVariables false
namespace Go.Proofs.YtonmienclploaaaGreatDoor
open Go.Ab
set_option maxRecDepth 20000
def Γ : Tab := [
 (1, ⟨.func, 1, 8, [.func], none⟩),
 (2, ⟨.int .i64, 1, 8, [.int .i64], none⟩),
 (3, ⟨.int .i64, 1, 8, [.int .i64], none⟩),
 (4, ⟨.bool, 1, 1, [.bool], none⟩),
 (5, ⟨.int .u8, 1, 1, [.int .u8], none⟩),
 (9, ⟨.str, 1, 16, [.str], none⟩),
 (12, ⟨.int .u64, 1, 8, [.int .u64], none⟩),
 (20, ⟨.iface, 1, 16, [.iface], none⟩),
 (21, ⟨.int .i32, 1, 4, [.int .i32], none⟩),
 (22,⟨.array 6 3,6,48,[.int .i64,.int .i64,.int .i64,.int .i64,.int .i64,.int .i64],some [false,false,false,false,false,false]⟩),
 (23,⟨.array 6 3,6,48,[.int .i64,.int .i64,.int .i64,.int .i64,.int .i64,.int .i64],some [false,false,false,false,false,false]⟩),
 (24,⟨.strct [(23,0),(23,6),(3,12),(3,13)],14,112,[.int .i64,.int .i64,.int .i64,.int .i64,.int .i64,.int .i64,.int .i64,.int .i64,.int .i64,.int .i64,.int .i64,.int .i64,.int .i64,.int .i64],some [false,false,false,false,false,false,false,false,false,false,false,false,false,false]⟩),
 (25,⟨.strct [(23,0),(23,6),(3,12),(3,13)],14,112,[.int .i64,.int .i64,.int .i64,.int .i64,.int .i64,.int .i64,.int .i64,.int .i64,.int .i64,.int .i64,.int .i64,.int .i64,.int .i64,.int .i64],some [false,false,false,false,false,false,false,false,false,false,false,false,false,false]⟩),
 (26, ⟨.slice 3, 1, 24, [.slice], none⟩),
 (27, ⟨.slice 34, 1, 24, [.slice], none⟩),
 (28, ⟨.func, 1, 8, [.func], none⟩),
 (29, ⟨.slice 4, 1, 24, [.slice], none⟩),
 (30, ⟨.int .i64, 1, 8, [.int .i64], none⟩),
 (32, ⟨.func, 1, 8, [.func], none⟩),
 (33, ⟨.slice 36, 1, 24, [.slice], none⟩),
 (34,⟨.array 6 3,6,48,[.int .i64,.int .i64,.int .i64,.int .i64,.int .i64,.int .i64],some [false,false,false,false,false,false]⟩),
 (35,⟨.strct [(3,0),(3,1),(34,2)],8,64,[.int .i64,.int .i64,.int .i64,.int .i64,.int .i64,.int .i64,.int .i64,.int .i64],some [false,false,false,false,false,false,false,false]⟩),
 (36,⟨.strct [(3,0),(3,1),(34,2)],8,64,[.int .i64,.int .i64,.int .i64,.int .i64,.int .i64,.int .i64,.int .i64,.int .i64],some [false,false,false,false,false,false,false,false]⟩),
 (37, ⟨.func, 1, 8, [.func], none⟩),
 (39, ⟨.func, 1, 8, [.func], none⟩),
 (41, ⟨.func, 1, 8, [.func], none⟩),
 (42, ⟨.func, 1, 8, [.func], none⟩),
 (43, ⟨.func, 1, 8, [.func], none⟩),
 (44, ⟨.slice 96, 1, 24, [.slice], none⟩),
 (45, ⟨.strct [(44, 0), (3, 1), (3, 2)], 3, 40, [.slice, .int .i64, .int .i64], none⟩),
 (46, ⟨.strct [(44, 0), (3, 1), (3, 2)], 3, 40, [.slice, .int .i64, .int .i64], none⟩),
 (47, ⟨.slice 73, 1, 24, [.slice], none⟩),
 (48, ⟨.strct [(47, 0), (3, 1), (3, 2)], 3, 40, [.slice, .int .i64, .int .i64], none⟩),
 (49, ⟨.strct [(47, 0), (3, 1), (3, 2)], 3, 40, [.slice, .int .i64, .int .i64], none⟩),
 (50, ⟨.slice 23, 1, 24, [.slice], none⟩),
 (51, ⟨.strct [(50, 0), (50, 1), (3, 2), (3, 3)], 4, 64, [.slice, .slice, .int .i64, .int .i64], none⟩),
 (52, ⟨.strct [(50, 0), (50, 1), (3, 2), (3, 3)], 4, 64, [.slice, .slice, .int .i64, .int .i64], none⟩),
 (53,⟨.strct [(23,0),(50,6),(3,7),(3,8)],9,88,[.int .i64,.int .i64,.int .i64,.int .i64,.int .i64,.int .i64,.slice,.int .i64,.int .i64],none⟩),
 (54,⟨.strct [(23,0),(50,6),(3,7),(3,8)],9,88,[.int .i64,.int .i64,.int .i64,.int .i64,.int .i64,.int .i64,.slice,.int .i64,.int .i64],none⟩),
 (55,⟨.strct [(3,0),(46,1),(49,4),(52,7),(54,11),(25,20)],34,352,[.int .i64,.slice,.int .i64,.int .i64,.slice,.int .i64,.int .i64,.slice,.slice,.int .i64,.int .i64,.int .i64,.int .i64,.int .i64,.int .i64,.int .i64,.int .i64,.slice,.int .i64,.int .i64,.int .i64,.int .i64,.int .i64,.int .i64,.int .i64,.int .i64,.int .i64,.int .i64,.int .i64,.int .i64,.int .i64,.int .i64,.int .i64,.int .i64],none⟩),
 (56,⟨.strct [(3,0),(46,1),(49,4),(52,7),(54,11),(25,20)],34,352,[.int .i64,.slice,.int .i64,.int .i64,.slice,.int .i64,.int .i64,.slice,.slice,.int .i64,.int .i64,.int .i64,.int .i64,.int .i64,.int .i64,.int .i64,.int .i64,.slice,.int .i64,.int .i64,.int .i64,.int .i64,.int .i64,.int .i64,.int .i64,.int .i64,.int .i64,.int .i64,.int .i64,.int .i64,.int .i64,.int .i64,.int .i64,.int .i64],none⟩),
 (57, ⟨.func, 1, 8, [.func], none⟩),
 (58, ⟨.func, 1, 8, [.func], none⟩),
 (59, ⟨.slice 27, 1, 24, [.slice], none⟩),
 (60, ⟨.func, 1, 8, [.func], none⟩),
 (62, ⟨.func, 1, 8, [.func], none⟩),
 (63, ⟨.func, 1, 8, [.func], none⟩),
 (64, ⟨.func, 1, 8, [.func], none⟩),
 (65, ⟨.func, 1, 8, [.func], none⟩),
 (67, ⟨.func, 1, 8, [.func], none⟩),
 (68, ⟨.strct [(3, 0), (3, 1)], 2, 16, [.int .i64, .int .i64], some [false, false]⟩),
 (69, ⟨.strct [(3, 0), (3, 1)], 2, 16, [.int .i64, .int .i64], some [false, false]⟩),
 (70, ⟨.func, 1, 8, [.func], none⟩),
 (71, ⟨.func, 1, 8, [.func], none⟩),
 (72,⟨.strct [(3,0),(23,1),(3,7),(3,8),(3,9)],10,80,[.int .i64,.int .i64,.int .i64,.int .i64,.int .i64,.int .i64,.int .i64,.int .i64,.int .i64,.int .i64],some [false,false,false,false,false,false,false,false,false,false]⟩),
 (73,⟨.strct [(3,0),(23,1),(3,7),(3,8),(3,9)],10,80,[.int .i64,.int .i64,.int .i64,.int .i64,.int .i64,.int .i64,.int .i64,.int .i64,.int .i64,.int .i64],some [false,false,false,false,false,false,false,false,false,false]⟩),
 (74, ⟨.func, 1, 8, [.func], none⟩),
 (75, ⟨.func, 1, 8, [.func], none⟩),
 (76, ⟨.func, 1, 8, [.func], none⟩),
 (77, ⟨.func, 1, 8, [.func], none⟩),
 (78, ⟨.func, 1, 8, [.func], none⟩),
 (79, ⟨.func, 1, 8, [.func], none⟩),
 (80, ⟨.func, 1, 8, [.func], none⟩),
 (81, ⟨.func, 1, 8, [.func], none⟩),
 (82, ⟨.func, 1, 8, [.func], none⟩),
 (83,⟨.strct [(25,0),(27,14)],15,136,[.int .i64,.int .i64,.int .i64,.int .i64,.int .i64,.int .i64,.int .i64,.int .i64,.int .i64,.int .i64,.int .i64,.int .i64,.int .i64,.int .i64,.slice],none⟩),
 (84,⟨.strct [(25,0),(27,14)],15,136,[.int .i64,.int .i64,.int .i64,.int .i64,.int .i64,.int .i64,.int .i64,.int .i64,.int .i64,.int .i64,.int .i64,.int .i64,.int .i64,.int .i64,.slice],none⟩),
 (85, ⟨.func, 1, 8, [.func], none⟩),
 (86, ⟨.iface, 1, 16, [.iface], none⟩),
 (87, ⟨.iface, 1, 16, [.iface], none⟩),
 (89, ⟨.func, 1, 8, [.func], none⟩),
 (90, ⟨.func, 1, 8, [.func], none⟩),
 (91, ⟨.func, 1, 8, [.func], none⟩),
 (92, ⟨.func, 1, 8, [.func], none⟩),
 (93, ⟨.map 3 96, 1, 8, [.map], none⟩),
 (94, ⟨.func, 1, 8, [.func], none⟩),
 (95,⟨.strct [(3,0),(3,1),(3,2),(23,3)],9,72,[.int .i64,.int .i64,.int .i64,.int .i64,.int .i64,.int .i64,.int .i64,.int .i64,.int .i64],some [false,false,false,false,false,false,false,false,false]⟩),
 (96,⟨.strct [(3,0),(3,1),(3,2),(23,3)],9,72,[.int .i64,.int .i64,.int .i64,.int .i64,.int .i64,.int .i64,.int .i64,.int .i64,.int .i64],some [false,false,false,false,false,false,false,false,false]⟩),
 (98, ⟨.func, 1, 8, [.func], none⟩),
 (99, ⟨.func, 1, 8, [.func], none⟩),
 (100, ⟨.func, 1, 8, [.func], none⟩),
 (101, ⟨.func, 1, 8, [.func], none⟩),
 (102, ⟨.func, 1, 8, [.func], none⟩),
 (103, ⟨.func, 1, 8, [.func], none⟩),
 (104, ⟨.func, 1, 8, [.func], none⟩),
 (105, ⟨.func, 1, 8, [.func], none⟩),
 (106, ⟨.func, 1, 8, [.func], none⟩),
 (107, ⟨.strct [(3, 0), (3, 1)], 2, 16, [.int .i64, .int .i64], some [false, false]⟩),
 (108, ⟨.strct [(3, 0), (3, 1)], 2, 16, [.int .i64, .int .i64], some [false, false]⟩),
 (110, ⟨.func, 1, 8, [.func], none⟩),
 (111, ⟨.func, 1, 8, [.func], none⟩),
 (112, ⟨.slice 114, 1, 24, [.slice], none⟩),
 (113, ⟨.strct [(3, 0), (3, 1)], 2, 16, [.int .i64, .int .i64], some [false, false]⟩),
 (114, ⟨.strct [(3, 0), (3, 1)], 2, 16, [.int .i64, .int .i64], some [false, false]⟩),
 (115, ⟨.func, 1, 8, [.func], none⟩),
 (116, ⟨.func, 1, 8, [.func], none⟩),
 (117, ⟨.func, 1, 8, [.func], none⟩),
 (118, ⟨.func, 1, 8, [.func], none⟩),
 (119, ⟨.func, 1, 8, [.func], none⟩),
 (120, ⟨.func, 1, 8, [.func], none⟩),
 (121, ⟨.func, 1, 8, [.func], none⟩),
 (122, ⟨.func, 1, 8, [.func], none⟩),
 (123, ⟨.func, 1, 8, [.func], none⟩),
 (124, ⟨.func, 1, 8, [.func], none⟩),
 (125, ⟨.func, 1, 8, [.func], none⟩),
 (126, ⟨.func, 1, 8, [.func], none⟩),
 (127, ⟨.strct [(46, 0)], 3, 40, [.slice, .int .i64, .int .i64], none⟩),
 (128, ⟨.strct [(46, 0)], 3, 40, [.slice, .int .i64, .int .i64], none⟩),
 (129, ⟨.strct [(49, 0)], 3, 40, [.slice, .int .i64, .int .i64], none⟩),
 (130, ⟨.strct [(49, 0)], 3, 40, [.slice, .int .i64, .int .i64], none⟩),
 (131, ⟨.strct [(52, 0)], 4, 64, [.slice, .slice, .int .i64, .int .i64], none⟩),
 (132, ⟨.strct [(52, 0)], 4, 64, [.slice, .slice, .int .i64, .int .i64], none⟩),
 (133,⟨.strct [(54,0)],9,88,[.int .i64,.int .i64,.int .i64,.int .i64,.int .i64,.int .i64,.slice,.int .i64,.int .i64],none⟩),
 (134,⟨.strct [(54,0)],9,88,[.int .i64,.int .i64,.int .i64,.int .i64,.int .i64,.int .i64,.slice,.int .i64,.int .i64],none⟩),
 (135,⟨.strct [(25,0)],14,112,[.int .i64,.int .i64,.int .i64,.int .i64,.int .i64,.int .i64,.int .i64,.int .i64,.int .i64,.int .i64,.int .i64,.int .i64,.int .i64,.int .i64],some [false,false,false,false,false,false,false,false,false,false,false,false,false,false]⟩),
 (136,⟨.strct [(25,0)],14,112,[.int .i64,.int .i64,.int .i64,.int .i64,.int .i64,.int .i64,.int .i64,.int .i64,.int .i64,.int .i64,.int .i64,.int .i64,.int .i64,.int .i64],some [false,false,false,false,false,false,false,false,false,false,false,false,false,false]⟩),
 (137, ⟨.func, 1, 8, [.func], none⟩),
 (138, ⟨.map 140 4, 1, 8, [.map], none⟩),
 (140, ⟨.strct [(3, 0), (3, 1)], 2, 16, [.int .i64, .int .i64], some [false, false]⟩),
 (141, ⟨.func, 1, 8, [.func], none⟩),
 (142, ⟨.func, 1, 8, [.func], none⟩),
 (143, ⟨.int .u64, 1, 8, [.int .u64], none⟩),
 (144, ⟨.func, 1, 8, [.func], none⟩),
 (145, ⟨.func, 1, 8, [.func], none⟩),
 (146, ⟨.slice 44, 1, 24, [.slice], none⟩),
 (147, ⟨.func, 1, 8, [.func], none⟩),
 (148, ⟨.func, 1, 8, [.func], none⟩),
 (149, ⟨.strct [(49, 0), (26, 3), (3, 4)], 5, 72, [.slice, .int .i64, .int .i64, .slice, .int .i64], none⟩),
 (150, ⟨.strct [(49, 0), (26, 3), (3, 4)], 5, 72, [.slice, .int .i64, .int .i64, .slice, .int .i64], none⟩),
 (152, ⟨.func, 1, 8, [.func], none⟩),
 (154, ⟨.func, 1, 8, [.func], none⟩),
 (155, ⟨.func, 1, 8, [.func], none⟩),
 (156, ⟨.func, 1, 8, [.func], none⟩),
 (157, ⟨.func, 1, 8, [.func], none⟩),
 (158, ⟨.func, 1, 8, [.func], none⟩),
 (159, ⟨.func, 1, 8, [.func], none⟩),
 (160, ⟨.func, 1, 8, [.func], none⟩),
 (161, ⟨.func, 1, 8, [.func], none⟩),
 (162, ⟨.func, 1, 8, [.func], none⟩),
 (163, ⟨.func, 1, 8, [.func], none⟩),
 (164, ⟨.func, 1, 8, [.func], none⟩),
 (165, ⟨.slice 179, 1, 24, [.slice], none⟩),
 (166, ⟨.slice 179, 1, 24, [.slice], none⟩),
 (168, ⟨.func, 1, 8, [.func], none⟩),
 (169, ⟨.func, 1, 8, [.func], none⟩),
 (170, ⟨.func, 1, 8, [.func], none⟩),
 (171, ⟨.int .i64, 1, 8, [.int .i64], none⟩),
 (173, ⟨.func, 1, 8, [.func], none⟩),
 (174, ⟨.func, 1, 8, [.func], none⟩),
 (175, ⟨.func, 1, 8, [.func], none⟩),
 (177, ⟨.func, 1, 8, [.func], none⟩),
 (178, ⟨.func, 1, 8, [.func], none⟩),
 (179, ⟨.int .u32, 1, 4, [.int .u32], none⟩),
 (180, ⟨.func, 1, 8, [.func], none⟩),
 (181, ⟨.int .u64, 1, 8, [.int .u64], none⟩),
 (182, ⟨.func, 1, 8, [.func], none⟩),
 (183, ⟨.func, 1, 8, [.func], none⟩),
 (184, ⟨.func, 1, 8, [.func], none⟩),
 (185, ⟨.func, 1, 8, [.func], none⟩),
 (186, ⟨.func, 1, 8, [.func], none⟩),
 (187, ⟨.func, 1, 8, [.func], none⟩),
 (188, ⟨.func, 1, 8, [.func], none⟩),
 (189, ⟨.func, 1, 8, [.func], none⟩),
 (190, ⟨.func, 1, 8, [.func], none⟩),
 (191, ⟨.func, 1, 8, [.func], none⟩),
 (192,⟨.array 6 108,12,96,[.int .i64,.int .i64,.int .i64,.int .i64,.int .i64,.int .i64,.int .i64,.int .i64,.int .i64,.int .i64,.int .i64,.int .i64],some [false,false,false,false,false,false,false,false,false,false,false,false]⟩),
 (193, ⟨.func, 1, 8, [.func], none⟩),
 (194, ⟨.func, 1, 8, [.func], none⟩),
 (195, ⟨.func, 1, 8, [.func], none⟩),
 (196, ⟨.slice 166, 1, 24, [.slice], none⟩),
 (197, ⟨.func, 1, 8, [.func], none⟩),
 (198, ⟨.func, 1, 8, [.func], none⟩),
 (199, ⟨.func, 1, 8, [.func], none⟩),
 (201, ⟨.func, 1, 8, [.func], none⟩),
 (202, ⟨.func, 1, 8, [.func], none⟩),
 (203, ⟨.func, 1, 8, [.func], none⟩),
 (204, ⟨.func, 1, 8, [.func], none⟩),
 (205, ⟨.func, 1, 8, [.func], none⟩),
 (206, ⟨.int .u64, 1, 8, [.int .u64], none⟩),
 (207, ⟨.func, 1, 8, [.func], none⟩),
 (208, ⟨.func, 1, 8, [.func], none⟩),
 (209, ⟨.func, 1, 8, [.func], none⟩),
 (210, ⟨.ptr 3, 1, 8, [.ptr], none⟩),
 (211, ⟨.func, 1, 8, [.func], none⟩),
 (212, ⟨.func, 1, 8, [.func], none⟩),
 (213, ⟨.func, 1, 8, [.func], none⟩),
 (214, ⟨.func, 1, 8, [.func], none⟩),
 (215, ⟨.func, 1, 8, [.func], none⟩),
 (216, ⟨.func, 1, 8, [.func], none⟩),
 (217, ⟨.func, 1, 8, [.func], none⟩),
 (218, ⟨.func, 1, 8, [.func], none⟩),
 (219, ⟨.func, 1, 8, [.func], none⟩),
 (220, ⟨.func, 1, 8, [.func], none⟩),
 (221, ⟨.func, 1, 8, [.func], none⟩),
 (222, ⟨.func, 1, 8, [.func], none⟩),
 (223, ⟨.func, 1, 8, [.func], none⟩),
 (224, ⟨.func, 1, 8, [.func], none⟩),
 (225, ⟨.ptr 206, 1, 8, [.ptr], none⟩),
 (227, ⟨.func, 1, 8, [.func], none⟩),
 (228, ⟨.func, 1, 8, [.func], none⟩),
 (229, ⟨.strct [(30, 0)], 1, 8, [.int .i64], some [false]⟩),
 (230, ⟨.strct [(30, 0)], 1, 8, [.int .i64], some [false]⟩),
 (231, ⟨.func, 1, 8, [.func], none⟩),
 (232, ⟨.func, 1, 8, [.func], none⟩),
 (233, ⟨.func, 1, 8, [.func], none⟩),
 (234, ⟨.strct [(17, 0), (17, 1), (17, 2), (9, 3)], 4, 40, [.ptr, .ptr, .ptr, .str], none⟩),
 (236, ⟨.array 0 16, 0, 0, [], none⟩),
 (237, ⟨.strct [(236, 0)], 0, 0, [], none⟩),
 (239, ⟨.func, 1, 8, [.func], none⟩),
 (242, ⟨.func, 1, 8, [.func], none⟩),
 (243, ⟨.ptr 5, 1, 8, [.ptr], none⟩),
 (246,⟨.strct [(12,0),(12,1),(179,2),(240,3),(5,4),(5,5),(241,6),(242,7),(243,8),(244,9),(245,10)],11,48,[.int .u64,.int .u64,.int .u32,.int .u8,.int .u8,.int .u8,.int .u8,.func,.ptr,.int .i32,.int .i32],none⟩),
 (248, ⟨.func, 1, 8, [.func], none⟩),
 (249, ⟨.func, 1, 8, [.func], none⟩),
 (250, ⟨.slice 26, 1, 24, [.slice], none⟩),
 (252, ⟨.func, 1, 8, [.func], none⟩),
 (253, ⟨.func, 1, 8, [.func], none⟩),
 (254, ⟨.func, 1, 8, [.func], none⟩),
 (255, ⟨.strct [(49, 0)], 3, 40, [.slice, .int .i64, .int .i64], none⟩),
 (256, ⟨.strct [(49, 0)], 3, 40, [.slice, .int .i64, .int .i64], none⟩),
 (257, ⟨.func, 1, 8, [.func], none⟩),
 (258, ⟨.func, 1, 8, [.func], none⟩),
 (259, ⟨.func, 1, 8, [.func], none⟩),
 (260, ⟨.func, 1, 8, [.func], none⟩),
 (262, ⟨.func, 1, 8, [.func], none⟩),
 (263, ⟨.func, 1, 8, [.func], none⟩),
 (264, ⟨.slice 112, 1, 24, [.slice], none⟩),
 (265, ⟨.func, 1, 8, [.func], none⟩),
 (267, ⟨.func, 1, 8, [.func], none⟩),
 (268, ⟨.slice 69, 1, 24, [.slice], none⟩),
 (270, ⟨.func, 1, 8, [.func], none⟩),
 (271, ⟨.func, 1, 8, [.func], none⟩)]
@[go_sem] theorem Γ_1 : Γ.get 1 = some ⟨.func, 1, 8, [.func], none⟩ := rfl
@[go_sem] theorem Γ_2 : Γ.get 2 = some ⟨.int .i64, 1, 8, [.int .i64], none⟩ := rfl
@[go_sem] theorem Γ_3 : Γ.get 3 = some ⟨.int .i64, 1, 8, [.int .i64], none⟩ := rfl
@[go_sem] theorem Γ_4 : Γ.get 4 = some ⟨.bool, 1, 1, [.bool], none⟩ := rfl
@[go_sem] theorem Γ_5 : Γ.get 5 = some ⟨.int .u8, 1, 1, [.int .u8], none⟩ := rfl
@[go_sem] theorem Γ_9 : Γ.get 9 = some ⟨.str, 1, 16, [.str], none⟩ := rfl
@[go_sem] theorem Γ_12 : Γ.get 12 = some ⟨.int .u64, 1, 8, [.int .u64], none⟩ := rfl
@[go_sem] theorem Γ_20 : Γ.get 20 = some ⟨.iface, 1, 16, [.iface], none⟩ := rfl
@[go_sem] theorem Γ_21 : Γ.get 21 = some ⟨.int .i32, 1, 4, [.int .i32], none⟩ := rfl
@[go_sem] theorem Γ_22 : Γ.get 22 = some ⟨.array 6 3,6,48,[.int .i64,.int .i64,.int .i64,.int .i64,.int .i64,.int .i64],some [false,false,false,false,false,false]⟩ := rfl
@[go_sem] theorem Γ_23 : Γ.get 23 = some ⟨.array 6 3,6,48,[.int .i64,.int .i64,.int .i64,.int .i64,.int .i64,.int .i64],some [false,false,false,false,false,false]⟩ := rfl
@[go_sem] theorem Γ_24 : Γ.get 24 = some ⟨.strct [(23,0),(23,6),(3,12),(3,13)],14,112,[.int .i64,.int .i64,.int .i64,.int .i64,.int .i64,.int .i64,.int .i64,.int .i64,.int .i64,.int .i64,.int .i64,.int .i64,.int .i64,.int .i64],some [false,false,false,false,false,false,false,false,false,false,false,false,false,false]⟩ := rfl
@[go_sem] theorem Γ_25 : Γ.get 25 = some ⟨.strct [(23,0),(23,6),(3,12),(3,13)],14,112,[.int .i64,.int .i64,.int .i64,.int .i64,.int .i64,.int .i64,.int .i64,.int .i64,.int .i64,.int .i64,.int .i64,.int .i64,.int .i64,.int .i64],some [false,false,false,false,false,false,false,false,false,false,false,false,false,false]⟩ := rfl
@[go_sem] theorem Γ_26 : Γ.get 26 = some ⟨.slice 3, 1, 24, [.slice], none⟩ := rfl
@[go_sem] theorem Γ_27 : Γ.get 27 = some ⟨.slice 34, 1, 24, [.slice], none⟩ := rfl
@[go_sem] theorem Γ_28 : Γ.get 28 = some ⟨.func, 1, 8, [.func], none⟩ := rfl
@[go_sem] theorem Γ_29 : Γ.get 29 = some ⟨.slice 4, 1, 24, [.slice], none⟩ := rfl
@[go_sem] theorem Γ_30 : Γ.get 30 = some ⟨.int .i64, 1, 8, [.int .i64], none⟩ := rfl
@[go_sem] theorem Γ_32 : Γ.get 32 = some ⟨.func, 1, 8, [.func], none⟩ := rfl
@[go_sem] theorem Γ_33 : Γ.get 33 = some ⟨.slice 36, 1, 24, [.slice], none⟩ := rfl
@[go_sem] theorem Γ_34 : Γ.get 34 = some ⟨.array 6 3,6,48,[.int .i64,.int .i64,.int .i64,.int .i64,.int .i64,.int .i64],some [false,false,false,false,false,false]⟩ := rfl
@[go_sem] theorem Γ_35 : Γ.get 35 = some ⟨.strct [(3,0),(3,1),(34,2)],8,64,[.int .i64,.int .i64,.int .i64,.int .i64,.int .i64,.int .i64,.int .i64,.int .i64],some [false,false,false,false,false,false,false,false]⟩ := rfl
@[go_sem] theorem Γ_36 : Γ.get 36 = some ⟨.strct [(3,0),(3,1),(34,2)],8,64,[.int .i64,.int .i64,.int .i64,.int .i64,.int .i64,.int .i64,.int .i64,.int .i64],some [false,false,false,false,false,false,false,false]⟩ := rfl
@[go_sem] theorem Γ_37 : Γ.get 37 = some ⟨.func, 1, 8, [.func], none⟩ := rfl
@[go_sem] theorem Γ_39 : Γ.get 39 = some ⟨.func, 1, 8, [.func], none⟩ := rfl
@[go_sem] theorem Γ_41 : Γ.get 41 = some ⟨.func, 1, 8, [.func], none⟩ := rfl
@[go_sem] theorem Γ_42 : Γ.get 42 = some ⟨.func, 1, 8, [.func], none⟩ := rfl
@[go_sem] theorem Γ_43 : Γ.get 43 = some ⟨.func, 1, 8, [.func], none⟩ := rfl
@[go_sem] theorem Γ_44 : Γ.get 44 = some ⟨.slice 96, 1, 24, [.slice], none⟩ := rfl
@[go_sem] theorem Γ_45 : Γ.get 45 = some ⟨.strct [(44,0),(3,1),(3,2)],3,40,[.slice,.int .i64,.int .i64],none⟩ := rfl
@[go_sem] theorem Γ_46 : Γ.get 46 = some ⟨.strct [(44,0),(3,1),(3,2)],3,40,[.slice,.int .i64,.int .i64],none⟩ := rfl
@[go_sem] theorem Γ_47 : Γ.get 47 = some ⟨.slice 73, 1, 24, [.slice], none⟩ := rfl
@[go_sem] theorem Γ_48 : Γ.get 48 = some ⟨.strct [(47,0),(3,1),(3,2)],3,40,[.slice,.int .i64,.int .i64],none⟩ := rfl
@[go_sem] theorem Γ_49 : Γ.get 49 = some ⟨.strct [(47,0),(3,1),(3,2)],3,40,[.slice,.int .i64,.int .i64],none⟩ := rfl
@[go_sem] theorem Γ_50 : Γ.get 50 = some ⟨.slice 23, 1, 24, [.slice], none⟩ := rfl
@[go_sem] theorem Γ_51 : Γ.get 51 = some ⟨.strct [(50,0),(50,1),(3,2),(3,3)],4,64,[.slice,.slice,.int .i64,.int .i64],none⟩ := rfl
@[go_sem] theorem Γ_52 : Γ.get 52 = some ⟨.strct [(50,0),(50,1),(3,2),(3,3)],4,64,[.slice,.slice,.int .i64,.int .i64],none⟩ := rfl
@[go_sem] theorem Γ_53 : Γ.get 53 = some ⟨.strct [(23,0),(50,6),(3,7),(3,8)],9,88,[.int .i64,.int .i64,.int .i64,.int .i64,.int .i64,.int .i64,.slice,.int .i64,.int .i64],none⟩ := rfl
@[go_sem] theorem Γ_54 : Γ.get 54 = some ⟨.strct [(23,0),(50,6),(3,7),(3,8)],9,88,[.int .i64,.int .i64,.int .i64,.int .i64,.int .i64,.int .i64,.slice,.int .i64,.int .i64],none⟩ := rfl
@[go_sem] theorem Γ_55 : Γ.get 55 = some ⟨.strct [(3,0),(46,1),(49,4),(52,7),(54,11),(25,20)],34,352,[.int .i64,.slice,.int .i64,.int .i64,.slice,.int .i64,.int .i64,.slice,.slice,.int .i64,.int .i64,.int .i64,.int .i64,.int .i64,.int .i64,.int .i64,.int .i64,.slice,.int .i64,.int .i64,.int .i64,.int .i64,.int .i64,.int .i64,.int .i64,.int .i64,.int .i64,.int .i64,.int .i64,.int .i64,.int .i64,.int .i64,.int .i64,.int .i64],none⟩ := rfl
@[go_sem] theorem Γ_56 : Γ.get 56 = some ⟨.strct [(3,0),(46,1),(49,4),(52,7),(54,11),(25,20)],34,352,[.int .i64,.slice,.int .i64,.int .i64,.slice,.int .i64,.int .i64,.slice,.slice,.int .i64,.int .i64,.int .i64,.int .i64,.int .i64,.int .i64,.int .i64,.int .i64,.slice,.int .i64,.int .i64,.int .i64,.int .i64,.int .i64,.int .i64,.int .i64,.int .i64,.int .i64,.int .i64,.int .i64,.int .i64,.int .i64,.int .i64,.int .i64,.int .i64],none⟩ := rfl
@[go_sem] theorem Γ_57 : Γ.get 57 = some ⟨.func, 1, 8, [.func], none⟩ := rfl
@[go_sem] theorem Γ_58 : Γ.get 58 = some ⟨.func, 1, 8, [.func], none⟩ := rfl
@[go_sem] theorem Γ_59 : Γ.get 59 = some ⟨.slice 27, 1, 24, [.slice], none⟩ := rfl
@[go_sem] theorem Γ_60 : Γ.get 60 = some ⟨.func, 1, 8, [.func], none⟩ := rfl
@[go_sem] theorem Γ_62 : Γ.get 62 = some ⟨.func, 1, 8, [.func], none⟩ := rfl
@[go_sem] theorem Γ_63 : Γ.get 63 = some ⟨.func, 1, 8, [.func], none⟩ := rfl
@[go_sem] theorem Γ_64 : Γ.get 64 = some ⟨.func, 1, 8, [.func], none⟩ := rfl
@[go_sem] theorem Γ_65 : Γ.get 65 = some ⟨.func, 1, 8, [.func], none⟩ := rfl
@[go_sem] theorem Γ_67 : Γ.get 67 = some ⟨.func, 1, 8, [.func], none⟩ := rfl
@[go_sem] theorem Γ_68 : Γ.get 68 = some ⟨.strct [(3,0),(3,1)],2,16,[.int .i64,.int .i64],some [false,false]⟩ := rfl
@[go_sem] theorem Γ_69 : Γ.get 69 = some ⟨.strct [(3,0),(3,1)],2,16,[.int .i64,.int .i64],some [false,false]⟩ := rfl
@[go_sem] theorem Γ_70 : Γ.get 70 = some ⟨.func, 1, 8, [.func], none⟩ := rfl
@[go_sem] theorem Γ_71 : Γ.get 71 = some ⟨.func, 1, 8, [.func], none⟩ := rfl
@[go_sem] theorem Γ_72 : Γ.get 72 = some ⟨.strct [(3,0),(23,1),(3,7),(3,8),(3,9)],10,80,[.int .i64,.int .i64,.int .i64,.int .i64,.int .i64,.int .i64,.int .i64,.int .i64,.int .i64,.int .i64],some [false,false,false,false,false,false,false,false,false,false]⟩ := rfl
@[go_sem] theorem Γ_73 : Γ.get 73 = some ⟨.strct [(3,0),(23,1),(3,7),(3,8),(3,9)],10,80,[.int .i64,.int .i64,.int .i64,.int .i64,.int .i64,.int .i64,.int .i64,.int .i64,.int .i64,.int .i64],some [false,false,false,false,false,false,false,false,false,false]⟩ := rfl
@[go_sem] theorem Γ_74 : Γ.get 74 = some ⟨.func, 1, 8, [.func], none⟩ := rfl
@[go_sem] theorem Γ_75 : Γ.get 75 = some ⟨.func, 1, 8, [.func], none⟩ := rfl
@[go_sem] theorem Γ_76 : Γ.get 76 = some ⟨.func, 1, 8, [.func], none⟩ := rfl
@[go_sem] theorem Γ_77 : Γ.get 77 = some ⟨.func, 1, 8, [.func], none⟩ := rfl
@[go_sem] theorem Γ_78 : Γ.get 78 = some ⟨.func, 1, 8, [.func], none⟩ := rfl
@[go_sem] theorem Γ_79 : Γ.get 79 = some ⟨.func, 1, 8, [.func], none⟩ := rfl
@[go_sem] theorem Γ_80 : Γ.get 80 = some ⟨.func, 1, 8, [.func], none⟩ := rfl
@[go_sem] theorem Γ_81 : Γ.get 81 = some ⟨.func, 1, 8, [.func], none⟩ := rfl
@[go_sem] theorem Γ_82 : Γ.get 82 = some ⟨.func, 1, 8, [.func], none⟩ := rfl
@[go_sem] theorem Γ_83 : Γ.get 83 = some ⟨.strct [(25,0),(27,14)],15,136,[.int .i64,.int .i64,.int .i64,.int .i64,.int .i64,.int .i64,.int .i64,.int .i64,.int .i64,.int .i64,.int .i64,.int .i64,.int .i64,.int .i64,.slice],none⟩ := rfl
@[go_sem] theorem Γ_84 : Γ.get 84 = some ⟨.strct [(25,0),(27,14)],15,136,[.int .i64,.int .i64,.int .i64,.int .i64,.int .i64,.int .i64,.int .i64,.int .i64,.int .i64,.int .i64,.int .i64,.int .i64,.int .i64,.int .i64,.slice],none⟩ := rfl
@[go_sem] theorem Γ_85 : Γ.get 85 = some ⟨.func, 1, 8, [.func], none⟩ := rfl
@[go_sem] theorem Γ_86 : Γ.get 86 = some ⟨.iface, 1, 16, [.iface], none⟩ := rfl
@[go_sem] theorem Γ_87 : Γ.get 87 = some ⟨.iface, 1, 16, [.iface], none⟩ := rfl
@[go_sem] theorem Γ_89 : Γ.get 89 = some ⟨.func, 1, 8, [.func], none⟩ := rfl
@[go_sem] theorem Γ_90 : Γ.get 90 = some ⟨.func, 1, 8, [.func], none⟩ := rfl
@[go_sem] theorem Γ_91 : Γ.get 91 = some ⟨.func, 1, 8, [.func], none⟩ := rfl
@[go_sem] theorem Γ_92 : Γ.get 92 = some ⟨.func, 1, 8, [.func], none⟩ := rfl
@[go_sem] theorem Γ_93 : Γ.get 93 = some ⟨.map 3 96, 1, 8, [.map], none⟩ := rfl
@[go_sem] theorem Γ_94 : Γ.get 94 = some ⟨.func, 1, 8, [.func], none⟩ := rfl
@[go_sem] theorem Γ_95 : Γ.get 95 = some ⟨.strct [(3,0),(3,1),(3,2),(23,3)],9,72,[.int .i64,.int .i64,.int .i64,.int .i64,.int .i64,.int .i64,.int .i64,.int .i64,.int .i64],some [false,false,false,false,false,false,false,false,false]⟩ := rfl
@[go_sem] theorem Γ_96 : Γ.get 96 = some ⟨.strct [(3,0),(3,1),(3,2),(23,3)],9,72,[.int .i64,.int .i64,.int .i64,.int .i64,.int .i64,.int .i64,.int .i64,.int .i64,.int .i64],some [false,false,false,false,false,false,false,false,false]⟩ := rfl
@[go_sem] theorem Γ_98 : Γ.get 98 = some ⟨.func, 1, 8, [.func], none⟩ := rfl
@[go_sem] theorem Γ_99 : Γ.get 99 = some ⟨.func, 1, 8, [.func], none⟩ := rfl
@[go_sem] theorem Γ_100 : Γ.get 100 = some ⟨.func, 1, 8, [.func], none⟩ := rfl
@[go_sem] theorem Γ_101 : Γ.get 101 = some ⟨.func, 1, 8, [.func], none⟩ := rfl
@[go_sem] theorem Γ_102 : Γ.get 102 = some ⟨.func, 1, 8, [.func], none⟩ := rfl
@[go_sem] theorem Γ_103 : Γ.get 103 = some ⟨.func, 1, 8, [.func], none⟩ := rfl
@[go_sem] theorem Γ_104 : Γ.get 104 = some ⟨.func, 1, 8, [.func], none⟩ := rfl
@[go_sem] theorem Γ_105 : Γ.get 105 = some ⟨.func, 1, 8, [.func], none⟩ := rfl
@[go_sem] theorem Γ_106 : Γ.get 106 = some ⟨.func, 1, 8, [.func], none⟩ := rfl
@[go_sem] theorem Γ_107 : Γ.get 107 = some ⟨.strct [(3,0),(3,1)],2,16,[.int .i64,.int .i64],some [false,false]⟩ := rfl
@[go_sem] theorem Γ_108 : Γ.get 108 = some ⟨.strct [(3,0),(3,1)],2,16,[.int .i64,.int .i64],some [false,false]⟩ := rfl
@[go_sem] theorem Γ_110 : Γ.get 110 = some ⟨.func, 1, 8, [.func], none⟩ := rfl
@[go_sem] theorem Γ_111 : Γ.get 111 = some ⟨.func, 1, 8, [.func], none⟩ := rfl
@[go_sem] theorem Γ_112 : Γ.get 112 = some ⟨.slice 114, 1, 24, [.slice], none⟩ := rfl
@[go_sem] theorem Γ_113 : Γ.get 113 = some ⟨.strct [(3,0),(3,1)],2,16,[.int .i64,.int .i64],some [false,false]⟩ := rfl
@[go_sem] theorem Γ_114 : Γ.get 114 = some ⟨.strct [(3,0),(3,1)],2,16,[.int .i64,.int .i64],some [false,false]⟩ := rfl
@[go_sem] theorem Γ_115 : Γ.get 115 = some ⟨.func, 1, 8, [.func], none⟩ := rfl
@[go_sem] theorem Γ_116 : Γ.get 116 = some ⟨.func, 1, 8, [.func], none⟩ := rfl
@[go_sem] theorem Γ_117 : Γ.get 117 = some ⟨.func, 1, 8, [.func], none⟩ := rfl
@[go_sem] theorem Γ_118 : Γ.get 118 = some ⟨.func, 1, 8, [.func], none⟩ := rfl
@[go_sem] theorem Γ_119 : Γ.get 119 = some ⟨.func, 1, 8, [.func], none⟩ := rfl
@[go_sem] theorem Γ_120 : Γ.get 120 = some ⟨.func, 1, 8, [.func], none⟩ := rfl
@[go_sem] theorem Γ_121 : Γ.get 121 = some ⟨.func, 1, 8, [.func], none⟩ := rfl
@[go_sem] theorem Γ_122 : Γ.get 122 = some ⟨.func, 1, 8, [.func], none⟩ := rfl
@[go_sem] theorem Γ_123 : Γ.get 123 = some ⟨.func, 1, 8, [.func], none⟩ := rfl
@[go_sem] theorem Γ_124 : Γ.get 124 = some ⟨.func, 1, 8, [.func], none⟩ := rfl
@[go_sem] theorem Γ_125 : Γ.get 125 = some ⟨.func, 1, 8, [.func], none⟩ := rfl
@[go_sem] theorem Γ_126 : Γ.get 126 = some ⟨.func, 1, 8, [.func], none⟩ := rfl
@[go_sem] theorem Γ_127 : Γ.get 127 = some ⟨.strct [(46, 0)], 3, 40, [.slice, .int .i64, .int .i64], none⟩ := rfl
@[go_sem] theorem Γ_128 : Γ.get 128 = some ⟨.strct [(46, 0)], 3, 40, [.slice, .int .i64, .int .i64], none⟩ := rfl
@[go_sem] theorem Γ_129 : Γ.get 129 = some ⟨.strct [(49, 0)], 3, 40, [.slice, .int .i64, .int .i64], none⟩ := rfl
@[go_sem] theorem Γ_130 : Γ.get 130 = some ⟨.strct [(49, 0)], 3, 40, [.slice, .int .i64, .int .i64], none⟩ := rfl
@[go_sem] theorem Γ_131 : Γ.get 131 = some ⟨.strct [(52,0)],4,64,[.slice,.slice,.int .i64,.int .i64],none⟩ := rfl
@[go_sem] theorem Γ_132 : Γ.get 132 = some ⟨.strct [(52,0)],4,64,[.slice,.slice,.int .i64,.int .i64],none⟩ := rfl
@[go_sem] theorem Γ_133 : Γ.get 133 = some ⟨.strct [(54,0)],9,88,[.int .i64,.int .i64,.int .i64,.int .i64,.int .i64,.int .i64,.slice,.int .i64,.int .i64],none⟩ := rfl
@[go_sem] theorem Γ_134 : Γ.get 134 = some ⟨.strct [(54,0)],9,88,[.int .i64,.int .i64,.int .i64,.int .i64,.int .i64,.int .i64,.slice,.int .i64,.int .i64],none⟩ := rfl
@[go_sem] theorem Γ_135 : Γ.get 135 = some ⟨.strct [(25,0)],14,112,[.int .i64,.int .i64,.int .i64,.int .i64,.int .i64,.int .i64,.int .i64,.int .i64,.int .i64,.int .i64,.int .i64,.int .i64,.int .i64,.int .i64],some [false,false,false,false,false,false,false,false,false,false,false,false,false,false]⟩ := rfl
@[go_sem] theorem Γ_136 : Γ.get 136 = some ⟨.strct [(25,0)],14,112,[.int .i64,.int .i64,.int .i64,.int .i64,.int .i64,.int .i64,.int .i64,.int .i64,.int .i64,.int .i64,.int .i64,.int .i64,.int .i64,.int .i64],some [false,false,false,false,false,false,false,false,false,false,false,false,false,false]⟩ := rfl
@[go_sem] theorem Γ_137 : Γ.get 137 = some ⟨.func, 1, 8, [.func], none⟩ := rfl
@[go_sem] theorem Γ_138 : Γ.get 138 = some ⟨.map 140 4, 1, 8, [.map], none⟩ := rfl
@[go_sem] theorem Γ_140 : Γ.get 140 = some ⟨.strct [(3,0),(3,1)],2,16,[.int .i64,.int .i64],some [false,false]⟩ := rfl
@[go_sem] theorem Γ_141 : Γ.get 141 = some ⟨.func, 1, 8, [.func], none⟩ := rfl
@[go_sem] theorem Γ_142 : Γ.get 142 = some ⟨.func, 1, 8, [.func], none⟩ := rfl
@[go_sem] theorem Γ_143 : Γ.get 143 = some ⟨.int .u64, 1, 8, [.int .u64], none⟩ := rfl
@[go_sem] theorem Γ_144 : Γ.get 144 = some ⟨.func, 1, 8, [.func], none⟩ := rfl
@[go_sem] theorem Γ_145 : Γ.get 145 = some ⟨.func, 1, 8, [.func], none⟩ := rfl
@[go_sem] theorem Γ_146 : Γ.get 146 = some ⟨.slice 44, 1, 24, [.slice], none⟩ := rfl
@[go_sem] theorem Γ_147 : Γ.get 147 = some ⟨.func, 1, 8, [.func], none⟩ := rfl
@[go_sem] theorem Γ_148 : Γ.get 148 = some ⟨.func, 1, 8, [.func], none⟩ := rfl
@[go_sem] theorem Γ_149 : Γ.get 149 = some ⟨.strct [(49,0),(26,3),(3,4)],5,72,[.slice,.int .i64,.int .i64,.slice,.int .i64],none⟩ := rfl
@[go_sem] theorem Γ_150 : Γ.get 150 = some ⟨.strct [(49,0),(26,3),(3,4)],5,72,[.slice,.int .i64,.int .i64,.slice,.int .i64],none⟩ := rfl
@[go_sem] theorem Γ_152 : Γ.get 152 = some ⟨.func, 1, 8, [.func], none⟩ := rfl
@[go_sem] theorem Γ_154 : Γ.get 154 = some ⟨.func, 1, 8, [.func], none⟩ := rfl
@[go_sem] theorem Γ_155 : Γ.get 155 = some ⟨.func, 1, 8, [.func], none⟩ := rfl
@[go_sem] theorem Γ_156 : Γ.get 156 = some ⟨.func, 1, 8, [.func], none⟩ := rfl
@[go_sem] theorem Γ_157 : Γ.get 157 = some ⟨.func, 1, 8, [.func], none⟩ := rfl
@[go_sem] theorem Γ_158 : Γ.get 158 = some ⟨.func, 1, 8, [.func], none⟩ := rfl
@[go_sem] theorem Γ_159 : Γ.get 159 = some ⟨.func, 1, 8, [.func], none⟩ := rfl
@[go_sem] theorem Γ_160 : Γ.get 160 = some ⟨.func, 1, 8, [.func], none⟩ := rfl
@[go_sem] theorem Γ_161 : Γ.get 161 = some ⟨.func, 1, 8, [.func], none⟩ := rfl
@[go_sem] theorem Γ_162 : Γ.get 162 = some ⟨.func, 1, 8, [.func], none⟩ := rfl
@[go_sem] theorem Γ_163 : Γ.get 163 = some ⟨.func, 1, 8, [.func], none⟩ := rfl
@[go_sem] theorem Γ_164 : Γ.get 164 = some ⟨.func, 1, 8, [.func], none⟩ := rfl
@[go_sem] theorem Γ_165 : Γ.get 165 = some ⟨.slice 179, 1, 24, [.slice], none⟩ := rfl
@[go_sem] theorem Γ_166 : Γ.get 166 = some ⟨.slice 179, 1, 24, [.slice], none⟩ := rfl
@[go_sem] theorem Γ_168 : Γ.get 168 = some ⟨.func, 1, 8, [.func], none⟩ := rfl
@[go_sem] theorem Γ_169 : Γ.get 169 = some ⟨.func, 1, 8, [.func], none⟩ := rfl
@[go_sem] theorem Γ_170 : Γ.get 170 = some ⟨.func, 1, 8, [.func], none⟩ := rfl
@[go_sem] theorem Γ_171 : Γ.get 171 = some ⟨.int .i64, 1, 8, [.int .i64], none⟩ := rfl
@[go_sem] theorem Γ_173 : Γ.get 173 = some ⟨.func, 1, 8, [.func], none⟩ := rfl
@[go_sem] theorem Γ_174 : Γ.get 174 = some ⟨.func, 1, 8, [.func], none⟩ := rfl
@[go_sem] theorem Γ_175 : Γ.get 175 = some ⟨.func, 1, 8, [.func], none⟩ := rfl
@[go_sem] theorem Γ_177 : Γ.get 177 = some ⟨.func, 1, 8, [.func], none⟩ := rfl
@[go_sem] theorem Γ_178 : Γ.get 178 = some ⟨.func, 1, 8, [.func], none⟩ := rfl
@[go_sem] theorem Γ_179 : Γ.get 179 = some ⟨.int .u32, 1, 4, [.int .u32], none⟩ := rfl
@[go_sem] theorem Γ_180 : Γ.get 180 = some ⟨.func, 1, 8, [.func], none⟩ := rfl
@[go_sem] theorem Γ_181 : Γ.get 181 = some ⟨.int .u64, 1, 8, [.int .u64], none⟩ := rfl
@[go_sem] theorem Γ_182 : Γ.get 182 = some ⟨.func, 1, 8, [.func], none⟩ := rfl
@[go_sem] theorem Γ_183 : Γ.get 183 = some ⟨.func, 1, 8, [.func], none⟩ := rfl
@[go_sem] theorem Γ_184 : Γ.get 184 = some ⟨.func, 1, 8, [.func], none⟩ := rfl
@[go_sem] theorem Γ_185 : Γ.get 185 = some ⟨.func, 1, 8, [.func], none⟩ := rfl
@[go_sem] theorem Γ_186 : Γ.get 186 = some ⟨.func, 1, 8, [.func], none⟩ := rfl
@[go_sem] theorem Γ_187 : Γ.get 187 = some ⟨.func, 1, 8, [.func], none⟩ := rfl
@[go_sem] theorem Γ_188 : Γ.get 188 = some ⟨.func, 1, 8, [.func], none⟩ := rfl
@[go_sem] theorem Γ_189 : Γ.get 189 = some ⟨.func, 1, 8, [.func], none⟩ := rfl
@[go_sem] theorem Γ_190 : Γ.get 190 = some ⟨.func, 1, 8, [.func], none⟩ := rfl
@[go_sem] theorem Γ_191 : Γ.get 191 = some ⟨.func, 1, 8, [.func], none⟩ := rfl
@[go_sem] theorem Γ_192 : Γ.get 192 = some ⟨.array 6 108,12,96,[.int .i64,.int .i64,.int .i64,.int .i64,.int .i64,.int .i64,.int .i64,.int .i64,.int .i64,.int .i64,.int .i64,.int .i64],some [false,false,false,false,false,false,false,false,false,false,false,false]⟩ := rfl
@[go_sem] theorem Γ_193 : Γ.get 193 = some ⟨.func, 1, 8, [.func], none⟩ := rfl
@[go_sem] theorem Γ_194 : Γ.get 194 = some ⟨.func, 1, 8, [.func], none⟩ := rfl
@[go_sem] theorem Γ_195 : Γ.get 195 = some ⟨.func, 1, 8, [.func], none⟩ := rfl
@[go_sem] theorem Γ_196 : Γ.get 196 = some ⟨.slice 166, 1, 24, [.slice], none⟩ := rfl
@[go_sem] theorem Γ_197 : Γ.get 197 = some ⟨.func, 1, 8, [.func], none⟩ := rfl
@[go_sem] theorem Γ_198 : Γ.get 198 = some ⟨.func, 1, 8, [.func], none⟩ := rfl
@[go_sem] theorem Γ_199 : Γ.get 199 = some ⟨.func, 1, 8, [.func], none⟩ := rfl
@[go_sem] theorem Γ_201 : Γ.get 201 = some ⟨.func, 1, 8, [.func], none⟩ := rfl
@[go_sem] theorem Γ_202 : Γ.get 202 = some ⟨.func, 1, 8, [.func], none⟩ := rfl
@[go_sem] theorem Γ_203 : Γ.get 203 = some ⟨.func, 1, 8, [.func], none⟩ := rfl
@[go_sem] theorem Γ_204 : Γ.get 204 = some ⟨.func, 1, 8, [.func], none⟩ := rfl
@[go_sem] theorem Γ_205 : Γ.get 205 = some ⟨.func, 1, 8, [.func], none⟩ := rfl
@[go_sem] theorem Γ_206 : Γ.get 206 = some ⟨.int .u64, 1, 8, [.int .u64], none⟩ := rfl
@[go_sem] theorem Γ_207 : Γ.get 207 = some ⟨.func, 1, 8, [.func], none⟩ := rfl
@[go_sem] theorem Γ_208 : Γ.get 208 = some ⟨.func, 1, 8, [.func], none⟩ := rfl
@[go_sem] theorem Γ_209 : Γ.get 209 = some ⟨.func, 1, 8, [.func], none⟩ := rfl
@[go_sem] theorem Γ_210 : Γ.get 210 = some ⟨.ptr 3, 1, 8, [.ptr], none⟩ := rfl
@[go_sem] theorem Γ_211 : Γ.get 211 = some ⟨.func, 1, 8, [.func], none⟩ := rfl
@[go_sem] theorem Γ_212 : Γ.get 212 = some ⟨.func, 1, 8, [.func], none⟩ := rfl
@[go_sem] theorem Γ_213 : Γ.get 213 = some ⟨.func, 1, 8, [.func], none⟩ := rfl
@[go_sem] theorem Γ_214 : Γ.get 214 = some ⟨.func, 1, 8, [.func], none⟩ := rfl
@[go_sem] theorem Γ_215 : Γ.get 215 = some ⟨.func, 1, 8, [.func], none⟩ := rfl
@[go_sem] theorem Γ_216 : Γ.get 216 = some ⟨.func, 1, 8, [.func], none⟩ := rfl
@[go_sem] theorem Γ_217 : Γ.get 217 = some ⟨.func, 1, 8, [.func], none⟩ := rfl
@[go_sem] theorem Γ_218 : Γ.get 218 = some ⟨.func, 1, 8, [.func], none⟩ := rfl
@[go_sem] theorem Γ_219 : Γ.get 219 = some ⟨.func, 1, 8, [.func], none⟩ := rfl
@[go_sem] theorem Γ_220 : Γ.get 220 = some ⟨.func, 1, 8, [.func], none⟩ := rfl
@[go_sem] theorem Γ_221 : Γ.get 221 = some ⟨.func, 1, 8, [.func], none⟩ := rfl
@[go_sem] theorem Γ_222 : Γ.get 222 = some ⟨.func, 1, 8, [.func], none⟩ := rfl
@[go_sem] theorem Γ_223 : Γ.get 223 = some ⟨.func, 1, 8, [.func], none⟩ := rfl
@[go_sem] theorem Γ_224 : Γ.get 224 = some ⟨.func, 1, 8, [.func], none⟩ := rfl
@[go_sem] theorem Γ_225 : Γ.get 225 = some ⟨.ptr 206, 1, 8, [.ptr], none⟩ := rfl
@[go_sem] theorem Γ_227 : Γ.get 227 = some ⟨.func, 1, 8, [.func], none⟩ := rfl
@[go_sem] theorem Γ_228 : Γ.get 228 = some ⟨.func, 1, 8, [.func], none⟩ := rfl
@[go_sem] theorem Γ_229 : Γ.get 229 = some ⟨.strct [(30, 0)], 1, 8, [.int .i64], some [false]⟩ := rfl
@[go_sem] theorem Γ_230 : Γ.get 230 = some ⟨.strct [(30, 0)], 1, 8, [.int .i64], some [false]⟩ := rfl
@[go_sem] theorem Γ_231 : Γ.get 231 = some ⟨.func, 1, 8, [.func], none⟩ := rfl
@[go_sem] theorem Γ_232 : Γ.get 232 = some ⟨.func, 1, 8, [.func], none⟩ := rfl
@[go_sem] theorem Γ_233 : Γ.get 233 = some ⟨.func, 1, 8, [.func], none⟩ := rfl
@[go_sem] theorem Γ_234 : Γ.get 234 = some ⟨.strct [(17,0),(17,1),(17,2),(9,3)],4,40,[.ptr,.ptr,.ptr,.str],none⟩ := rfl
@[go_sem] theorem Γ_236 : Γ.get 236 = some ⟨.array 0 16, 0, 0, [], none⟩ := rfl
@[go_sem] theorem Γ_237 : Γ.get 237 = some ⟨.strct [(236, 0)], 0, 0, [], none⟩ := rfl
@[go_sem] theorem Γ_239 : Γ.get 239 = some ⟨.func, 1, 8, [.func], none⟩ := rfl
@[go_sem] theorem Γ_242 : Γ.get 242 = some ⟨.func, 1, 8, [.func], none⟩ := rfl
@[go_sem] theorem Γ_243 : Γ.get 243 = some ⟨.ptr 5, 1, 8, [.ptr], none⟩ := rfl
@[go_sem] theorem Γ_246 : Γ.get 246 = some ⟨.strct [(12,0),(12,1),(179,2),(240,3),(5,4),(5,5),(241,6),(242,7),(243,8),(244,9),(245,10)],11,48,[.int .u64,.int .u64,.int .u32,.int .u8,.int .u8,.int .u8,.int .u8,.func,.ptr,.int .i32,.int .i32],none⟩ := rfl
@[go_sem] theorem Γ_248 : Γ.get 248 = some ⟨.func, 1, 8, [.func], none⟩ := rfl
@[go_sem] theorem Γ_249 : Γ.get 249 = some ⟨.func, 1, 8, [.func], none⟩ := rfl
@[go_sem] theorem Γ_250 : Γ.get 250 = some ⟨.slice 26, 1, 24, [.slice], none⟩ := rfl
@[go_sem] theorem Γ_252 : Γ.get 252 = some ⟨.func, 1, 8, [.func], none⟩ := rfl
@[go_sem] theorem Γ_253 : Γ.get 253 = some ⟨.func, 1, 8, [.func], none⟩ := rfl
@[go_sem] theorem Γ_254 : Γ.get 254 = some ⟨.func, 1, 8, [.func], none⟩ := rfl
@[go_sem] theorem Γ_255 : Γ.get 255 = some ⟨.strct [(49, 0)], 3, 40, [.slice, .int .i64, .int .i64], none⟩ := rfl
@[go_sem] theorem Γ_256 : Γ.get 256 = some ⟨.strct [(49, 0)], 3, 40, [.slice, .int .i64, .int .i64], none⟩ := rfl
@[go_sem] theorem Γ_257 : Γ.get 257 = some ⟨.func, 1, 8, [.func], none⟩ := rfl
@[go_sem] theorem Γ_258 : Γ.get 258 = some ⟨.func, 1, 8, [.func], none⟩ := rfl
@[go_sem] theorem Γ_259 : Γ.get 259 = some ⟨.func, 1, 8, [.func], none⟩ := rfl
@[go_sem] theorem Γ_260 : Γ.get 260 = some ⟨.func, 1, 8, [.func], none⟩ := rfl
@[go_sem] theorem Γ_262 : Γ.get 262 = some ⟨.func, 1, 8, [.func], none⟩ := rfl
@[go_sem] theorem Γ_263 : Γ.get 263 = some ⟨.func, 1, 8, [.func], none⟩ := rfl
@[go_sem] theorem Γ_264 : Γ.get 264 = some ⟨.slice 112, 1, 24, [.slice], none⟩ := rfl
@[go_sem] theorem Γ_265 : Γ.get 265 = some ⟨.func, 1, 8, [.func], none⟩ := rfl
@[go_sem] theorem Γ_267 : Γ.get 267 = some ⟨.func, 1, 8, [.func], none⟩ := rfl
@[go_sem] theorem Γ_268 : Γ.get 268 = some ⟨.slice 69, 1, 24, [.slice], none⟩ := rfl
@[go_sem] theorem Γ_270 : Γ.get 270 = some ⟨.func, 1, 8, [.func], none⟩ := rfl
@[go_sem] theorem Γ_271 : Γ.get 271 = some ⟨.func, 1, 8, [.func], none⟩ := rfl
theorem Γ_chk : Γ.chk Tryz.prog = true := by kernel_rfl
theorem drawsAny : Tryz.prog.follows .mixedOrders = true := by kernel_rfl
theorem Γ_ok : TabOk Tryz.prog Γ := tabOk_of_chk Γ_chk
end Go.Proofs.YtonmienclploaaaGreatDoor
