/- Models, plain laws and contracts of functions of the given program; conditions as stated in each theorem. By an AI agent. -/
import Derived.Test.YtciccajdpmahiaaGreatDoorW3
import Derived.Test.YtciccajdpmahiaaGreatDoorChecked
import Derived.Test.YtciccajdpmahiaaGreatDoorW2
import Derived.Shelf.GgClosure.StringsIndexFunc
import Derived.Deep.LoopGhost
import Derived.WalkKit
import Derived.Laws.IdiomStrings
import Derived.IntWalk
import Derived.Outline
import Derived.Lib.Hide
import Derived.Lib.MapLaws
import Derived.Shelf.Strings.Search1
import Derived.Shelf.Strings.Search2
import Derived.Shelf.Strings.Search3
import Derived.Shelf.LaysM
import Derived.Shelf.Strings.Shaped
import Derived.Shelf.Strings.Fields
import Derived.RangeFuncNested
import Derived.RangeFuncBound
import Derived.RangeFuncCalls
import Derived.Shelf.Abstract
import Derived.Shelf.RegionOpen
import Derived.OwnWalkIn
import Derived.TacticsInMore
import Derived.LoopNIn
import Derived.LoopIn
set_option linter.unusedSimpArgs false
set_option linter.unusedVariables false
namespace Go.Proofs.Heir
open Go.Am
set_option maxRecDepth 100000
@[reducible] def G : cM := [(1, .sc .nilFunc), (2, .sc (.int .i64 0)), (3, .sc (.int .i64 0)), (4, .bl), (5, .sc (.int .u8 0)), (9, .str), (12, .sc (.int .u64 0)), (15, .sc (.pointer none)), (16, .sc (.pointer none)), (17, .sc (.pointer none)), (20, .sc .nilIface), (21, .sc (.int .i32 0)), (22, .sl 80 10 136), (24, .st 2 [(0, 22), (1, 3)] (Array.mk [(.slice none 0 0), (.int .i64 0)]) [1, 1]), (25, .sl 75 4 32), (26, .sl 95 3 40), (27, .sl 162 2 24), (29, .st 4 [(0, 26), (1, 27), (2, 3), (3, 4)] (Array.mk [(.slice none 0 0), (.slice none 0 0), (.int .i64 0), (.bool false)]) [1, 1, 1, 1]), (30, .sl 77 1 24), (31, .sl 32 1 24), (32, .sl 3 1 8), (34, .st 4 [(0, 30), (1, 31), (2, 32), (3, 4)] (Array.mk [(.slice none 0 0), (.slice none 0 0), (.slice none 0 0), (.bool false)]) [1, 1, 1, 1]), (35, .sl 73 3 24), (36, .sl 92 2 16), (37, .sl 53 5 104), (39, .st 14 [(0, 24), (2, 25), (3, 29), (7, 34), (11, 35), (12, 36), (13, 37)] (Array.mk [(.slice none 0 0), (.int .i64 0), (.slice none 0 0), (.slice none 0 0), (.slice none 0 0), (.int .i64 0), (.bool false), (.slice none 0 0), (.slice none 0 0), (.slice none 0 0), (.bool false), (.slice none 0 0), (.slice none 0 0), (.slice none 0 0)]) [2, 1, 4, 4, 1, 1, 1]), (40, .sl 218 9 88), (41, .sl 61 11 104), (42, .sc .nilFunc), (43, .sc .nilFunc), (44, .sc .nilFunc), (45, .sc .nilFunc), (46, .sc .nilFunc), (47, .sc .nilFunc), (48, .sc .nilFunc), (49, .sl 9 1 16), (50, .sl 274 7 72), (51, .sl 138 2 32), (53, .st 5 [(0, 4), (1, 49), (2, 50), (3, 50), (4, 51)] (Array.mk [(.bool false), (.slice none 0 0), (.slice none 0 0), (.slice none 0 0), (.slice none 0 0)]) [1, 1, 1, 1, 1]), (54, .sc (.int .i64 0)), (56, .sc .nilFunc), (57, .sc .nilFunc), (59, .st 10 [(0, 3), (1, 3), (2, 9), (3, 4), (4, 4), (5, 9), (6, 9), (7, 3), (8, 3), (9, 4)] (Array.mk [(.int .i64 0), (.int .i64 0), (.string ByteArray.empty), (.bool false), (.bool false), (.string ByteArray.empty), (.string ByteArray.empty), (.int .i64 0), (.int .i64 0), (.bool false)]) [1, 1, 1, 1, 1, 1, 1, 1, 1, 1]), (61, .st 11 [(0, 3), (1, 59)] (Array.mk [(.int .i64 0), (.int .i64 0), (.int .i64 0), (.string ByteArray.empty), (.bool false), (.bool false), (.string ByteArray.empty), (.string ByteArray.empty), (.int .i64 0), (.int .i64 0), (.bool false)]) [1, 10]), (62, .sc .nilFunc), (63, .sc .nilFunc), (64, .sc .nilFunc), (65, .sc .nilFunc), (66, .sc .nilFunc), (67, .sc .nilFunc), (68, .sc .nilFunc), (69, .sc .nilFunc), (70, .sc .nilFunc), (71, .sc .nilFunc), (73, .st 3 [(0, 3), (1, 3), (2, 3)] (Array.mk [(.int .i64 0), (.int .i64 0), (.int .i64 0)]) [1, 1, 1]), (75, .st 4 [(0, 3), (1, 3), (2, 3), (3, 4)] (Array.mk [(.int .i64 0), (.int .i64 0), (.int .i64 0), (.bool false)]) [1, 1, 1, 1]), (76, .sc .nilFunc), (77, .sl 59 10 96), (78, .sl 179 2 32), (80, .st 10 [(0, 3), (1, 9), (2, 9), (3, 9), (4, 78), (5, 3), (6, 32), (7, 3), (8, 3), (9, 3)] (Array.mk [(.int .i64 0), (.string ByteArray.empty), (.string ByteArray.empty), (.string ByteArray.empty), (.slice none 0 0), (.int .i64 0), (.slice none 0 0), (.int .i64 0), (.int .i64 0), (.int .i64 0)]) [1, 1, 1, 1, 1, 1, 1, 1, 1, 1]), (81, .sc .nilFunc), (82, .sc .nilFunc), (83, .sc .nilFunc), (84, .sc .nilFunc), (85, .sc .nilFunc), (86, .sc .nilFunc), (88, .sc .nilFunc), (89, .sc .nilFunc), (90, .sc .nilFunc), (92, .st 2 [(0, 3), (1, 3)] (Array.mk [(.int .i64 0), (.int .i64 0)]) [1, 1]), (93, .sc .nilFunc), (95, .st 3 [(0, 9), (1, 9), (2, 3)] (Array.mk [(.string ByteArray.empty), (.string ByteArray.empty), (.int .i64 0)]) [1, 1, 1]), (97, .sc .nilFunc), (98, .sc .nilFunc), (99, .sc .nilFunc), (100, .sl 5 1 1), (101, .sc .nilFunc), (102, .sc .nilFunc), (103, .sc .nilFunc), (105, .sc .nilFunc), (106, .sc .nilFunc), (107, .sc .nilFunc), (108, .sc .nilFunc), (109, .sc .nilFunc), (110, .sc .nilFunc), (111, .sc .nilFunc), (112, .sc .nilFunc), (114, .st 17 [(0, 39), (14, 3), (15, 4), (16, 3)] (Array.mk [(.slice none 0 0), (.int .i64 0), (.slice none 0 0), (.slice none 0 0), (.slice none 0 0), (.int .i64 0), (.bool false), (.slice none 0 0), (.slice none 0 0), (.slice none 0 0), (.bool false), (.slice none 0 0), (.slice none 0 0), (.slice none 0 0), (.int .i64 0), (.bool false), (.int .i64 0)]) [14, 1, 1, 1]), (115, .sc .nilFunc), (117, .sc .nilFunc), (118, .sc .nilFunc), (119, .sc .nilFunc), (120, .sc .nilFunc), (121, .sc .nilFunc), (122, .sc .nilFunc), (124, .sc .nilFunc), (125, .sc .nilFunc), (126, .sc .nilFunc), (127, .sc .nilFunc), (128, .sc .nilFunc), (130, .st 14 [(0, 39)] (Array.mk [(.slice none 0 0), (.int .i64 0), (.slice none 0 0), (.slice none 0 0), (.slice none 0 0), (.int .i64 0), (.bool false), (.slice none 0 0), (.slice none 0 0), (.slice none 0 0), (.bool false), (.slice none 0 0), (.slice none 0 0), (.slice none 0 0)]) [14]), (131, .sc .nilFunc), (132, .sc .nilFunc), (133, .sc .nilFunc), (135, .sc .nilFunc), (136, .sc .nilFunc), (138, .st 2 [(0, 3), (1, 50)] (Array.mk [(.int .i64 0), (.slice none 0 0)]) [1, 1]), (139, .sc .nilFunc), (140, .sc .nilFunc), (141, .sc .nilFunc), (142, .sc .nilFunc), (143, .sc .nilFunc), (145, .sc .nilFunc), (146, .sc .nilFunc), (147, .sc .nilFunc), (148, .sc .nilFunc), (149, .sc .nilFunc), (150, .sc .nilFunc), (151, .sc .nilFunc), (152, .sc .nilFunc), (153, .sc .nilFunc), (155, .sc .nilFunc), (156, .sc .nilFunc), (157, .sc .nilFunc), (159, .sc .nilFunc), (160, .sc .nilFunc), (162, .st 2 [(0, 9), (1, 3)] (Array.mk [(.string ByteArray.empty), (.int .i64 0)]) [1, 1]), (163, .sc .nilFunc), (164, .sc .nilFunc), (165, .sc .nilFunc), (166, .sc (.pointer none)), (168, .sc .nilFunc), (169, .sc .nilFunc), (170, .st 14 [(0, 39)] (Array.mk [(.slice none 0 0), (.int .i64 0), (.slice none 0 0), (.slice none 0 0), (.slice none 0 0), (.int .i64 0), (.bool false), (.slice none 0 0), (.slice none 0 0), (.slice none 0 0), (.bool false), (.slice none 0 0), (.slice none 0 0), (.slice none 0 0)]) [14]), (171, .sc .nilFunc), (173, .st 8 [(0, 24), (2, 25), (3, 29), (7, 37)] (Array.mk [(.slice none 0 0), (.int .i64 0), (.slice none 0 0), (.slice none 0 0), (.slice none 0 0), (.int .i64 0), (.bool false), (.slice none 0 0)]) [2, 1, 4, 1]), (175, .sc .nilFunc), (177, .sc .nilFunc), (179, .st 2 [(0, 9), (1, 9)] (Array.mk [(.string ByteArray.empty), (.string ByteArray.empty)]) [1, 1]), (180, .sc .nilFunc), (181, .sc .nilFunc), (182, .sc .nilFunc), (183, .sc (.map none)), (184, .sc (.map none)), (186, .st 2 [(0, 183), (1, 184)] (Array.mk [(.map none), (.map none)]) [1, 1]), (188, .sc .nilFunc), (190, .sc .nilFunc), (191, .sc .nilFunc), (192, .sc .nilFunc), (193, .sc .nilFunc), (195, .sc .nilFunc), (196, .sc .nilFunc), (197, .sc .nilFunc), (198, .sc .nilFunc), (200, .st 2 [(0, 24)] (Array.mk [(.slice none 0 0), (.int .i64 0)]) [2]), (201, .sc .nilFunc), (202, .sc .nilFunc), (203, .sc .nilFunc), (204, .sc .nilFunc), (205, .sc .nilFunc), (206, .sc .nilFunc), (207, .sc .nilFunc), (208, .sc .nilFunc), (209, .sc .nilFunc), (210, .sc .nilFunc), (211, .sc .nilFunc), (212, .sc (.pointer none)), (213, .sc .nilFunc), (215, .sc .nilFunc), (216, .sc .nilFunc), (218, .st 9 [(0, 3), (1, 3), (2, 3), (3, 3), (4, 9), (5, 4), (6, 4), (7, 9), (8, 9)] (Array.mk [(.int .i64 0), (.int .i64 0), (.int .i64 0), (.int .i64 0), (.string ByteArray.empty), (.bool false), (.bool false), (.string ByteArray.empty), (.string ByteArray.empty)]) [1, 1, 1, 1, 1, 1, 1, 1, 1]), (220, .sc .nilFunc), (221, .sc (.pointer none)), (223, .sc .nilFunc), (225, .st 9 [(0, 24), (2, 25), (3, 29), (7, 37), (8, 41)] (Array.mk [(.slice none 0 0), (.int .i64 0), (.slice none 0 0), (.slice none 0 0), (.slice none 0 0), (.int .i64 0), (.bool false), (.slice none 0 0), (.slice none 0 0)]) [2, 1, 4, 1, 1]), (226, .sc .nilFunc), (227, .sc .nilFunc), (228, .sc (.pointer none)), (229, .sc .nilFunc), (230, .sc .nilFunc), (231, .sc .nilFunc), (232, .sc .nilFunc), (233, .sc .nilFunc), (234, .sc .nilFunc), (235, .sc .nilFunc), (236, .sc .nilFunc), (237, .sc .nilFunc), (238, .sc .nilFunc), (239, .sc .nilFunc), (240, .sc .nilFunc), (242, .sc (.map none)), (243, .sc .nilFunc), (244, .sc .nilFunc), (245, .sc .nilFunc), (246, .sc .nilFunc), (248, .sc .nilFunc), (249, .sc .nilFunc), (250, .sc .nilFunc), (251, .sc .nilFunc), (252, .sc .nilFunc), (253, .sc .nilFunc), (254, .sc .nilFunc), (255, .sc .nilFunc), (256, .sc .nilFunc), (257, .sc .nilFunc), (258, .sc .nilFunc), (259, .sc .nilFunc), (260, .sc .nilFunc), (261, .sc .nilFunc), (262, .sc .nilFunc), (263, .sc (.map none)), (265, .st 3 [(0, 24), (2, 263)] (Array.mk [(.slice none 0 0), (.int .i64 0), (.map none)]) [2, 1]), (266, .sc .nilFunc), (267, .sc .nilFunc), (269, .sc .nilFunc), (270, .sc .nilFunc), (271, .sc .nilFunc), (272, .sc .nilFunc), (274, .st 7 [(0, 3), (1, 3), (2, 3), (3, 3), (4, 9), (5, 9), (6, 4)] (Array.mk [(.int .i64 0), (.int .i64 0), (.int .i64 0), (.int .i64 0), (.string ByteArray.empty), (.string ByteArray.empty), (.bool false)]) [1, 1, 1, 1, 1, 1, 1]), (275, .sc .nilFunc), (276, .sc .nilFunc), (277, .sc .nilFunc), (278, .sc .nilFunc), (279, .sc .nilFunc), (280, .sc .nilFunc), (281, .sc .nilFunc), (282, .sc .nilFunc), (283, .sc .nilFunc), (284, .sc (.map none)), (285, .sc .nilFunc), (286, .sc .nilFunc), (287, .sc .nilFunc), (288, .sc .nilFunc), (289, .sc .nilFunc), (290, .sc .nilFunc), (291, .sc .nilFunc), (292, .sc .nilFunc), (293, .sc .nilFunc), (295, .sc .nilFunc), (297, .sc .nilFunc), (298, .sc .nilFunc), (299, .sc (.int .u64 0)), (300, .sc .nilFunc), (301, .sc .nilFunc), (302, .sc .nilFunc), (303, .sc .nilFunc), (304, .sc (.int .u32 0)), (306, .sc .nilFunc), (308, .sc .nilFunc), (309, .sl 311 2 16), (311, .st 2 [(0, 3), (1, 3)] (Array.mk [(.int .i64 0), (.int .i64 0)]) [1, 1]), (312, .sc .nilFunc), (313, .sc (.pointer none)), (314, .sl 320 3 6), (315, .sl 323 3 12), (317, .st 3 [(0, 314), (1, 315), (2, 3)] (Array.mk [(.slice none 0 0), (.slice none 0 0), (.int .i64 0)]) [1, 1, 1]), (318, .sc (.int .u16 0)), (320, .st 3 [(0, 318), (1, 318), (2, 318)] (Array.mk [(.int .u16 0), (.int .u16 0), (.int .u16 0)]) [1, 1, 1]), (321, .sc .nilFunc), (323, .st 3 [(0, 304), (1, 304), (2, 304)] (Array.mk [(.int .u32 0), (.int .u32 0), (.int .u32 0)]) [1, 1, 1]), (324, .sc .nilFunc), (325, .sc (.pointer none)), (326, .sc (.pointer none)), (327, .sc .nilFunc), (333, .sc .nilFunc), (336, .sc .nilFunc), (337, .sc (.pointer none))]
theorem aa:G.Good Tryz.prog:=fS<|fS<|fS<|fB<|fS<|fG<|fS<|fS<|fS<|fS<|fS<|fS<|fL<|fT Tryz.underlying24<|fL<|fL<|fL<|fT Tryz.underlying29<|fL<|fL<|fL<|fT Tryz.underlying34<|fL<|fL<|fL<|fT Tryz.underlying39<|fL<|fL<|fS<|fS<|fS<|fS<|fS<|fS<|fS<|fL<|fL<|fL<|fT Tryz.underlying53<|fS<|fS<|fS<|fT Tryz.underlying59<|fT Tryz.underlying61<|fS<|fS<|fS<|fS<|fS<|fS<|fS<|fS<|fS<|fS<|fT Tryz.underlying73<|fT Tryz.underlying75<|fS<|fL<|fL<|fT Tryz.underlying80<|fS<|fS<|fS<|fS<|fS<|fS<|fS<|fS<|fS<|fT Tryz.underlying92<|fS<|fT Tryz.underlying95<|fS<|fS<|fS<|fL<|fS<|fS<|fS<|fS<|fS<|fS<|fS<|fS<|fS<|fS<|fS<|fT Tryz.underlying114<|fS<|fS<|fS<|fS<|fS<|fS<|fS<|fS<|fS<|fS<|fS<|fS<|fT Tryz.underlying130<|fS<|fS<|fS<|fS<|fS<|fT Tryz.underlying138<|fS<|fS<|fS<|fS<|fS<|fS<|fS<|fS<|fS<|fS<|fS<|fS<|fS<|fS<|fS<|fS<|fS<|fS<|fS<|fT Tryz.underlying162<|fS<|fS<|fS<|fS<|fS<|fS<|fT Tryz.underlying170<|fS<|fT Tryz.underlying173<|fS<|fS<|fT Tryz.underlying179<|fS<|fS<|fS<|fS<|fS<|fT Tryz.underlying186<|fS<|fS<|fS<|fS<|fS<|fS<|fS<|fS<|fS<|fT Tryz.underlying200<|fS<|fS<|fS<|fS<|fS<|fS<|fS<|fS<|fS<|fS<|fS<|fS<|fS<|fS<|fS<|fT Tryz.underlying218<|fS<|fS<|fS<|fT Tryz.underlying225<|fS<|fS<|fS<|fS<|fS<|fS<|fS<|fS<|fS<|fS<|fS<|fS<|fS<|fS<|fS<|fS<|fS<|fS<|fS<|fS<|fS<|fS<|fS<|fS<|fS<|fS<|fS<|fS<|fS<|fS<|fS<|fS<|fS<|fS<|fS<|fS<|fT Tryz.underlying265<|fS<|fS<|fS<|fS<|fS<|fS<|fT Tryz.underlying274<|fS<|fS<|fS<|fS<|fS<|fS<|fS<|fS<|fS<|fS<|fS<|fS<|fS<|fS<|fS<|fS<|fS<|fS<|fS<|fS<|fS<|fS<|fS<|fS<|fS<|fS<|fS<|fS<|fS<|fS<|fL<|fT Tryz.underlying311<|fS<|fS<|fL<|fL<|fT Tryz.underlying317<|fS<|fT Tryz.underlying320<|fS<|fT Tryz.underlying323<|fS<|fS<|fS<|fS<|fS<|fS<|fS<|fN
theorem c3:ae Tryz.prog 3:=fun _ _=>by kernel_rfl
theorem c4:ae Tryz.prog 4:=fun _ _=>by kernel_rfl
theorem c5:ae Tryz.prog 5:=fun _ _=>by kernel_rfl
theorem c6:ae Tryz.prog 6:=fun _ _=>by kernel_rfl
theorem c7:ae Tryz.prog 7:=fun _ _=>by kernel_rfl
theorem c8:ae Tryz.prog 8:=fun _ _=>by kernel_rfl
theorem c9:ae Tryz.prog 9:=fun _ _=>by kernel_rfl
theorem P3:ae Tryz.prog 10:=fun _ _=>by kernel_rfl
theorem Sm:ae Tryz.prog 15:=fun _ _=>by kernel_rfl
theorem rM:ae Tryz.prog 16:=fun _ _=>by kernel_rfl
theorem Qg:ae Tryz.prog 17:=fun _ _=>by kernel_rfl
theorem gZ:ae Tryz.prog 19:=fun _ _=>by kernel_rfl
theorem RT:ae Tryz.prog 20:=fun _ _=>by kernel_rfl
theorem Qi:ae Tryz.prog 23:=fun _ _=>by kernel_rfl
theorem Sv:ae Tryz.prog 24:=fun _ _=>by kernel_rfl
theorem R4:ae Tryz.prog 26:=fun _ _=>by kernel_rfl
theorem RU:ae Tryz.prog 28:=fun _ _=>by kernel_rfl
theorem P4:ae Tryz.prog 31:=fun _ _=>by kernel_rfl
theorem P5:ae Tryz.prog 33:=fun _ _=>by kernel_rfl
theorem OH:ae Tryz.prog 37:=fun _ _=>by kernel_rfl
theorem R6:ae Tryz.prog 38:=fun _ _=>by kernel_rfl
theorem Sk:ae Tryz.prog 39:=fun _ _=>by kernel_rfl
theorem M5:ae Tryz.prog 41:=fun _ _=>by kernel_rfl
theorem Sa:ae Tryz.prog 42:=fun _ _=>by kernel_rfl
theorem Qe:ae Tryz.prog 43:=fun _ _=>by kernel_rfl
theorem P8:ae Tryz.prog 44:=fun _ _=>by kernel_rfl
theorem QO:ae Tryz.prog 45:=fun _ _=>by kernel_rfl
theorem rT:ae Tryz.prog 46:=fun _ _=>by kernel_rfl
theorem Eg:ae Tryz.prog 47:=fun _ _=>by kernel_rfl
theorem Q6:ae Tryz.prog 48:=fun _ _=>by kernel_rfl
theorem RV:ae Tryz.prog 49:=fun _ _=>by kernel_rfl
theorem KS:ae Tryz.prog 50:=fun _ _=>by kernel_rfl
theorem M8:ae Tryz.prog 51:=fun _ _=>by kernel_rfl
theorem Oz:ae Tryz.prog 52:=fun _ _=>by kernel_rfl
theorem R8:ae Tryz.prog 53:=fun _ _=>by kernel_rfl
theorem OK:ae Tryz.prog 55:=fun _ _=>by kernel_rfl
theorem P1:ae Tryz.prog 56:=fun _ _=>by kernel_rfl
theorem Qj:ae Tryz.prog 57:=fun _ _=>by kernel_rfl
theorem P2:ae Tryz.prog 58:=fun _ _=>by kernel_rfl
theorem RE:ae Tryz.prog 59:=fun _ _=>by kernel_rfl
theorem Pw:ae Tryz.prog 67:=fun _ _=>by kernel_rfl
theorem Sc:ae Tryz.prog 68:=fun _ _=>by kernel_rfl
theorem RX:ae Tryz.prog 69:=fun _ _=>by kernel_rfl
theorem R5:ae Tryz.prog 70:=fun _ _=>by kernel_rfl
theorem Ss:ae Tryz.prog 71:=fun _ _=>by kernel_rfl
theorem Su:ae Tryz.prog 78:=fun _ _=>by kernel_rfl
theorem Sj:ae Tryz.prog 80:=fun _ _=>by kernel_rfl
theorem zo:ae Tryz.prog 81:=fun _ _=>by kernel_rfl
theorem SB:ae Tryz.prog 82:=fun _ _=>by kernel_rfl
theorem Rj:ae Tryz.prog 83:=fun _ _=>by kernel_rfl
theorem QI:ae Tryz.prog 84:=fun _ _=>by kernel_rfl
theorem Sn:ae Tryz.prog 85:=fun _ _=>by kernel_rfl
theorem Sf:ae Tryz.prog 88:=fun _ _=>by kernel_rfl
theorem RG:ae Tryz.prog 89:=fun _ _=>by kernel_rfl
theorem Qs:ae Tryz.prog 90:=fun _ _=>by kernel_rfl
theorem R9:ae Tryz.prog 91:=fun _ _=>by kernel_rfl
theorem Sq:ae Tryz.prog 94:=fun _ _=>by kernel_rfl
theorem RW:ae Tryz.prog 97:=fun _ _=>by kernel_rfl
theorem mT:ae Tryz.prog 100:=fun _ _=>by kernel_rfl
theorem N6:ae Tryz.prog 102:=fun _ _=>by kernel_rfl
theorem QV:ae Tryz.prog 103:=fun _ _=>by kernel_rfl
theorem Ry:ae Tryz.prog 104:=fun _ _=>by kernel_rfl
theorem QH:ae Tryz.prog 108:=fun _ _=>by kernel_rfl
theorem kJ:ae Tryz.prog 109:=fun _ _=>by kernel_rfl
theorem RO:ae Tryz.prog 110:=fun _ _=>by kernel_rfl
theorem Q0:ae Tryz.prog 111:=fun _ _=>by kernel_rfl
theorem oW:ae Tryz.prog 112:=fun _ _=>by kernel_rfl
theorem Ps:ae Tryz.prog 114:=fun _ _=>by kernel_rfl
theorem GZ:ae Tryz.prog 115:=fun _ _=>by kernel_rfl
theorem K5:ae Tryz.prog 117:=fun _ _=>by kernel_rfl
theorem Nt:ae Tryz.prog 118:=fun _ _=>by kernel_rfl
theorem Ay:ae Tryz.prog 119:=fun _ _=>by kernel_rfl
theorem Lm:ae Tryz.prog 120:=fun _ _=>by kernel_rfl
theorem NH:ae Tryz.prog 122:=fun _ _=>by kernel_rfl
theorem RC:ae Tryz.prog 125:=fun _ _=>by kernel_rfl
theorem RH:ae Tryz.prog 126:=fun _ _=>by kernel_rfl
theorem Hj:ae Tryz.prog 135:=fun _ _=>by kernel_rfl
theorem K4:ae Tryz.prog 136:=fun _ _=>by kernel_rfl
theorem yC:ae Tryz.prog 138:=fun _ _=>by kernel_rfl
theorem RD:ae Tryz.prog 140:=fun _ _=>by kernel_rfl
theorem IC:ae Tryz.prog 144:=fun _ _=>by kernel_rfl
theorem As:ae Tryz.prog 145:=fun _ _=>by kernel_rfl
theorem Py:ae Tryz.prog 147:=fun _ _=>by kernel_rfl
theorem Rc:ae Tryz.prog 149:=fun _ _=>by kernel_rfl
theorem Ro:ae Tryz.prog 152:=fun _ _=>by kernel_rfl
theorem PY:ae Tryz.prog 155:=fun _ _=>by kernel_rfl
theorem Rv:ae Tryz.prog 156:=fun _ _=>by kernel_rfl
theorem RF:ae Tryz.prog 157:=fun _ _=>by kernel_rfl
theorem RR:ae Tryz.prog 158:=fun _ _=>by kernel_rfl
theorem LN:ae Tryz.prog 159:=fun _ _=>by kernel_rfl
theorem Qq:ae Tryz.prog 163:=fun _ _=>by kernel_rfl
theorem QM:ae Tryz.prog 164:=fun _ _=>by kernel_rfl
theorem OZ:ae Tryz.prog 165:=fun _ _=>by kernel_rfl
theorem OS:ae Tryz.prog 168:=fun _ _=>by kernel_rfl
theorem QZ:ae Tryz.prog 169:=fun _ _=>by kernel_rfl
theorem HM:ae Tryz.prog 172:=fun _ _=>by kernel_rfl
theorem Bp:ae Tryz.prog 179:=fun _ _=>by kernel_rfl
theorem NP:ae Tryz.prog 180:=fun _ _=>by kernel_rfl
theorem PB:ae Tryz.prog 181:=fun _ _=>by kernel_rfl
theorem NF:ae Tryz.prog 182:=fun _ _=>by kernel_rfl
theorem RL:ae Tryz.prog 183:=fun _ _=>by kernel_rfl
theorem PK:ae Tryz.prog 184:=fun _ _=>by kernel_rfl
theorem Q1:ae Tryz.prog 185:=fun _ _=>by kernel_rfl
theorem RM:ae Tryz.prog 186:=fun _ _=>by kernel_rfl
theorem Q8:ae Tryz.prog 187:=fun _ _=>by kernel_rfl
theorem OQ:ae Tryz.prog 188:=fun _ _=>by kernel_rfl
theorem Rh:ae Tryz.prog 189:=fun _ _=>by kernel_rfl
theorem Ra:ae Tryz.prog 190:=fun _ _=>by kernel_rfl
theorem Rm:ae Tryz.prog 191:=fun _ _=>by kernel_rfl
theorem Rx:ae Tryz.prog 192:=fun _ _=>by kernel_rfl
theorem Om:ae Tryz.prog 203:=fun _ _=>by kernel_rfl
theorem Ru:ae Tryz.prog 207:=fun _ _=>by kernel_rfl
theorem Rr:ae Tryz.prog 208:=fun _ _=>by kernel_rfl
theorem O1:ae Tryz.prog 209:=fun _ _=>by kernel_rfl
theorem D7:ae Tryz.prog 210:=fun _ _=>by kernel_rfl
theorem Rb:ae Tryz.prog 211:=fun _ _=>by kernel_rfl
theorem Rs:ae Tryz.prog 212:=fun _ _=>by kernel_rfl
theorem Q2:ae Tryz.prog 213:=fun _ _=>by kernel_rfl
theorem RP:ae Tryz.prog 214:=fun _ _=>by kernel_rfl
theorem Rg:ae Tryz.prog 215:=fun _ _=>by kernel_rfl
theorem QL:ae Tryz.prog 216:=fun _ _=>by kernel_rfl
theorem O4:ae Tryz.prog 217:=fun _ _=>by kernel_rfl
theorem Pv:ae Tryz.prog 218:=fun _ _=>by kernel_rfl
theorem RI:ae Tryz.prog 219:=fun _ _=>by kernel_rfl
theorem Rw:ae Tryz.prog 221:=fun _ _=>by kernel_rfl
theorem RA:ae Tryz.prog 233:=fun _ _=>by kernel_rfl
theorem QD:ae Tryz.prog 234:=fun _ _=>by kernel_rfl
theorem O7:ae Tryz.prog 235:=fun _ _=>by kernel_rfl
theorem Px:ae Tryz.prog 236:=fun _ _=>by kernel_rfl
theorem Qp:ae Tryz.prog 237:=fun _ _=>by kernel_rfl
theorem I9:ae Tryz.prog 238:=fun _ _=>by kernel_rfl
theorem IU:ae Tryz.prog 240:=fun _ _=>by kernel_rfl
theorem O3:ae Tryz.prog 241:=fun _ _=>by kernel_rfl
theorem Qx:ae Tryz.prog 243:=fun _ _=>by kernel_rfl
theorem Qt:ae Tryz.prog 244:=fun _ _=>by kernel_rfl
theorem QK:ae Tryz.prog 245:=fun _ _=>by kernel_rfl
theorem Q5:ae Tryz.prog 246:=fun _ _=>by kernel_rfl
theorem Qv:ae Tryz.prog 247:=fun _ _=>by kernel_rfl
theorem Ju:ae Tryz.prog 248:=fun _ _=>by kernel_rfl
theorem Re:ae Tryz.prog 251:=fun _ _=>by kernel_rfl
theorem Kz:ae Tryz.prog 252:=fun _ _=>by kernel_rfl
theorem KP:ae Tryz.prog 253:=fun _ _=>by kernel_rfl
theorem Pg:ae Tryz.prog 254:=fun _ _=>by kernel_rfl
theorem QT:ae Tryz.prog 258:=fun _ _=>by kernel_rfl
theorem QN:ae Tryz.prog 259:=fun _ _=>by kernel_rfl
theorem OL:ae Tryz.prog 260:=fun _ _=>by kernel_rfl
theorem Rn:ae Tryz.prog 262:=fun _ _=>by kernel_rfl
theorem O9:ae Tryz.prog 263:=fun _ _=>by kernel_rfl
theorem Qw:ae Tryz.prog 264:=fun _ _=>by kernel_rfl
theorem Rl:ae Tryz.prog 265:=fun _ _=>by kernel_rfl
theorem NS:ae Tryz.prog 266:=fun _ _=>by kernel_rfl
theorem Q3:ae Tryz.prog 267:=fun _ _=>by kernel_rfl
theorem Pz:ae Tryz.prog 268:=fun _ _=>by kernel_rfl
theorem RN:ae Tryz.prog 269:=fun _ _=>by kernel_rfl
theorem Q4:ae Tryz.prog 275:=fun _ _=>by kernel_rfl
theorem Qu:ae Tryz.prog 276:=fun _ _=>by kernel_rfl
theorem Rd:ae Tryz.prog 277:=fun _ _=>by kernel_rfl
theorem Ri:ae Tryz.prog 282:=fun _ _=>by kernel_rfl
theorem RB:ae Tryz.prog 283:=fun _ _=>by kernel_rfl
theorem M1:ae Tryz.prog 75:=fun _ _=>by kernel_rfl
theorem Qk:ae Tryz.prog 95:=fun _ _=>by kernel_rfl
theorem RY:ae Tryz.prog 96:=fun _ _=>by kernel_rfl
theorem QG:ae Tryz.prog 98:=fun _ _=>by kernel_rfl
theorem Pt:ae Tryz.prog 101:=fun _ _=>by kernel_rfl
theorem Iv:ae Tryz.prog 113:=fun _ _=>by kernel_rfl
theorem GO:ae Tryz.prog 116:=fun _ _=>by kernel_rfl
theorem Hx:ae Tryz.prog 121:=fun _ _=>by kernel_rfl
theorem Ok:ae Tryz.prog 123:=fun _ _=>by kernel_rfl
theorem PJ:ae Tryz.prog 124:=fun _ _=>by kernel_rfl
theorem GH:ae Tryz.prog 137:=fun _ _=>by kernel_rfl
theorem oI:ae Tryz.prog 139:=fun _ _=>by kernel_rfl
theorem Ph:ae Tryz.prog 143:=fun _ _=>by kernel_rfl
theorem O2:ae Tryz.prog 146:=fun _ _=>by kernel_rfl
theorem QX:ae Tryz.prog 148:=fun _ _=>by kernel_rfl
theorem Rf:ae Tryz.prog 150:=fun _ _=>by kernel_rfl
theorem QC:ae Tryz.prog 151:=fun _ _=>by kernel_rfl
theorem QY:ae Tryz.prog 153:=fun _ _=>by kernel_rfl
theorem Rz:ae Tryz.prog 154:=fun _ _=>by kernel_rfl
theorem HW:ae Tryz.prog 162:=fun _ _=>by kernel_rfl
theorem PI:ae Tryz.prog 167:=fun _ _=>by kernel_rfl
theorem Rk:ae Tryz.prog 170:=fun _ _=>by kernel_rfl
theorem Cc:ae Tryz.prog 171:=fun _ _=>by kernel_rfl
theorem IE:ae Tryz.prog 198:=fun _ _=>by kernel_rfl
theorem LA:ae Tryz.prog 199:=fun _ _=>by kernel_rfl
theorem NM:ae Tryz.prog 200:=fun _ _=>by kernel_rfl
theorem PF:ae Tryz.prog 201:=fun _ _=>by kernel_rfl
theorem RJ:ae Tryz.prog 202:=fun _ _=>by kernel_rfl
theorem Ao:ae Tryz.prog 204:=fun _ _=>by kernel_rfl
theorem QF:ae Tryz.prog 205:=fun _ _=>by kernel_rfl
theorem Q9:ae Tryz.prog 206:=fun _ _=>by kernel_rfl
theorem Qr:ae Tryz.prog 220:=fun _ _=>by kernel_rfl
theorem RS:ae Tryz.prog 242:=fun _ _=>by kernel_rfl
theorem Pe:ae Tryz.prog 249:=fun _ _=>by kernel_rfl
theorem Rt:ae Tryz.prog 250:=fun _ _=>by kernel_rfl
theorem Oo:ja Tryz.prog 184 (.int .i64) (.int .i64 0):=⟨3,3,by kernel_rfl,by kernel_rfl,fun w=>Tryz.zeroValue3 w⟩
end Go.Proofs.Heir
namespace Go.Proofs.Heir
open Go.Am
set_option maxRecDepth 100000
set_option maxHeartbeats 8000000
def lX (c:Int):Bool:=decide (97≤c)&&decide (c≤122)
def nh (c:Int):Bool:=decide (65≤c)&&decide (c≤90)
def kI (c:Int):Bool:=lX c||nh c||(decide (48≤c)&&decide (c≤57))||decide (c=45)||decide (c=95)||decide (c=46)
@[reducible] def EP (c : Int) : AV := .lit (.int .i32 c)
@[reducible] def aA (b : Bool) : AV := .lit (.bool b)
@[reducible] def cm (s : ByteArray) : AV := .lit (.string s)
@[reducible] def aq (n : Int) : AV := .lit (.int .i64 n)
theorem AH (c:Int):ah Tryz.prog 180 [] [EP c] [] (aA (lX c)):=by
 refine ah.af (rvs:=[.tmp 2]) G aa Tryz.func180 rfl Tryz.ntmps180 rfl rfl ?_;with_reducible refine wD ?_
 refine bq.mk (fun h=>?_) (fun h=>?_)<;>(try simp only[aF] at h)<;>with_reducible refine wK ?_
 ·(refine eK ?_ ?_<;>with_reducible repeat' (first|exact trivial|(show _∧_;refine aK ?_ ?_)))
  unfold lX
  simp at h;simp[h]
 ·(refine eK ?_ ?_<;>with_reducible repeat' (first|exact trivial|(show _∧_;refine aK ?_ ?_)))
  unfold lX
  simp at h;simp;omega
theorem rS (c:Int):ah Tryz.prog 182 [] [EP c] [] (aA (nh c)):=by
 refine ah.af (rvs:=[.tmp 2]) G aa Tryz.func182 rfl Tryz.ntmps182 rfl rfl ?_;with_reducible refine wD ?_
 refine bq.mk (fun h=>?_) (fun h=>?_)<;>(try simp only[aF] at h)<;>with_reducible refine wK ?_
 ·(refine eK ?_ ?_<;>with_reducible repeat' (first|exact trivial|(show _∧_;refine aK ?_ ?_)))
  unfold nh
  simp at h;simp[h]
 ·(refine eK ?_ ?_<;>with_reducible repeat' (first|exact trivial|(show _∧_;refine aK ?_ ?_)))
  unfold nh
  simp at h;simp;omega
theorem KT (c:Int):ah Tryz.prog 215 [] [EP c] [] (aA (kI c)):=by
 refine ah.af (rvs:=[.tmp 2]) G aa Tryz.func215 rfl Tryz.ntmps215 rfl rfl ?_;with_reducible refine wD ?_
 refine cL (AH c) NP ?_;with_reducible refine wK ?_
 repeat' (first
  |refine aE ?_ ?_
  |((with_reducible show bq _ _ _ _);first|refine iK ?_|(refine bq.mk (fun _=>?_) (fun _=>?_)<;>with_reducible refine wK ?_))
  |((with_reducible refine kQ 182 ?_);refine cL (rS c) NF ?_;with_reducible refine wK ?_)
  |apply trivial)
 all_goals (simp_all[kI,lX,nh]<;>omega)
theorem KB (c:Int):ah Tryz.prog 214 [] [EP c] [] (aA (!kI c)):=by
 refine ah.af (rvs:=[.tmp 2]) G aa Tryz.func214 rfl Tryz.ntmps214 rfl rfl ?_;with_reducible refine wD ?_
 refine cL (KT c) Rg ?_;with_reducible refine wK ?_
 (refine eK ?_ ?_<;>with_reducible repeat' (first|exact trivial|(show _∧_;refine aK ?_ ?_)))
open Go.RowKit Go.Lib in
theorem EB (g:Nat)(eg:∀args w,(callFunc g args).run Tryz.prog w=.ok (.enter g args) w)(p:Nat→Bool)(s:ByteArray)(w:World)(ht:k7 Tryz.prog w fun _=>none)(hp:∀ (W:World) (x:Nat),(k7 Tryz.prog W fun _=>none)→x≤1114111→Calls Tryz.prog g #[.int .i32 (x:Int)] W fun e w'=>e=.returned (.bool (p x))∧Below W.heap.size W w'):
  Calls Tryz.prog 256 #[.string s,.func (.func g) #[] #[],.bool true] w fun e w'=>e=.returned (.int .i64 (Lib.idxFunc p true s))∧Below w.heap.size w w':=by
 go_enter Tryz.func256,Tryz.ntmps256
 go_wp2
 go_loopg [] s.size (fun gf wx=> ∃pos:Nat,wx.heap[w.heap.size]? =some (.stringIter s pos)∧Below w.heap.size w wx∧Lib.idxFuncFrom p true s gf pos=Lib.idxFunc p true s∧s.size≤pos+gf)
 case atStart=>exact⟨0,World.iter_heap w s 0,(Below.refl _ w).alloc (Nat.le_refl _) _,rfl,by omega⟩
 case round=>
  obtain⟨pos,hit,hbw,hleft,hfu⟩:=hrel
  by_cases hps:pos<s.size
  ·obtain⟨g',rfl⟩:∃g',gk=g'+1:=⟨gk-1,by omega⟩
   have hnx:∀ty,(Instr.next (.pointer (some ⟨w.heap.size,0,none⟩)) true ty).run Tryz.prog wr=_:=fun ty=>Lib.run_next_any_at wr w.heap.size s pos ty hit hps
   have hwd:=Lib.width_pos s pos
   obtain⟨R,hR⟩:∃R,(Utf8.decode s pos).1=R:=⟨_,rfl⟩
   obtain⟨K,hK⟩:∃K,(Utf8.decode s pos).2=K:=⟨_,rfl⟩
   simp only[Lib.idxFuncFrom,hps,if_true,hR,hK] at hleft
   rw[hR,hK] at hnx
   rw[hK] at hwd
   have hit2:=Lib.iterAt_heap wr w.heap.size s pos (pos+K) hit
   have hbw2:=Lib.below_iterAt hbw (k:=w.heap.size) (Nat.le_refl _) s (pos+K)
   obtain⟨W,hWd⟩:∃W,wr.iterAt w.heap.size s (pos+K)=W:=⟨_,rfl⟩
   rw[hWd] at hnx hit2 hbw2
   have hltW:w.heap.size<W.heap.size:=(Array.getElem?_eq_some_iff.1 hit2).1
   have cS:Calls Tryz.prog g #[.int .i32 (R:Int)] W _       :=hp W R (ht.below hbw2) (by rw[←hR];exact Lib.rune_le s pos)
   clear hp
   cases hsp:p R<;>rw[hsp] at cS<;>simp only[hsp,if_true,Bool.false_eq_true,Bool.true_eq_false,if_false] at hleft
   ·go_wp2_with (go_at_fn g;refine cS.mono ?_;rintro e W' ⟨rfl,hbc⟩)
    go_roundg g'
    case measure=>omega
    case rel=>exact⟨pos+K,(hbc.block _ hltW).trans hit2,(hbw2.trans (hbc.mono hbw2.size)),hleft,by omega⟩
   ·go_wp2_with (go_at_fn g;refine cS.mono ?_;rintro e W' ⟨rfl,hbc⟩)
    go_ret
    exact⟨by rw[←hleft]<;>rfl,(hbw2.trans (hbc.mono hbw2.size))⟩
  ·have hnx:∀ty,(Instr.next (.pointer (some ⟨w.heap.size,0,none⟩)) true ty).run Tryz.prog wr=_:=fun ty=>Lib.run_next_end_at wr w.heap.size s pos ty hit hps
   rw[Lib.idxFuncFrom_end p true s gk pos hps] at hleft
   go_wp2
   go_ret
   exact⟨by rw[←hleft]<;>rfl,hbw⟩
end Go.Proofs.Heir
namespace Go.Proofs.Heir
open Go Go.Am Go.RowKit Go.Lib
set_option maxRecDepth 100000
set_option maxHeartbeats 8000000
def mw (c:UInt8):UInt8:=if nh (c.toNat:Int) then c+32 else c
def lZ (l:List UInt8):List UInt8:=l.map mw
def ek (s:ByteArray):ByteArray:=⟨(lZ s.data.toList).toArray⟩
def tv (l:List UInt8)(k:Nat):List UInt8:=(l.take k).map mw++l.drop k
theorem B7 (l:List UInt8)(k:Nat):(tv l k).length=l.length:=by simp[tv];omega
theorem CR (l:List UInt8)(k:Nat)(h:k<l.length):(tv l k)[k]? =some l[k]:=by
 simp[tv,List.getElem?_append,List.getElem?_drop,Nat.min_eq_left (Nat.le_of_lt h),h]
theorem B9 (l:List UInt8)(k:Nat)(h:k<l.length):(tv l k).set k (mw l[k])=tv l (k+1):=by
 unfold tv
 have h1:((l.take k).map mw).length=k:=by simp;omega
 rw[List.set_append_right _ _ (by omega),h1,Nat.sub_self,List.take_succ_eq_append_getElem h,List.drop_eq_getElem_cons h]
 simp only[List.set_cons_zero,List.map_append,List.map_cons,List.map_nil,List.append_assoc,List.cons_append,List.nil_append]
theorem GA (l:List UInt8)(k:Nat)(h:k<l.length)(hc:nh (l[k].toNat:Int)=false):tv l k=tv l (k+1):=by
 rw[←B9 l k h]
 have h2:=CR l k h
 apply List.ext_getElem?
 intro j
 rw[List.getElem?_set]
 by_cases hj:k=j
 ·subst hj
  rw[if_pos rfl,if_pos (by rw[B7];exact h),h2]
  simp[mw,hc]
 ·rw[if_neg hj]
def rowOf (l:List UInt8)(z:List Value):Array Value:=(l.map (fun b=>Value.int .u8 b.toNat)++z).toArray
theorem Ac (l:List UInt8)(z:List Value)(k:Nat)(b:UInt8)(h:l[k]? =some b):(rowOf l z)[k]? =some (.int .u8 b.toNat):=by
 have hk:=(List.getElem?_eq_some_iff.1 h).1
 simp only[rowOf,List.getElem?_toArray]
 rw[List.getElem?_append_left (by simpa using hk),List.getElem?_map,h];rfl
theorem Hf (l:List UInt8)(z:List Value)(k:Nat)(b:UInt8)(h:k<l.length):(rowOf l z).setIfInBounds k (.int .u8 b.toNat)=rowOf (l.set k b) z:=by
 apply Array.ext'
 simp only[rowOf,Array.toList_setIfInBounds,List.map_set]
 rw[List.set_append_left _ _ (by simpa using h)]
theorem J1 (c:UInt8)(h:nh (c.toNat:Int)=true):IntKind.u8.wrap (IntKind.u8.wrap ((c.toNat:Int)-65)+97)=((c+32:UInt8).toNat:Int):=by
 simp only[nh,Bool.and_eq_true,decide_eq_true_eq] at h
 have h1:IntKind.u8.wrap ((c.toNat:Int)-65)=(c.toNat:Int)-65:=by simp[IntKind.wrap_u8];omega
 rw[h1]
 have h2:IntKind.u8.wrap ((c.toNat:Int)-65+97)=(c.toNat:Int)+32:=by simp[IntKind.wrap_u8];omega
 rw[h2]
 have:(c+32:UInt8).toNat=c.toNat+32:=by
  rw[UInt8.toNat_add];simp;omega
 rw[this];rfl
theorem Eh (s:ByteArray)(w:World)(ht:k7 Tryz.prog w fun _=>none)(hs:s.size≤100000):Calls Tryz.prog 156 #[.string s] w fun e w'=>e=.returned (.string (ek s))∧Below w.heap.size w w':=by
 obtain⟨l,rfl⟩:∃l:List UInt8,s=⟨l.toArray⟩:=⟨s.data.toList,by obtain⟨⟨l⟩⟩:=s;rfl⟩
 have hsz:(ByteArray.mk l.toArray).size=l.length:=by simp[ByteArray.size]
 have hconv:=run_bytes_of_string (P:=Tryz.prog) w 9 100 5 ⟨l.toArray⟩ Tryz.underlying9 Tryz.underlying100 Tryz.underlying5
 rw[hsz] at hconv hs
 obtain⟨cap,hcap⟩:∃cap,grownCap w l.length 0 5=cap:=⟨_,rfl⟩
 rw[hcap] at hconv
 obtain⟨z,hz⟩:∃z:List Value,bytesRow ⟨l.toArray⟩ cap=rowOf l z:=⟨List.replicate (cap-l.length) (.int .u8 0),by
  apply Array.ext';simp[bytesRow,rowOf,ByteArray.size]⟩
 rw[hz] at hconv
 obtain⟨n,hn⟩:∃n,(rowOf l z).size=n:=⟨_,rfl⟩
 rw[hn] at hconv
 clear hcap hz
 go_enter Tryz.func156,Tryz.ntmps156
 go_wp2
 go_loopw [10] (fun i wr=> ∃k:Nat,k≤l.length∧i=.int .i64 k∧wr.heap[w.heap.size]? =some (.cells (rowOf (tv l k) z) 5 (n,n+1))∧Below w.heap.size w wr) (fun i _=>l.length- (intOf i).toNat)
 case atStart=>exact⟨0,Nat.zero_le _,rfl,(heap_alloc_new w (Obj.cells (rowOf l z) 5 (n,n+1))),((Below.refl _ w).alloc (Nat.le_refl _) _).drew⟩
 case round=>
  obtain⟨k,hk,rfl,hh,hb⟩:=hrel
  by_cases hlt:k<l.length
  ·have hcell:wr.cell? ⟨w.heap.size,k,none⟩=some (.int .u8 (l[k].toNat:Int)):=by
    simp only[World.cell?,hh]
    exact Ac _ z k _ (CR l k hlt)
   have hn2:k<n:=by rw[←hn];simp[rowOf];omega
   have hfz:wr.frozen? ⟨w.heap.size,k,none⟩=false:=by
    simp[World.frozen?,hh];omega
   have hbs:w.heap.size<wr.heap.size:=(Array.getElem?_eq_some_iff.1 hh).1
   have hb1:0≤ (l[k].toNat:Int):=Int.natCast_nonneg _
   have hb2:(l[k].toNat:Int)≤255:=by have:=UInt8.toNat_lt l[k];omega
   cases hc:nh (l[k].toNat:Int) with
   | false=>
     go_wp2_with (go_at_call 182;refine((rS (l[k].toNat:Int)).below (vs:=[.int .i32 (l[k].toNat:Int)]) _ (ht.below hb)).mono ?_;rw[hc];rintro e w1 ⟨rfl,hb3⟩)
     go_roundw
     case rel=>exact⟨k+1,by omega,by go_num,by rw[hb3.block _ hbs,hh,GA l k hlt hc],hb.trans (hb3.mono hb.size)⟩
     case measure=>simp[intOf];omega
   | true=>
     have hst:IntKind.u8.wrap (IntKind.u8.wrap ((l[k].toNat:Int)-65)+97)=((mw l[k]).toNat:Int):=by
      rw[J1 _ hc];unfold mw;rw[hc];rfl
     simp only[IntKind.wrap_u8] at hst
     have H:=hid hst
     clear hst
     go_wp2_with (go_at_call 182;refine((rS (l[k].toNat:Int)).below (vs:=[.int .i32 (l[k].toNat:Int)]) _ (ht.below hb)).mono ?_;rw[hc];rintro e w1 ⟨rfl,hb3⟩;have hc1:=(hb3.cell (p:=⟨w.heap.size,k,none⟩) hbs).trans hcell;have hf1:=(hb3.frozen (p:=⟨w.heap.size,k,none⟩) hbs).trans hfz)
     go_roundw
     case rel=>
      refine⟨k+1,by omega,by go_num,?_,hb.trans ((hb3.mono hb.size).setCell (Nat.le_refl _) _)⟩
      have hm:((l[k].toNat:Int)-65+97)%256=((mw l[k]).toNat:Int):=by
       rw[←H.out];omega
      rw[hm]
      have hq:w1.heap[w.heap.size]? =some (.cells (rowOf (tv l k) z) 5 (n,n+1)):=(hb3.block _ hbs).trans hh
      have hs2:w.heap.size<w1.heap.size:=(Array.getElem?_eq_some_iff.1 hq).1
      unfold World.setCell
      simp only[Array.getElem?_modify,hq,if_true,Option.map_some]
      have hrs:=Hf (tv l k) z k (mw l[k]) (by rw[B7];exact hlt)
      rw[B9 l k hlt] at hrs
      simp only[hrs];rfl
     case measure=>simp[intOf];omega
  ·have:k=l.length:=by omega
   subst this
   have hrw:rowOf (tv l l.length) z=rowOf (lZ l) z:=by simp[tv,lZ]
   rw[hrw] at hh
   have hcv:=run_convert_bytes_back (P:=Tryz.prog) wr 100 9 5 ⟨w.heap.size,0,none⟩ cap (lZ l) Tryz.underlying100 Tryz.underlying5 Tryz.underlying9 (fun j hj=>by
    have:=Ac (lZ l) z j ((lZ l)[j]) (List.getElem?_eq_getElem hj)
    have ha:(⟨w.heap.size,0,none⟩:Addr).add j=⟨w.heap.size,j,none⟩:=by
     unfold Addr.add;split<;>simp_all
    rw[ha];simp only[World.cell?,hh,this];rfl)
   rw[show(lZ l).length=l.length from by simp[lZ]] at hcv
   go_wp2
   go_ret
   exact⟨rfl,hb⟩
theorem KV (s:ByteArray)(hs:s.size≤100000):ah Tryz.prog 156 [] [cm s] [] (cm (ek s)):=
 ah.o4 (vs:=[.string s]) (v:=.string (ek s)) fun w ht=>Eh s w ht hs
def jS (b:UInt8):Bool:=kI (b.toNat:Int)
def ux:List UInt8→Bool
 |[]=>false
 |b::_=>lX (b.toNat:Int)||nh (b.toNat:Int)||decide ((b.toNat:Int)=95)
def tM (l:List UInt8):Bool:=decide (1≤l.length)&&decide (l.length≤40)&&l.all jS&&ux l
def bO (s:ByteArray):Bool:=tM s.data.toList
theorem FT (s:ByteArray):∀ (f pos:Nat),s.size≤pos+f→(0≤idxFuncFrom (fun r=> !kI (r:Int)) true s f pos↔ ∃i,pos≤i∧∃b,s.data.toList[i]? =some b∧jS b=false)
 | 0,pos,h=>by
   have:¬ (0:Int)≤idxFuncFrom (fun r=> !kI (r:Int)) true s 0 pos:=by simp[idxFuncFrom]
   refine⟨fun h'=>absurd h' this,?_⟩
   rintro⟨i,h1,b,h2,_⟩
   have:=(List.getElem?_eq_some_iff.1 h2).1
   have:i<s.size:=this
   omega
 | f + 1, pos,h=>by
   by_cases hp:pos<s.size
   ·have ih:=FT s f
    have hb:∃b,s.data.toList[pos]? =some b∧s.get! pos=b:=⟨_,List.getElem?_eq_getElem hp,by show s.data[pos]! =_;rw[getElem!_pos s.data pos hp];rfl⟩
    obtain⟨b,hb1,hb2⟩:=hb
    unfold idxFuncFrom
    rw[if_pos hp,decode_at,hb2]
    have hbn:b.toNat<256:=UInt8.toNat_lt b
    have big:∀r:Nat,128≤r→kI (r:Int)=false:=by
     intro r hr
     have:(128:Int)≤r:=by omega
     simp only[kI,lX,nh,Bool.or_eq_false_iff,Bool.and_eq_false_iff,decide_eq_false_iff_not]
     omega
    have bad:∀r w:Nat,128≤r→128≤b.toNat→((0:Int)≤ (if(!kI (r:Int))=true then(pos:Int) else idxFuncFrom (fun r=> !kI (r:Int)) true s f (pos+w))↔ ∃i,pos≤i∧∃b,s.data.toList[i]? =some b∧jS b=false):=by
     intro r w hr hbr
     rw[big r hr]
     exact⟨fun _=>⟨pos,Nat.le_refl _,b,hb1,big _ hbr⟩,fun _=>by simp⟩
    rcases decodeN_shape (s.size-pos) b.toNat (s.get! (pos+1)).toNat (s.get! (pos+2)).toNat (s.get! (pos+3)).toNat with⟨h1,h2⟩|⟨h1,h3,h4,h5,h2⟩|⟨h1,h3,h4,h5,h6,h7,h2⟩|⟨h1,h3,h4,h5,h6,h7,h8,h2⟩|h2
    ·rw [h2]
     show(0:Int)≤ (if(!kI (b.toNat:Int))=true then(pos:Int) else idxFuncFrom _ true s f (pos+1))↔_
     cases hs:kI (b.toNat:Int) with
     |false=>exact⟨fun _=>⟨pos,Nat.le_refl _,b,hb1,hs⟩,fun _=>by simp⟩
     | true=>
       rw[if_neg (by simp),ih (pos+1) (by omega)]
       constructor
       ·rintro⟨i,h3,h4⟩;exact⟨i,by omega,h4⟩
       ·rintro⟨i,h3,b',h4,h5⟩
        rcases Nat.lt_or_ge pos i with h6|h6
        ·exact⟨i,h6,b',h4,h5⟩
        ·have:i=pos:=by omega
         subst this
         rw[hb1] at h4;cases h4
         rw[jS,hs] at h5;cases h5
    ·rw[h2];exact bad _ _ (by omega) (by omega)
    ·rw[h2];exact bad _ _ (by omega) (by omega)
    ·rw[h2];exact bad _ _ (by omega) (by omega)
    ·rw[h2]
     refine bad _ _ (by omega) ?_
     rcases Nat.lt_or_ge b.toNat 128 with h3|h3
     ·rw[decodeN,if_pos h3] at h2;simp only[Prod.mk.injEq] at h2;omega
     ·exact h3
   ·rw[idxFuncFrom_end _ _ _ _ _ hp]
    refine⟨fun h'=>by omega,?_⟩
    rintro⟨i,h1,b,h2,_⟩
    have:=(List.getElem?_eq_some_iff.1 h2).1
    have:i<s.size:=this
    omega
theorem Mj (s:ByteArray):decide (0≤idxFunc (fun r=> !kI (r:Int)) true s)=!s.data.toList.all jS:=by
 have h:=FT s s.size 0 (by omega)
 cases ha:s.data.toList.all jS with
 | true=>
   simp only[Bool.not_true,decide_eq_false_iff_not]
   intro h'
   obtain⟨i,_,b,h1,h2⟩:=h.1 h'
   have:=List.all_eq_true.1 ha b (List.mem_of_getElem? h1)
   rw[this] at h2;cases h2
 | false=>
   simp only[Bool.not_false,decide_eq_true_eq]
   refine h.2 ?_
   obtain⟨b,h1,h2⟩:=List.all_eq_false.1 ha
   obtain⟨i,h3⟩:=List.getElem?_of_mem h1
   exact⟨i,Nat.zero_le _,b,h3,by simpa using h2⟩
theorem D0 (g:Nat)(eg:∀args w,(callFunc g args).run Tryz.prog w=.ok (.enter g args) w)(p:Nat→Bool)(s:ByteArray)(w:World)(ht:k7 Tryz.prog w fun _=>none)(hp:∀ (W:World) (x:Nat),(k7 Tryz.prog W fun _=>none)→x≤1114111→Calls Tryz.prog g #[.int .i32 (x:Int)] W fun e w'=>e=.returned (.bool (p x))∧Below W.heap.size W w'):
  Calls Tryz.prog 231 #[.string s,.func (.func g) #[] #[]] w fun e w'=>e=.returned (.int .i64 (Lib.idxFunc p true s))∧Below w.heap.size w w':=by
 have h44:=EB g eg p s w ht hp
 clear hp
 go_enter Tryz.func231,Tryz.ntmps231
 go_wp2_with (go_at_call 256;refine h44.mono ?_;rintro e w1 ⟨rfl,hb⟩)
 go_ret
 exact⟨rfl,hb⟩
theorem w9 (g:Nat)(eg:∀args w,(callFunc g args).run Tryz.prog w=.ok (.enter g args) w)(p:Nat→Bool)(s:ByteArray)(w:World)(ht:k7 Tryz.prog w fun _=>none)(hp:∀ (W:World) (x:Nat),(k7 Tryz.prog W fun _=>none)→x≤1114111→Calls Tryz.prog g #[.int .i32 (x:Int)] W fun e w'=>e=.returned (.bool (p x))∧Below W.heap.size W w'):
  Calls Tryz.prog 181 #[.string s,.func (.func g) #[] #[]] w fun e w'=>e=.returned (.bool (decide (0≤Lib.idxFunc p true s)))∧Below w.heap.size w w':=by
 have h43:=D0 g eg p s w ht hp
 clear hp
 go_enter Tryz.func181,Tryz.ntmps181
 go_wp2_with (go_at_call 231;refine h43.mono ?_;rintro e w1 ⟨rfl,hb⟩)
 go_ret
 exact⟨rfl,hb⟩
theorem KO (s:ByteArray):ah Tryz.prog 181 [] [cm s,.lit (.func (.func 214) #[] #[])] [] (aA (!s.data.toList.all jS)):=by
 rw[←Mj]
 exact ah.o4 (vs:=[.string s,.func (.func 214) #[] #[]]) fun w ht=>w9 214 RP (fun r=> !kI (r:Int)) s w ht fun W x ht _=>(KB (x:Int)).below (vs:=[.int .i32 (x:Int)]) W ht
theorem s5 (s:ByteArray):s.size=s.data.toList.length:=(Array.length_toList (xs:=s.data)).symm
theorem yP {l:List UInt8}(h:1≤l.length):∃b r,l=b::r∧l[0]? =some b:=by
 cases l with
 |nil=>simp at h
 |cons b r=>exact⟨b,r,rfl,rfl⟩
theorem J5 (b:UInt8):IntKind.i32.wrap (b.toNat:Int)=(b.toNat:Int):=by
 have h:b.toNat<256:=UInt8.toNat_lt b
 rw[IntKind.wrap_i32];omega
theorem Ft (s:ByteArray):ah Tryz.prog 155 [] [cm s] [] (aA (bO s)):=by
 have hsz:s.size=s.data.toList.length:=s5 s
 have hb0:1≤s.data.toList.length→∃b r,s.data.toList=b::r∧s.data.toList[0]? =some b:=yP
 refine ah.af (rvs:=[.tmp 2]) G aa Tryz.func155 rfl Tryz.ntmps155 rfl rfl ?_;with_reducible refine wD ?_
 repeat' (first
  |refine aE ?_ ?_
  |((with_reducible show bq _ _ _ _);first|refine iK ?_|(refine bq.mk (fun _=>?_) (fun _=>?_)<;>with_reducible refine wK ?_))
  |((with_reducible refine kQ 181 ?_);refine aj.lit [] (KO _) PB ⟨rfl,lR 12 _ rfl,trivial⟩ rfl rfl ?_;with_reducible refine wK ?_)
  |((with_reducible refine kQ 182 ?_);refine cL (rS _) NF ?_;with_reducible refine wK ?_)
  |((with_reducible refine kQ 180 ?_);refine cL (AH _) NP ?_;with_reducible refine wK ?_)
  |((with_reducible show yQ _ _ _ _ _);obtain⟨b,r,hl,hb⟩:=hb0 (by simp only[decide_eq_false_iff_not] at*;omega);refine yQ.mk 0 b rfl hb ?_;with_reducible refine wK ?_)
  |((with_reducible show dA _ _ _ _ _ _ _);refine dA.int (by kernel_rfl) (by kernel_rfl) (J5 _) ?_;with_reducible refine wK ?_)
  |apply trivial)
 all_goals (simp only[decide_eq_true_eq,decide_eq_false_iff_not,hsz] at*;unfold bO tM)
 ·rw[show decide (1≤s.data.toList.length)=false from decide_eq_false (by omega)];rfl
 ·rw[show decide (s.data.toList.length≤40)=false from decide_eq_false (by omega)];simp
 ·rw[show s.data.toList.all jS=false from by simp_all];simp
 all_goals rw[show decide (1≤s.data.toList.length)=true from decide_eq_true (by omega),show decide (s.data.toList.length≤40)=true from decide_eq_true (by omega),show s.data.toList.all jS=true from by simp_all,hl];simp_all[ux]
theorem D3 {s:ByteArray}(h:bO s=true):s.size≤40:=by
 unfold bO tM at h
 simp only[Bool.and_eq_true,decide_eq_true_eq] at h
 rw[s5];exact h.1.1.2
theorem Ca {s:ByteArray}(h:(!bO s)=false):s.size≤100000:=by
 have:=D3 (s:=s) (by simpa using h)
 omega
theorem wN (s:ByteArray):ah Tryz.prog 81 [] [cm s] [] (.tup [cm (if bO s then ek s else⟨#[]⟩),aq (if bO s then 0 else 4)]):=by
 refine ah.af (rvs:=[.tmp 2,.tmp 3]) G aa Tryz.func81 rfl Tryz.ntmps81 rfl rfl ?_;with_reducible refine wD ?_
 repeat' (first
  |refine aE ?_ ?_
  |((with_reducible show bq _ _ _ _);first|refine iK ?_|(refine bq.mk (fun _=>?_) (fun _=>?_)<;>with_reducible refine wK ?_))
  |((with_reducible refine kQ 155 ?_);refine cL (Ft _) PY ?_;with_reducible refine wK ?_)
  |((with_reducible refine kQ 156 ?_);refine aj.lit [] (KV _ (Ca (by assumption))) Rv ⟨rfl,trivial⟩ rfl rfl ?_;with_reducible refine wK ?_)
  |apply trivial)
 all_goals simp_all
theorem IM (l:List UInt8):(lZ l).length=l.length:=by simp[lZ]
structure AttrM where
 name:ByteArray
 value:ByteArray
 deriving DecidableEq
@[reducible] def pz (a : AttrM) : AV := .agg [cm a.name, cm a.value]
def eN (a:AttrM):AV:=pz a
@[reducible] def eU (l : List AttrM) : AV := .sl 2 (l.map eN)
theorem CH (l:List AttrM):aN (l.map eN)=true:=by
 rw[bL];intro x hx
 obtain⟨a,_,rfl⟩:=List.mem_map.1 hx
 rfl
theorem aD {ck:List (Nat×Nat)}{fz:Nat→Bool}{m:ML}{n:Nat}:∀ {cs:List AV},aN cs=true→EC (MF ck fz m n) cs cs
 |[],_=>trivial
 | c::cs,h=>by
   simp only[aN,Bool.and_eq_true] at h
   exact⟨lR n c h.1,aD h.2⟩
theorem Lq (a:AttrM)(n:ByteArray):ah Tryz.prog 282 [] [pz a,.fptr (cm n) 0] [] (aA (decide (a.name=n))):=by
 refine ah.af (rvs:=[.tmp 3]) G aa Tryz.func282 rfl Tryz.ntmps282 rfl rfl ?_;with_reducible refine wD ?_
 (refine eK ?_ ?_<;>with_reducible repeat' (first|exact trivial|(show _∧_;refine aK ?_ ?_)))
def I4 (a:AttrM):Bool:=!(bO a.name&&decide (ek a.name=a.name)&&decide (a.value.size≤200))
theorem MI (a:AttrM):ah Tryz.prog 243 [] [pz a] [] (aA (I4 a)):=by
 obtain⟨n,v⟩:=a
 refine ah.af (rvs:=[.tmp 2]) G aa Tryz.func243 rfl Tryz.ntmps243 rfl rfl ?_;with_reducible refine wD ?_
 refine cL (wN _) zo ?_;with_reducible refine wK ?_
 repeat' (first
  |refine aE ?_ ?_
  |((with_reducible show bq _ _ _ _);first|refine iK ?_|(refine bq.mk (fun _=>?_) (fun _=>?_)<;>with_reducible refine wK ?_))
  |apply trivial)
 all_goals (unfold I4;cases hr:bO n<;>simp_all)
 by_cases h2:v.size≤200
 ·rw[decide_eq_true h2,decide_eq_false (by(try simp only[aF]);omega)];rfl
 ·rw[decide_eq_false h2,decide_eq_true (by(try simp only[aF]);omega)];rfl
def gh {α:Type}(p:α→Bool)(l:List α):Int:=match l.findIdx? p with|some i=>(i:Int)|none=> -1
theorem fD {α:Type}{p:α→Bool}{l:List α}{k:Nat}{a:α}(h:l[k]? =some a)(hp:p a=true)(hno:∀ (j:Nat) (x:α),j<k→l[j]? =some x→p x=false):gh p l=k:=by
 have:l.findIdx? p=some k:=by
  rw[List.findIdx?_eq_some_iff_getElem]
  obtain⟨hk,hx⟩:=List.getElem?_eq_some_iff.1 h
  exact⟨hk,by rw[hx];exact hp,fun j hj=>by simpa using hno j _ hj (List.getElem?_eq_getElem (by omega))⟩
 rw[gh,this]
theorem ei {α:Type}{p:α→Bool}{l:List α}(hno:∀ (j:Nat) (x:α),l[j]? =some x→p x=false):gh p l=-1:=by
 have:l.findIdx? p=none:=by
  rw[List.findIdx?_eq_none_iff]
  intro x hx
  obtain⟨j,hj⟩:=List.getElem?_of_mem hx
  exact hno j x hj
 rw[gh,this]
theorem oH {l:List AttrM}{k:Nat}{a:AttrM}(h:l[k]? =some a):(l.map eN)[k]? =some (pz a):=by rw[List.getElem?_map,h];rfl
theorem EY (g:Nat)(cg:ae Tryz.prog g)(caps:List AV)(hcaps:aN caps=true)(p:AttrM→Bool)(l:List AttrM)(hl:l.length≤100000)(hf:∀a,a∈l→ah Tryz.prog g [] (pz a::caps) [] (aA (p a))):
  ah Tryz.prog 263 [] [eU l,.clo (.func g) [] caps] [] (aq (gh p l)):=by
 have hlm:(l.map eN).length=l.length:=List.length_map ..
 refine ah.af (rvs:=[.tmp 4]) G aa Tryz.func263 rfl Tryz.ntmps263 rfl rfl ?_;with_reducible refine wD ?_
 refine aU.use G aa (fun(k:Nat)=>[(0,eU l),(1,.clo (.func g) [] caps),(7,aq l.length),(8,aq k)]) (fun _=>[]) (fun k=>k≤l.length∧∀j x,j<k→l[j]? =some x→p x=false) (fun k=>l.length-k) 0 ⟨Nat.zero_le _,fun j x h=>by omega⟩
  ⟨⟨rfl,rfl⟩,⟨rfl,⟨rfl,trivial,aD hcaps⟩,by show(l.length:Int)=((l.map eN).length:Int);rw[hlm],rfl,trivial⟩,trivial⟩ ?_
 rintro k ⟨hk,hno⟩
 with_reducible refine wK ?_
 refine bq.mk (fun h1=>?_) (fun h1=>?_)<;>(try simp only[aF] at h1)<;>with_reducible refine wK ?_
 ·simp only[decide_eq_true_eq] at h1
  have hk':k<l.length:=by omega
  obtain⟨a,ha⟩:∃a,l[k]? =some a:=⟨_,List.getElem?_eq_getElem hk'⟩
  refine ay.mk k (pz a) rfl (oH ha) ?_;with_reducible refine wK ?_
  refine aj.lit [] (hf a (List.mem_of_getElem? ha)) cg ⟨⟨rfl,rfl,trivial⟩,aD hcaps⟩ rfl rfl ?_;with_reducible refine wK ?_
  refine bq.mk (fun h2=>?_) (fun h2=>?_)<;>(try simp only[aF] at h2)<;>with_reducible refine wK ?_
  ·(refine eK ?_ ?_<;>with_reducible repeat' (first|exact trivial|(show _∧_;refine aK ?_ ?_)))
   exact fD ha h2 hno
  ·refine nK ?_;with_reducible refine wK ?_
   refine aL.mk (k+1) ⟨by omega,fun j x hj hx=>?_⟩ (by omega) ⟨⟨rfl,rfl⟩,⟨rfl,⟨rfl,trivial,aD hcaps⟩,rfl,by show((k+1:Nat):Int)=(k:Int)+1;omega,trivial⟩,trivial⟩
   rcases Nat.lt_or_ge j k with h6|h6
   ·exact hno j x h6 hx
   ·have:j=k:=by omega
    subst this
    rw[ha] at hx;cases hx;exact h2
 ·(refine eK ?_ ?_<;>with_reducible repeat' (first|exact trivial|(show _∧_;refine aK ?_ ?_)))
  have:k=l.length:=by simp only[decide_eq_false_iff_not] at h1;omega
  exact ei fun j x hx=>hno j x (by have:=(List.getElem?_eq_some_iff.1 hx).1;omega) hx
theorem KX (g:Nat)(cg:ae Tryz.prog g)(caps:List AV)(hcaps:aN caps=true)(p:AttrM→Bool)(l:List AttrM)(hl:l.length≤100000)(hf:∀a,a∈l→ah Tryz.prog g [] (pz a::caps) [] (aA (p a))):
  ah Tryz.prog 244 [] [eU l,.clo (.func g) [] caps] [] (aA (l.any p)):=by
 refine ah.af (rvs:=[.tmp 4]) G aa Tryz.func244 rfl Tryz.ntmps244 rfl rfl ?_;with_reducible refine wD ?_
 refine aj.lit [] (EY g cg caps hcaps p l hl hf) O9 ⟨rfl,⟨rfl,trivial,aD hcaps⟩,trivial⟩ rfl rfl ?_;with_reducible refine wK ?_
 (refine eK ?_ ?_<;>with_reducible repeat' (first|exact trivial|(show _∧_;refine aK ?_ ?_)))
 unfold gh
 cases h:l.findIdx? p with
 | none=>
   rw[List.findIdx?_eq_none_iff] at h
   have:l.any p=false:=by rw[List.any_eq_false];intro x hx;rw[h x hx];simp
   rw[this];rfl
 | some i=>
   rw[List.findIdx?_eq_some_iff_getElem] at h
   obtain⟨hi,h1,_⟩:=h
   have:l.any p=true:=List.any_eq_true.2 ⟨_,List.getElem_mem hi,h1⟩
   rw[this];exact(decide_eq_true (Int.natCast_nonneg i)).symm
theorem K1 (l:List AttrM)(hl:l.length≤100000)(n:ByteArray):ah Tryz.prog 275 [] [eU l,cm n] [] (aq (gh (fun a=>decide (a.name=n)) l)):=by
 refine ah.af (rvs:=[.tmp 4]) G aa Tryz.func275 rfl Tryz.ntmps275 rfl rfl ?_;with_reducible refine wD ?_
 refine aj.lit [30] (EY 282 Ri [.fptr (cm n) 0] rfl (fun a=>decide (a.name=n)) l hl fun a _=>Lq a n) O9 ⟨rfl,⟨rfl,trivial,⟨_,_,_,_,_,rfl,rfl,rfl,rfl,rfl,rfl⟩,trivial⟩,trivial⟩ rfl rfl ?_;with_reducible refine wK ?_
 (refine eK ?_ ?_<;>with_reducible repeat' (first|exact trivial|(show _∧_;refine aK ?_ ?_)))
def Pm (a:AttrM):Bool:=bO a.name&&decide (ek a.name=a.name)&&decide (a.value.size≤200)
theorem L3 (a:AttrM):I4 a=!Pm a:=rfl
def hasName (n:ByteArray)(a:AttrM):Bool:=decide (a.name=n)
def NV (l:List AttrM)(n:ByteArray):Int:=gh (hasName n) l
def kW (l:List AttrM):Bool:=decide (l.length≤40)&&l.all Pm&&decide ((l.map AttrM.name).Nodup)
def jX (t:List (ByteArray×AttrM))(l:List AttrM):List (ByteArray×AttrM):=l.foldl (fun t a=>eB a.name a t) t
def vn (l:List AttrM):List (ByteArray×AttrM):=jX [] l
theorem BJ {K α:Type}[DecidableEq K](k:K)(x:α):∀t:List (K×α),(eB k x t).length=if(cR k t).isSome then t.length else t.length+1
 |[]=>rfl
 | p::r=>by
   simp only[eB,cR]
   split
   ·simp
   ·rw[List.length_cons,BJ k x r];split<;>simp
theorem oh:∀ (l:List AttrM) (t:List (ByteArray×AttrM)),(jX t l).length≤t.length+l.length∧((jX t l).length=t.length+l.length↔ (l.map AttrM.name).Nodup∧∀a∈l,(cR a.name t).isSome=false)
 |[],t=>by simp[jX]
 | a :: r,t=>by
   obtain⟨h1,h2⟩:=oh r (eB a.name a t)
   have hl:=BJ a.name a t
   show(jX (eB a.name a t) r).length≤_∧((jX (eB a.name a t) r).length=_↔_)
   cases hg:(cR a.name t).isSome with
   | true=>
     rw[hg,if_pos rfl] at hl
     refine⟨by simp only[List.length_cons];omega,⟨fun h=>?_,fun h=>?_⟩⟩
     ·simp only[List.length_cons] at h;omega
     ·have:=h.2 a (by simp);rw[hg] at this;cases this
   | false=>
     rw[hg,if_neg (by simp)] at hl
     refine⟨by simp only[List.length_cons];omega,?_⟩
     rw[show(jX (eB a.name a t) r).length=t.length+ (a::r).length↔ (jX (eB a.name a t) r).length=(eB a.name a t).length+r.length from by rw[hl,List.length_cons];omega,h2]
     simp only[List.map_cons,List.nodup_cons,List.mem_cons,forall_eq_or_imp]
     constructor
     ·rintro⟨k1,k2⟩
      refine⟨⟨fun hm=>?_,k1⟩,hg,fun b hb=>?_⟩
      ·obtain⟨b,hb,he⟩:=List.mem_map.1 hm
       have:=k2 b hb
       rw[fo,he,if_pos rfl] at this;cases this
      ·have:=k2 b hb
       rw[fo] at this
       split at this
       ·cases this
       ·exact this
     ·rintro⟨⟨k1,k2⟩,_,k3⟩
      refine⟨k2,fun b hb=>?_⟩
      rw[fo,if_neg (fun e=>k1 (List.mem_map.2 ⟨b,hb,e.symm⟩))]
      exact k3 b hb
theorem JK (l:List AttrM):(vn l).length=l.length↔ (l.map AttrM.name).Nodup:=by
 have:=(oh l []).2
 simp only[List.length_nil,Nat.zero_add] at this
 exact this.trans ⟨fun h=>h.1,fun h=>⟨h,fun _ _=>rfl⟩⟩
theorem Mg (l:List AttrM):(vn l).length≤l.length:=by
 have:=(oh l []).1
 simp only[List.length_nil,Nat.zero_add] at this
 exact this
theorem G0 {l:List AttrM}{k:Nat}{a:AttrM}(h:l[k]? =some a):vn (l.take (k+1))=eB a.name a (vn (l.take k)):=by
 have hk:=(List.getElem?_eq_some_iff.1 h).1
 rw[List.take_succ_eq_append_getElem hk,(List.getElem?_eq_some_iff.1 h).2]
 simp[vn,jX,List.foldl_append]
@[reducible] def OT (l : List AttrM) : MS := .live 2 (dZ Value.string eN (vn l)) false
theorem mR (t:List (ByteArray×AttrM)):aN (dZ Value.string eN t)=true:=by
 rw[bL];intro x hx
 obtain⟨a,_,rfl⟩:=List.mem_map.1 hx
 rfl
theorem M7:ja Tryz.prog 284 .string (.agg #[.string ByteArray.empty,.string ByteArray.empty]):=⟨9,179,by kernel_rfl,by kernel_rfl,fun w=>Tryz.zeroValue179 w⟩
theorem Ml (l:List AttrM)(hl:l.length≤100000):ah Tryz.prog 245 [] [eU l] [OT l] (.mapr 0):=by
 have hlm:(l.map eN).length=l.length:=List.length_map ..
 refine ah.af (rvs:=[.tmp 2]) G aa Tryz.func245 rfl Tryz.ntmps245 rfl rfl ?_;with_reducible refine wD ?_
 refine aU.use G aa (fun(k:Nat)=>[(3,.mapr 61),(7,eU l),(8,aq l.length),(9,aq k)]) (fun k=>[(61,.live 2 (dZ Value.string eN (vn (l.take k))) false)]) (fun k=>k≤l.length) (fun k=>l.length-k) 0 (Nat.zero_le _)
  ⟨⟨rfl,rfl⟩,⟨trivial,rfl,by show(l.length:Int)=((l.map eN).length:Int);rw[hlm],rfl,trivial⟩,⟨.refl rfl,rfl⟩,trivial⟩ ?_
 intro k hk
 with_reducible refine wK ?_
 refine bq.mk (fun h1=>?_) (fun h1=>?_)<;>(try simp only[aF] at h1)<;>with_reducible refine wK ?_
 ·simp only[decide_eq_true_eq] at h1
  have hk':k<l.length:=by omega
  obtain⟨a,ha⟩:∃a,l[k]? =some a:=⟨_,List.getElem?_eq_getElem hk'⟩
  obtain⟨n,v⟩:=a
  refine ay.mk k (pz ⟨n,v⟩) rfl (oH ha) ?_;with_reducible refine wK ?_
  have hle:(vn (l.take k)).length≤k:=Nat.le_trans (Mg _) (by simp;omega)
  refine s7.ck Value.string eN (vn (l.take k)) (k:=n) ⟨n,v⟩ M7 rfl j3 j5 (by unfold maxLen;omega) rfl ?_;with_reducible refine wK ?_
  refine nK ?_;with_reducible refine wK ?_
  refine aL.mk (k+1) (by omega) (by omega) ⟨⟨rfl,rfl⟩,⟨trivial,rfl,rfl,by show((k+1:Nat):Int)=(k:Int)+1;omega,trivial⟩,⟨?_,?_⟩,trivial⟩
  ·rw[G0 ha];exact .refl (mR _)
  ·exact mR _
 ·(refine eK ?_ ?_<;>with_reducible repeat' (first|exact trivial|(show _∧_;refine aK ?_ ?_)))
  have:k=l.length:=by simp only[decide_eq_false_iff_not] at h1;omega
  rw[this,List.take_length]
  exact aD (mR _)
theorem ah.PU {P:Program}{f g:FuncId}{a:AV}{outs:List MS}{res:AV}(h:ah P f [] [a,.clo (.func g) [] []] outs res):ah P f [] [a,.lit (.func (.func g) #[] #[])] outs res:=by
 intro w W0 L vs hL hs hr
 refine h w W0 L vs hL hs ⟨hr.1,fun j c v h1 h2=>?_⟩
 match j with
 |0=>exact hr.2 0 c v h1 h2
 | 1=>
   have:=hr.2 1 _ v rfl h2
   cases this
   simp at h1
   subst h1
   exact cq.clo (va:=[]) (vb:=[]) rfl rfl (fun j c v h=>by simp at h) (fun j c v h=>by simp at h)
 |j+2=>simp at h1
theorem zS (l:List AttrM):l.any I4=!l.all Pm:=by
 induction l with
 |nil=>rfl
 |cons a r ih=>simp[List.any_cons,List.all_cons,ih,L3]
theorem Ie (l:List AttrM):fR [OT l]:=by
 refine⟨bw.eD fun r hr=>?_,mR _,trivial⟩
 obtain⟨p,_,rfl⟩:=List.mem_map.1 hr
 rfl
theorem FJ (l:List AttrM)(hl:l.length≤100000):ah Tryz.prog 203 [] [eU l] [] (aA (kW l)):=by
 have hlm:(l.map eN).length=l.length:=List.length_map ..
 refine ah.af (rvs:=[.tmp 2]) G aa Tryz.func203 rfl Tryz.ntmps203 rfl rfl ?_;with_reducible refine wD ?_
 repeat' (first
  |refine aE ?_ ?_
  |((with_reducible show bq _ _ _ _);first|refine iK ?_|(refine bq.mk (fun _=>?_) (fun _=>?_)<;>with_reducible refine wK ?_))
  |((with_reducible refine kQ 244 ?_);refine aj.lit [] (ah.PU (KX 243 Qx [] rfl I4 l hl fun a _=>MI a)) Qt ⟨rfl,lR 12 _ rfl,trivial⟩ rfl rfl ?_;with_reducible refine wK ?_)
  |((with_reducible refine kQ 245 ?_);refine aj.new 151 [] (Ml l hl) QK ⟨rfl,trivial⟩ rfl rfl rfl (Ie l) rfl ?_;with_reducible refine wK ?_)
  |((with_reducible show gr _ _ _ _ _ _ _);refine gr.mk M7 ⟨_,_,rfl⟩ rfl ?_;with_reducible refine wK ?_)
  |apply trivial)
 ·have h2:l.all Pm=true:=by have:=zS l;simp_all
  have e:(dZ Value.string eN (vn l)).length=(vn l).length:=List.length_map ..
  have h3:l.length≤40:=by simp only[hlm,decide_eq_true_eq] at*;omega
  have h4:=JK l
  unfold kW
  rw[h2,decide_eq_true h3,e,hlm]
  by_cases hn:(l.map AttrM.name).Nodup
  ·rw[decide_eq_true hn,h4.2 hn];simp
  ·rw[decide_eq_false hn]
   have:¬ (vn l).length=l.length:=fun h=>hn (h4.1 h)
   rw[decide_eq_false (by(try simp only[aF]);omega)];rfl
 ·have h2:l.all Pm=false:=by have:=zS l;simp_all
  unfold kW;rw[h2];simp
 ·have h2:decide (l.length≤40)=false:=by simp only[hlm,decide_eq_false_iff_not] at*;omega
  unfold kW;rw[h2];simp
def Pj:ByteArray:=⟨#[]⟩
def MY (l:List AttrM)(n:ByteArray):Int:=if kW l then(if bO n then 0 else 4) else 1
def M6 (l:List AttrM)(n:ByteArray):ByteArray:=if kW l&&bO n then ek n else Pj
def jW (l:List AttrM)(n:ByteArray):Int:=if kW l&&bO n then NV l (ek n) else-1
theorem KH (l:List AttrM)(hl:l.length≤100000)(n:ByteArray):ah Tryz.prog 264 [] [eU l,cm n] [] (.tup [cm (M6 l n),aq (jW l n),aq (MY l n)]):=by
 refine ah.af (rvs:=[.tmp 4,.tmp 5,.tmp 6]) G aa Tryz.func264 rfl Tryz.ntmps264 rfl rfl ?_;with_reducible refine wD ?_
 repeat' (first
  |refine aE ?_ ?_
  |((with_reducible show bq _ _ _ _);first|refine iK ?_|(refine bq.mk (fun _=>?_) (fun _=>?_)<;>with_reducible refine wK ?_))
  |((with_reducible refine kQ 203 ?_);refine cL (FJ l hl) Om ?_;with_reducible refine wK ?_)
  |((with_reducible refine kQ 81 ?_);refine cL (wN _) zo ?_;with_reducible refine wK ?_)
  |((with_reducible refine kQ 275 ?_);refine cL (K1 l hl _) Q4 ?_;with_reducible refine wK ?_)
  |apply trivial)
 all_goals (cases h1:kW l<;>cases h2:bO n<;>simp_all[MY,M6,jW,Pj])
 rfl
def yo (l:List AttrM)(n:ByteArray):ByteArray:=if 0≤jW l n then((l[(jW l n).toNat]?).map AttrM.value).getD Pj else Pj
theorem w6 {α:Type}(p:α→Bool)(l:List α):gh p l=-1∨∃ (k:Nat) (a:α),gh p l=k∧l[k]? =some a∧p a=true:=by
 unfold gh
 cases h:l.findIdx? p with
 |none=>exact .inl rfl
 | some k=>
   rw[List.findIdx?_eq_some_iff_getElem] at h
   obtain⟨hk,h1,_⟩:=h
   exact .inr ⟨k,_,rfl,List.getElem?_eq_getElem hk,h1⟩
theorem BU (l:List AttrM)(n:ByteArray):jW l n=-1∨∃ (k:Nat) (a:AttrM),jW l n=k∧l[k]? =some a∧a.name=ek n:=by
 unfold jW
 split
 ·rcases w6 (hasName (ek n)) l with h|⟨k,a,h1,h2,h3⟩
  ·exact .inl h
  ·exact .inr ⟨k,a,h1,h2,by simpa[hasName] using h3⟩
 ·exact .inl rfl
theorem AJ (l:List AttrM)(hl:l.length≤100000)(n:ByteArray):ah Tryz.prog 248 [] [eU l,cm n] [] (.tup [cm (yo l n),aA (decide (0≤jW l n))]):=by
 refine ah.af (rvs:=[.tmp 4,.tmp 5]) G aa Tryz.func248 rfl Tryz.ntmps248 rfl rfl ?_;with_reducible refine wD ?_
 refine cL (KH l hl n) Qw ?_;with_reducible refine wK ?_
 rcases BU l n with h|⟨k,a,h,ha,hn⟩
 ·simp only[h]
  refine bq.yes rfl ?_;with_reducible refine wK ?_
  (refine eK ?_ ?_<;>with_reducible repeat' (first|exact trivial|(show _∧_;refine aK ?_ ?_)))
  ·unfold yo;rw[h];rfl
  ·rfl
 ·simp only[h]
  refine bq.no (decide_eq_false (by(try simp only[aF]);omega)) ?_;with_reducible refine wK ?_
  refine ay.mk k (pz a) rfl (oH ha) ?_;with_reducible refine wK ?_
  (refine eK ?_ ?_<;>with_reducible repeat' (first|exact trivial|(show _∧_;refine aK ?_ ?_)))
  ·unfold yo;rw[h,if_pos (by omega),Int.toNat_natCast,ha];rfl
  ·exact decide_eq_true (by omega)
theorem zy {m:ML}{fz:Nat→Bool}{ck:List (Nat×Nat)}{n t len:Nat}{ro:Bool}{rows:List AV}{l:List AttrM}(h1:ej m t=.live 2 rows ro)(h2:fz t=true)(h3:rows=l.map eN)(h4:len=l.length):nq m fz (MF ck fz m n) (eU l) t 0 len:=by
 subst h3;subst h4
 have e:(l.map eN).length=l.length:=List.length_map ..
 exact .cut h1 h2 (by omega) (by rw[List.drop_zero,List.take_of_length_le (by omega)]) (CH l)


end Go.Proofs.Heir
namespace Go.Proofs
open Go.Shelf
def Tryz.CO:Go.Shelf.Ren:=⟨fun|144=>183|143=>232|219=>257|217=>270|225=>271|224=>272|267=>273|266=>278|314=>279|n=>n,fun|9=>9|4=>4|3=>3|5=>5|46=>299|146=>305|51=>304|n=>n,fun|1=>0|n=>n⟩
theorem Tryz.Mt:Go.Proofs.Lays.n144 Tryz.prog Tryz.CO:={
  mixed:=by kernel_rfl
  f143:=Tryz.func232.trans (congrArg some (by kernel_rfl))
  f144:=Tryz.func183.trans (congrArg some (by kernel_rfl))
  f217:=Tryz.func270.trans (congrArg some (by kernel_rfl))
  f219:=Tryz.func257.trans (congrArg some (by kernel_rfl))
  f224:=Tryz.func272.trans (congrArg some (by kernel_rfl))
  f225:=Tryz.func271.trans (congrArg some (by kernel_rfl))
  f266:=Tryz.func278.trans (congrArg some (by kernel_rfl))
  f267:=Tryz.func273.trans (congrArg some (by kernel_rfl))
  f314:=Tryz.func279.trans (congrArg some (by kernel_rfl))
  t3:=Tryz.underlying3
  a3:=Tryz.isAgg3
  z3:=Tryz.sizeOf3
  v3:=Tryz.zeroValue3
  t4:=Tryz.underlying4
  a4:=Tryz.isAgg4
  z4:=Tryz.sizeOf4
  v4:=Tryz.zeroValue4
  t5:=Tryz.underlying5
  a5:=Tryz.isAgg5
  z5:=Tryz.sizeOf5
  v5:=Tryz.zeroValue5
  t9:=Tryz.underlying9
  a9:=Tryz.isAgg9
  z9:=Tryz.sizeOf9
  v9:=Tryz.zeroValue9
  t46:=Tryz.underlying299
  a46:=Tryz.isAgg299
  z46:=Tryz.sizeOf299
  v46:=Tryz.zeroValue299
  t51:=Tryz.underlying304
  a51:=Tryz.isAgg304
  z51:=Tryz.sizeOf304
  v51:=Tryz.zeroValue304
  t146:=Tryz.underlying305
  a146:=Tryz.isAgg305
  z146:=Tryz.sizeOf305
  v146:=Tryz.zeroValue305
  g1:=by kernel_rfl}
open Go.RowKit Go.Lib in
theorem Tryz.strings_Contains_one (s:ByteArray)(c:UInt8)(w:World):
    Calls Tryz.prog 183 #[.string s,.string ⟨#[c]⟩] w fun e w'=>e=.returned (.bool (decide (0≤Lib.indexByte s.data.toList c)))∧w'=w:=Any.strings_Contains_one Tryz.Mt s c w
def Tryz.CA:Go.Shelf.Ren:=⟨fun|157=>274|229=>280|199=>281|261=>284|311=>285|312=>286|n=>n,fun|9=>9|31=>49|3=>3|5=>5|4=>4|119=>307|0=>0|40=>235|152=>309|21=>21|154=>311|51=>304|141=>313|196=>317|193=>314|198=>320|49=>318|194=>315|201=>323|226=>325|46=>299|227=>326|n=>n,fun|0=>1|6=>2|n=>n⟩
theorem Tryz.MT:Go.Proofs.Lays.n157 Tryz.prog Tryz.CA:={
  mixed:=by kernel_rfl
  f157:=Tryz.func274.trans (congrArg some (by kernel_rfl))
  f199:=Tryz.func281.trans (congrArg some (by kernel_rfl))
  f229:=Tryz.func280.trans (congrArg some (by kernel_rfl))
  f261:=Tryz.func284.trans (congrArg some (by kernel_rfl))
  f311:=Tryz.func285.trans (congrArg some (by kernel_rfl))
  f312:=Tryz.func286.trans (congrArg some (by kernel_rfl))
  t0:=Tryz.underlying0
  a0:=Tryz.isAgg0
  z0:=Tryz.sizeOf0
  v0:=Tryz.zeroValue0
  t3:=Tryz.underlying3
  a3:=Tryz.isAgg3
  z3:=Tryz.sizeOf3
  v3:=Tryz.zeroValue3
  t4:=Tryz.underlying4
  a4:=Tryz.isAgg4
  z4:=Tryz.sizeOf4
  v4:=Tryz.zeroValue4
  t5:=Tryz.underlying5
  a5:=Tryz.isAgg5
  z5:=Tryz.sizeOf5
  v5:=Tryz.zeroValue5
  t9:=Tryz.underlying9
  a9:=Tryz.isAgg9
  z9:=Tryz.sizeOf9
  v9:=Tryz.zeroValue9
  t21:=Tryz.underlying21
  a21:=Tryz.isAgg21
  z21:=Tryz.sizeOf21
  v21:=Tryz.zeroValue21
  t31:=Tryz.underlying49
  a31:=Tryz.isAgg49
  z31:=Tryz.sizeOf49
  v31:=Tryz.zeroValue49
  t40:=Tryz.underlying235
  a40:=Tryz.isAgg235
  z40:=Tryz.sizeOf235
  v40:=Tryz.zeroValue235
  t46:=Tryz.underlying299
  a46:=Tryz.isAgg299
  z46:=Tryz.sizeOf299
  v46:=Tryz.zeroValue299
  t49:=Tryz.underlying318
  a49:=Tryz.isAgg318
  z49:=Tryz.sizeOf318
  v49:=Tryz.zeroValue318
  t51:=Tryz.underlying304
  a51:=Tryz.isAgg304
  z51:=Tryz.sizeOf304
  v51:=Tryz.zeroValue304
  t119:=Tryz.underlying307
  a119:=Tryz.isAgg307
  z119:=Tryz.sizeOf307
  t141:=Tryz.underlying313
  a141:=Tryz.isAgg313
  z141:=Tryz.sizeOf313
  v141:=Tryz.zeroValue313
  t152:=Tryz.underlying309
  a152:=Tryz.isAgg309
  z152:=Tryz.sizeOf309
  v152:=Tryz.zeroValue309
  t154:=Tryz.underlying311
  a154:=Tryz.isAgg311
  z154:=Tryz.sizeOf311
  v154:=Tryz.zeroValue311
  t193:=Tryz.underlying314
  a193:=Tryz.isAgg314
  z193:=Tryz.sizeOf314
  v193:=Tryz.zeroValue314
  t194:=Tryz.underlying315
  a194:=Tryz.isAgg315
  z194:=Tryz.sizeOf315
  v194:=Tryz.zeroValue315
  t196:=Tryz.underlying317
  a196:=Tryz.isAgg317
  z196:=Tryz.sizeOf317
  v196:=Tryz.zeroValue317
  t198:=Tryz.underlying320
  a198:=Tryz.isAgg320
  z198:=Tryz.sizeOf320
  v198:=Tryz.zeroValue320
  t201:=Tryz.underlying323
  a201:=Tryz.isAgg323
  z201:=Tryz.sizeOf323
  v201:=Tryz.zeroValue323
  t226:=Tryz.underlying325
  a226:=Tryz.isAgg325
  z226:=Tryz.sizeOf325
  v226:=Tryz.zeroValue325
  t227:=Tryz.underlying326
  a227:=Tryz.isAgg326
  z227:=Tryz.sizeOf326
  v227:=Tryz.zeroValue326
  g0:=by kernel_rfl
  g6:=by kernel_rfl}
end Go.Proofs
namespace Go.Proofs.Heir
open Go Go.Am Go.RowKit Go.Lib
set_option maxRecDepth 100000
set_option maxHeartbeats 8000000
def kU (s:ByteArray):AV:=cm s
@[reducible] def qu (l : List ByteArray) : AV := .sl 1 (l.map kU)
@[reducible] def Nh (l : List ByteArray) : MS := .live 1 (l.map kU) false
theorem rB (l:List ByteArray):aN (l.map kU)=true:=by
 rw[bL];intro x hx
 obtain⟨a,_,rfl⟩:=List.mem_map.1 hx
 rfl
theorem mA {l:List ByteArray}{k:Nat}{a:ByteArray}(h:l[k]? =some a):(l.map kU)[k]? =some (cm a):=by rw[List.getElem?_map,h];rfl
theorem Gm (l:List ByteArray):fR [Nh l]:=⟨bw.eD fun r hr=>by obtain⟨a,_,rfl⟩:=List.mem_map.1 hr;rfl,rB l,trivial⟩
theorem JO {m:ML}{fz:Nat→Bool}{ck:List (Nat×Nat)}{n t len:Nat}{ro:Bool}{rows:List AV}{l:List ByteArray}(h1:ej m t=.live 1 rows ro)(h2:fz t=true)(h3:rows=l.map kU)(h4:len=l.length):nq m fz (MF ck fz m n) (qu l) t 0 len:=by
 subst h3;subst h4
 have e:(l.map kU).length=l.length:=List.length_map ..
 exact .cut h1 h2 (by omega) (by rw[List.drop_zero,List.take_of_length_le (by omega)]) (rB l)
theorem Mv (l:List ByteArray)(hl:l.length≤100000)(s:ByteArray):ah Tryz.prog 233 [] [qu l,cm s] [] (aq (gh (fun x=>decide (x=s)) l)):=by
 have hlm:(l.map kU).length=l.length:=List.length_map ..
 refine ah.af (rvs:=[.tmp 4]) G aa Tryz.func233 rfl Tryz.ntmps233 rfl rfl ?_;with_reducible refine wD ?_
 refine aU.use G aa (fun(k:Nat)=>[(0,qu l),(1,cm s),(7,aq l.length),(8,aq k)]) (fun _=>[]) (fun k=>k≤l.length∧∀j x,j<k→l[j]? =some x→decide (x=s)=false) (fun k=>l.length-k) 0 ⟨Nat.zero_le _,fun j x h=>by omega⟩
  ⟨⟨rfl,rfl⟩,⟨rfl,rfl,by show(l.length:Int)=((l.map kU).length:Int);rw[hlm],rfl,trivial⟩,trivial⟩ ?_
 rintro k ⟨hk,hno⟩
 with_reducible refine wK ?_
 refine bq.mk (fun h1=>?_) (fun h1=>?_)<;>(try simp only[aF] at h1)<;>with_reducible refine wK ?_
 ·simp only[decide_eq_true_eq] at h1
  have hk':k<l.length:=by omega
  obtain⟨a,ha⟩:∃a,l[k]? =some a:=⟨_,List.getElem?_eq_getElem hk'⟩
  refine ay.mk k (cm a) rfl (mA ha) ?_;with_reducible refine wK ?_
  refine bq.mk (fun h2=>?_) (fun h2=>?_)<;>(try simp only[aF] at h2)<;>with_reducible refine wK ?_
  ·(refine eK ?_ ?_<;>with_reducible repeat' (first|exact trivial|(show _∧_;refine aK ?_ ?_)))
   refine fD (p:=fun x=>decide (x=s)) ha ?_ hno
   simp only[decide_eq_true_eq] at h2 ⊢;exact h2.symm
  ·refine nK ?_;with_reducible refine wK ?_
   refine aL.mk (k+1) ⟨by omega,fun j x hj hx=>?_⟩ (by omega) ⟨⟨rfl,rfl⟩,⟨rfl,rfl,rfl,by show((k+1:Nat):Int)=(k:Int)+1;omega,trivial⟩,trivial⟩
   rcases Nat.lt_or_ge j k with h3|h3
   ·exact hno j x h3 hx
   ·have:j=k:=by omega
    subst this
    rw[ha] at hx;cases hx
    simp only[decide_eq_false_iff_not] at h2 ⊢;exact fun e=>h2 e.symm
 ·(refine eK ?_ ?_<;>with_reducible repeat' (first|exact trivial|(show _∧_;refine aK ?_ ?_)))
  exact ei fun j x hx=>hno j x (by have:=(List.getElem?_eq_some_iff.1 hx).1;simp only[decide_eq_false_iff_not] at h1;omega) hx
def xE (l:List ByteArray)(s:ByteArray):Bool:=l.any fun x=>decide (x=s)
theorem BP {l:List ByteArray}{s:ByteArray}:xE l s=true↔s∈l:=by
 unfold xE;rw[List.any_eq_true]
 exact⟨fun⟨x,hx,e⟩=>by rw[←of_decide_eq_true e];exact hx,fun h=>⟨s,h,decide_eq_true rfl⟩⟩
theorem Jy {l:List ByteArray}{s:ByteArray}:decide (0≤gh (fun x=>decide (x=s)) l)=xE l s:=by
 rw[Bool.eq_iff_iff,decide_eq_true_eq,BP]
 unfold gh
 cases h:l.findIdx? (fun x=>decide (x=s)) with
 | none=>
   rw[List.findIdx?_eq_none_iff] at h
   simp only
   refine⟨fun h'=>by omega,fun hs=>?_⟩
   have:=h s hs
   simp at this
 | some k=>
   rw[List.findIdx?_eq_some_iff_getElem] at h
   obtain⟨hk,h2,_⟩:=h
   simp only
   exact⟨fun _=>by rw[←of_decide_eq_true h2];exact List.getElem_mem hk,fun _=>by omega⟩
theorem AE (l:List ByteArray)(hl:l.length≤100000)(s:ByteArray):ah Tryz.prog 184 [] [qu l,cm s] [] (aA (xE l s)):=by
 rw[←Jy]
 refine ah.af (rvs:=[.tmp 4]) G aa Tryz.func184 rfl Tryz.ntmps184 rfl rfl ?_;with_reducible refine wD ?_
 refine cL (Mv l hl s) RA ?_;with_reducible refine wK ?_
 (refine eK ?_ ?_<;>with_reducible repeat' (first|exact trivial|(show _∧_;refine aK ?_ ?_)))
def Bg (l:List UInt8):ByteArray:=⟨l.toArray⟩
def ql:List ByteArray:=[Bg [97,110,110,111,116,97,116,105,111,110,45,120,109,108],Bg [99,111,108,111,114,45,112,114,111,102,105,108,101],Bg [102,111,110,116,45,102,97,99,101],Bg [102,111,110,116,45,102,97,99,101,45,115,114,99],
 Bg [102,111,110,116,45,102,97,99,101,45,117,114,105],Bg [102,111,110,116,45,102,97,99,101,45,102,111,114,109,97,116],Bg [102,111,110,116,45,102,97,99,101,45,110,97,109,101],Bg [109,105,115,115,105,110,103,45,103,108,121,112,104]]
theorem Li:ah Tryz.prog 185 [] [] [Nh ql] (.own 0 0 8):=by
 refine ah.af (rvs:=[.tmp 0]) G aa Tryz.func185 rfl Tryz.ntmps185 rfl rfl ?_;with_reducible refine wD ?_
 (refine eK ?_ ?_<;>with_reducible repeat' (first|exact trivial|(show _∧_;refine aK ?_ ?_)))
 all_goals first|rfl|exact aD (rB ql)
theorem L9 (s:ByteArray)(c:UInt8):ah Tryz.prog 183 [] [cm s,cm ⟨#[c]⟩] [] (aA (decide (0≤Lib.indexByte s.data.toList c))):=
 ah.o4 (vs:=[.string s,.string ⟨#[c]⟩]) (v:=.bool _) fun w _=>(Go.Proofs.Tryz.strings_Contains_one s c w).mono fun e w' ⟨h1,h2⟩=>⟨h1,by rw[h2];exact Below.refl _ w⟩

@[reducible] def uL : List UInt8 := [97, 32, 98, 32, 98, 117, 116, 116, 111, 110, 32, 100, 105, 118, 32, 102, 105, 101, 108, 100, 115, 101, 116, 32, 102, 111, 114, 109, 32, 105, 32, 105, 110, 112, 117, 116, 32, 108, 97, 98, 101, 108, 32, 108, 101, 103, 101, 110, 100, 32, 108, 105, 32, 111, 112, 116, 105, 111, 110, 32, 111, 117, 116, 112, 117, 116, 32, 112, 32, 115, 101, 108, 101, 99, 116, 32, 115, 112, 97, 110, 32, 116, 101, 109, 112, 108, 97, 116, 101, 32, 116, 101, 120, 116, 97, 114, 101, 97, 32, 117, 108]
def lH:List ByteArray:=(Lib.fields uL).map Bg
theorem yR:(Lib.fields uL).length=19:=by decide+kernel
theorem Df:∀ (j:Nat) b,(ByteArray.mk uL.toArray).data.toList[j]? =some b→b.toNat<128:=by
 intro j b h
 have h1:uL.all (fun b=>decide (b.toNat<128))=true:=by decide+kernel
 exact of_decide_eq_true (List.all_eq_true.1 h1 b (List.mem_of_getElem? h))
theorem zg (l:List ByteArray):flat (l.map kU)=l.map kU:=by
 induction l with
 |nil=>rfl
 |cons a r ih=>show cells (kU a)++flat (r.map kU)=_;rw[ih];rfl
theorem ah.Lz {P:Program}{f:FuncId}{l:List ByteArray}{s:ByteArray}{b:Bool}(h:ah P f [] [qu l,cm s] [] (aA b)){w:World}{blk cap:Nat}{arr:Array Value}{ty:TypeId}{fz:Nat×Nat}(hh:w.heap[blk]? =some (.cells arr ty fz))
  (harr:∀ (i:Nat) (x:ByteArray),l[i]? =some x→arr[i]? =some (.string x)) (hcap:l.length≤cap) (ht:k7 P w fun _=>none):
  Calls P f #[.slice (some ⟨blk,0,none⟩) l.length cap,.string s] w fun e w'=>e=.returned (.bool b)∧Below w.heap.size w w':=by
 have hW:∀b,¬Wr (fun _=>False) (fun _=>none) (aO []) b:=by
  rintro b (h|⟨t,B,wd,rows,_,h,_⟩)
  ·exact h
  ·cases h
 have hblk:blk<w.heap.size:=(Array.getElem?_eq_some_iff.1 hh).1
 refine(h w (fun _=>False) (fun _=>none) [.slice (some ⟨blk,0,none⟩) l.length cap,.string s] (fun _ _=>rfl) (yD w ht) ⟨rfl,?_⟩).mono ?_
 ·intro j c v h1 h2
  match j with
  | 0 =>
    simp at h1 h2;subst h1;subst h2
    have key:∀ (q:Nat) (c:AV),(flat (l.map kU))[q]? =some c→∃x,l[q]? =some x∧c=cm x:=by
     intro q c hq
     rw[zg,List.getElem?_map] at hq
     cases hx:l[q]? with
     |none=>rw[hx] at hq;cases hq
     |some x=>rw[hx] at hq;exact⟨x,rfl,(Option.some.inj hq).symm⟩
    refine .sl (f:=fun q=>arr.getD q undef) (hW _) hblk (by simp) hcap (fun i r hr=>?_) (fun q c hq=>?_) (fun q c hq=>?_) (fun c hc=>?_)
    ·rw[List.getElem?_map] at hr
     cases hx:l[i]? with
     |none=>rw[hx] at hr;cases hr
     |some x=>rw[hx] at hr;cases hr;rfl
    ·obtain⟨x,hx,rfl⟩:=key q c hq
     have:=harr q x hx
     simp[World.cell?,hh,this,Array.getD_eq_getD_getElem?]
    ·obtain⟨x,hx,rfl⟩:=key q c hq
     have:=harr q x hx
     simp only[Array.getD_eq_getD_getElem?,this,Option.getD_some]
     exact .lit
    ·rw[zg] at hc
     obtain⟨x,_,rfl⟩:=List.mem_map.1 hc
     rfl
  |1=>simp at h1 h2;subst h1;subst h2;exact .lit
  |j+2=>simp at h1
 ·rintro e w' ⟨v',μ',rfl,hs,hv⟩
  cases hv
  exact⟨rfl,hs.os,hs.tape,hs.output,hs.hsize,fun b hb=>hs.keep b hb (by rintro⟨t,B,h,_⟩;cases h)⟩
theorem Da (w:World)(ht:k7 Tryz.prog w fun _=>none):Calls Tryz.prog 261 #[] w fun e w'=>e=.returned (.slice (some ⟨w.heap.size,0,none⟩) 19 19)∧w'=w.alloc (.cells (lH.map Value.string).toArray 9):=by
 have hf:=Any.strings_Fields_core Go.Proofs.Tryz.MT (by kernel_rfl) (ByteArray.mk uL.toArray) w (by decide) Df (fun c hc=>((ht _ (by kernel_rfl)).2.2 c hc))
 have e1:(ByteArray.mk uL.toArray).data.toList=uL:=rfl
 rw[e1,yR,show((Lib.fields uL).map fun l=>Value.string ⟨l.toArray⟩)=lH.map Value.string from by unfold lH;rw[List.map_map];rfl] at hf
 go_enter Tryz.func261,Tryz.ntmps261
 go_wp2_with (go_at_call 274;refine hf.mono ?_;rintro e w1 ⟨rfl,rfl⟩)
 go_ret
 exact⟨rfl,rfl⟩
theorem LP (s:ByteArray):ah Tryz.prog 238 [] [cm s] [] (aA (xE lH s)):=by
 refine ah.o4 (vs:=[.string s]) (v:=.bool (xE lH s)) fun w ht=>?_
 have hl:lH.length=19:=by unfold lH;rw[List.length_map,yR]
 have h29:=Da w ht
 have hb:Below w.heap.size w (w.alloc (.cells (lH.map Value.string).toArray 9)):=(Below.refl _ w).alloc (Nat.le_refl _) _
 have h26:=ah.Lz (AE lH (by omega) s) (w:=w.alloc (.cells (lH.map Value.string).toArray 9)) (blk:=w.heap.size) (cap:=19) (heap_alloc_new w _) (fun i x hx=>by simp[hx]) (by omega) (ht.below hb)
 rw[hl] at h26
 go_enter Tryz.func238,Tryz.ntmps238
 go_wp2_with (first
  |(go_at_call 261;refine h29.mono ?_;rintro e w1 ⟨rfl,rfl⟩)
  |(go_at_call 184;refine h26.mono ?_;rintro e w2 ⟨rfl,hb2⟩))
 go_ret
 exact⟨rfl,hb.trans (hb2.mono hb.size)⟩
@[reducible] def Hv : List UInt8 := [97, 110, 110, 111, 116, 97, 116, 105, 111, 110, 45, 120, 109, 108, 32, 99, 111, 108, 111, 114, 45, 112, 114, 111, 102, 105, 108, 101, 32, 102, 111, 110, 116, 45, 102, 97, 99, 101, 32, 102, 111, 110, 116, 45, 102, 97, 99, 101, 45, 115, 114, 99, 32, 102, 111, 110, 116, 45, 102, 97, 99, 101, 45, 117, 114, 105, 32, 102, 111, 110, 116, 45, 102, 97, 99, 101, 45, 102, 111, 114, 109, 97, 116, 32, 102, 111, 110, 116, 45, 102, 97, 99, 101, 45, 110, 97, 109, 101, 32, 109, 105, 115, 115, 105, 110, 103, 45, 103, 108, 121, 112, 104]
def B5 (l:List UInt8):Bool:=l.any (fun b=>decide (b=45))
def om (l:List UInt8):Bool:=l.any (fun b=>nh (b.toNat:Int))
def CT:List UInt8→Bool
 |[]=>false
 |b::_=>lX (b.toNat:Int)
def cK (s:ByteArray):Bool:=bO s&&(CT s.data.toList&&(!om s.data.toList&&(B5 s.data.toList&& !xE ql s)))
theorem Dn (l:List UInt8):decide (0≤Lib.indexByte l 45)=B5 l:=by
 rw[Bool.eq_iff_iff,decide_eq_true_eq]
 unfold B5
 rw[List.any_eq_true]
 constructor
 ·intro h
  obtain⟨o,ho⟩:∃o:Nat,Lib.indexByte l 45=o:=⟨(Lib.indexByte l 45).toNat,by omega⟩
  obtain⟨h1,_⟩:=Lib.indexByte_some ho
  exact⟨45,List.mem_of_getElem? h1,rfl⟩
 ·rintro⟨b,hb,e⟩
  have:=of_decide_eq_true e;subst this
  rcases Int.lt_or_le (Lib.indexByte l 45) 0 with h|h
  ·have:Lib.indexByte l 45=-1:=by have:=Lib.indexByte_ge l 45;omega
   obtain⟨k,hk⟩:=List.getElem?_of_mem hb
   exact absurd hk (Lib.indexByte_none this k)
  ·exact h
theorem Al (p:Nat→Bool)(s:ByteArray)(hs:∀b∈s.data.toList,b.toNat<128):∀ (f pos:Nat),s.size≤pos+f→(0≤idxFuncFrom p true s f pos↔ ∃i,pos≤i∧∃b,s.data.toList[i]? =some b∧p b.toNat=true)
 | 0,pos,h=>by
   have:¬ (0:Int)≤idxFuncFrom p true s 0 pos:=by simp[idxFuncFrom]
   refine⟨fun h'=>absurd h' this,?_⟩
   rintro⟨i,h1,b,h2,_⟩
   have:=(List.getElem?_eq_some_iff.1 h2).1
   have:i<s.size:=this
   omega
 | f + 1,pos,h=>by
   by_cases hp:pos<s.size
   ·have ih:=Al p s hs f
    obtain⟨b,hb1,hb2⟩:∃b,s.data.toList[pos]? =some b∧s.get! pos=b:=⟨_,List.getElem?_eq_getElem hp,by show s.data[pos]! =_;rw[getElem!_pos s.data pos hp];rfl⟩
    have hb3:=hs b (List.mem_of_getElem? hb1)
    unfold idxFuncFrom
    rw[if_pos hp,decode_at,hb2]
    have hd:∀n b1 b2 b3,decodeN n b.toNat b1 b2 b3=(b.toNat,1):=fun n b1 b2 b3=>by rw[decodeN,if_pos hb3]
    rw[hd]
    show(0:Int)≤ (if p b.toNat=true then(pos:Int) else idxFuncFrom p true s f (pos+1))↔_
    cases hpb:p b.toNat with
    |true=>exact⟨fun _=>⟨pos,Nat.le_refl _,b,hb1,hpb⟩,fun _=>by simp⟩
    | false=>
      rw[if_neg (by simp),ih (pos+1) (by omega)]
      constructor
      ·rintro⟨i,h3,h4⟩;exact⟨i,by omega,h4⟩
      ·rintro⟨i,h3,b',h4,h5⟩
       rcases Nat.lt_or_ge pos i with h6|h6
       ·exact⟨i,h6,b',h4,h5⟩
       ·have:i=pos:=by omega
        subst this
        rw[hb1] at h4;cases h4
        rw[hpb] at h5;cases h5
   ·rw[idxFuncFrom_end _ _ _ _ _ hp]
    refine⟨fun h'=>by omega,?_⟩
    rintro⟨i,h1,b,h2,_⟩
    have:=(List.getElem?_eq_some_iff.1 h2).1
    have:i<s.size:=this
    omega
theorem Cg {s:ByteArray}(h:bO s=true):∀b∈s.data.toList,b.toNat<128:=by
 intro b hb
 unfold bO tM at h
 simp only[Bool.and_eq_true,List.all_eq_true] at h
 have:=h.1.2 b hb
 unfold jS kI lX nh at this
 simp only[Bool.or_eq_true,Bool.and_eq_true,decide_eq_true_eq] at this
 omega
theorem DJ {s:ByteArray}(h:bO s=true):decide (0≤idxFunc (fun r=>nh (r:Int)) true s)=om s.data.toList:=by
 rw[Bool.eq_iff_iff,decide_eq_true_eq]
 unfold om
 rw[List.any_eq_true]
 have:=Al (fun r=>nh (r:Int)) s (Cg h) s.size 0 (by omega)
 refine Iff.trans this ⟨?_,?_⟩
 ·rintro⟨i,_,b,h1,h2⟩;exact⟨b,List.mem_of_getElem? h1,h2⟩
 ·rintro⟨b,h1,h2⟩
  obtain⟨i,hi⟩:=List.getElem?_of_mem h1
  exact⟨i,Nat.zero_le _,b,hi,h2⟩
theorem Lv (s:ByteArray)(h:bO s=true):ah Tryz.prog 181 [] [cm s,.lit (.func (.func 182) #[] #[])] [] (aA (om s.data.toList)):=by
 rw[←DJ h]
 exact ah.o4 (vs:=[.string s,.func (.func 182) #[] #[]]) fun w ht=>w9 182 NF (fun r=>nh (r:Int)) s w ht fun W x ht _=>(rS (x:Int)).below (vs:=[.int .i32 (x:Int)]) W ht
theorem Cn {s:ByteArray}(h:bO s=true):∃b r,s.data.toList=b::r:=by
 unfold bO tM at h
 simp only[Bool.and_eq_true,decide_eq_true_eq] at h
 obtain⟨b,r,e,_⟩:=yP h.1.1.1
 exact⟨b,r,e⟩
theorem vB (s:ByteArray):ah Tryz.prog 109 [] [cm s] [] (aA (cK s)):=by
 refine ah.af (rvs:=[.tmp 2]) G aa Tryz.func109 rfl Tryz.ntmps109 rfl rfl ?_;with_reducible refine wD ?_
 refine cL (Ft s) PY ?_;with_reducible refine wK ?_
 unfold cK
 cases hr:bO s with
 | false=>
   repeat' (first
  |refine aE ?_ ?_
  |((with_reducible show bq _ _ _ _);first|refine iK ?_|(refine bq.mk (fun _=>?_) (fun _=>?_)<;>with_reducible refine wK ?_))
  | apply trivial)
   all_goals rfl
 | true=>
   obtain⟨b,r,hb⟩:=Cn hr
   have hb0:s.data.toList[0]? =some b:=by rw[hb];rfl
   have hlf:CT s.data.toList=lX (b.toNat:Int):=by rw[hb];rfl
   have hda:=Dn s.data.toList
   have f25:=L9 s 45
   rw[hda] at f25
   refine bq.tt ?_;with_reducible refine wK ?_
   refine yQ.mk 0 b rfl hb0 ?_;with_reducible refine wK ?_
   refine dA.int (by kernel_rfl) (by kernel_rfl) (J5 _) ?_;with_reducible refine wK ?_
   refine cL (AH _) NP ?_;with_reducible refine wK ?_
   repeat' (first
  |refine aE ?_ ?_
  |((with_reducible show bq _ _ _ _);first|refine iK ?_|(refine bq.mk (fun _=>?_) (fun _=>?_)<;>with_reducible refine wK ?_))
  |((with_reducible refine kQ 181 ?_);refine cL (Lv s hr) PB ?_;with_reducible refine wK ?_)
  |((with_reducible refine kQ 183 ?_);refine cL f25 RL ?_;with_reducible refine wK ?_)
  |((with_reducible refine kQ 185 ?_);refine aj.new 211 [] Li Q1 trivial rfl rfl rfl (Gm ql) rfl ?_;with_reducible refine wK ?_)
  |((with_reducible refine kQ 184 ?_);refine aj.lit [211] (AE ql (by decide) s) PK ⟨JO rfl rfl rfl rfl,rfl,trivial⟩ rfl rfl ?_;with_reducible refine wK ?_)
  | apply trivial)
   all_goals (rw[hlf];clear hb hb0 hda f25 hlf;rw[show s.data.toList=s.1.1 from rfl];simp_all)
theorem Mb (l:List UInt8):lZ l=l↔om l=false:=by
 unfold om
 induction l with
 |nil=>simp[lZ]
 | cons c r ih=>
   have hc:mw c=c↔nh (c.toNat:Int)=false:=by
    unfold mw
    cases h:nh (c.toNat:Int) with
    |false=>simp
    | true=>
      simp only[if_true,Bool.true_eq_false,iff_false]
      intro e
      have:(c+32).toNat=c.toNat:=by rw[e]
      rw[UInt8.toNat_add] at this
      have h3:=UInt8.toNat_lt c
      have:(32:UInt8).toNat=32:=rfl
      omega
   simp only[lZ,List.map_cons,List.cons.injEq,List.any_cons,Bool.or_eq_false_iff]
   rw[hc]
   exact and_congr_right fun _=>ih
theorem LD (s:ByteArray):ek s=s↔om s.data.toList=false:=by
 rw[←Mb]
 constructor
 ·intro h
  have:(ek s).data.toList=s.data.toList:=by rw[h]
  exact this
 ·intro h
  unfold ek
  rw[h]
theorem xo (p:UInt8→Bool)(h:(List.range 256).all (fun n=>p (UInt8.ofNat n))=true)(c:UInt8):p c=true:=by
 have:=List.all_eq_true.1 h c.toNat (List.mem_range.2 (UInt8.toNat_lt c))
 simpa using this
theorem Jj (c:UInt8):mw (mw c)=mw c:=by
 have:=xo (fun c=>decide (mw (mw c)=mw c)) (by decide+kernel) c
 simpa using this
theorem F1 (c:UInt8):jS (mw c)=jS c:=by
 have:=xo (fun c=>decide (jS (mw c)=jS c)) (by decide+kernel) c
 simpa using this
theorem Ka (s:ByteArray):ek (ek s)=ek s:=by
 unfold ek lZ
 simp only[List.map_map]
 congr 2
 apply List.map_congr_left
 intro c _
 exact Jj c
theorem Db (l:List UInt8):ux (lZ l)=ux l:=by
 cases l with
 |nil=>rfl
 | cons c r=>
   have:=xo (fun c=>decide (ux [mw c]=ux [c])) (by decide+kernel) c
   exact of_decide_eq_true this
theorem DP (s:ByteArray):bO (ek s)=bO s:=by
 unfold bO tM
 have h1:(ek s).data.toList=lZ s.data.toList:=rfl
 rw[h1,Db]
 have h2:(lZ s.data.toList).length=s.data.toList.length:=by unfold lZ;simp
 have h3:(lZ s.data.toList).all jS=s.data.toList.all jS:=by
  unfold lZ
  rw[List.all_map]
  congr 1
  funext c
  exact F1 c
 rw[h2,h3]
theorem tS (s:ByteArray):(ek s).size=s.size:=by
 rw[s5,s5]
 show(lZ s.data.toList).length=_
 exact IM _
theorem w8 {s:ByteArray}(h:xE lH s=true):bO s=true∧B5 s.data.toList=false∧om s.data.toList=false:=by
 have hs:=BP.1 h
 have key:lH.all (fun x=>bO x&&(!B5 x.data.toList&& !om x.data.toList))=true:=by decide+kernel
 have:=List.all_eq_true.1 key s hs
 simp only[Bool.and_eq_true,Bool.not_eq_true'] at this
 exact this
theorem yu {s:ByteArray}(h:xE lH s=true):cK s=false:=by
 unfold cK;rw[(w8 h).2.1];simp
def bF (n:Int):AV:=aq n
def oD (n:Int):Value:=.int .i64 n
@[reducible] def bY (l : List Int) : AV := .sl 1 (l.map bF)
theorem fZ {l:List Int}{k:Nat}{x:Int}(h:l[k]? =some x):(l.map bF)[k]? =some (aq x):=by rw[List.getElem?_map,h];rfl
structure au where
 kind:Int
 name:ByteArray
 is:ByteArray
 data:ByteArray
 attrs:List AttrM
 parent:Int
 kids:List Int
 host:Int
 under:Int
 doc:Int
structure ForM where
 nodes:List au
 most:Int
def Nw:au:=⟨0,⟨#[]⟩,⟨#[]⟩,⟨#[]⟩,[],0,[],0,0,0⟩
def nd (l:List au)(n:Int):au:=(l[n.toNat]?).getD Nw
def ak (l:List au)(n:Int):Bool:=decide (0≤n)&&decide (n< (l.length:Int))
def uo (l:List au)(n k:Int):Bool:=ak l n&&decide ((nd l n).kind=k)
def o8 (k:Int):Bool:=decide (k=0)||decide (k=1)||decide (k=3)||decide (k=4)
def yh (l:List Int)(n:Int):Bool:=decide (n∈l)
def iV (x:au):Int:=if x.parent=-1 then x.host else x.parent
def uj (l:List au)(n:Int)(x:au):Bool:=uo l x.doc 0&&(decide (x.kind≠0)||decide (x.doc=n))
def qx (l:List au)(n:Int)(x:au):Bool:=decide (x.parent=-1)||((decide (x.kind=1)||decide (x.kind=2))&&ak l x.parent&&o8 (nd l x.parent).kind&&yh (nd l x.parent).kids n)
def rW (l:List au)(n:Int)(x:au)(pre:List Int)(c:Int):Bool:=
 ak l c&& !yh pre c&&decide ((nd l c).parent=n)&&decide ((nd l c).doc=x.doc)&&(decide ((nd l c).kind=1)||(decide ((nd l c).kind=2)&&decide (x.kind≠0)))
def jk (l:List au)(n:Int)(x:au):List Int→List Int→Bool
 |_,[]=>true
 |pre,c::r=>rW l n x pre c&&jk l n x (pre++ [c]) r
def iQ (l:List au)(cs:List Int):Nat:=cs.countP (fun c=>decide ((nd l c).kind=1))
def oN (l:List au)(n:Int)(x:au):Bool:=
 jk l n x [] x.kids&&((o8 x.kind||decide (x.kids=[]))&&(decide (x.kind≠0)||decide (iQ l x.kids≤1)))
def jx (l:List au)(n:Int)(x:au):Bool:=
 (if x.kind=4 then uo l x.host 1&&decide ((nd l x.host).under=n)&&decide ((nd l x.host).doc=x.doc) else decide (x.host=-1))&&
 (decide (x.under=-1)||(decide (x.kind=1)&&uo l x.under 4&&decide ((nd l x.under).host=n)))
def hG (l:List au):Nat→Int→Bool
 |0,_=>false
 |m+1,n=>if iV (nd l n)=-1 then true else hG l m (iV (nd l n))
def kF (x:au):Bool:=
 if x.kind=1 then bO x.name&&decide (ek x.name=x.name)&&(decide (x.is=⟨#[]⟩)||cK x.is)&&decide (x.data=⟨#[]⟩)&&kW x.attrs
 else if x.kind=2 then decide (x.data.size≤200)&&decide (x.name=⟨#[]⟩)&&decide (x.is=⟨#[]⟩)&&decide (x.attrs=[])
 else if x.kind=0∨x.kind=3∨x.kind=4 then decide (x.name=⟨#[]⟩)&&decide (x.is=⟨#[]⟩)&&decide (x.data=⟨#[]⟩)&&decide (x.attrs=[])
 else false
def cQ (l:List au)(n:Int)(x:au):Bool:=kF x&&(uj l n x&&(qx l n x&&(oN l n x&&jx l n x)))
def wV (f:ForM):Bool:=decide (1≤f.most)&&decide (f.most≤400)&&decide (1≤f.nodes.length)&&decide ((f.nodes.length:Int)≤f.most)&&decide ((nd f.nodes 0).kind=0)
def s8 {α:Type}(p:Nat→α→Bool):Nat→List α→Bool
 |_,[]=>true
 |i,x::r=>p i x&&s8 p (i+1) r
def aV (f:ForM):Bool:=wV f&&(s8 (fun k x=>cQ f.nodes k x) 0 f.nodes&&s8 (fun k _=>hG f.nodes f.nodes.length k) 0 f.nodes)
def pq (f:ForM):Bool:=decide (f.nodes.length≤60)&&f.nodes.all (fun x=>decide (x.kids.length≤60)&&decide (x.attrs.length≤60)&&decide (x.name.size≤300))
structure bS (l:List au):Prop where
 len:l.length≤64
 kids:∀x∈l,x.kids.length≤60
 attrs:∀x∈l,x.attrs.length≤60
 name:∀x∈l,x.name.size≤300
theorem r7 {f:ForM}(h:pq f=true):bS f.nodes:=by
 unfold pq at h
 simp only[Bool.and_eq_true,decide_eq_true_eq,List.all_eq_true] at h
 obtain⟨h1,h2⟩:=h
 exact⟨by omega,fun x hx=>(h2 x hx).1.1,fun x hx=>(h2 x hx).1.2,fun x hx=>(h2 x hx).2⟩
theorem cZ {l:List au}{k:Nat}{x:au}(h:l[k]? =some x):nd l (k:Int)=x:=by unfold nd;rw[Int.toNat_natCast,h];rfl
theorem dj {l:List au}{k:Nat}{x:au}(h:l[k]? =some x):ak l (k:Int)=true:=by
 unfold ak
 have:=(List.getElem?_eq_some_iff.1 h).1
 simp;omega
theorem bC {l:List au}{n:Int}:ak l n=true↔ ∃ (k:Nat) (x:au),n=(k:Int)∧l[k]? =some x∧nd l n=x:=by
 constructor
 ·intro h
  unfold ak at h
  simp only[Bool.and_eq_true,decide_eq_true_eq] at h
  have hk:n.toNat<l.length:=by omega
  have hn:n=(n.toNat:Int):=by omega
  refine⟨n.toNat,l[n.toNat],hn,List.getElem?_eq_getElem hk,?_⟩
  unfold nd;rw[List.getElem?_eq_getElem hk];rfl
 ·rintro⟨k,x,rfl,h,_⟩
  exact dj h
theorem iz {α:Type}{p:Nat→α→Bool}:∀ {i:Nat} {l:List α},s8 p i l=true↔ ∀k x,l[k]? =some x→p (i+k) x=true
 |i,[]=>by simp[s8]
 | i,a::r=>by
   simp only[s8,Bool.and_eq_true,iz (i:=i+1) (l:=r)]
   constructor
   ·rintro⟨h1,h2⟩ k x hx
    cases k with
    |zero=>simp at hx;subst hx;exact h1
    |succ k=>have:=h2 k x (by simpa using hx);rw[show i+ (k+1)=i+1+k from by omega];exact this
   ·intro h
    refine⟨h 0 a rfl,fun k x hx=>?_⟩
    have:=h (k+1) x (by simpa using hx)
    rw[show i+1+k=i+ (k+1) from by omega];exact this
@[reducible] def aS (x : au) : AV := .agg [aq x.kind, cm x.name, cm x.is, cm x.data, eU x.attrs, aq x.parent, bY x.kids, aq x.host, aq x.under, aq x.doc]
def bZ (x:au):AV:=aS x
@[reducible] def fk (l : List au) : AV := .sl 10 (l.map bZ)
@[reducible] def cJ (f : ForM) : AV := .agg [fk f.nodes, aq f.most]
theorem aG {l:List au}{k:Nat}{x:au}(h:l[k]? =some x):(l.map bZ)[k]? =some (aS x):=by rw[List.getElem?_map,h];rfl
end Go.Proofs.Heir
section
namespace Go.Proofs.Heir
open Go Go.Am Go.RowKit Go.Lib
set_option maxRecDepth 100000
set_option maxHeartbeats 8000000
def js (l:List au):Nat→Int→Bool
 |0,_=>false
 |m+1,n=>if(nd l n).parent=-1 then true else js l m (nd l n).parent
def AB (l:List au):Nat→Int→List Int
 |0,_=>[]
 |m+1,n=>n::if(nd l n).parent=-1 then[] else AB l m (nd l n).parent
def dJ (l:List au):Nat→Int→List Int
 |0,_=>[]
 |m+1,n=>n::(nd l n).kids.flatMap (dJ l m)
def cO (l:List au)(n:Int):List Int:=AB l l.length n
theorem jB {l:List au}:∀ {m:Nat} {n:Int},hG l m n=true→js l m n=true
 |0,n,h=>by simp[hG] at h
 | m +1,n,h=>by
   unfold js
   by_cases hp:(nd l n).parent=-1
   ·rw[if_pos hp]
   ·rw[if_neg hp]
    have hu:iV (nd l n)=(nd l n).parent:=if_neg hp
    unfold hG at h
    rw[hu,if_neg hp] at h
    exact jB h
theorem w4 (l:List au):∀ (m:Nat) (n:Int),(AB l m n).length≤m
 |0,_=>Nat.le_refl _
 | m +1,n=>by
   unfold AB
   split
   ·simp
   ·have:=w4 l m (nd l n).parent
    simp;omega
theorem rO {l:List au}:∀ {m k:Nat} {n:Int},js l m n=true→m≤k→AB l k n=AB l m n
 |0,k,n,h,_=>by simp[js] at h
 | m +1,k,n,h,hk=>by
   obtain⟨k,rfl⟩:∃j,k=j+1:=⟨k-1,by omega⟩
   unfold js at h
   unfold AB
   by_cases hp:(nd l n).parent=-1
   ·rw[if_pos hp,if_pos hp]
   ·rw[if_neg hp] at h
    rw[if_neg hp,if_neg hp,rO h (by omega)]
structure Tree (l:List au):Prop where
 par:∀n,ak l n=true→(nd l n).parent≠-1→ak l (nd l n).parent=true∧n∈ (nd l (nd l n).parent).kids
 kid:∀n,ak l n=true→∀k∈ (nd l n).kids,ak l k=true∧(nd l k).parent=n
 dup:∀n,ak l n=true→(nd l n).kids.Nodup
 fin:∀n,ak l n=true→js l l.length n=true
 nam:∀n,ak l n=true→kF (nd l n)=true
theorem eF {l:List au}{n:Int}(h:ak l n=true):0≤n∧n< (l.length:Int):=by
 unfold ak at h;simpa using h
variable {l : List au}
theorem mc (T:Tree l){P:Int→Prop}(h0:∀n,ak l n=true→(nd l n).parent=-1→P n)(h1:∀n,ak l n=true→(nd l n).parent≠-1→ak l (nd l n).parent=true→P (nd l n).parent→P n):∀n,ak l n=true→P n:=by
 have H:∀ (m:Nat) (n:Int),ak l n=true→js l m n=true→P n:=by
  intro m
  induction m with
  |zero=>intro n _ h;simp[js] at h
  | succ m ih=>
    intro n hn h
    unfold js at h
    by_cases hp:(nd l n).parent=-1
    ·exact h0 n hn hp
    ·rw[if_neg hp] at h
     have hq:=(T.par n hn hp).1
     exact h1 n hn hp hq (ih _ hq h)
 exact fun n hn=>H _ n hn (T.fin n hn)
theorem ig (T:Tree l){n:Int}(hn:ak l n=true)(hp:(nd l n).parent=-1):cO l n=[n]:=by
 have:=eF hn
 obtain⟨m,hm⟩:∃m,l.length=m+1:=⟨l.length-1,by omega⟩
 unfold cO;rw[hm];unfold AB;rw[if_pos hp]
theorem cH (T:Tree l){n:Int}(hn:ak l n=true)(hp:(nd l n).parent≠-1):cO l n=n::cO l (nd l n).parent:=by
 have:=eF hn
 obtain⟨m,hm⟩:∃m,l.length=m+1:=⟨l.length-1,by omega⟩
 have hf:=T.fin n hn
 unfold cO;rw[hm] at hf ⊢
 unfold js at hf
 rw[if_neg hp] at hf
 rw[AB,if_neg hp,rO hf (Nat.le_succ m)]
theorem gM (T:Tree l){n k:Int}(hn:ak l n=true)(hk:k∈ (nd l n).kids):cO l k=k::cO l n:=by
 have h:=T.kid n hn k hk
 have h0:=eF hn
 have hp:(nd l k).parent≠-1:=by rw[h.2];omega
 rw[cH T h.1 hp,h.2]
theorem fF (T:Tree l){n:Int}(hn:ak l n=true):∃r,cO l n=n::r:=by
 by_cases hp:(nd l n).parent=-1
 ·exact⟨[],ig T hn hp⟩
 ·exact⟨_,cH T hn hp⟩
theorem jA (T:Tree l){n:Int}(hn:ak l n=true):n∈cO l n:=by
 obtain⟨r,hr⟩:=fF T hn;rw[hr];exact List.mem_cons_self
theorem A1 (n:Int):(cO l n).length≤l.length:=w4 l _ n
theorem kA (T:Tree l):∀n,ak l n=true→∀a∈cO l n,ak l a=true:=by
 refine mc T (fun n hn hp a ha=>?_) (fun n hn hp hq ih a ha=>?_)
 ·rw[ig T hn hp] at ha;rw[List.mem_singleton.1 ha];exact hn
 ·rw[cH T hn hp] at ha
  rcases List.mem_cons.1 ha with rfl|h
  ·exact hn
  ·exact ih a h
theorem jv (T:Tree l):∀n,ak l n=true→∀a∈cO l n,∃t,cO l n=t++cO l a:=by
 refine mc T (fun n hn hp a ha=>?_) (fun n hn hp hq ih a ha=>?_)
 ·have h:=ha;rw[ig T hn hp] at h;rw[List.mem_singleton.1 h];exact⟨[],rfl⟩
 ·have h:=ha
  rw[cH T hn hp] at h
  rcases List.mem_cons.1 h with rfl|h
  ·exact⟨[],rfl⟩
  ·obtain⟨t,ht⟩:=ih a h
   exact⟨n::t,by rw[cH T hn hp,ht];rfl⟩
theorem ur (T:Tree l){a b c:Int}(hc:ak l c=true)(h1:a∈cO l b)(h2:b∈cO l c):a∈cO l c:=by
 obtain⟨t,ht⟩:=jv T c hc b h2
 rw[ht];exact List.mem_append_right _ h1
theorem Dh (T:Tree l){n a b:Int}(hn:ak l n=true)(ha:a∈cO l n)(hb:b∈cO l n)(he:(cO l a).length=(cO l b).length):a=b:=by
 obtain⟨t,ht⟩:=jv T n hn a ha
 obtain⟨s,hs⟩:=jv T n hn b hb
 rw[ht] at hs
 have h:=(List.append_inj' hs he).2
 obtain⟨r,hr⟩:=fF T (kA T n hn a ha)
 obtain⟨q,hq⟩:=fF T (kA T n hn b hb)
 rw[hr,hq] at h
 exact(List.cons.inj h).1
theorem ia (T:Tree l):∀ (m:Nat) (n:Int),ak l n=true→∀b∈dJ l m n,ak l b=true∧n∈cO l b
 |0,n,_,b,hb=>by simp[dJ] at hb
 | m +1,n,hn,b,hb=>by
   unfold dJ at hb
   rcases List.mem_cons.1 hb with rfl|h
   ·exact⟨hn,jA T hn⟩
   ·obtain⟨k,hk,hbk⟩:=List.mem_flatMap.1 h
    have hkk:=T.kid n hn k hk
    obtain⟨h1,h2⟩:=ia T m k hkk.1 b hbk
    refine⟨h1,ur T h1 ?_ h2⟩
    rw[gM T hn hk]
    exact List.mem_cons_of_mem _ (jA T hn)
theorem mh (T:Tree l):∀ (m:Nat) (n:Int),ak l n=true→(dJ l m n).Nodup
 |0,_,_=>List.nodup_nil
 | m +1,n,hn=>by
   unfold dJ
   refine List.nodup_cons.2 ⟨fun h=>?_,?_⟩
   ·obtain⟨k,hk,hnk⟩:=List.mem_flatMap.1 h
    have hkk:=T.kid n hn k hk
    have h1:=(ia T m k hkk.1 n hnk).2
    obtain⟨t,ht⟩:=jv T n hn k h1
    have h2:=congrArg List.length ht
    rw[gM T hn hk] at h2
    simp at h2
    omega
   ·refine List.pairwise_flatMap.2 ⟨fun k hk=>mh T m k (T.kid n hn k hk).1,?_⟩
    refine List.Pairwise.imp_of_mem (fun{a b} ha hb hab x hx y hy e=>?_) (T.dup n hn)
    subst e
    have h1:=ia T m a (T.kid n hn a ha).1 x hx
    have h2:=ia T m b (T.kid n hn b hb).1 x hy
    refine hab (Dh T h1.1 h1.2 h2.2 ?_)
    rw[gM T hn ha,gM T hn hb];rfl
theorem yG:∀ (s t:List Int),t.Nodup→(∀x∈t,x∈s)→t.length≤s.length
 | [],t,_,h=>by
   cases t with
   |nil=>exact Nat.le_refl _
   |cons a r=>exact absurd (h a List.mem_cons_self) (by simp)
 | a::s,t,hd,h=>by
   have h1:=yG s (t.erase a) (hd.erase a) (fun x hx=>by
   have h2:=(hd.mem_erase_iff).1 hx
   rcases List.mem_cons.1 (h x h2.2) with e|e
   ·exact absurd e h2.1
   ·exact e)
   have h3:t.length≤ (t.erase a).length+1:=by rw[List.length_erase];split<;>omega
   simp;omega
theorem CY {t:List Int}{n:Nat}(hd:t.Nodup)(h:∀x∈t,0≤x∧x< (n:Int)):t.length≤n:=by
 have:=yG ((List.range n).map (fun k:Nat=>(k:Int))) t hd (fun x hx=>by
  have:=h x hx
  exact List.mem_map.2 ⟨x.toNat,List.mem_range.2 (by omega),by omega⟩)
 simpa using this
theorem Bj (T:Tree l)(m:Nat){n:Int}(hn:ak l n=true):(dJ l m n).length≤l.length:=
 CY (mh T m n hn) fun x hx=>eF (ia T m n hn x hx).1
def Gj (l:List au)(n:Int)(x:au)(c:Int):Bool:=
 ak l c&&(decide ((nd l c).parent=n)&&(decide ((nd l c).doc=x.doc)&&(decide ((nd l c).kind=1)||(decide ((nd l c).kind=2)&&decide (x.kind≠0)))))
theorem ri {n:Int}{x:au}:∀ {cs pre:List Int},jk l n x pre cs=true↔ (∀c∈cs,Gj l n x c=true)∧cs.Nodup∧(∀c∈cs,c∉pre)
 |[],pre=>by simp[jk]
 | a ::r,pre=>by
   have hk:rW l n x pre a=true↔Gj l n x a=true∧a∉pre:=by
    unfold rW Gj yh
    simp only[Bool.and_eq_true,Bool.or_eq_true,decide_eq_true_eq,Bool.not_eq_true',decide_eq_false_iff_not]
    constructor
    ·rintro⟨⟨⟨⟨h1,h2⟩,h3⟩,h4⟩,h5⟩;exact⟨⟨h1,h3,h4,h5⟩,h2⟩
    ·rintro⟨⟨h1,h3,h4,h5⟩,h2⟩;exact⟨⟨⟨⟨h1,h2⟩,h3⟩,h4⟩,h5⟩
   unfold jk
   rw[Bool.and_eq_true,hk,ri,List.nodup_cons]
   constructor
   ·rintro⟨⟨h1,h2⟩,h3,h4,h5⟩
    refine⟨fun c hc=>?_,⟨fun h=>?_,h4⟩,fun c hc=>?_⟩
    ·rcases List.mem_cons.1 hc with rfl|h
     ·exact h1
     ·exact h3 c h
    ·exact h5 a h (by simp)
    ·rcases List.mem_cons.1 hc with rfl|h
     ·exact h2
     ·exact fun h6=>h5 c h (List.mem_append_left _ h6)
   ·rintro⟨h1,⟨h2,h3⟩,h4⟩
    refine⟨⟨h1 a List.mem_cons_self,h4 a List.mem_cons_self⟩,fun c hc=>h1 c (List.mem_cons_of_mem _ hc),h3,fun c hc h=>?_⟩
    rcases List.mem_append.1 h with h|h
    ·exact h4 c (List.mem_cons_of_mem _ hc) h
    ·rw[List.mem_singleton] at h;subst h;exact h2 hc
theorem uS {f:ForM}(h:aV f=true):∀n,ak f.nodes n=true→cQ f.nodes n (nd f.nodes n)=true:=by
 intro n hn
 obtain⟨k,x,rfl,hk,hx⟩:=bC.1 hn
 unfold aV at h
 simp only[Bool.and_eq_true] at h
 have:=iz.1 h.2.1 k x hk
 rw[hx];simpa using this
theorem vM {f:ForM}(h:aV f=true):∀n,ak f.nodes n=true→hG f.nodes f.nodes.length n=true:=by
 intro n hn
 obtain⟨k,x,rfl,hk,hx⟩:=bC.1 hn
 unfold aV at h
 simp only[Bool.and_eq_true] at h
 simpa using iz.1 h.2.2 k x hk
theorem jt {f:ForM}(h:aV f=true):Tree f.nodes:=by
 have hN:=uS h
 have hB:∀n,ak f.nodes n=true→(∀c∈ (nd f.nodes n).kids,Gj f.nodes n (nd f.nodes n) c=true)∧(nd f.nodes n).kids.Nodup:=by
  intro n hn
  have h1:=hN n hn
  unfold cQ oN at h1
  simp only[Bool.and_eq_true] at h1
  have:=ri.1 h1.2.2.2.1.1
  exact⟨this.1,this.2.1⟩
 refine⟨fun n hn hp=>?_,fun n hn k hk=>?_,fun n hn=>(hB n hn).2,fun n hn=>jB (vM h n hn),fun n hn=>?_⟩
 ·have h1:=hN n hn
  unfold cQ qx at h1
  simp only[Bool.and_eq_true,Bool.or_eq_true,decide_eq_true_eq] at h1
  rcases h1.2.2.1 with h2|h2
  ·exact absurd h2 hp
  ·refine⟨h2.1.1.2,?_⟩
   have:=h2.2
   unfold yh at this;simpa using this
 ·have h1:=(hB n hn).1 k hk
  unfold Gj at h1
  simp only[Bool.and_eq_true,decide_eq_true_eq] at h1
  exact⟨h1.1,h1.2.1⟩
 ·have h1:=hN n hn
  unfold cQ at h1
  simp only[Bool.and_eq_true] at h1
  exact h1.1
end Go.Proofs.Heir
end
section
namespace Go.Proofs.Heir
open Go Go.Am Go.RowKit Go.Lib
set_option maxRecDepth 100000
set_option maxHeartbeats 8000000
@[reducible] def Pp : ByteArray := ⟨⟨[100, 105, 115, 97, 98, 108, 101, 100]⟩⟩
@[reducible] def Rq : ByteArray := ⟨⟨[108, 101, 103, 101, 110, 100]⟩⟩
@[reducible] def PL : ByteArray := ⟨⟨[102, 105, 101, 108, 100, 115, 101, 116]⟩⟩
def qJ (x:au):Bool:=decide (x.kind=1)&&decide (0≤jW x.attrs Pp)
def Cd (l:List au)(k:Int):Bool:=decide ((nd l k).kind=1)&&decide ((nd l k).name=Rq)
def Nc (p:Int→Bool)(cs:List Int):Int:=if 0≤gh p cs then(cs[(gh p cs).toNat]?).getD (-1) else-1
def Dl (l:List au)(n:Int):Int:=Nc (Cd l) (nd l n).kids
def Kl (l:List au)(p b:Int):Bool:=decide ((nd l p).name=PL)&&(qJ (nd l p)&&decide (Dl l p≠b))
def qy (l:List au):Nat→Int→Bool
 |0,_=>false
 |m+1,b=>if(nd l b).parent=-1 then false else(Kl l (nd l b).parent b||qy l m (nd l b).parent)
def sB (l:List au)(n:Int):Bool:=qJ (nd l n)||(decide ((nd l n).kind=1)&&qy l l.length n)
variable {l : List au}
theorem Ki {x:au}(h:qJ x=true):x.kind=1:=by
 unfold qJ at h;simp only[Bool.and_eq_true,decide_eq_true_eq] at h;exact h.1
end Go.Proofs.Heir
end
section
namespace Go.Proofs.Heir
open Go Go.Am Go.RowKit Go.Lib
set_option maxRecDepth 100000
set_option maxHeartbeats 8000000
theorem Hh {cs:List Int}(h:cs.Nodup)(c:Int):cs.count c≤1:=by
 induction cs with
 |nil=>simp
 | cons a r ih=>
   rw[List.nodup_cons] at h
   rw[List.count_cons]
   by_cases e:a=c
   ·subst e
    rw[List.count_eq_zero.2 h.1];simp
   ·simp[e];exact ih h.2
theorem count_one {cs:List Int}(h:cs.Nodup){c:Int}(hc:c∈cs):cs.count c=1:=by
 have h1:=Hh h c
 have h2:=List.count_pos_iff.2 hc
 omega
variable {l : List au}
theorem MR (h:∀n,ak l n=true→cQ l n (nd l n)=true):∀n,ak l n=true→iV (nd l n)=-1∨ak l (iV (nd l n))=true:=by
 intro n hn
 have h0:=h n hn
 unfold cQ at h0
 simp only[Bool.and_eq_true] at h0
 obtain⟨_,_,hH,_,hS⟩:=h0
 unfold iV
 unfold qx at hH
 simp only[Bool.and_eq_true,Bool.or_eq_true,decide_eq_true_eq] at hH
 by_cases e:(nd l n).parent=-1
 ·rw[if_pos e]
  unfold jx at hS
  rw[Bool.and_eq_true] at hS
  by_cases e4:(nd l n).kind=4
  ·rw[if_pos e4] at hS
   unfold uo at hS
   simp only[Bool.and_eq_true] at hS
   exact .inr hS.1.1.1.1
  ·rw[if_neg e4] at hS
   exact .inl (by simpa using hS.1)
 ·rw[if_neg e]
  rcases hH with h|h
  ·exact absurd h e
  ·exact .inr h.1.1.2
end Go.Proofs.Heir
end
namespace Go.Proofs.Heir
open Go Go.Am Go.RowKit Go.Lib
set_option maxRecDepth 100000
set_option maxHeartbeats 8000000
def Kf (x:au):List Int:=(if x.under=-1 then[] else[x.under])++x.kids
namespace U
def js (l:List au):Nat→Int→Bool
 |0,_=>false
 |m+1,n=>if(iV (nd l n))=-1 then true else js l m (iV (nd l n))
def AB (l:List au):Nat→Int→List Int
 |0,_=>[]
 |m+1,n=>n::if(iV (nd l n))=-1 then[] else AB l m (iV (nd l n))
def dJ (l:List au):Nat→Int→List Int
 |0,_=>[]
 |m+1,n=>n::(Kf (nd l n)).flatMap (dJ l m)
def cO (l:List au)(n:Int):List Int:=AB l l.length n
theorem jB {l:List au}:∀ {m:Nat} {n:Int},hG l m n=true→js l m n=true
 |0,n,h=>by simp[hG] at h
 | m+1,n,h=>by
   unfold js;unfold hG at h
   by_cases hp:iV (nd l n)=-1
   ·rw[if_pos hp]
   ·rw[if_neg hp] at h ⊢;exact jB h
theorem w4 (l:List au):∀ (m:Nat) (n:Int),(AB l m n).length≤m
 |0,_=>Nat.le_refl _
 | m +1,n=>by
   unfold AB
   split
   ·simp
   ·have:=w4 l m (iV (nd l n))
    simp;omega
theorem rO {l:List au}:∀ {m k:Nat} {n:Int},js l m n=true→m≤k→AB l k n=AB l m n
 |0,k,n,h,_=>by simp[js] at h
 | m +1,k,n,h,hk=>by
   obtain⟨k,rfl⟩:∃j,k=j+1:=⟨k-1,by omega⟩
   unfold js at h
   unfold AB
   by_cases hp:(iV (nd l n))=-1
   ·rw[if_pos hp,if_pos hp]
   ·rw[if_neg hp] at h
    rw[if_neg hp,if_neg hp,rO h (by omega)]
structure Tree (l:List au):Prop where
 par:∀n,ak l n=true→(iV (nd l n))≠-1→ak l (iV (nd l n))=true∧n∈ (Kf (nd l (iV (nd l n))))
 kid:∀n,ak l n=true→∀k∈ (Kf (nd l n)),ak l k=true∧(iV (nd l k))=n
 dup:∀n,ak l n=true→(Kf (nd l n)).Nodup
 fin:∀n,ak l n=true→js l l.length n=true
variable {l : List au}
theorem mc (T:Tree l){P:Int→Prop}(h0:∀n,ak l n=true→(iV (nd l n))=-1→P n)(h1:∀n,ak l n=true→(iV (nd l n))≠-1→ak l (iV (nd l n))=true→P (iV (nd l n))→P n):∀n,ak l n=true→P n:=by
 have H:∀ (m:Nat) (n:Int),ak l n=true→js l m n=true→P n:=by
  intro m
  induction m with
  |zero=>intro n _ h;simp[js] at h
  | succ m ih=>
    intro n hn h
    unfold js at h
    by_cases hp:(iV (nd l n))=-1
    ·exact h0 n hn hp
    ·rw[if_neg hp] at h
     have hq:=(T.par n hn hp).1
     exact h1 n hn hp hq (ih _ hq h)
 exact fun n hn=>H _ n hn (T.fin n hn)
theorem ig (T:Tree l){n:Int}(hn:ak l n=true)(hp:(iV (nd l n))=-1):cO l n=[n]:=by
 have:=eF hn
 obtain⟨m,hm⟩:∃m,l.length=m+1:=⟨l.length-1,by omega⟩
 unfold cO;rw[hm];unfold AB;rw[if_pos hp]
theorem cH (T:Tree l){n:Int}(hn:ak l n=true)(hp:(iV (nd l n))≠-1):cO l n=n::cO l (iV (nd l n)):=by
 have:=eF hn
 obtain⟨m,hm⟩:∃m,l.length=m+1:=⟨l.length-1,by omega⟩
 have hf:=T.fin n hn
 unfold cO;rw[hm] at hf ⊢
 unfold js at hf
 rw[if_neg hp] at hf
 rw[AB,if_neg hp,rO hf (Nat.le_succ m)]
theorem gM (T:Tree l){n k:Int}(hn:ak l n=true)(hk:k∈ (Kf (nd l n))):cO l k=k::cO l n:=by
 have h:=T.kid n hn k hk
 have h0:=eF hn
 have hp:(iV (nd l k))≠-1:=by rw[h.2];omega
 rw[cH T h.1 hp,h.2]
theorem fF (T:Tree l){n:Int}(hn:ak l n=true):∃r,cO l n=n::r:=by
 by_cases hp:(iV (nd l n))=-1
 ·exact⟨[],ig T hn hp⟩
 ·exact⟨_,cH T hn hp⟩
theorem jA (T:Tree l){n:Int}(hn:ak l n=true):n∈cO l n:=by
 obtain⟨r,hr⟩:=fF T hn;rw[hr];exact List.mem_cons_self
theorem A1 (n:Int):(cO l n).length≤l.length:=w4 l _ n
theorem kA (T:Tree l):∀n,ak l n=true→∀a∈cO l n,ak l a=true:=by
 refine mc T (fun n hn hp a ha=>?_) (fun n hn hp hq ih a ha=>?_)
 ·rw[ig T hn hp] at ha;rw[List.mem_singleton.1 ha];exact hn
 ·rw[cH T hn hp] at ha
  rcases List.mem_cons.1 ha with rfl|h
  ·exact hn
  ·exact ih a h
theorem jv (T:Tree l):∀n,ak l n=true→∀a∈cO l n,∃t,cO l n=t++cO l a:=by
 refine mc T (fun n hn hp a ha=>?_) (fun n hn hp hq ih a ha=>?_)
 ·have h:=ha;rw[ig T hn hp] at h;rw[List.mem_singleton.1 h];exact⟨[],rfl⟩
 ·have h:=ha
  rw[cH T hn hp] at h
  rcases List.mem_cons.1 h with rfl|h
  ·exact⟨[],rfl⟩
  ·obtain⟨t,ht⟩:=ih a h
   exact⟨n::t,by rw[cH T hn hp,ht];rfl⟩
theorem ur (T:Tree l){a b c:Int}(hc:ak l c=true)(h1:a∈cO l b)(h2:b∈cO l c):a∈cO l c:=by
 obtain⟨t,ht⟩:=jv T c hc b h2
 rw[ht];exact List.mem_append_right _ h1
theorem Dh (T:Tree l){n a b:Int}(hn:ak l n=true)(ha:a∈cO l n)(hb:b∈cO l n)(he:(cO l a).length=(cO l b).length):a=b:=by
 obtain⟨t,ht⟩:=jv T n hn a ha
 obtain⟨s,hs⟩:=jv T n hn b hb
 rw[ht] at hs
 have h:=(List.append_inj' hs he).2
 obtain⟨r,hr⟩:=fF T (kA T n hn a ha)
 obtain⟨q,hq⟩:=fF T (kA T n hn b hb)
 rw[hr,hq] at h
 exact(List.cons.inj h).1
theorem ia (T:Tree l):∀ (m:Nat) (n:Int),ak l n=true→∀b∈dJ l m n,ak l b=true∧n∈cO l b
 |0,n,_,b,hb=>by simp[dJ] at hb
 | m +1,n,hn,b,hb=>by
   unfold dJ at hb
   rcases List.mem_cons.1 hb with rfl|h
   ·exact⟨hn,jA T hn⟩
   ·obtain⟨k,hk,hbk⟩:=List.mem_flatMap.1 h
    have hkk:=T.kid n hn k hk
    obtain⟨h1,h2⟩:=ia T m k hkk.1 b hbk
    refine⟨h1,ur T h1 ?_ h2⟩
    rw[gM T hn hk]
    exact List.mem_cons_of_mem _ (jA T hn)
theorem mh (T:Tree l):∀ (m:Nat) (n:Int),ak l n=true→(dJ l m n).Nodup
 |0,_,_=>List.nodup_nil
 | m +1,n,hn=>by
   unfold dJ
   refine List.nodup_cons.2 ⟨fun h=>?_,?_⟩
   ·obtain⟨k,hk,hnk⟩:=List.mem_flatMap.1 h
    have hkk:=T.kid n hn k hk
    have h1:=(ia T m k hkk.1 n hnk).2
    obtain⟨t,ht⟩:=jv T n hn k h1
    have h2:=congrArg List.length ht
    rw[gM T hn hk] at h2
    simp at h2
    omega
   ·refine List.pairwise_flatMap.2 ⟨fun k hk=>mh T m k (T.kid n hn k hk).1,?_⟩
    refine List.Pairwise.imp_of_mem (fun{a b} ha hb hab x hx y hy e=>?_) (T.dup n hn)
    subst e
    have h1:=ia T m a (T.kid n hn a ha).1 x hx
    have h2:=ia T m b (T.kid n hn b hb).1 x hy
    refine hab (Dh T h1.1 h1.2 h2.2 ?_)
    rw[gM T hn ha,gM T hn hb];rfl
theorem Bj (T:Tree l)(m:Nat){n:Int}(hn:ak l n=true):(dJ l m n).length≤l.length:=
 CY (mh T m n hn) fun x hx=>eF (ia T m n hn x hx).1
theorem jt {f:ForM}(h:aV f=true):Tree f.nodes:=by
 have hN:=uS h
 have T:=Heir.jt h
 have kidK:∀n,ak f.nodes n=true→∀c∈ (nd f.nodes n).kids,(nd f.nodes c).kind=1∨(nd f.nodes c).kind=2:=by
  intro n hn c hc
  have h1:=hN n hn
  unfold cQ oN at h1
  simp only[Bool.and_eq_true] at h1
  have h2:=(ri.1 h1.2.2.2.1.1).1 c hc
  unfold Gj at h2
  simp only[Bool.and_eq_true,Bool.or_eq_true,decide_eq_true_eq] at h2
  rcases h2.2.2.2 with h3|h3
  ·exact .inl h3
  ·exact .inr h3.1
 have und:∀n,ak f.nodes n=true→(nd f.nodes n).under≠-1→ak f.nodes (nd f.nodes n).under=true∧(nd f.nodes (nd f.nodes n).under).kind=4∧(nd f.nodes (nd f.nodes n).under).host=n:=by
  intro n hn hu
  have h1:=hN n hn
  unfold cQ jx uo at h1
  simp only[Bool.and_eq_true,Bool.or_eq_true,decide_eq_true_eq] at h1
  rcases h1.2.2.2.2.2 with h2|h2
  ·exact absurd h2 hu
  ·exact⟨h2.1.2.1,h2.1.2.2,h2.2⟩
 have top4:∀n,ak f.nodes n=true→(nd f.nodes n).kind=4→(nd f.nodes n).parent=-1:=by
  intro n hn hk
  have h1:=hN n hn
  unfold cQ qx at h1
  simp only[Bool.and_eq_true,Bool.or_eq_true,decide_eq_true_eq] at h1
  rcases h1.2.2.1 with h2|h2
  ·exact h2
  ·rcases h2.1.1.1 with h3|h3<;>(rw[hk] at h3;cases h3)
 have mem:∀ (x:au) (k:Int),k∈Kf x↔ (x.under≠-1∧k=x.under)∨k∈x.kids:=by
  intro x k
  unfold Kf
  rw[List.mem_append]
  by_cases hu:x.under=-1
  ·simp[hu]
  ·simp[hu]
 refine⟨fun n hn hp=>?_,fun n hn k hk=>?_,fun n hn=>?_,fun n hn=>jB (vM h n hn)⟩
 ·unfold iV at hp ⊢
  by_cases hq:(nd f.nodes n).parent=-1
  ·rw[if_pos hq] at hp ⊢
   have h1:=hN n hn
   unfold cQ jx at h1
   simp only[Bool.and_eq_true] at h1
   have h2:=h1.2.2.2.2.1
   by_cases hk:(nd f.nodes n).kind=4
   ·rw[if_pos hk] at h2
    unfold uo at h2
    simp only[Bool.and_eq_true,decide_eq_true_eq] at h2
    refine⟨h2.1.1.1,(mem _ _).2 (.inl ⟨?_,h2.1.2.symm⟩)⟩
    rw[h2.1.2]
    have:=eF hn
    omega
   ·rw[if_neg hk] at h2
    exact absurd (by simpa using h2) hp
  ·rw[if_neg hq]
   have h1:=T.par n hn hq
   exact⟨h1.1,(mem _ _).2 (.inr h1.2)⟩
 ·have hn0:=eF hn
  rcases(mem _ _).1 hk with⟨h1,rfl⟩|h1
  ·obtain⟨h2,h3,h4⟩:=und n hn h1
   exact⟨h2,by unfold iV;rw[if_pos (top4 _ h2 h3)];exact h4⟩
  ·obtain⟨h2,h3⟩:=T.kid n hn k h1
   exact⟨h2,by unfold iV;rw[if_neg (by rw[h3];omega)];exact h3⟩
 ·unfold Kf
  by_cases hu:(nd f.nodes n).under=-1
  ·rw[if_pos hu];exact T.dup n hn
  ·rw[if_neg hu]
   refine List.nodup_cons.2 ⟨fun hm=>?_,T.dup n hn⟩
   have h1:=(und n hn hu).2.1
   rcases kidK n hn _ hm with h2|h2<;>(rw[h1] at h2;cases h2)
end U
theorem dI.take {rb rs:List AV}{off len off' len' bytes:Nat}{acc:Tk}{sl:SL}{m:ML}{A:List AV→Tk→SL→ML→Prop}(rows0 news:List AV)(h0:off=0∧len≤rb.length∧rows0=rb.take len)(h1:off'=0∧len'=rs.length∧news=rs)(h2:lF (flat news)=true)
  (h3:(rows0.length+news.length)*bytes≤140737488355328) (h4:rows0.length+news.length≤9223372036854775807) (h:A (rows0++news) acc sl m):dI rb off len rs off' len' bytes acc sl m (A:=A):=by
 obtain⟨rfl,hl,rfl⟩:=h0
 obtain⟨rfl,rfl,rfl⟩:=h1
 exact⟨_,_,by omega,by simp,by omega,by simp,h2,h3,h4,h⟩
theorem gD {α β:Type}{f g:α→List β}:∀ {l:List α},(∀a∈l,f a=g a)→l.flatMap f=l.flatMap g
 |[],_=>rfl
 |a::r,h=>by rw[List.flatMap_cons,List.flatMap_cons,h a List.mem_cons_self,gD fun b hb=>h b (List.mem_cons_of_mem _ hb)]
namespace U
variable {l : List au}
theorem o3 (T:Tree l):∀ (m:Nat) (n:Int),ak l n=true→l.length+1≤m+ (cO l n).length→dJ l (m+1) n=dJ l m n
 |0,n,_,h=>by have:=A1 (l:=l) n;omega
 | m+1,n,hn,h=>by
   rw[dJ,dJ]
   congr 1
   refine gD fun k hk=>?_
   refine o3 T m k (T.kid n hn k hk).1 ?_
   rw[gM T hn hk];simp;omega
theorem ord_eq (T:Tree l){n:Int}(hn:ak l n=true):dJ l l.length n=n::(Kf (nd l n)).flatMap (dJ l l.length):=by
 have h0:=eF hn
 obtain⟨m,hm⟩:∃m,l.length=m+1:=⟨l.length-1,by omega⟩
 have h1:∀k∈Kf (nd l n),dJ l l.length k=dJ l m k:=fun k hk=>by
  rw[hm]
  refine o3 T m k (T.kid n hn k hk).1 ?_
  obtain⟨r,hr⟩:=fF T hn
  rw[gM T hn hk,hr];simp;omega
 conv=>lhs;rw[hm,dJ]
 congr 1
 exact gD fun k hk=>(h1 k hk).symm
def rest (l:List au)(st:List Int):List Int:=st.reverse.flatMap (dJ l l.length)
theorem BV (T:Tree l){st:List Int}{t:Int}(ht:ak l t=true):rest l (st++ [t])=t::rest l (st++ (Kf (nd l t)).reverse):=by
 unfold rest
 rw[List.reverse_append,List.reverse_append,List.reverse_reverse]
 simp only[List.reverse_cons,List.reverse_nil,List.nil_append,List.cons_append,List.flatMap_cons,List.flatMap_append]
 rw[ord_eq T ht];rfl
theorem Cp (T:Tree l):∀ {st:List Int},(∀c∈st,ak l c=true)→st.length≤ (rest l st).length:=by
 intro st h
 unfold rest
 have:∀s:List Int,(∀c∈s,ak l c=true)→s.length≤ (s.flatMap (dJ l l.length)).length:=by
  intro s
  induction s with
  |nil=>intro _;exact Nat.le_refl _
  | cons a r ih=>
    intro h
    have h1:=ih fun c hc=>h c (List.mem_cons_of_mem _ hc)
    rw[List.flatMap_cons,List.length_append,ord_eq T (h a List.mem_cons_self),List.length_cons,List.length_cons]
    omega
 have:=this st.reverse fun c hc=>h c (by simpa using hc)
 simpa using this
end U

theorem vG (f:ForM)(n:Int):ah Tryz.prog 204 [] [cJ f,aq n] [] (aA (ak f.nodes n)):=by
 obtain⟨l,m⟩:=f
 have hlm:(l.map bZ).length=l.length:=List.length_map ..
 refine ah.af (rvs:=[.tmp 4]) G aa Tryz.func204 rfl Tryz.ntmps204 rfl rfl ?_;with_reducible refine wD ?_
 by_cases h:(0:Int)≤n
 ·(have fct:=h;(repeat' (first
  |refine gF ?_|refine aE ?_ ?_
  |apply trivial));all_goals clear fct)
  all_goals simp[ak,h]
 ·(have fct:=(eq_false h);(repeat' (first
  |refine gF ?_|refine aE ?_ ?_
  |apply trivial));all_goals clear fct)
  all_goals simp[ak,h]
theorem EZ (k:Int):ah Tryz.prog 240 [] [aq k] [] (aA (o8 k)):=by
 refine ah.af (rvs:=[.tmp 2]) G aa Tryz.func240 rfl Tryz.ntmps240 rfl rfl ?_;with_reducible refine wD ?_
 by_cases e0:k=0
 ·(have fct:=e0;(repeat' (first
  |refine gF ?_|refine aE ?_ ?_
  |apply trivial));all_goals clear fct)
  all_goals simp[o8,e0]
 ·by_cases e1:k=1
  ·(have fct:=e1;(repeat' (first
  |refine gF ?_|refine aE ?_ ?_
  | apply trivial));all_goals clear fct)
   all_goals simp[o8,e1]
  ·by_cases e3:k=3
   ·(have fct:=e3;(repeat' (first
  |refine gF ?_|refine aE ?_ ?_
  | apply trivial));all_goals clear fct)
    all_goals simp[o8,e3]
   ·by_cases e4:k=4
    ·(have fct:=e4;(repeat' (first
  |refine gF ?_|refine aE ?_ ?_
  | apply trivial));all_goals clear fct)
     all_goals simp[o8,e4]
    ·(have fct:=And.intro e0 (And.intro e1 (And.intro e3 (e4)));(repeat' (first
  |refine gF ?_|refine aE ?_ ?_
  |apply trivial));all_goals clear fct)
     all_goals simp[o8,e0,e1,e3,e4]
theorem vH (f:ForM)(n k:Int):ah Tryz.prog 139 [] [cJ f,aq n,aq k] [] (aA (uo f.nodes n k)):=by
 have h49:=vG f n
 obtain⟨l,m⟩:=f
 refine ah.af (rvs:=[.tmp 6]) G aa Tryz.func139 rfl Tryz.ntmps139 rfl rfl ?_;with_reducible refine wD ?_
 refine cL h49 Ao ?_;with_reducible refine wK ?_
 cases ht:ak l n with
 | false=>
   (have fct:=ht;(repeat' (first
  |refine gF ?_|refine aE ?_ ?_
  | apply trivial));all_goals clear fct)
   all_goals simp[uo,ht]
 | true=>
   obtain⟨i,x,rfl,hx,hnd⟩:=bC.1 ht
   obtain⟨a1,a2,a3,a4,a5,a6,a7,a8,a9,a10⟩:=x
   (have fct:=ht;(repeat' (first
  |refine gF ?_|refine aE ?_ ?_
  |((refine ay.mk i (aS _) rfl (aG hx) ?_)<;>with_reducible refine wK ?_)
  | apply trivial));all_goals clear fct)
   all_goals simp[uo,ht,hnd]
theorem Lt (l:List Int)(hl:l.length≤100000)(n:Int):ah Tryz.prog 262 [] [bY l,aq n] [] (aq (gh (fun x=>decide (x=n)) l)):=by
 have hlm:(l.map bF).length=l.length:=List.length_map ..
 refine ah.af (rvs:=[.tmp 4]) G aa Tryz.func262 rfl Tryz.ntmps262 rfl rfl ?_;with_reducible refine wD ?_
 refine aU.use G aa (fun(k:Nat)=>[(0,bY l),(1,aq n),(7,aq l.length),(8,aq k)]) (fun _=>[]) (fun k=>k≤l.length∧∀j x,j<k→l[j]? =some x→decide (x=n)=false) (fun k=>l.length-k) 0 ⟨Nat.zero_le _,fun j x h=>by omega⟩
  ⟨⟨rfl,rfl⟩,⟨rfl,rfl,by show(l.length:Int)=((l.map bF).length:Int);rw[hlm],rfl,trivial⟩,trivial⟩ ?_
 rintro k ⟨hk,hno⟩
 with_reducible refine wK ?_
 refine bq.mk (fun h1=>?_) (fun h1=>?_)<;>(try simp only[aF] at h1)<;>with_reducible refine wK ?_
 ·have hk':k<l.length:=by simp only[decide_eq_true_eq] at h1;omega
  obtain⟨a,ha⟩:∃a,l[k]? =some a:=⟨_,List.getElem?_eq_getElem hk'⟩
  refine ay.mk k (aq a) rfl (fZ ha) ?_;with_reducible refine wK ?_
  refine bq.mk (fun h2=>?_) (fun h2=>?_)<;>(try simp only[aF] at h2)<;>with_reducible refine wK ?_
  ·(refine eK ?_ ?_<;>with_reducible repeat' (first|exact trivial|(show _∧_;refine aK ?_ ?_)))
   refine fD (p:=fun x=>decide (x=n)) ha ?_ hno
   simp only[decide_eq_true_eq] at h2 ⊢;exact h2.symm
  ·refine nK ?_;with_reducible refine wK ?_
   refine aL.mk (k+1) ⟨by omega,fun j x hj hx=>?_⟩ (by omega) ⟨⟨rfl,rfl⟩,⟨rfl,rfl,rfl,by show((k+1:Nat):Int)=(k:Int)+1;omega,trivial⟩,trivial⟩
   rcases Nat.lt_or_ge j k with h3|h3
   ·exact hno j x h3 hx
   ·have:j=k:=by omega
    subst this
    rw[ha] at hx;cases hx
    simp only[decide_eq_false_iff_not] at h2 ⊢;exact fun e=>h2 e.symm
 ·(refine eK ?_ ?_<;>with_reducible repeat' (first|exact trivial|(show _∧_;refine aK ?_ ?_)))
  exact ei fun j x hx=>hno j x (by have:=(List.getElem?_eq_some_iff.1 hx).1;simp only[decide_eq_false_iff_not] at h1;omega) hx
theorem Jd {l:List Int}{n:Int}:decide (0≤gh (fun x=>decide (x=n)) l)=yh l n:=by
 rw[Bool.eq_iff_iff,decide_eq_true_eq]
 unfold yh
 rw[decide_eq_true_eq]
 unfold gh
 cases h:l.findIdx? (fun x=>decide (x=n)) with
 | none=>
   rw[List.findIdx?_eq_none_iff] at h
   simp only
   refine⟨fun h'=>by omega,fun hs=>?_⟩
   have:=h n hs
   simp at this
 | some k=>
   rw[List.findIdx?_eq_some_iff_getElem] at h
   obtain⟨hk,h2,_⟩:=h
   simp only
   exact⟨fun _=>by rw[←of_decide_eq_true h2];exact List.getElem_mem hk,fun _=>by omega⟩
theorem Mo (l:List Int)(hl:l.length≤100000)(n:Int):ah Tryz.prog 241 [] [bY l,aq n] [] (aA (yh l n)):=by
 rw[←Jd]
 refine ah.af (rvs:=[.tmp 4]) G aa Tryz.func241 rfl Tryz.ntmps241 rfl rfl ?_;with_reducible refine wD ?_
 refine cL (Lt l hl n) Rn ?_;with_reducible refine wK ?_
 (refine eK ?_ ?_<;>with_reducible repeat' (first|exact trivial|(show _∧_;refine aK ?_ ?_)))
theorem MO (f:ForM)(k:Nat)(x:au)(hx:f.nodes[k]? =some x):ah Tryz.prog 242 [] [cJ f,aq k] [] (aq (iV x)):=by
 obtain⟨l,m⟩:=f
 obtain⟨a1,a2,a3,a4,a5,a6,a7,a8,a9,a10⟩:=x
 refine ah.af (rvs:=[.tmp 4]) G aa Tryz.func242 rfl Tryz.ntmps242 rfl rfl ?_;with_reducible refine wD ?_
 refine ay.mk k (aS _) rfl (aG hx) ?_;with_reducible refine wK ?_
 unfold iV
 by_cases e:a6=-1
 ·(have fct:=e;(repeat' (first
  |refine gF ?_|refine aE ?_ ?_
  |((refine ay.mk k (aS _) rfl (aG hx) ?_)<;>with_reducible refine wK ?_)
  |apply trivial));all_goals clear fct)
  all_goals simp[e]
 ·(have fct:=(eq_false e);(repeat' (first
  |refine gF ?_|refine aE ?_ ?_
  |((refine ay.mk k (aS _) rfl (aG hx) ?_)<;>with_reducible refine wK ?_)
  |apply trivial));all_goals clear fct)
  all_goals simp[e]
theorem Mw (f:ForM)(k:Nat)(x:au)(hx:f.nodes[k]? =some x):ah Tryz.prog 198 [] [cJ f,aq k] [] (aA (uj f.nodes k x)):=by
 have h55:=vH f x.doc 0
 obtain⟨l,m⟩:=f
 obtain⟨a1,a2,a3,a4,a5,a6,a7,a8,a9,a10⟩:=x
 unfold uj
 simp only at h55 hx ⊢
 refine ah.af (rvs:=[.tmp 4]) G aa Tryz.func198 rfl Tryz.ntmps198 rfl rfl ?_;with_reducible refine wD ?_
 refine ay.mk k (aS _) rfl (aG hx) ?_;with_reducible refine wK ?_
 refine cL h55 oI ?_;with_reducible refine wK ?_
 cases hi:uo l a10 0 with
 | false=>
   (have fct:=hi;(repeat' (first
  |refine gF ?_|refine aE ?_ ?_
  | apply trivial));all_goals clear fct)
   all_goals simp[hi]
 | true=>
   by_cases e:a1=0
   ·(have fct:=And.intro hi (e);(repeat' (first
  |refine gF ?_|refine aE ?_ ?_
  | apply trivial));all_goals clear fct)
    all_goals simp[hi,e]
   ·(have fct:=And.intro hi ((eq_false e));(repeat' (first
  |refine gF ?_|refine aE ?_ ?_
  | apply trivial));all_goals clear fct)
    all_goals simp[hi,e]
theorem Mk (f:ForM)(hs:bS f.nodes)(k:Nat)(x:au)(hx:f.nodes[k]? =some x):ah Tryz.prog 199 [] [cJ f,aq k] [] (aA (qx f.nodes k x)):=by
 have h49:=vG f x.parent
 have h56:=EZ (nd f.nodes x.parent).kind
 have h57:ak f.nodes x.parent=true→ah Tryz.prog 241 [] [bY (nd f.nodes x.parent).kids,aq k] [] (aA (yh (nd f.nodes x.parent).kids k)):=fun ht=>by
  obtain⟨i,y,_,hy,hnd⟩:=bC.1 ht
  rw[hnd]
  exact Mo y.kids (by have:=hs.kids y (List.mem_of_getElem? hy);omega) k
 obtain⟨l,m⟩:=f
 obtain⟨a1,a2,a3,a4,a5,a6,a7,a8,a9,a10⟩:=x
 unfold qx
 simp only at h49 h56 h57 hx ⊢
 refine ah.af (rvs:=[.tmp 4]) G aa Tryz.func199 rfl Tryz.ntmps199 rfl rfl ?_;with_reducible refine wD ?_
 refine ay.mk k (aS _) rfl (aG hx) ?_;with_reducible refine wK ?_
 by_cases e6:a6=-1
 ·(have fct:=e6;(repeat' (first
  |refine gF ?_|refine aE ?_ ?_
  |apply trivial));all_goals clear fct)
  all_goals simp[e6]
 ·refine bq.no (by simp[e6]) ?_;with_reducible refine wK ?_
  have rest:∀b:Bool,(decide (a1=1)||decide (a1=2))=b→(b=false∨b=true):=fun b _=>by cases b<;>simp
  cases ht:ak l a6 with
  | false=>
    by_cases e1:a1=1
    ·(have fct:=And.intro e1 (And.intro ht ((eq_false e6)));(repeat' (first
  |refine gF ?_|refine aE ?_ ?_
  |(((with_reducible refine kQ 204 ?_);refine cL h49 Ao ?_)<;>with_reducible refine wK ?_)
  | apply trivial));all_goals clear fct)
     all_goals simp[e1,ht,e6]
    ·by_cases e2:a1=2
     ·(have fct:=And.intro e2 (And.intro ht ((eq_false e6)));(repeat' (first
  |refine gF ?_|refine aE ?_ ?_
  |(((with_reducible refine kQ 204 ?_);refine cL h49 Ao ?_)<;>with_reducible refine wK ?_)
  |apply trivial));all_goals clear fct)
      all_goals simp[e2,ht,e6]
     ·(have fct:=And.intro (eq_false e1) (And.intro (eq_false e2) (And.intro ht ((eq_false e6))));(repeat' (first
  |refine gF ?_|refine aE ?_ ?_
  |apply trivial));all_goals clear fct)
      all_goals simp[e1,e2,ht,e6]
  | true=>
    obtain⟨i,y,rfl,hy,hnd⟩:=bC.1 ht
    have h57':=h57 ht
    rw[hnd] at h56 h57' ⊢
    obtain⟨b1,b2,b3,b4,b5,b6,b7,b8,b9,b10⟩:=y
    simp only at h56 h57'
    cases hh:o8 b1 with
    | false=>
      by_cases e1:a1=1
      ·(have fct:=And.intro e1 (And.intro ht (And.intro hh ((eq_false e6))));(repeat' (first
  |refine gF ?_|refine aE ?_ ?_
  | ((first
   |((with_reducible refine kQ 204 ?_);refine cL h49 Ao ?_)
   |((with_reducible refine kQ 240 ?_);refine cL h56 IU ?_)
   |(refine ay.mk i (aS _) rfl (aG hy) ?_))<;>with_reducible refine wK ?_)
  |apply trivial));all_goals clear fct)
       all_goals simp[e1,ht,e6,hh]
      ·by_cases e2:a1=2
       ·(have fct:=And.intro e2 (And.intro ht (And.intro hh ((eq_false e6))));(repeat' (first
  |refine gF ?_|refine aE ?_ ?_
  | ((first
   |((with_reducible refine kQ 204 ?_);refine cL h49 Ao ?_)
   |((with_reducible refine kQ 240 ?_);refine cL h56 IU ?_)
   |(refine ay.mk i (aS _) rfl (aG hy) ?_))<;>with_reducible refine wK ?_)
  |apply trivial));all_goals clear fct)
        all_goals simp[e2,ht,e6,hh]
       ·(have fct:=And.intro (eq_false e1) (And.intro (eq_false e2) (And.intro ht (And.intro hh ((eq_false e6)))));(repeat' (first
  |refine gF ?_|refine aE ?_ ?_
  | apply trivial));all_goals clear fct)
        all_goals simp[e1,e2,ht,e6]
    | true=>
      by_cases e1:a1=1
      ·(have fct:=And.intro e1 (And.intro ht (And.intro hh ((eq_false e6))));(repeat' (first
  |refine gF ?_|refine aE ?_ ?_
  | ((first
   |((with_reducible refine kQ 204 ?_);refine cL h49 Ao ?_)
   |((with_reducible refine kQ 240 ?_);refine cL h56 IU ?_)
   |((with_reducible refine kQ 241 ?_);refine cL h57' O3 ?_)
   |(refine ay.mk i (aS _) rfl (aG hy) ?_))<;>with_reducible refine wK ?_)
  |apply trivial));all_goals clear fct)
       all_goals simp[e1,ht,e6,hh]
      ·by_cases e2:a1=2
       ·(have fct:=And.intro e2 (And.intro ht (And.intro hh ((eq_false e6))));(repeat' (first
  |refine gF ?_|refine aE ?_ ?_
  | ((first
   |((with_reducible refine kQ 204 ?_);refine cL h49 Ao ?_)
   |((with_reducible refine kQ 240 ?_);refine cL h56 IU ?_)
   |((with_reducible refine kQ 241 ?_);refine cL h57' O3 ?_)
   |(refine ay.mk i (aS _) rfl (aG hy) ?_))<;>with_reducible refine wK ?_)
  |apply trivial));all_goals clear fct)
        all_goals simp[e2,ht,e6,hh]
       ·(have fct:=And.intro (eq_false e1) (And.intro (eq_false e2) (And.intro ht (And.intro hh ((eq_false e6)))));(repeat' (first
  |refine gF ?_|refine aE ?_ ?_
  |apply trivial));all_goals clear fct)
        all_goals simp[e1,e2,ht,e6]
theorem mQ (l:List au)(m:Nat)(n:Int):hG l (m+1) n=if iV (nd l n)=-1 then true else hG l m (iV (nd l n)):=rfl
theorem MX (f:ForM)(hl:f.nodes.length≤100000)(hup:∀ (k:Nat) (x:au),f.nodes[k]? =some x→iV x=-1∨ak f.nodes (iV x)=true)(k:Nat)(hk:k<f.nodes.length):ah Tryz.prog 202 [] [cJ f,aq k] [] (aA (hG f.nodes f.nodes.length k)):=by
 have h58:=MO f
 obtain⟨l,m⟩:=f
 simp only at h58 hup hk hl ⊢
 have hlm:(l.map bZ).length=l.length:=List.length_map ..
 refine ah.af (rvs:=[.tmp 4]) G aa Tryz.func202 rfl Tryz.ntmps202 rfl rfl ?_;with_reducible refine wD ?_
 refine aU.use G aa (fun(i:Nat×Nat)=>[(1,aq i.2),(2,.ptr 20 0 0),(8,aq l.length),(9,aq i.1)]) (fun _=>[(20,.live 2 [cJ ⟨l,m⟩] false)]) (fun i=>i.1≤l.length∧i.2<l.length∧hG l l.length k=hG l (l.length-i.1) i.2) (fun i=>l.length-i.1) (0,k) ⟨Nat.zero_le _,hk,rfl⟩
  ⟨⟨rfl,rfl⟩,⟨rfl,⟨rfl,rfl⟩,by show(l.length:Int)=((l.map bZ).length:Int);rw[hlm],rfl,trivial⟩,⟨⟨rfl,rfl,trivial⟩,trivial⟩,trivial⟩ ?_
 rintro⟨i,j⟩ ⟨hi,hj,he⟩
 simp only at hi hj he
 with_reducible refine wK ?_
 refine bq.mk (fun h1=>?_) (fun h1=>?_)<;>(try simp only[aF] at h1)<;>with_reducible refine wK ?_
 ·have hi':i<l.length:=by simp only[decide_eq_true_eq] at h1;omega
  obtain⟨x,hx⟩:∃x,l[j]? =some x:=⟨_,List.getElem?_eq_getElem hj⟩
  have h58':=h58 j x hx
  refine cL h58' RS ?_;with_reducible refine wK ?_
  rw[show l.length-i=(l.length- (i+1))+1 from by omega] at he
  rw[mQ,cZ hx] at he
  by_cases e:iV x=-1
  ·rw[if_pos e] at he
   (have fct:=e;(repeat' (first
  |refine gF ?_|refine aE ?_ ?_
  | apply trivial));all_goals clear fct)
   all_goals rw[he]
  ·rw[if_neg e] at he
   rcases hup j x hx with h|h
   ·exact absurd h e
   obtain⟨j',y,hj1,hj2,_⟩:=bC.1 h
   rw[hj1] at he
   have hlt:=(List.getElem?_eq_some_iff.1 hj2).1
   refine bq.no (decide_eq_false e) ?_;with_reducible refine wK ?_
   refine nK ?_;with_reducible refine wK ?_
   refine aL.mk (i+1,j') ⟨by show i+1≤l.length;omega,hlt,he⟩ (by show l.length- (i+1)<l.length-i;omega) ⟨⟨rfl,rfl⟩,⟨hj1.symm,⟨rfl,rfl⟩,rfl,by show((i+1:Nat):Int)=(i:Int)+1;omega,trivial⟩,⟨⟨rfl,rfl,trivial⟩,trivial⟩,trivial⟩
 ·(refine eK ?_ ?_<;>with_reducible repeat' (first|exact trivial|(show _∧_;refine aK ?_ ?_)))
  have:i=l.length:=by simp only[decide_eq_false_iff_not] at h1;omega
  rw[he,this,Nat.sub_self];rfl
theorem vJ {l:List au}{n k:Int}(h:uo l n k=true):∃ (i:Nat) (x:au),n=(i:Int)∧l[i]? =some x∧nd l n=x:=by
 unfold uo at h
 simp only[Bool.and_eq_true] at h
 exact bC.1 h.1
theorem Ky (f:ForM)(k:Nat)(x:au)(hx:f.nodes[k]? =some x):ah Tryz.prog 201 [] [cJ f,aq k] [] (aA (jx f.nodes k x)):=by
 have h1:=vH f x.host 1
 have h4:=vH f x.under 4
 obtain⟨l,m⟩:=f
 obtain⟨a1,a2,a3,a4,a5,a6,a7,a8,a9,a10⟩:=x
 unfold jx
 simp only at h1 h4 hx ⊢
 refine ah.af (rvs:=[.tmp 4]) G aa Tryz.func201 rfl Tryz.ntmps201 rfl rfl ?_;with_reducible refine wD ?_
 refine ay.mk k (aS _) rfl (aG hx) ?_;with_reducible refine wK ?_
 by_cases e4:a1=4
 ·have e1:¬a1=1:=by omega
  refine bq.yes (by simp[e4]) ?_;with_reducible refine wK ?_
  rw[if_pos e4]
  cases hi:uo l a8 1 with
  | false=>
    rw[hi] at h1
    by_cases e9:a9=-1
    ·(have fct:=And.intro e4 (e9);(repeat' (first
  |refine gF ?_|refine aE ?_ ?_
  |(((with_reducible refine kQ 139 ?_);refine cL h1 oI ?_)<;>with_reducible refine wK ?_)
  | apply trivial));all_goals clear fct)
     all_goals simp[e9]
    ·(have fct:=And.intro e4 (And.intro (eq_false e9) ((eq_false e1)));(repeat' (first
  |refine gF ?_|refine aE ?_ ?_
  |(((with_reducible refine kQ 139 ?_);refine cL h1 oI ?_)<;>with_reducible refine wK ?_)
  |apply trivial));all_goals clear fct)
     all_goals simp[e9,e1]
  | true=>
    rw[hi] at h1
    obtain⟨i,y,rfl,hy,hnd⟩:=vJ hi
    rw[hnd]
    obtain⟨b1,b2,b3,b4,b5,b6,b7,b8,b9,b10⟩:=y
    by_cases e9:a9=-1
    ·by_cases u9:b9=k
     ·by_cases u10:b10=a10
      ·(have fct:=And.intro e4 (And.intro e9 (And.intro u9 (u10)));(repeat' (first
  |refine gF ?_|refine aE ?_ ?_
  | ((first
   |((with_reducible refine kQ 139 ?_);refine cL h1 oI ?_)
   |(refine ay.mk i (aS _) rfl (aG hy) ?_))<;>with_reducible refine wK ?_)
  |apply trivial));all_goals clear fct)
       all_goals simp[e9,u9,u10]
      ·(have fct:=And.intro e4 (And.intro e9 (And.intro u9 ((eq_false u10))));(repeat' (first
  |refine gF ?_|refine aE ?_ ?_
  | ((first
   |((with_reducible refine kQ 139 ?_);refine cL h1 oI ?_)
   |(refine ay.mk i (aS _) rfl (aG hy) ?_))<;>with_reducible refine wK ?_)
  |apply trivial));all_goals clear fct)
       all_goals simp[e9,u9,u10]
     ·(have fct:=And.intro e4 (And.intro e9 ((eq_false u9)));(repeat' (first
  |refine gF ?_|refine aE ?_ ?_
  | ((first
   |((with_reducible refine kQ 139 ?_);refine cL h1 oI ?_)
   |(refine ay.mk i (aS _) rfl (aG hy) ?_))<;>with_reducible refine wK ?_)
  | apply trivial));all_goals clear fct)
      all_goals simp[e9,u9]
    ·by_cases u9:b9=k
     ·by_cases u10:b10=a10
      ·(have fct:=And.intro e4 (And.intro (eq_false e9) (And.intro (eq_false e1) (And.intro u9 (u10))));(repeat' (first
  |refine gF ?_|refine aE ?_ ?_
  | ((first
   |((with_reducible refine kQ 139 ?_);refine cL h1 oI ?_)
   |(refine ay.mk i (aS _) rfl (aG hy) ?_))<;>with_reducible refine wK ?_)
  |apply trivial));all_goals clear fct)
       all_goals simp[e9,e1,u9,u10]
      ·(have fct:=And.intro e4 (And.intro (eq_false e9) (And.intro (eq_false e1) (And.intro u9 ((eq_false u10)))));(repeat' (first
  |refine gF ?_|refine aE ?_ ?_
  | ((first
   |((with_reducible refine kQ 139 ?_);refine cL h1 oI ?_)
   |(refine ay.mk i (aS _) rfl (aG hy) ?_))<;>with_reducible refine wK ?_)
  |apply trivial));all_goals clear fct)
       all_goals simp[e9,e1,u9,u10]
     ·(have fct:=And.intro e4 (And.intro (eq_false e9) (And.intro (eq_false e1) ((eq_false u9))));(repeat' (first
  |refine gF ?_|refine aE ?_ ?_
  | ((first
   |((with_reducible refine kQ 139 ?_);refine cL h1 oI ?_)
   |(refine ay.mk i (aS _) rfl (aG hy) ?_))<;>with_reducible refine wK ?_)
  |apply trivial));all_goals clear fct)
      all_goals simp[e9,e1,u9]
 ·refine bq.no (by simp[e4]) ?_;with_reducible refine wK ?_
  rw[if_neg e4]
  by_cases e8:a8=-1
  ·by_cases e9:a9=-1
   ·(have fct:=And.intro (eq_false e4) (And.intro e8 (e9));(repeat' (first
  |refine gF ?_|refine aE ?_ ?_
  | apply trivial));all_goals clear fct)
    all_goals simp[e9,e8]
   ·by_cases e1:a1=1
    ·cases hu:uo l a9 4 with
     | false=>
       rw[hu] at h4
       (have fct:=And.intro (eq_false e4) (And.intro e8 (And.intro (eq_false e9) (e1)));(repeat' (first
  |refine gF ?_|refine aE ?_ ?_
  |(((with_reducible refine kQ 139 ?_);refine cL h4 oI ?_)<;>with_reducible refine wK ?_)
  |apply trivial));all_goals clear fct)
       all_goals simp[e9,e8,e1]
     | true=>
       rw[hu] at h4
       obtain⟨j,z,rfl,hz,hnd⟩:=vJ hu
       rw[hnd]
       obtain⟨d1,d2,d3,d4,d5,d6,d7,d8,d9,d10⟩:=z
       (have fct:=And.intro (eq_false e4) (And.intro e8 (And.intro (eq_false e9) (e1)));(repeat' (first
  |refine gF ?_|refine aE ?_ ?_
  | ((first
   |((with_reducible refine kQ 139 ?_);refine cL h4 oI ?_)
   |(refine ay.mk j (aS ⟨d1,d2,d3,d4,d5,d6,d7,d8,d9,d10⟩) rfl (aG hz) ?_))<;>with_reducible refine wK ?_)
  | apply trivial));all_goals clear fct)
       all_goals simp[e9,e8,e1]
    ·(have fct:=And.intro (eq_false e4) (And.intro e8 (And.intro (eq_false e9) ((eq_false e1))));(repeat' (first
  |refine gF ?_|refine aE ?_ ?_
  |apply trivial));all_goals clear fct)
     all_goals simp[e9,e8,e1]
  ·by_cases e9:a9=-1
   ·(have fct:=And.intro (eq_false e4) (And.intro (eq_false e8) (e9));(repeat' (first
  |refine gF ?_|refine aE ?_ ?_
  | apply trivial));all_goals clear fct)
    all_goals simp[e9,e8]
   ·by_cases e1:a1=1
    ·cases hu:uo l a9 4 with
     | false=>
       rw[hu] at h4
       (have fct:=And.intro (eq_false e4) (And.intro (eq_false e8) (And.intro (eq_false e9) (e1)));(repeat' (first
  |refine gF ?_|refine aE ?_ ?_
  |(((with_reducible refine kQ 139 ?_);refine cL h4 oI ?_)<;>with_reducible refine wK ?_)
  |apply trivial));all_goals clear fct)
       all_goals simp[e9,e8,e1]
     | true=>
       rw[hu] at h4
       obtain⟨j,z,rfl,hz,hnd⟩:=vJ hu
       rw[hnd]
       obtain⟨d1,d2,d3,d4,d5,d6,d7,d8,d9,d10⟩:=z
       (have fct:=And.intro (eq_false e4) (And.intro (eq_false e8) (And.intro (eq_false e9) (e1)));(repeat' (first
  |refine gF ?_|refine aE ?_ ?_
  | ((first
   |((with_reducible refine kQ 139 ?_);refine cL h4 oI ?_)
   |(refine ay.mk j (aS ⟨d1,d2,d3,d4,d5,d6,d7,d8,d9,d10⟩) rfl (aG hz) ?_))<;>with_reducible refine wK ?_)
  | apply trivial));all_goals clear fct)
       all_goals simp[e9,e8,e1]
    ·(have fct:=And.intro (eq_false e4) (And.intro (eq_false e8) (And.intro (eq_false e9) ((eq_false e1))));(repeat' (first
  |refine gF ?_|refine aE ?_ ?_
  |apply trivial));all_goals clear fct)
     all_goals simp[e9,e8,e1]
theorem ES (x:au)(hx:x.attrs.length≤100000):ah Tryz.prog 138 [] [aS x] [] (aA (kF x)):=by
 have h45:=wN x.name
 have h54:=vB x.is
 have h44:=FJ x.attrs hx
 obtain⟨a1,a2,a3,a4,a5,a6,a7,a8,a9,a10⟩:=x
 have hlm:(a5.map eN).length=a5.length:=List.length_map ..
 unfold kF
 simp only at h45 h54 h44 hx ⊢
 refine ah.af (rvs:=[.tmp 2]) G aa Tryz.func138 rfl Tryz.ntmps138 rfl rfl ?_;with_reducible refine wD ?_
 by_cases e1:a1=1
 ·rw [if_pos e1]
  cases hr:bO a2 with
  | false=>
    rw[hr] at h45
    simp only[Bool.false_eq_true,if_false] at h45
    (have fct:=And.intro e1 (hr);(repeat' (first
  |refine gF ?_|refine aE ?_ ?_
  |(((with_reducible refine kQ 81 ?_);refine cL h45 zo ?_)<;>with_reducible refine wK ?_)
  | apply trivial));all_goals clear fct)
    all_goals simp[hr]
  | true=>
    rw[hr] at h45
    simp only[if_true] at h45
    by_cases hl:ek a2=a2
    ·by_cases h3:a3=⟨#[]⟩
     ·by_cases h4:a4=⟨#[]⟩
      ·(have fct:=And.intro e1 (And.intro hr (And.intro hl (And.intro h3 (h4))));(repeat' (first
  |refine gF ?_|refine aE ?_ ?_
  | ((first
   |((with_reducible refine kQ 81 ?_);refine cL h45 zo ?_)
   |((with_reducible refine kQ 203 ?_);refine cL h44 Om ?_))<;>with_reducible refine wK ?_)
  |apply trivial));all_goals clear fct)
       all_goals simp[hr,hl,h3,h4]
      ·(have fct:=And.intro e1 (And.intro hr (And.intro hl (And.intro h3 ((eq_false h4)))));(repeat' (first
  |refine gF ?_|refine aE ?_ ?_
  |(((with_reducible refine kQ 81 ?_);refine cL h45 zo ?_)<;>with_reducible refine wK ?_)
  |apply trivial));all_goals clear fct)
       all_goals simp[hr,hl,h3,h4]
     ·cases hc:cK a3 with
      | false=>
        rw[hc] at h54
        (have fct:=And.intro e1 (And.intro hr (And.intro hl (And.intro (eq_false h3) (hc))));(repeat' (first
  |refine gF ?_|refine aE ?_ ?_
  | ((first
   |((with_reducible refine kQ 81 ?_);refine cL h45 zo ?_)
   |((with_reducible refine kQ 109 ?_);refine cL h54 kJ ?_))<;>with_reducible refine wK ?_)
  |apply trivial));all_goals clear fct)
        all_goals simp[hr,hl,h3,hc]
      | true=>
        rw[hc] at h54
        by_cases h4:a4=⟨#[]⟩
        ·(have fct:=And.intro e1 (And.intro hr (And.intro hl (And.intro (eq_false h3) (And.intro hc (h4)))));(repeat' (first
  |refine gF ?_|refine aE ?_ ?_
  | ((first
   |((with_reducible refine kQ 81 ?_);refine cL h45 zo ?_)
   |((with_reducible refine kQ 109 ?_);refine cL h54 kJ ?_)
   |((with_reducible refine kQ 203 ?_);refine cL h44 Om ?_))<;>with_reducible refine wK ?_)
  |apply  trivial));all_goals clear fct)
         all_goals simp[hr,hl,h3,hc,h4]
        ·(have fct:=And.intro e1 (And.intro hr (And.intro hl (And.intro (eq_false h3) (And.intro hc ((eq_false h4))))));(repeat' (first
  |refine gF ?_|refine aE ?_ ?_
  | ((first
   |((with_reducible refine kQ 81 ?_);refine cL h45 zo ?_)
   |((with_reducible refine kQ 109 ?_);refine cL h54 kJ ?_))<;>with_reducible refine wK ?_)
  | apply trivial));all_goals clear fct)
         all_goals simp[hr,hl,h3,hc,h4]
    ·(have fct:=And.intro e1 (And.intro hr ((eq_false hl)));(repeat' (first
  |refine gF ?_|refine aE ?_ ?_
  |(((with_reducible refine kQ 81 ?_);refine cL h45 zo ?_)<;>with_reducible refine wK ?_)
  |apply trivial));all_goals clear fct)
     all_goals simp[hr,hl]
 ·rw [if_neg e1]
  by_cases e2:a1=2
  ·rw [if_pos e2]
   by_cases hd:a4.size≤200
   ·by_cases h2:a2=⟨#[]⟩
    ·by_cases h3:a3=⟨#[]⟩
     ·(have fct:=And.intro e2 (And.intro hd (And.intro h2 (h3)));(repeat' (first
  |refine gF ?_|refine aE ?_ ?_
  |apply trivial));all_goals clear fct)
      all_goals simp[hd,h2,h3]
     ·(have fct:=And.intro e2 (And.intro hd (And.intro h2 ((eq_false h3))));(repeat' (first
  |refine gF ?_|refine aE ?_ ?_
  | apply trivial));all_goals clear fct)
      all_goals simp[hd,h2,h3]
    ·(have fct:=And.intro e2 (And.intro hd ((eq_false h2)));(repeat' (first
  |refine gF ?_|refine aE ?_ ?_
  | apply trivial));all_goals clear fct)
     all_goals simp[hd,h2]
   ·(have fct:=And.intro e2 ((eq_false hd));(repeat' (first
  |refine gF ?_|refine aE ?_ ?_
  | apply trivial));all_goals clear fct)
    all_goals simp[hd]
  ·rw [if_neg e2]
   by_cases ho:a1=0∨a1=3∨a1=4
   ·rw [if_pos ho]
    by_cases h2:a2=⟨#[]⟩
    ·by_cases h3:a3=⟨#[]⟩
     ·by_cases h4:a4=⟨#[]⟩
      ·rcases ho with e|e|e
       ·(have fct:=And.intro e (And.intro h2 (And.intro h3 (h4)));(repeat' (first
  |refine gF ?_|refine aE ?_ ?_
  |apply trivial));all_goals clear fct)
        all_goals simp[h2,h3,h4]
       ·(have fct:=And.intro e (And.intro h2 (And.intro h3 (h4)));(repeat' (first
  |refine gF ?_|refine aE ?_ ?_
  |apply trivial));all_goals clear fct)
        all_goals simp[h2,h3,h4]
       ·(have fct:=And.intro e (And.intro h2 (And.intro h3 (h4)));(repeat' (first
  |refine gF ?_|refine aE ?_ ?_
  |apply trivial));all_goals clear fct)
        all_goals simp[h2,h3,h4]
      ·rcases ho with e|e|e
       ·(have fct:=And.intro e (And.intro h2 (And.intro h3 ((eq_false h4))));(repeat' (first
  |refine gF ?_|refine aE ?_ ?_
  |apply trivial));all_goals clear fct)
        all_goals simp[h2,h3,h4]
       ·(have fct:=And.intro e (And.intro h2 (And.intro h3 ((eq_false h4))));(repeat' (first
  |refine gF ?_|refine aE ?_ ?_
  |apply trivial));all_goals clear fct)
        all_goals simp[h2,h3,h4]
       ·(have fct:=And.intro e (And.intro h2 (And.intro h3 ((eq_false h4))));(repeat' (first
  |refine gF ?_|refine aE ?_ ?_
  |apply trivial));all_goals clear fct)
        all_goals simp[h2,h3,h4]
     ·rcases ho with e|e|e
      ·(have fct:=And.intro e (And.intro h2 ((eq_false h3)));(repeat' (first
  |refine gF ?_|refine aE ?_ ?_
  |apply trivial));all_goals clear fct)
       all_goals simp[h2,h3]
      ·(have fct:=And.intro e (And.intro h2 ((eq_false h3)));(repeat' (first
  |refine gF ?_|refine aE ?_ ?_
  |apply trivial));all_goals clear fct)
       all_goals simp[h2,h3]
      ·(have fct:=And.intro e (And.intro h2 ((eq_false h3)));(repeat' (first
  |refine gF ?_|refine aE ?_ ?_
  | apply trivial));all_goals clear fct)
       all_goals simp[h2,h3]
    ·rcases ho with e|e|e
     ·(have fct:=And.intro e ((eq_false h2));(repeat' (first
  |refine gF ?_|refine aE ?_ ?_
  |apply trivial));all_goals clear fct)
      all_goals simp[h2]
     ·(have fct:=And.intro e ((eq_false h2));(repeat' (first
  |refine gF ?_|refine aE ?_ ?_
  |apply trivial));all_goals clear fct)
      all_goals simp[h2]
     ·(have fct:=And.intro e ((eq_false h2));(repeat' (first
  |refine gF ?_|refine aE ?_ ?_
  | apply trivial));all_goals clear fct)
      all_goals simp[h2]
   ·rw[if_neg ho]
    have e0:¬a1=0:=fun h=>ho (.inl h)
    have e3:¬a1=3:=fun h=>ho (.inr (.inl h))
    have e4:¬a1=4:=fun h=>ho (.inr (.inr h))
    (have fct:=And.intro e0 (And.intro e1 (And.intro e2 (And.intro e3 (e4))));(repeat' (first
  |refine gF ?_|refine aE ?_ ?_
  |apply trivial));all_goals clear fct)
def n9 (l:List Int):List (Int×Int):=l.map fun c=>(c,1)
theorem tL (c:Int):∀l:List Int,cR c (n9 l)=if c∈l then some 1 else none
 |[]=>rfl
 | a ::r=>by
   show(if a=c then some 1 else cR c (n9 r))=_
   rw[tL c r]
   by_cases e:a=c
   ·rw[if_pos e,if_pos (by simp[e])]
   ·rw[if_neg e]
    by_cases h:c∈r
    ·rw[if_pos h,if_pos (List.mem_cons_of_mem _ h)]
    ·rw[if_neg h,if_neg (by simp[h];exact fun e'=>e e'.symm)]
theorem Gi {l:List Int}{c:Int}(h:c∉l):eB c 1 (n9 l)=n9 (l++ [c]):=by
 rw[sL (by rw[tL,if_neg h])]
 simp[n9]
theorem ik {α:Type}{l:List α}{k:Nat}{x:α}(h:l[k]? =some x):l.take (k+1)=l.take k++ [x]:=by
 obtain⟨hk,rfl⟩:=List.getElem?_eq_some_iff.1 h
 rw[List.take_add_one,List.getElem?_eq_getElem hk];rfl
theorem G8 {l:List au}{n:Int}{x:au}{cs:List Int}{j:Nat}{c:Int}(h:cs[j]? =some c):jk l n x (cs.take j) (cs.drop j)=(rW l n x (cs.take j) c&&jk l n x (cs.take (j+1)) (cs.drop (j+1))):=by
 obtain⟨hk,rfl⟩:=List.getElem?_eq_some_iff.1 h
 rw[List.drop_eq_getElem_cons hk,ik h]
 rfl
theorem C9 {l:List au}{cs:List Int}{j:Nat}{c:Int}(h:cs[j]? =some c):iQ l (cs.take (j+1))=iQ l (cs.take j)+if(nd l c).kind=1 then 1 else 0:=by
 rw[ik h]
 unfold iQ
 rw[List.countP_append,List.countP_cons];simp
theorem JT (l:List au)(cs:List Int)(j:Nat):iQ l (cs.take j)≤j:=by
 unfold iQ
 refine Nat.le_trans List.countP_le_length ?_
 simp;omega
@[reducible] def PO (t : List (Int × Int)) : MS := .live 2 (dZ oD bF t) false
theorem mM (t:List (Int×Int)):aN (dZ oD bF t)=true:=by
 rw[bL];intro x hx
 obtain⟨a,_,rfl⟩:=List.mem_map.1 hx
 rfl
theorem LS (f:ForM)(hs:bS f.nodes)(k:Nat)(x:au)(hx:f.nodes[k]? =some x):ah Tryz.prog 200 [] [cJ f,aq k] [] (aA (oN f.nodes k x)):=by
 have h49:=vG f
 have h56:=EZ x.kind
 have h7:=hs.kids x (List.mem_of_getElem? hx)
 have hl:=hs.len
 obtain⟨l,m⟩:=f
 have hst:=fun j c=> @G8 l k x x.kids j c
 have hse:=fun j c=> @C9 l x.kids j c
 unfold oN
 simp only at h49 h56 hx h7 hl ⊢
 obtain⟨⟨a1,a2,a3,a4,a5,a6,a7,a8,a9,a10⟩,hx0⟩:∃y,y=x:=⟨x,rfl⟩
 rw[←hx0] at hx h56 h7 hst hse ⊢
 simp only at h56 h7 hst hse ⊢
 have hlm:(a7.map bF).length=a7.length:=List.length_map ..
 refine ah.af (rvs:=[.tmp 4]) G aa Tryz.func200 rfl Tryz.ntmps200 rfl rfl ?_;with_reducible refine wD ?_
 refine ay.mk k (aS _) rfl (aG hx) ?_;with_reducible refine wK ?_
 refine aU.use G aa (fun(j:Nat)=>[(1,aq k),(2,.ptr 20 0 0),(5,.ptr 50 0 0),(6,.mapr 161),(7,aq (iQ l (a7.take j))),(18,bY a7),(19,aq a7.length),(20,aq j)])
  (fun j=>[(20,.live 2 [cJ ⟨l,m⟩] false),(50,.live 10 [aS ⟨a1,a2,a3,a4,a5,a6,a7,a8,a9,a10⟩] false),(161,PO (n9 (a7.take j)))])
  (fun j=>j≤a7.length∧jk l k ⟨a1,a2,a3,a4,a5,a6,a7,a8,a9,a10⟩ [] a7=jk l k ⟨a1,a2,a3,a4,a5,a6,a7,a8,a9,a10⟩ (a7.take j) (a7.drop j)) (fun j=>a7.length-j) 0 ⟨Nat.zero_le _,rfl⟩
  ⟨⟨rfl,rfl⟩,⟨rfl,⟨rfl,rfl⟩,⟨rfl,rfl⟩,trivial,rfl,rfl,by show(a7.length:Int)=((a7.map bF).length:Int);rw[hlm],rfl,trivial⟩,⟨⟨rfl,rfl,trivial⟩,trivial⟩,⟨⟨rfl,rfl,rfl,rfl,rfl,rfl,rfl,rfl,rfl,rfl,trivial⟩,trivial⟩,⟨.refl rfl,rfl⟩,trivial⟩ ?_
 rintro j ⟨hj,hok⟩
 with_reducible refine wK ?_
 refine bq.mk (fun h1=>?_) (fun h1=>?_)<;>(try simp only[aF] at h1)<;>with_reducible refine wK ?_
 ·have hj' :j<a7.length:=by simp only[decide_eq_true_eq] at h1;omega
  obtain⟨c,hc⟩:∃c,a7[j]? =some c:=⟨_,List.getElem?_eq_getElem hj'⟩
  rw[hst j c hc] at hok
  have hse':=hse j c hc
  have hel:=JT l a7 j
  have h49':=h49 c
  unfold rW at hok
  refine ay.mk j (aq c) rfl (fZ hc) ?_;with_reducible refine wK ?_
  refine cL h49' Ao ?_;with_reducible refine wK ?_
  cases ht:ak l c with
  | false=>
    rw[ht] at hok
    simp only[Bool.false_and] at hok
    rw[hok,Bool.false_and]
    (have fct:=ht;(repeat' (first
  |refine gF ?_|refine aE ?_ ?_
  |apply trivial));all_goals clear fct)
  | true=>
    obtain⟨i,y,rfl,hy,hnd⟩:=bC.1 ht
    rw[ht,hnd] at hok
    rw[hnd] at hse'
    obtain⟨b1,b2,b3,b4,b5,b6,b7,b8,b9,b10⟩:=y
    simp only[Bool.true_and] at hok hse'
    refine bq.ff ?_;with_reducible refine wK ?_
    have hts:=tL (i:Int) (a7.take j)
    refine jc.ck oD bF (n9 (a7.take j)) (k:=(i:Int)) (zv:=aq 0) Oo ⟨_,_,rfl⟩ ju j4 rfl rfl (fun z hxx=>?_) (fun hxx=>?_)
    ·rw[hxx] at hts
     have hin:(i:Int)∈a7.take j:=by by_cases h:(i:Int)∈a7.take j;exact h;rw[if_neg h] at hts;cases hts
     rw[if_pos hin] at hts
     cases hts
     rw[show yh (a7.take j) (i:Int)=true from decide_eq_true hin] at hok
     simp only[Bool.not_true,Bool.false_and] at hok
     rw[hok,Bool.false_and]
     rw[show bF 1=aq 1 from rfl]
     with_reducible refine wK ?_
     (have fct:=ht;(repeat' (first
  |refine gF ?_|refine aE ?_ ?_
  | apply trivial));all_goals clear fct)
    ·rw [hxx] at hts
     have hin:(i:Int)∉a7.take j:=by intro h;rw[if_pos h] at hts;cases hts
     rw[show yh (a7.take j) (i:Int)=false from decide_eq_false hin] at hok
     simp only[Bool.not_false,Bool.true_and] at hok
     with_reducible refine wK ?_
     by_cases e6:b6=k
     ·by_cases e10:b10=a10
      ·simp only[e6,e10,decide_true,Bool.true_and] at hok
       (have fct:=And.intro e6 (e10);(repeat' (first
  |refine gF ?_|refine aE ?_ ?_
  |((refine ay.mk i (aS _) rfl (aG hy) ?_)<;>with_reducible refine wK ?_)
  |apply trivial));all_goals clear fct)
       refine jc.ck oD bF (n9 (a7.take j)) (k:=(i:Int)) (zv:=aq 0) Oo ⟨_,_,rfl⟩ ju j4 rfl rfl (fun z hyy=>?_) (fun hyy=>?_)
       ·rw[hxx] at hyy;cases hyy
       with_reducible refine wK ?_
       have hln:(n9 (a7.take j)).length≤j:=by unfold n9;simp;omega
       have hsn:=Gi hin
       rw[←ik hc] at hsn
       refine nK ?_;with_reducible refine wK ?_
       refine s7.ck oD bF (n9 (a7.take j)) (k:=(i:Int)) (1:Int) Oo rfl ju j4 (by unfold maxLen;omega) rfl ?_;with_reducible refine wK ?_
       rw[hsn]
       refine ay.mk i (aS _) rfl (aG hy) ?_;with_reducible refine wK ?_
       by_cases f1:b1=1
       ·have hs1:(iQ l (a7.take (j+1)):Int)=iQ l (a7.take j)+1:=by rw[hse',if_pos f1];rfl
        simp only[f1,decide_true,Bool.true_or,Bool.true_and] at hok
        (have fct:=f1;(repeat' (first
  |refine gF ?_|refine aE ?_ ?_
  |(((with_reducible show aL _ _);refine aL.mk (j+1) ⟨by omega,hok⟩ (by omega) ⟨⟨rfl,rfl⟩,⟨rfl,⟨rfl,rfl⟩,⟨rfl,rfl⟩,trivial,hs1,rfl,rfl,by show((j+1:Nat):Int)=(j:Int)+1;omega,trivial⟩,⟨⟨rfl,rfl,trivial⟩,trivial⟩,⟨⟨rfl,rfl,rfl,rfl,rfl,rfl,rfl,rfl,rfl,rfl,trivial⟩,trivial⟩,⟨.refl (mM _),mM _⟩,trivial⟩)<;>with_reducible refine wK ?_)
  |apply  trivial));all_goals clear fct)
       ·have hs1:(iQ l (a7.take (j+1)):Int)=iQ l (a7.take j):=by rw[hse',if_neg f1];rfl
        by_cases f2:b1=2
        ·by_cases e0:a1=0
         ·have hkk:(decide (b1=1)||decide (b1=2)&&decide (a1≠0))=false:=by simp[f2,e0]
          rw[hkk,Bool.false_and] at hok
          rw[hok,Bool.false_and]
          (have fct:=And.intro (eq_false f1) (And.intro f2 (e0));(repeat' (first
  |refine gF ?_|refine aE ?_ ?_
  |apply  trivial));all_goals clear fct)
         ·have hkk:(decide (b1=1)||decide (b1=2)&&decide (a1≠0))=true:=by simp[f2,e0]
          rw[hkk,Bool.true_and] at hok
          (have fct:=And.intro (eq_false f1) (And.intro f2 ((eq_false e0)));(repeat' (first
  |refine gF ?_|refine aE ?_ ?_
  |(((with_reducible show aL _ _);refine aL.mk (j+1) ⟨by omega,hok⟩ (by omega) ⟨⟨rfl,rfl⟩,⟨rfl,⟨rfl,rfl⟩,⟨rfl,rfl⟩,trivial,hs1,rfl,rfl,by show((j+1:Nat):Int)=(j:Int)+1;omega,trivial⟩,⟨⟨rfl,rfl,trivial⟩,trivial⟩,⟨⟨rfl,rfl,rfl,rfl,rfl,rfl,rfl,rfl,rfl,rfl,trivial⟩,trivial⟩,⟨.refl (mM _),mM _⟩,trivial⟩)<;>with_reducible refine wK ?_)
  |apply  trivial));all_goals clear fct)
        ·simp only[eq_false f1,eq_false f2,decide_false,Bool.false_and,Bool.or_false] at hok
         rw[hok,Bool.false_and]
         (have fct:=And.intro f1 (f2);(repeat' (first
  |refine gF ?_|refine aE ?_ ?_
  |apply trivial));all_goals clear fct)
      ·simp only[e6,eq_false e10,decide_true,decide_false,Bool.true_and,Bool.false_and] at hok
       rw[hok,Bool.false_and]
       (have fct:=And.intro e6 ((eq_false e10));(repeat' (first
  |refine gF ?_|refine aE ?_ ?_
  |((refine ay.mk i (aS _) rfl (aG hy) ?_)<;>with_reducible refine wK ?_)
  |apply trivial));all_goals clear fct)
     ·simp only[eq_false e6,decide_false,Bool.false_and] at hok
      rw[hok,Bool.false_and]
      (have fct:=(eq_false e6);(repeat' (first
  |refine gF ?_|refine aE ?_ ?_
  |((refine ay.mk i (aS _) rfl (aG hy) ?_)<;>with_reducible refine wK ?_)
  |apply trivial));all_goals clear fct)
 ·have hjl:j=a7.length:=by simp only[decide_eq_false_iff_not] at h1;omega
  rw[hjl,List.take_length,List.drop_length] at hok
  rw[hjl,List.take_length]
  rw[hok]
  simp only[jk,Bool.true_and]
  refine cL h56 IU ?_;with_reducible refine wK ?_
  by_cases e7:a7.length=0
  ·have e7':a7=[]:=List.eq_nil_of_length_eq_zero e7
   cases hh:o8 a1 with
   | false=>
     by_cases e0:a1=0
     ·(have fct:=And.intro hh (And.intro e0 (And.intro e7 (hlm)));(repeat' (first
  |refine gF ?_|refine aE ?_ ?_
  |apply trivial));all_goals clear fct)
      all_goals first|(simp[hh,e0,e7'];done)|((try simp only[aF]);simp[hh,e0,e7'];omega)
     ·(have fct:=And.intro hh (And.intro (eq_false e0) (And.intro e7 (hlm)));(repeat' (first
  |refine gF ?_|refine aE ?_ ?_
  | apply trivial));all_goals clear fct)
      all_goals first|(simp[hh,e0,e7'];done)|((try simp only[aF]);simp[hh,e0,e7'];omega)
   | true=>
     by_cases e0:a1=0
     ·(have fct:=And.intro hh (And.intro e0 (And.intro e7 (hlm)));(repeat' (first
  |refine gF ?_|refine aE ?_ ?_
  |apply trivial));all_goals clear fct)
      all_goals first|(simp[hh,e0,e7'];done)|((try simp only[aF]);simp[hh,e0,e7'];omega)
     ·(have fct:=And.intro hh (And.intro (eq_false e0) (And.intro e7 (hlm)));(repeat' (first
  |refine gF ?_|refine aE ?_ ?_
  |apply trivial));all_goals clear fct)
      all_goals first|(simp[hh,e0,e7'];done)|((try simp only[aF]);simp[hh,e0,e7'];omega)
  ·have e7':¬a7=[]:=fun h=>e7 (by rw[h];rfl)
   cases hh:o8 a1 with
   | false=>
     by_cases e0:a1=0
     ·(have fct:=And.intro hh (And.intro e0 (And.intro e7 (hlm)));(repeat' (first
  |refine gF ?_|refine aE ?_ ?_
  |apply trivial));all_goals clear fct)
      all_goals first|(simp[hh,e0,e7'];done)|((try simp only[aF]);simp[hh,e0,e7'];omega)
     ·(have fct:=And.intro hh (And.intro (eq_false e0) (And.intro e7 (hlm)));(repeat' (first
  |refine gF ?_|refine aE ?_ ?_
  | apply trivial));all_goals clear fct)
      all_goals first|(simp[hh,e0,e7'];done)|((try simp only[aF]);simp[hh,e0,e7'];omega)
   | true=>
     by_cases e0:a1=0
     ·(have fct:=And.intro hh (And.intro e0 (And.intro e7 (hlm)));(repeat' (first
  |refine gF ?_|refine aE ?_ ?_
  |apply trivial));all_goals clear fct)
      all_goals first|(simp[hh,e0,e7'];done)|((try simp only[aF]);simp[hh,e0,e7'];omega)
     ·(have fct:=And.intro hh (And.intro (eq_false e0) (And.intro e7 (hlm)));(repeat' (first
  |refine gF ?_|refine aE ?_ ?_
  |apply trivial));all_goals clear fct)
      all_goals first|(simp[hh,e0,e7'];done)|((try simp only[aF]);simp[hh,e0,e7'];omega)
theorem BT {α:Type}{p:Nat→α→Bool}{l:List α}{k:Nat}{x:α}(h:l[k]? =some x)(hp:p k x=false):s8 p 0 l=false:=by
 rw[Bool.eq_false_iff]
 intro h1
 have:=iz.1 h1 k x h
 rw[Nat.zero_add,hp] at this
 cases this
theorem zX {α:Type}{p:Nat→α→Bool}{l:List α}(h:∀k x,l[k]? =some x→p k x=true):s8 p 0 l=true:=
 iz.2 fun k x hx=>by rw[Nat.zero_add];exact h k x hx
theorem Bh (f:ForM)(hs:bS f.nodes):ah Tryz.prog 137 [] [cJ f] [] (aA (aV f)):=by
 have hl:=hs.len
 have h38:∀x∈f.nodes,ah Tryz.prog 138 [] [aS x] [] (aA (kF x)):=fun x hx=>ES x (by have:=hs.attrs x hx;omega)
 have h39:=Mw f
 have h40:=Mk f hs
 have h41:=LS f hs
 have h42:=Ky f
 have h43:(∀n,ak f.nodes n=true→cQ f.nodes n (nd f.nodes n)=true)→∀k,k<f.nodes.length→ah Tryz.prog 202 [] [cJ f,aq k] [] (aA (hG f.nodes f.nodes.length k)):=fun hN k hk=>MX f (by omega) (fun k x hx=>by have:=MR hN k (dj hx);rwa [cZ hx] at this) k hk
 obtain⟨l,m⟩:=f
 unfold aV wV
 simp only at hl h38 h39 h40 h41 h42 h43 ⊢
 have hlm:(l.map bZ).length=l.length:=List.length_map ..
 refine ah.af (rvs:=[.tmp 2]) G aa Tryz.func137 rfl Tryz.ntmps137 rfl rfl ?_;with_reducible refine wD ?_
 by_cases e1:m<1
 ·have c1:decide (1≤m)=false:=decide_eq_false (by omega)
  rw[c1]
  (have fct:=e1;(repeat' (first
  |refine gF ?_|refine aE ?_ ?_
  |apply trivial));all_goals clear fct)
  all_goals simp
 by_cases e2:400<m
 ·have c1:decide (m≤400)=false:=decide_eq_false (by omega)
  rw[c1]
  (have fct:=And.intro (eq_false e1) (e2);(repeat' (first
  |refine gF ?_|refine aE ?_ ?_
  |apply trivial));all_goals clear fct)
  all_goals simp
 by_cases e3:l.length<1
 ·have c1:decide (1≤l.length)=false:=decide_eq_false (by omega)
  have e3':(l.length:Int)<1:=by omega
  rw[c1]
  (have fct:=And.intro (eq_false e1) (And.intro (eq_false e2) (And.intro hlm (e3')));(repeat' (first
  |refine gF ?_|refine aE ?_ ?_
  |apply trivial));all_goals clear fct)
  all_goals simp
 have e3':¬ (l.length:Int)<1:=by omega
 by_cases e4:m< (l.length:Int)
 ·have c1:decide ((l.length:Int)≤m)=false:=decide_eq_false (by omega)
  rw[c1]
  (have fct:=And.intro (eq_false e1) (And.intro (eq_false e2) (And.intro hlm (And.intro (eq_false e3') (e4))));(repeat' (first
  |refine gF ?_|refine aE ?_ ?_
  |apply trivial));all_goals clear fct)
  all_goals simp
 obtain⟨x0,hx0⟩:∃x,l[0]? =some x:=⟨_,List.getElem?_eq_getElem (by omega)⟩
 have hn0:nd l 0=x0:=cZ (k:=0) hx0
 rw[hn0]
 obtain⟨z1,z2,z3,z4,z5,z6,z7,z8,z9,z10⟩:=x0
 by_cases e5:¬z1=0
 ·(have fct:=And.intro (eq_false e1) (And.intro (eq_false e2) (And.intro hlm (And.intro (eq_false e3') (And.intro (eq_false e4) ((eq_false e5))))));(repeat' (first
  |refine gF ?_|refine aE ?_ ?_
  |((refine ay.mk 0 (aS ⟨z1,z2,z3,z4,z5,z6,z7,z8,z9,z10⟩) rfl (aG hx0) ?_)<;>with_reducible refine wK ?_)
  |apply trivial));all_goals clear fct)
  all_goals simp[e5]
 have e5:=Decidable.not_not.1 e5
 have c1:(decide (1≤m)&&decide (m≤400)&&decide (1≤l.length)&&decide ((l.length:Int)≤m)&&decide (z1=0))=true:=by
  simp only[Bool.and_eq_true,decide_eq_true_eq];omega
 simp only at c1 ⊢
 rw[c1,Bool.true_and]
 (have fct:=And.intro (eq_false e1) (And.intro (eq_false e2) (And.intro hlm (And.intro (eq_false e3') (And.intro (eq_false e4) (e5)))));(repeat' (first
  |refine gF ?_|refine aE ?_ ?_
  |((refine ay.mk 0 (aS ⟨z1,z2,z3,z4,z5,z6,z7,z8,z9,z10⟩) rfl (aG hx0) ?_)<;>with_reducible refine wK ?_)
  |apply trivial));all_goals clear fct)
 refine aU.use G aa (fun(k:Nat)=>[(1,.ptr 10 0 0),(44,fk l),(45,aq l.length),(46,aq k)]) (fun _=>[(10,.live 2 [cJ ⟨l,m⟩] false)])
  (fun k=>k≤l.length∧∀j x,j<k→l[j]? =some x→cQ l j x=true) (fun k=>l.length-k) 0 ⟨Nat.zero_le _,fun j x h=>by omega⟩
  ⟨⟨rfl,rfl⟩,⟨⟨rfl,rfl⟩,rfl,by show(l.length:Int)=((l.map bZ).length:Int);rw[hlm],rfl,trivial⟩,⟨⟨rfl,rfl,trivial⟩,trivial⟩,trivial⟩ ?_
 rintro k ⟨hk,hok⟩
 with_reducible refine wK ?_
 refine bq.mk (fun g1=>?_) (fun g1=>?_)<;>(try simp only[aF] at g1)<;>with_reducible refine wK ?_
 ·have hk' : k<l.length:=by simp only[decide_eq_true_eq] at g1;omega
  obtain⟨x,hx⟩:∃x,l[k]? =some x:=⟨_,List.getElem?_eq_getElem hk'⟩
  have h38':=h38 x (List.mem_of_getElem? hx)
  have h39':=h39 k x hx
  have h40':=h40 k x hx
  have h41':=h41 k x hx
  have h42':=h42 k x hx
  have bad:cQ l k x=false→s8 (fun k x=>cQ l k x) 0 l=false:=fun h=>BT hx h
  have good:cQ l k x=true→∀j y,j<k+1→l[j]? =some y→cQ l j y=true:=fun h j y hj hy=>by
   rcases Nat.lt_or_ge j k with h6|h6
   ·exact hok j y h6 hy
   ·have:j=k:=by omega
    subst this
    rw[hx] at hy;cases hy;exact h
  obtain⟨a1,a2,a3,a4,a5,a6,a7,a8,a9,a10⟩:=x
  refine ay.mk k (aS _) rfl (aG hx) ?_;with_reducible refine wK ?_
  cases q1:kF ⟨a1,a2,a3,a4,a5,a6,a7,a8,a9,a10⟩ with
  | false=>
    rw[bad (by unfold cQ;rw[q1];rfl),Bool.false_and]
    (have fct:=q1;(repeat' (first
  |refine gF ?_|refine aE ?_ ?_
  |(((with_reducible refine kQ 138 ?_);refine cL h38' yC ?_)<;>with_reducible refine wK ?_)
  |apply trivial));all_goals clear fct)
  | true=>
    cases q2:uj l k ⟨a1,a2,a3,a4,a5,a6,a7,a8,a9,a10⟩ with
    | false=>
      rw[bad (by unfold cQ;rw[q1,q2];rfl),Bool.false_and]
      (have fct:=And.intro q1 (q2);(repeat' (first
  |refine gF ?_|refine aE ?_ ?_
  | ((first
   |((with_reducible refine kQ 138 ?_);refine cL h38' yC ?_)
   |((with_reducible refine kQ 198 ?_);refine cL h39' IE ?_))<;>with_reducible refine wK ?_)
  | apply trivial));all_goals clear fct)
    | true=>
      cases q3:qx l k ⟨a1,a2,a3,a4,a5,a6,a7,a8,a9,a10⟩ with
      | false=>
        rw[bad (by unfold cQ;rw[q1,q2,q3];rfl),Bool.false_and]
        (have fct:=And.intro q1 (And.intro q2 (q3));(repeat' (first
  |refine gF ?_|refine aE ?_ ?_
  | ((first
   |((with_reducible refine kQ 138 ?_);refine cL h38' yC ?_)
   |((with_reducible refine kQ 198 ?_);refine cL h39' IE ?_)
   |((with_reducible refine kQ 199 ?_);refine cL h40' LA ?_))<;>with_reducible refine wK ?_)
  |apply  trivial));all_goals clear fct)
      | true=>
        cases q4:oN l k ⟨a1,a2,a3,a4,a5,a6,a7,a8,a9,a10⟩ with
        | false=>
          rw[bad (by unfold cQ;rw[q1,q2,q3,q4];rfl),Bool.false_and]
          (have fct:=And.intro q1 (And.intro q2 (And.intro q3 (q4)));(repeat' (first
  |refine gF ?_|refine aE ?_ ?_
  | ((first
   |((with_reducible refine kQ 138 ?_);refine cL h38' yC ?_)
   |((with_reducible refine kQ 198 ?_);refine cL h39' IE ?_)
   |((with_reducible refine kQ 199 ?_);refine cL h40' LA ?_)
   |((with_reducible refine kQ 200 ?_);refine cL h41' NM ?_))<;>with_reducible refine wK ?_)
  |apply  trivial));all_goals clear fct)
        | true=>
          cases q5:jx l k ⟨a1,a2,a3,a4,a5,a6,a7,a8,a9,a10⟩ with
          | false=>
            rw[bad (by unfold cQ;rw[q1,q2,q3,q4,q5];rfl),Bool.false_and]
            (have fct:=And.intro q1 (And.intro q2 (And.intro q3 (And.intro q4 (q5))));(repeat' (first
  |refine gF ?_|refine aE ?_ ?_
  | ((first
   |((with_reducible refine kQ 138 ?_);refine cL h38' yC ?_)
   |((with_reducible refine kQ 198 ?_);refine cL h39' IE ?_)
   |((with_reducible refine kQ 199 ?_);refine cL h40' LA ?_)
   |((with_reducible refine kQ 200 ?_);refine cL h41' NM ?_)
   |((with_reducible refine kQ 201 ?_);refine cL h42' PF ?_))<;>with_reducible refine wK ?_)
  |apply  trivial));all_goals clear fct)
          | true=>
            have hnx:=good (by unfold cQ;rw[q1,q2,q3,q4,q5];rfl)
            (have fct:=And.intro q1 (And.intro q2 (And.intro q3 (And.intro q4 (q5))));(repeat' (first
  |refine gF ?_|refine aE ?_ ?_
  | ((first
   |((with_reducible refine kQ 138 ?_);refine cL h38' yC ?_)
   |((with_reducible refine kQ 198 ?_);refine cL h39' IE ?_)
   |((with_reducible refine kQ 199 ?_);refine cL h40' LA ?_)
   |((with_reducible refine kQ 200 ?_);refine cL h41' NM ?_)
   |((with_reducible refine kQ 201 ?_);refine cL h42' PF ?_)
   |((with_reducible show aL _ _);refine aL.mk (k+1) ⟨by omega,hnx⟩ (by omega) ⟨⟨rfl,rfl⟩,⟨⟨rfl,rfl⟩,rfl,rfl,by show((k+1:Nat):Int)=(k:Int)+1;omega,trivial⟩,⟨⟨rfl,rfl,trivial⟩,trivial⟩,trivial⟩))<;>with_reducible refine wK ?_)
  |apply trivial));all_goals clear fct)
 ·have hkl:k=l.length:=by simp only[decide_eq_false_iff_not] at g1;omega
  have hall:∀ (j:Nat) (x:au),l[j]? =some x→cQ l j x=true:=fun j x hx=>hok j x (by have:=(List.getElem?_eq_some_iff.1 hx).1;omega) hx
  rw[zX hall,Bool.true_and]
  have h43':=h43 fun n hn=>by
   obtain⟨k,x,rfl,hk,hx⟩:=bC.1 hn
   rw[hx];exact hall k x hk
  refine aU.use G aa (fun(k:Nat)=>[(1,.ptr 10 0 0),(82,aq l.length),(83,aq k)]) (fun _=>[(10,.live 2 [cJ ⟨l,m⟩] false)])
   (fun k=>k≤l.length∧∀ (j:Nat) (x:au),j<k→l[j]? =some x→hG l l.length j=true) (fun k=>l.length-k) 0 ⟨Nat.zero_le _,fun j x h=>by omega⟩
   ⟨⟨rfl,rfl⟩,⟨⟨rfl,rfl⟩,by show(l.length:Int)=((l.map bZ).length:Int);rw[hlm],rfl,trivial⟩,⟨⟨rfl,rfl,trivial⟩,trivial⟩,trivial⟩ ?_
  rintro i ⟨hi,hends⟩
  with_reducible refine wK ?_
  refine bq.mk (fun g2=>?_) (fun g2=>?_)<;>(try simp only[aF] at g2)<;>with_reducible refine wK ?_
  ·have hi':i<l.length:=by simp only[decide_eq_true_eq] at g2;omega
   obtain⟨y,hy⟩:∃y,l[i]? =some y:=⟨_,List.getElem?_eq_getElem hi'⟩
   have h43'':=h43' i hi'
   refine cL h43'' RJ ?_;with_reducible refine wK ?_
   cases q:hG l l.length i with
   | false=>
     rw[BT hy q]
     (have fct:=q;(repeat' (first
  |refine gF ?_|refine aE ?_ ?_
  | apply trivial));all_goals clear fct)
   | true=>
     (have fct:=q;(repeat' (first
  |refine gF ?_|refine aE ?_ ?_
  |(((with_reducible show aL _ _);refine aL.mk (i+1) ⟨by omega,fun j x hj hx=>?_⟩ (by omega) ⟨⟨rfl,rfl⟩,⟨⟨rfl,rfl⟩,rfl,by show((i+1:Nat):Int)=(i:Int)+1;omega,trivial⟩,⟨⟨rfl,rfl,trivial⟩,trivial⟩,trivial⟩)<;>with_reducible refine wK ?_)
  |apply trivial));all_goals clear fct)
     rcases Nat.lt_or_ge j i with h6|h6
     ·exact hends j x h6 hx
     ·have:j=i:=by omega
      rw[this];exact q
  ·have hil:i=l.length:=by simp only[decide_eq_false_iff_not] at g2;omega
   rw[zX fun j x hx=>hends j x (by have:=(List.getElem?_eq_some_iff.1 hx).1;omega) hx]
   (refine eK ?_ ?_<;>with_reducible repeat' (first|exact trivial|(show _∧_;refine aK ?_ ?_)))
theorem j7 (f:ForM)(hs:bS f.nodes):ah Tryz.prog 100 [] [cJ f] [] (aA (aV f)):=by
 have h23:=Bh f hs
 obtain⟨l,m⟩:=f
 refine ah.af (rvs:=[.tmp 2]) G aa Tryz.func100 rfl Tryz.ntmps100 rfl rfl ?_;with_reducible refine wD ?_
 refine cL h23 GH ?_;with_reducible refine wK ?_
 (refine eK ?_ ?_<;>with_reducible repeat' (first|exact trivial|(show _∧_;refine aK ?_ ?_)))
theorem aQ (l:List Int):aN (l.map bF)=true:=by
 rw[bL];intro x hx
 obtain⟨a,_,rfl⟩:=List.mem_map.1 hx
 rfl
theorem eG {m:ML}{fz:Nat→Bool}{ck:List (Nat×Nat)}{n t len:Nat}{ro:Bool}{rows:List AV}{l:List Int}(h1:ej m t=.live 1 rows ro)(h2:fz t=true)(h3:rows=l.map bF)(h4:len=l.length):nq m fz (MF ck fz m n) (bY l) t 0 len:=by
 subst h3;subst h4
 have e:(l.map bF).length=l.length:=List.length_map ..
 exact .cut h1 h2 (by omega) (by rw[List.drop_zero,List.take_of_length_le (by omega)]) (aQ l)
@[reducible] def gX (l : List Int) : MS := .live 1 (l.map bF) false
theorem En {l:List Int}{n c:Int}{k:Nat}(h:l[k]? =some c):(l.take (k+1)).count n=(l.take k).count n+if c=n then 1 else 0:=by
 rw[ik h,List.count_append,List.count_singleton]
 by_cases e:c=n<;>simp[e]
theorem IP (l:List Int)(hl:l.length≤100000)(n:Int):ah Tryz.prog 53 [] [bY l,aq n] [] (aq (l.count n)):=by
 have hlm:(l.map bF).length=l.length:=List.length_map ..
 refine ah.af (rvs:=[.tmp 4]) G aa Tryz.func53 rfl Tryz.ntmps53 rfl rfl ?_;with_reducible refine wD ?_
 refine aU.use G aa (fun(k:Nat)=>[(0,bY l),(1,aq n),(5,aq ((l.take k).count n)),(6,aq k)]) (fun _=>[]) (fun k=>k≤l.length) (fun k=>l.length-k) 0 (Nat.zero_le _)
  ⟨⟨rfl,rfl⟩,⟨rfl,rfl,rfl,rfl,trivial⟩,trivial⟩ ?_
 rintro k hk
 with_reducible refine wK ?_
 refine bq.mk (fun h1=>?_) (fun h1=>?_)<;>(try simp only[aF] at h1)<;>with_reducible refine wK ?_
 ·have hk':k<l.length:=by simp only[decide_eq_true_eq] at h1;omega
  obtain⟨c,hc⟩:∃a,l[k]? =some a:=⟨_,List.getElem?_eq_getElem hk'⟩
  have hst:=En (n:=n) hc
  have hle:(l.take k).count n≤k:=Nat.le_trans List.count_le_length (by simp;omega)
  refine ay.mk k (aq c) rfl (fZ hc) ?_;with_reducible refine wK ?_
  by_cases e:c=n
  ·rw[if_pos e] at hst
   (have fct:=e;(repeat' (first
  |refine gF ?_|refine aE ?_ ?_
  |(((with_reducible show aL _ _);refine aL.mk (k+1) (by omega) (by omega) ⟨⟨rfl,rfl⟩,⟨rfl,rfl,by show(((l.take (k+1)).count n:Nat):Int)=_;rw[hst];rfl,by show((k+1:Nat):Int)=(k:Int)+1;omega,trivial⟩,trivial⟩)<;>with_reducible refine wK ?_)
  |apply trivial));all_goals clear fct)
  ·rw[if_neg e] at hst
   (have fct:=(eq_false e);(repeat' (first
  |refine gF ?_|refine aE ?_ ?_
  |(((with_reducible show aL _ _);refine aL.mk (k+1) (by omega) (by omega) ⟨⟨rfl,rfl⟩,⟨rfl,rfl,by show(((l.take (k+1)).count n:Nat):Int)=_;rw[hst];simp,by show((k+1:Nat):Int)=(k:Int)+1;omega,trivial⟩,trivial⟩)<;>with_reducible refine wK ?_)
  |apply trivial));all_goals clear fct)
 ·(refine eK ?_ ?_<;>with_reducible repeat' (first|exact trivial|(show _∧_;refine aK ?_ ?_)))
  have:k=l.length:=by simp only[decide_eq_false_iff_not] at h1;omega
  rw[this,List.take_length]
def rI (x:au):Bool:=decide (x.kids.length≤60)&&decide (x.attrs.length≤60)&&decide (x.name.size≤300)
theorem H8 (f:ForM):pq f=(decide (f.nodes.length≤60)&&f.nodes.all rI):=rfl
theorem qY {α:Type}{p:α→Bool}{l:List α}{k:Nat}{x:α}(h:l[k]? =some x)(hp:p x=false):l.all p=false:=by
 rw[Bool.eq_false_iff]
 intro h1
 rw[List.all_eq_true] at h1
 rw[h1 x (List.mem_of_getElem? h)] at hp;cases hp
theorem mV {α:Type}{p:α→Bool}{l:List α}(h:∀ (k:Nat) (x:α),l[k]? =some x→p x=true):l.all p=true:=by
 rw[List.all_eq_true]
 intro x hx
 obtain⟨k,hk⟩:=List.getElem?_of_mem hx
 exact h k x hk
theorem Og (f:ForM):ah Tryz.prog 17 [] [cJ f] [] (aA (pq f)):=by
 rw[H8]
 obtain⟨l,m⟩:=f
 simp only
 have hlm:(l.map bZ).length=l.length:=List.length_map ..
 refine ah.af (rvs:=[.tmp 2]) G aa Tryz.func17 rfl Tryz.ntmps17 rfl rfl ?_;with_reducible refine wD ?_
 by_cases e0:(60:Int)< (l.length:Int)
 ·rw[decide_eq_false (show ¬l.length≤60 by omega)]
  (have fct:=And.intro hlm (e0);(repeat' (first
  |refine gF ?_|refine aE ?_ ?_
  |apply trivial));all_goals clear fct)
  all_goals rfl
 rw[decide_eq_true (show l.length≤60 by omega),Bool.true_and]
 (have fct:=And.intro hlm ((eq_false e0));(repeat' (first
  |refine gF ?_|refine aE ?_ ?_
  |apply trivial));all_goals clear fct)
 refine aU.use G aa (fun(k:Nat)=>[(1,.ptr 10 0 0),(3,aq k)]) (fun _=>[(10,.live 2 [cJ ⟨l,m⟩] false)])
  (fun k=>k≤l.length∧∀ (j:Nat) (y:au),j<k→l[j]? =some y→rI y=true) (fun k=>l.length-k) 0 ⟨Nat.zero_le _,fun j y h=>by omega⟩
  ⟨⟨rfl,rfl⟩,⟨⟨rfl,rfl⟩,rfl,trivial⟩,⟨⟨rfl,rfl,trivial⟩,trivial⟩,trivial⟩ ?_
 rintro k ⟨hk,hok⟩
 with_reducible refine wK ?_
 refine bq.mk (fun h1=>?_) (fun h1=>?_)<;>(try simp only[aF] at h1)<;>with_reducible refine wK ?_
 ·have hk':k<l.length:=by simp only[decide_eq_true_eq] at h1;omega
  obtain⟨x,hx⟩:∃x,l[k]? =some x:=⟨_,List.getElem?_eq_getElem hk'⟩
  have bad:rI x=false→l.all rI=false:=fun h=>qY hx h
  have good:rI x=true→∀ (j:Nat) (y:au),j<k+1→l[j]? =some y→rI y=true:=fun h j y hj hy=>by
   rcases Nat.lt_or_ge j k with h6|h6
   ·exact hok j y h6 hy
   ·have:j=k:=by omega
    subst this
    rw[hx] at hy;cases hy;exact h
  obtain⟨a1,a2,a3,a4,a5,a6,a7,a8,a9,a10⟩:=x
  have hla:(a5.map eN).length=a5.length:=List.length_map ..
  have hlk:(a7.map bF).length=a7.length:=List.length_map ..
  have sm:rI ⟨a1,a2,a3,a4,a5,a6,a7,a8,a9,a10⟩=(decide (a7.length≤60)&&decide (a5.length≤60)&&decide (a2.size≤300)):=rfl
  rw[sm] at bad good
  refine ay.mk k (aS _) rfl (aG hx) ?_;with_reducible refine wK ?_
  by_cases e1:(60:Int)< (a7.length:Int)
  ·rw[bad (by rw[decide_eq_false (show ¬a7.length≤60 by omega)];rfl)]
   (have fct:=And.intro hlk (e1);(repeat' (first
  |refine gF ?_|refine aE ?_ ?_
  |apply trivial));all_goals clear fct)
  by_cases e2:(60:Int)< (a5.length:Int)
  ·rw[bad (by rw[decide_eq_false (show ¬a5.length≤60 by omega),Bool.and_false];rfl)]
   (have fct:=And.intro hlk (And.intro hla (And.intro (eq_false e1) (e2)));(repeat' (first
  |refine gF ?_|refine aE ?_ ?_
  |((refine ay.mk k (aS _) rfl (aG hx) ?_)<;>with_reducible refine wK ?_)
  |apply trivial));all_goals clear fct)
  by_cases e3:(300:Int)< (a2.size:Int)
  ·rw[bad (by rw[decide_eq_false (show ¬a2.size≤300 by omega),Bool.and_false])]
   (have fct:=And.intro hlk (And.intro hla (And.intro (eq_false e1) (And.intro (eq_false e2) (e3))));(repeat' (first
  |refine gF ?_|refine aE ?_ ?_
  |((refine ay.mk k (aS _) rfl (aG hx) ?_)<;>with_reducible refine wK ?_)
  |apply trivial));all_goals clear fct)
  have hnx:=good (by simp only[Bool.and_eq_true,decide_eq_true_eq];omega)
  (have fct:=And.intro hlk (And.intro hla (And.intro (eq_false e1) (And.intro (eq_false e2) ((eq_false e3)))));(repeat' (first
  |refine gF ?_|refine aE ?_ ?_
  | ((first
   |(refine ay.mk k (aS _) rfl (aG hx) ?_)
   |((with_reducible show aL _ _);refine aL.mk (k+1) ⟨by omega,hnx⟩ (by omega) ⟨⟨rfl,rfl⟩,⟨⟨rfl,rfl⟩,by show((k+1:Nat):Int)=(k:Int)+1;omega,trivial⟩,⟨⟨rfl,rfl,trivial⟩,trivial⟩,trivial⟩))<;>with_reducible refine wK ?_)
  |apply trivial));all_goals clear fct)
 ·have hkl:k=l.length:=by simp only[decide_eq_false_iff_not] at h1;omega
  rw[mV fun j y hy=>hok j y (by have:=(List.getElem?_eq_some_iff.1 hy).1;omega) hy]
  (refine eK ?_ ?_<;>with_reducible repeat' (first|exact trivial|(show _∧_;refine aK ?_ ?_)))
theorem J4 {P:Program}{N nL:Nat}{sl:SL}{m:ML}{c:Code}{Q:Exit→SL→ML→Prop}{F G:Prop}(main:(F→aU P N nL sl m (c:=c) (Q:=Q))→G)(rest:F→aU P N nL sl m (c:=c) (Q:=Q)):G:=main rest

theorem Fa (g:Nat)(cg:ae Tryz.prog g)(caps:List AV)(hcaps:aN caps=true)(p:Int→Bool)(l:List Int)(hl:l.length≤100000)(hf:∀a,a∈l→ah Tryz.prog g [] (aq a::caps) [] (aA (p a))):
  ah Tryz.prog 268 [] [bY l,.clo (.func g) [] caps] [] (aq (gh p l)):=by
 have hlm:(l.map bF).length=l.length:=List.length_map ..
 refine ah.af (rvs:=[.tmp 4]) G aa Tryz.func268 rfl Tryz.ntmps268 rfl rfl ?_;with_reducible refine wD ?_
 refine aU.use G aa (fun(k:Nat)=>[(0,bY l),(1,.clo (.func g) [] caps),(7,aq l.length),(8,aq k)]) (fun _=>[]) (fun k=>k≤l.length∧∀j x,j<k→l[j]? =some x→p x=false) (fun k=>l.length-k) 0 ⟨Nat.zero_le _,fun j x h=>by omega⟩
  ⟨⟨rfl,rfl⟩,⟨rfl,⟨rfl,trivial,aD hcaps⟩,by show(l.length:Int)=((l.map bF).length:Int);rw[hlm],rfl,trivial⟩,trivial⟩ ?_
 rintro k ⟨hk,hno⟩
 with_reducible refine wK ?_
 refine bq.mk (fun h1=>?_) (fun h1=>?_)<;>(try simp only[aF] at h1)<;>with_reducible refine wK ?_
 ·simp only[decide_eq_true_eq] at h1
  have hk':k<l.length:=by omega
  obtain⟨a,ha⟩:∃a,l[k]? =some a:=⟨_,List.getElem?_eq_getElem hk'⟩
  refine ay.mk k (aq a) rfl (fZ ha) ?_;with_reducible refine wK ?_
  refine aj.lit [] (hf a (List.mem_of_getElem? ha)) cg ⟨rfl,aD hcaps⟩ rfl rfl ?_;with_reducible refine wK ?_
  refine bq.mk (fun h2=>?_) (fun h2=>?_)<;>(try simp only[aF] at h2)<;>with_reducible refine wK ?_
  ·(refine eK ?_ ?_<;>with_reducible repeat' (first|exact trivial|(show _∧_;refine aK ?_ ?_)))
   exact fD ha h2 hno
  ·refine nK ?_;with_reducible refine wK ?_
   refine aL.mk (k+1) ⟨by omega,fun j x hj hx=>?_⟩ (by omega) ⟨⟨rfl,rfl⟩,⟨rfl,⟨rfl,trivial,aD hcaps⟩,rfl,by show((k+1:Nat):Int)=(k:Int)+1;omega,trivial⟩,trivial⟩
   rcases Nat.lt_or_ge j k with h6|h6
   ·exact hno j x h6 hx
   ·have:j=k:=by omega
    subst this
    rw[ha] at hx;cases hx;exact h2
 ·(refine eK ?_ ?_<;>with_reducible repeat' (first|exact trivial|(show _∧_;refine aK ?_ ?_)))
  have:k=l.length:=by simp only[decide_eq_false_iff_not] at h1;omega
  exact ei fun j x hx=>hno j x (by have:=(List.getElem?_eq_some_iff.1 hx).1;omega) hx
theorem LX (f:ForM)(c:Int)(hc:ak f.nodes c=true):ah Tryz.prog 269 [] [aq c,.fptr (cJ f) 0] [] (aA (Cd f.nodes c)):=by
 obtain⟨k,x,rfl,hx,hnd⟩:=bC.1 hc
 obtain⟨l,m⟩:=f
 unfold Cd
 simp only at hx hnd ⊢
 rw[hnd]
 obtain⟨a1,a2,a3,a4,a5,a6,a7,a8,a9,a10⟩:=x
 refine ah.af (rvs:=[.tmp 3]) G aa Tryz.func269 rfl Tryz.ntmps269 rfl rfl ?_;with_reducible refine wD ?_
 refine ay.mk k (aS _) rfl (aG hx) ?_;with_reducible refine wK ?_
 by_cases e1:a1=1
 ·(have fct:=e1;(repeat' (first
  |refine gF ?_|refine aE ?_ ?_
  |((refine ay.mk k (aS _) rfl (aG hx) ?_)<;>with_reducible refine wK ?_)
  |apply trivial));all_goals clear fct)
  all_goals simp[e1]
 ·(have fct:=(eq_false e1);(repeat' (first
  |refine gF ?_|refine aE ?_ ?_
  |apply trivial));all_goals clear fct)
  all_goals simp[e1]
theorem KQ (f:ForM)(hs:bS f.nodes)(k:Nat)(x:au)(hx:f.nodes[k]? =some x)(hkids:∀c∈x.kids,ak f.nodes c=true):ah Tryz.prog 254 [] [cJ f,aq k] [] (aq (Dl f.nodes k)):=by
 have h7:=hs.kids x (List.mem_of_getElem? hx)
 have h35:=fun c hc=>LX f c (hkids c hc)
 obtain⟨l,m⟩:=f
 unfold Dl Nc
 simp only at hx h7 hkids h35 ⊢
 rw[cZ hx]
 obtain⟨a1,a2,a3,a4,a5,a6,a7,a8,a9,a10⟩:=x
 simp only at h7 hkids h35 ⊢
 refine ah.af (rvs:=[.tmp 4]) G aa Tryz.func254 rfl Tryz.ntmps254 rfl rfl ?_;with_reducible refine wD ?_
 refine ay.mk k (aS _) rfl (aG hx) ?_;with_reducible refine wK ?_
 refine aj.lit [20] (Fa 269 RN [.fptr (cJ ⟨l,m⟩) 0] rfl (Cd l) a7 (by omega) h35) Pz ⟨rfl,⟨rfl,trivial,⟨_,_,_,_,_,rfl,rfl,rfl,rfl,rfl,⟨rfl,rfl,trivial⟩⟩,trivial⟩,trivial⟩ rfl rfl ?_;with_reducible refine wK ?_
 rcases w6 (Cd l) a7 with h|⟨i,c,h,hi,_⟩
 ·rw[h]
  (have fct:=h;(repeat' (first
  |refine gF ?_|refine aE ?_ ?_
  |apply trivial));all_goals clear fct)
  all_goals simp
 ·rw[h]
  (have fct:=h;(repeat' (first
  |refine gF ?_|refine aE ?_ ?_
  |((refine ay.mk i (aq c) rfl (fZ hi) ?_)<;>with_reducible refine wK ?_)
  |apply trivial));all_goals clear fct)
  all_goals simp[hi]
theorem Mq (x:au)(hx:x.attrs.length≤100000):ah Tryz.prog 253 [] [aS x] [] (aA (qJ x)):=by
 have h14:=AJ x.attrs hx Pp
 unfold qJ
 obtain⟨a1,a2,a3,a4,a5,a6,a7,a8,a9,a10⟩:=x
 simp only at h14 hx ⊢
 refine ah.af (rvs:=[.tmp 2]) G aa Tryz.func253 rfl Tryz.ntmps253 rfl rfl ?_;with_reducible refine wD ?_
 refine cL h14 Ju ?_;with_reducible refine wK ?_
 by_cases e1:a1=1
 ·(have fct:=e1;(repeat' (first
  |refine gF ?_|refine aE ?_ ?_
  |apply trivial));all_goals clear fct)
  all_goals simp[e1]
 ·(have fct:=(eq_false e1);(repeat' (first
  |refine gF ?_|refine aE ?_ ?_
  |apply trivial));all_goals clear fct)
  all_goals simp[e1]
theorem MG (f:ForM)(n:Int):ah Tryz.prog 277 [] [aq n,.fptr (cJ f) 0] [] (aA (!ak f.nodes n)):=by
 have h49:=vG f n
 obtain⟨l,m⟩:=f
 simp only at h49 ⊢
 refine ah.af (rvs:=[.tmp 3]) G aa Tryz.func277 rfl Tryz.ntmps277 rfl rfl ?_;with_reducible refine wD ?_
 refine cL h49 Ao ?_;with_reducible refine wK ?_
 (refine eK ?_ ?_<;>with_reducible repeat' (first|exact trivial|(show _∧_;refine aK ?_ ?_)))
 all_goals rfl
theorem Fj (g:Nat)(cg:ae Tryz.prog g)(caps:List AV)(hcaps:aN caps=true)(p:Int→Bool)(l:List Int)(hl:l.length≤100000)(hf:∀a,a∈l→ah Tryz.prog g [] (aq a::caps) [] (aA (p a))):
  ah Tryz.prog 260 [] [bY l,.clo (.func g) [] caps] [] (aA (decide (0≤gh p l))):=by
 have h34:=Fa g cg caps hcaps p l hl hf
 refine ah.af (rvs:=[.tmp 4]) G aa Tryz.func260 rfl Tryz.ntmps260 rfl rfl ?_;with_reducible refine wD ?_
 refine aj.lit [] h34 Pz ⟨rfl,⟨rfl,trivial,aD hcaps⟩,trivial⟩ rfl rfl ?_;with_reducible refine wK ?_
 (refine eK ?_ ?_<;>with_reducible repeat' (first|exact trivial|(show _∧_;refine aK ?_ ?_)))
 all_goals rfl
theorem Ba (f:ForM)(hs:bS f.nodes)(l:List Int)(hl:l.length≤100000):ah Tryz.prog 266 [] [cJ f,bY l] [] (aA (aV f&& !decide (0≤gh (fun n=> !ak f.nodes n) l))):=by
 have h23:=Bh f hs
 have h47:=Fj 277 Rd [.fptr (cJ f) 0] rfl (fun n=> !ak f.nodes n) l hl (fun a _=>MG f a)
 obtain⟨ns,m⟩:=f
 simp only at h23 h47 ⊢
 refine ah.af (rvs:=[.tmp 4]) G aa Tryz.func266 rfl Tryz.ntmps266 rfl rfl ?_;with_reducible refine wD ?_
 refine cL h23 GH ?_;with_reducible refine wK ?_
 cases hr:aV ⟨ns,m⟩ with
 | false=>
   (have fct:=hr;(repeat' (first
  |refine gF ?_|refine aE ?_ ?_
  | apply trivial));all_goals clear fct)
   all_goals rfl
 | true=>
   refine bq.tt ?_;with_reducible refine wK ?_
   refine aj.lit [50] h47 OL ⟨rfl,⟨rfl,trivial,⟨_,_,_,_,_,rfl,rfl,rfl,rfl,rfl,⟨rfl,rfl,trivial⟩⟩,trivial⟩,trivial⟩ rfl rfl ?_;with_reducible refine wK ?_
   (refine eK ?_ ?_<;>with_reducible repeat' (first|exact trivial|(show _∧_;refine aK ?_ ?_)))
   all_goals rfl
end Go.Proofs.Heir
namespace Go.Proofs.Heir
open Go Go.Am Go.RowKit Go.Shelf
set_option maxRecDepth 100000
set_option maxHeartbeats 8000000
theorem Kt {Wn:Nat→Prop}{μ:Mu}{W:World}{l:List Int}{b o:Nat}(h:cq Wn μ W (.fptr (.sl 1 (l.map bF)) 0) (.pointer (some ⟨b,o,none⟩))):
  ∃ad cap,W.cell? ⟨b,o,none⟩=some (.slice ad l.length cap)∧l.length≤cap∧∀ (j:Nat) (x:Int),l[j]? =some x→∃b2 o2,ad=some ⟨b2,o2,none⟩∧W.cell? ⟨b2,o2+j,none⟩=some (.int .i64 x):=by
 generalize hv:Value.pointer (some ⟨b,o,none⟩)=v at h
 cases h with
 | @fptr _ _ b' o' f h1 h2 h3 h4 h5=>
   cases hv
   have k3:=h3 0 _ rfl
   have k4:=h4 0 _ rfl
   rw[Nat.add_zero] at k3
   rw[Nat.add_zero,k3]
   generalize f 0=s at k4
   cases hl:l with
   | nil=>
     subst hl
     cases k4 with
     |slNil=>exact⟨_,_,rfl,Nat.zero_le _,fun j x h=>by simp at h⟩
     |sl a1 a2 a3 a4 a5 a6 a7 a8=>subst a3;exact⟨_,_,rfl,Nat.zero_le _,fun j x h=>by simp at h⟩
   | cons y r=>
     rw[←hl]
     generalize hrows:l.map bF=rows at k4
     have hne:rows≠ []:=by rw[←hrows,hl];simp
     cases k4 with
     |slNil=>exact absurd rfl hne
     | sl a1 a2 a3 a4 a5 a6 a7 a8=>
       subst a3
       have hlen:rows.length=l.length:=by rw[←hrows];simp
       refine⟨_,_,by rw[hlen],by rw[←hlen];exact a4,fun j x hx=>⟨_,_,rfl,?_⟩⟩
       have hr:rows[j]? =some (bF x):=by rw[←hrows,List.getElem?_map,hx];rfl
       have hq:=dP (wd:=1) (fun i r hr=>a5 i r hr) hr (show(cells (bF x))[0]? =some (bF x) from rfl)
       rw[Nat.mul_one,Nat.add_zero] at hq
       have c1:=a6 j _ hq
       have c2:=a7 j _ hq
       have one:∀v,cq Wn μ W (bF x) v→v=.int .i64 x:=by intro v hv;unfold bF at hv;cases hv;rfl
       rw[c1,one _ c2]
theorem Lp (l:List Int)(hl:l.length≤100000):Dd Tryz.prog 283 [.fptr (.sl 1 (l.map bF)) 0] l.length (fun k=>[bF ((l.length:Int)-1-k),bF ((l.reverse[k]?).getD 0)]):=by
 intro vals y J Jx hJ hJm hJxm _ hY Wn w h0
 obtain⟨⟨μ,hr⟩,_⟩:=hJ 0 Wn w h0
 obtain⟨vb,us,rfl,hvb,hus⟩:=bT.oe hr
 obtain rfl:=bT.Fw hus
 obtain⟨b,o,rfl⟩:∃b o,vb=.pointer (some ⟨b,o,none⟩):=by cases hvb;exact⟨_,_,rfl⟩
 have box:∀k Wn W,J k Wn W→∃ad cap,W.cell? ⟨b,o,none⟩=some (.slice ad l.length cap)∧l.length≤cap∧∀ (j:Nat) (x:Int),l[j]? =some x→∃b2 o2,ad=some ⟨b2,o2,none⟩∧W.cell? ⟨b2,o2+j,none⟩=some (.int .i64 x):=by
  intro k Wn W hJk
  obtain⟨⟨μ,hr⟩,_⟩:=hJ k Wn W hJk
  obtain⟨v1,us,e,hv1,_⟩:=bT.oe hr
  cases e
  exact Kt hv1
 refine(callsIn_wide (n:=1)).1 ?_
 refine callsIn_of_wp Tryz.func283 rfl trivial ?_ rfl
 simp only[Tryz.ntmps283,List.size_toArray,List.length_cons,List.length_nil,Nat.reduceAdd,Nat.reduceSub,Array.replicate_succ,Array.replicate_zero,List.push_toArray,List.append_toArray,List.nil_append,List.cons_append]
 obtain⟨ad,cap,hbx,hcap,hel⟩:=box 0 Wn w h0
 gi_wp2
 gi_loopw [3] (fun i wr=> ∃k:Nat,k≤l.length∧i=.int .i64 ((l.length:Int)-1-k)∧∃Wn,J k Wn wr) (fun i _=>(intOf i+1).toNat)
 case atStart=>exact⟨0,Nat.zero_le _,by simp,Wn,h0⟩
 case round=>
  obtain⟨k,hk,rfl,Wn',hJk⟩:=hrel
  obtain⟨ad',cap',hbx',hcap',hel'⟩:=box k Wn' wr hJk
  by_cases hlt:k<l.length
  ·have hix:l.length-1-k<l.length:=by omega
   obtain⟨b2,o2,rfl,hcx⟩:=hel' (l.length-1-k) l[l.length-1-k] (List.getElem?_eq_getElem hix)
   have hrev:(l.reverse[k]?).getD 0=l[l.length-1-k]:=by
    rw[List.getElem?_eq_getElem (by simpa using hlt)];simp
   obtain⟨fn,tmps,assign,body,hy,hR⟩:=hY k Wn' wr [.int .i64 ((l.length:Int)-1-k),.int .i64 (l[l.length-1-k])] hlt hJk (fun _ _ _=>by rw[hrev];exact .cons .lit (.cons .lit .nil))
   have hz:((l.length:Int)-1-k).toNat=l.length-1-k:=by omega
   gi_wp2
   refine hR.mono ?_
   rintro e W3 (⟨rfl,Wn3,hJ3,_⟩|⟨rfl,hJx3⟩)
   ·gi_wp2
    go_roundw
    case rel=>exact⟨k+1,by omega,by congr 1;omega,Wn3,hJ3⟩
    case measure=>simp[intOf];omega
   ·gi_wp2
    refine bodyPost_ret (results_none rfl _ _ _) rfl ?_
    exact⟨⟨_,rfl⟩,.inr hJx3⟩
  ·obtain rfl:k=l.length:=by omega
   gi_wp2
   go_end0
   exact⟨⟨_,rfl⟩,.inl ⟨_,hJk⟩⟩
end Go.Proofs.Heir
namespace Go.Proofs.Heir
open Go Go.Am Go.RowKit Go.Lib
set_option maxRecDepth 100000
set_option maxHeartbeats 8000000
theorem KL (f:ForM)(n:Int):ah Tryz.prog 259 [] [aq n,.fptr (cJ f) 0] [] (aA (!ak f.nodes n)):=by
 obtain⟨l,m⟩:=f
 have hlm:(l.map bZ).length=l.length:=List.length_map ..
 refine ah.af (rvs:=[.tmp 3]) G aa Tryz.func259 rfl Tryz.ntmps259 rfl rfl ?_;with_reducible refine wD ?_
 repeat' (first
  |refine pK ?_|refine aE ?_ ?_
  | ((first
   |((with_reducible show bq _ _ _ _);(refine bq.mk (fun hp=>?_) (fun hp=>?_)<;>(try simp only[aF,decide_eq_true_eq,decide_eq_false_iff_not,Bool.not_eq_true',Bool.not_eq_false',Decidable.not_not,Int.not_lt,Int.not_le] at hp))))<;>with_reducible refine wK ?_)
  |apply trivial)
 ·unfold ak;rw[decide_eq_false (show ¬0≤n by omega)];rfl
 ·unfold ak;rw[decide_eq_true hp,hlm,Bool.true_and,←decide_not]
  exact decide_eq_decide.2 Int.not_lt
theorem K6 (f:ForM)(hs:bS f.nodes)(l:List Int)(hl:l.length≤100000):ah Tryz.prog 235 [] [cJ f,bY l] [] (aA (aV f&& !decide (0≤gh (fun n=> !ak f.nodes n) l))):=by
 have h48:=j7 f hs
 have h106:=Fj 259 QN [.fptr (cJ f) 0] rfl (fun n=> !ak f.nodes n) l hl (fun a _=>KL f a)
 obtain⟨ns,m⟩:=f
 simp only at h48 h106 ⊢
 refine ah.af (rvs:=[.tmp 4]) G aa Tryz.func235 rfl Tryz.ntmps235 rfl rfl ?_;with_reducible refine wD ?_
 refine cL h48 mT ?_;with_reducible refine wK ?_
 cases h0:aV ⟨ns,m⟩ with
 | false=>
   repeat' (first
  |refine gK ?_|refine aE ?_ ?_
  | apply trivial)
   all_goals rfl
 | true=>
   repeat' (first
  |refine gK ?_|refine aE ?_ ?_
  | apply trivial)
   refine aj.lit [20] h106 OL ⟨rfl,⟨rfl,trivial,⟨_,_,_,_,_,rfl,rfl,rfl,rfl,rfl,⟨rfl,rfl,trivial⟩⟩,trivial⟩,trivial⟩ rfl rfl ?_;with_reducible refine wK ?_
   repeat' (first
  |refine gK ?_|refine aE ?_ ?_
  | apply trivial)
   all_goals rfl
theorem MP (l:List Int):ah Tryz.prog 276 [] [bY l] [] (.clo (.func 283) [] [.fptr (bY l) 0]):=by
 refine ah.af (rvs:=[.tmp 2]) G aa Tryz.func276 rfl Tryz.ntmps276 rfl rfl ?_;with_reducible refine wD ?_
 refine⟨⟨rfl,rfl⟩,⟨rfl,trivial,⟨_,_,_,_,_,rfl,rfl,rfl,rfl,rfl,rfl⟩,trivial⟩,?_⟩
 exact trivial

end Go.Proofs.Heir
namespace Go.Proofs.Heir
open Go Go.Am Go.RowKit Go.Shelf
set_option maxRecDepth 100000
set_option maxHeartbeats 8000000

theorem ah.at {P:Program}{f:FuncId}{args:List AV}{vs:List Value}{res:AV}{w:World}{Wn:Nat→Prop}{μ:Mu}(h:ah P f [] args [] res)(ha:aN args=true)(hr:bj res=true)(hv:bT Wn μ w args vs)(hlt:∀b,Wn b→b<w.heap.size)(ht:k7 P w fun _=>none):
  Calls P f vs.toArray w fun e w'=> ∃v μ',e=.returned v∧jF w w'∧cq Wn μ' w' res v:=by
 have hW:∀b,Wr Wn (fun _=>none) (aO []) b→Wn b:=by
  rintro b (h|⟨t,B,wd,rows,_,h,_⟩)
  ·exact h
  ·cases h
 have hs:bW P 0 w Wn (fun _=>none) (fun _=>none) (bare []) mC w:=by
  refine⟨rfl,.nil,rfl,rfl,rfl,Nat.le_refl _,fun _ _ _ h=>h,fun _ _ _=>rfl,hlt,fun _ _ _ h=>h,fun t=>by simp[bare,aO],fun _=>.any,fun t wd rows ro h=>?_,fun t t' wd rows wd' rows' ro' B B' _ h=>?_,fun t wd rows ro B h=>?_,ht⟩<;>simp[bare,aO] at h
 refine(h w Wn (fun _=>none) vs (fun _ _=>rfl) hs ?_).mono ?_
 ·exact⟨hv.1,fun j c v hc hv'=>(hv.2 j c v hc hv').bj (fun b _ hb=>hW b hb) (bL.1 ha c (List.mem_of_getElem? hc))⟩
 rintro e w' ⟨v,μ',rfl,hs',hv'⟩
 refine⟨v,μ',rfl,⟨hs'.os,hs'.tape,hs'.output,hs'.hsize,fun b hb=>hs'.keep b hb ?_⟩,hv'.bj (fun b _ hb=>.inl hb) hr⟩
 rintro⟨t,B,h,_⟩
 cases h
theorem NK {Wn:Nat→Prop}{μ:Mu}{W:World}{wd:Nat}{rows:List AV}{v:Value}(h:cq Wn μ W (.sl wd rows) v):∃a n c,v=.slice a n c:=by
 cases h<;>exact⟨_,_,_,rfl⟩
end Go.Proofs.Heir
namespace Go.Proofs.Heir
open Go Go.Am Go.RowKit Go.Lib
set_option maxRecDepth 100000
set_option maxHeartbeats 8000000
structure bD where
 name:ByteArray
 locl:ByteArray
 cls:Int
 deriving DecidableEq
structure nU where
 name:ByteArray
 ticket:Int
 deriving DecidableEq
structure aZ where
 defs:List bD
 waits:List nU
 next:Int
 busy:Bool
 deriving DecidableEq
def sR (s:ByteArray):Bool:=xE lH s
def El (x:bD):Bool:=decide (x.locl=x.name)||sR x.locl
def gW (x:bD):Bool:=cK x.name&&El x&&decide (0≤x.cls)&&decide (x.cls<12)
def NJ (s:ByteArray)(x:bD):Bool:=decide (x.name=s)
def HU (c:Int)(x:bD):Bool:=decide (x.cls=c)
def Kv {α:Type}(p:α→Bool)(l:List α):Int:=match l.findIdx? p with
 |some k=>(k:Int)
 |none=> -1
def AQ (l:List bD)(s:ByteArray):Int:=Kv (NJ s) l
def BE (l:List bD)(c:Int):Int:=Kv (HU c) l
def okW (l:List bD)(next:Int)(w:nU)(last:Int):Bool:=cK w.name&&decide (AQ l w.name=-1)&&decide (last<w.ticket)&&decide (w.ticket<next)
def oP (l:List bD)(next:Int):Int→List nU→Bool
 |_,[]=>true
 |last,w::r=>okW l next w last&&oP l next w.ticket r
def fO (l:List bD):Bool:=l.all gW&&decide ((l.map bD.name).Nodup)&&decide ((l.map bD.cls).Nodup)
def eW (d:aZ):Bool:=fO d.defs&&oP d.defs d.next (-1) d.waits&&decide (0≤d.next)&&decide (d.next≤100000)
theorem jn {α:Type}(p:α→Bool)(l:List α):(Kv p l=-1∧∀a∈l,p a=false)∨∃ (k:Nat) (a:α),Kv p l=k∧l[k]? =some a∧p a=true∧∀ (j:Nat) (b:α),j<k→l[j]? =some b→p b=false:=by
 unfold Kv
 cases h:l.findIdx? p with
 |none=>exact .inl ⟨rfl,by simpa using h⟩
 | some k=>
   rw[List.findIdx?_eq_some_iff_getElem] at h
   obtain⟨hk,h1,h2⟩:=h
   refine .inr ⟨k,l[k],rfl,List.getElem?_eq_getElem hk,h1,fun j b hj hb=>?_⟩
   obtain⟨hjl,rfl⟩:=List.getElem?_eq_some_iff.1 hb
   simpa using h2 j hj
theorem Nq {α:Type}{p:α→Bool}{l:List α}{k:Nat}{a:α}(ha:l[k]? =some a)(hp:p a=true)(hu:∀ (j:Nat) (b:α),l[j]? =some b→p b=true→j=k):Kv p l=k:=by
 rcases jn p l with⟨_,h⟩|⟨j,b,h1,h2,h3,_⟩
 ·rw[h a (List.mem_of_getElem? ha)] at hp;cases hp
 ·rw[h1,hu j b h2 h3]
theorem Ls {α:Type}{p:α→Bool}{l:List α}(h:Kv p l=-1):∀a∈l,p a=false:=by
 rcases jn p l with⟨_,h1⟩|⟨j,b,h1,_⟩
 ·exact h1
 ·omega
theorem xy {α β:Type}[DecidableEq β]{f:α→β}{l:List α}(h:(l.map f).Nodup){i j:Nat}{a b:α}(ha:l[i]? =some a)(hb:l[j]? =some b)(e:f a=f b):i=j:=by
 have h1:(l.map f)[i]? =some (f a):=by rw[List.getElem?_map,ha];rfl
 have h2:(l.map f)[j]? =some (f b):=by rw[List.getElem?_map,hb];rfl
 exact(List.getElem?_inj (List.getElem?_eq_some_iff.1 h1).1 h).1 (by rw[h1,h2,e])
theorem Lw {l:List bD}(h:(l.map bD.cls).Nodup){k:Nat}{x:bD}(hx:l[k]? =some x):BE l x.cls=k:=
 Nq hx (by simp[HU]) fun j b hb hp=>xy h hb hx (by simpa[HU] using hp)
theorem mj {l:List bD}:fO l=true↔ (∀x∈l,gW x=true)∧(l.map bD.name).Nodup∧(l.map bD.cls).Nodup:=by
 unfold fO;simp[List.all_eq_true,and_assoc]
def BZ (a b:ByteArray)(x:bD):Bool:=decide (x.locl=a)&&decide (x.name=b)
def sP (l:List bD)(a b:ByteArray):Int:=if 0≤Kv (BZ a a) l then Kv (BZ a a) l else Kv (BZ a b) l
def findD (d:aZ)(a b:ByteArray):Int:=if eW d then sP d.defs a b else-1
def eo (d:aZ)(c:Int):Int:=if eW d then BE d.defs c else-1
theorem Dx {d:aZ}:eW d=true↔fO d.defs=true∧oP d.defs d.next (-1) d.waits=true∧0≤d.next∧d.next≤100000:=by
 unfold eW;simp[and_assoc]
def qn (a b:ByteArray)(x:bD):Bool:=decide (x.locl=a)&&(decide (x.name=a)||decide (x.name=b))
theorem kq {a b:ByteArray}{x:bD}:qn a b x=true↔x.locl=a∧(x.name=a∨x.name=b):=by unfold qn;simp
theorem lN {x:bD}(h:gW x=true):cK x.name=true∧(x.locl=x.name∨sR x.locl=true)∧0≤x.cls∧x.cls<12:=by
 unfold gW El at h;simp only[Bool.and_eq_true,Bool.or_eq_true,decide_eq_true_eq] at h
 exact⟨h.1.1.1,h.1.1.2,h.1.2,h.2⟩
theorem FA {s:ByteArray}(h:cK s=true):sR s=false:=by
 cases hk:sR s with
 |false=>rfl
 |true=>rw[yu hk] at h;cases h
theorem Im {l:List bD}(h:fO l=true){i j:Nat}{x y:bD}{a b:ByteArray}(hx:l[i]? =some x)(hy:l[j]? =some y)(fx:qn a b x=true)(fy:qn a b y=true):i=j:=by
 obtain⟨h1,h2,h3⟩:=mj.1 h
 obtain⟨x1,x2,_⟩:=lN (h1 x (List.mem_of_getElem? hx))
 obtain⟨y1,y2,_⟩:=lN (h1 y (List.mem_of_getElem? hy))
 obtain⟨p1,p2⟩:=kq.1 fx
 obtain⟨q1,q2⟩:=kq.1 fy
 by_cases e:x.name=y.name
 ·exact xy h2 hx hy e
 ·exfalso
  have ka:sR a=true:=by
   rcases x2 with x2|x2
   ·rcases y2 with y2|y2
    ·exact absurd (by rw[←x2,←y2,p1,q1]) e
    ·rwa [q1] at y2
   ·rwa [p1] at x2
  rcases p2 with p2|p2
  ·rw[p2] at x1;rw[FA x1] at ka;cases ka
  ·rcases q2 with q2|q2
   ·rw[q2] at y1;rw[FA y1] at ka;cases ka
   ·exact e (by rw[p2,q2])
theorem oF (l:List bD)(a b:ByteArray):(sP l a b=-1∧∀x∈l,qn a b x=false)∨∃ (k:Nat) (x:bD),sP l a b=k∧l[k]? =some x∧qn a b x=true:=by
 unfold sP
 rcases jn (BZ a a) l with⟨h1,h2⟩|⟨k,x,h1,h2,h3,_⟩
 ·rw[h1,if_neg (by omega)]
  rcases jn (BZ a b) l with⟨g1,g2⟩|⟨k,x,g1,g2,g3,_⟩
  ·refine .inl ⟨g1,fun x hx=>?_⟩
   have u1:=h2 x hx
   have u2:=g2 x hx
   unfold BZ at u1 u2
   unfold qn
   cases e:decide (x.locl=a) with
   |false=>rfl
   |true=>rw[e] at u1 u2;simp only[Bool.true_and] at u1 u2;rw[u1,u2];rfl
  ·refine .inr ⟨k,x,g1,g2,?_⟩
   unfold BZ at g3;unfold qn
   simp only[Bool.and_eq_true] at g3 ⊢
   exact⟨g3.1,by rw[g3.2];simp⟩
 ·rw[h1,if_pos (by omega)]
  refine .inr ⟨k,x,rfl,h2,?_⟩
  unfold BZ at h3;unfold qn
  simp only[Bool.and_eq_true] at h3 ⊢
  exact⟨h3.1,by rw[h3.2];rfl⟩
theorem wv {l:List bD}(h:fO l=true){k:Nat}{x:bD}{a b:ByteArray}(hx:l[k]? =some x)(hf:qn a b x=true):sP l a b=k:=by
 rcases oF l a b with⟨_,h2⟩|⟨j,y,h1,h2,h3⟩
 ·rw[h2 x (List.mem_of_getElem? hx)] at hf;cases hf
 ·rw[h1,Im h h2 hx h3 hf]
theorem Mc {l:List bD}{s:ByteArray}(h:AQ l s=-1):∀x∈l,x.name≠s:=fun x hx=>by
 have:=Ls h x hx
 unfold NJ at this
 exact of_decide_eq_false this
def xk (k:Nat):ByteArray:=⟨#[120,45,UInt8.ofNat (97+k)]⟩
structure ET (d:aZ) (i:Nat):Prop where
 right:eW d=true
 busy:d.busy=false
 names:∀w∈d.waits,∃k<6,w.name=xk k
 next:d.next≤i
theorem ET.first:ET ⟨[],[],0,false⟩ 0:=⟨by decide,rfl,fun w h=>by simp at h,by decide⟩
section
variable {K : Type} [DecidableEq K] (key : bD → K)
def gp (i:Nat)(t:List (K×Int)):List bD→List (K×Int)
 |[]=>t
 |x::r=>gp (i+1) (eB (key x) (i:Int) t) r
def mX (l:List bD):List (K×Int):=gp key 0 [] l
theorem uG (x:bD):∀ (l:List bD) (i:Nat) (t:List (K×Int)),gp key i t (l++ [x])=eB (key x) ((i+l.length:Nat):Int) (gp key i t l)
 |[],i,t=>rfl
 | y::r,i,t=>by
   rw[List.cons_append,gp,uG x r,gp,List.length_cons]
   congr 2
   omega
theorem BY {l:List bD}{k:Nat}{x:bD}(h:l[k]? =some x):mX key (l.take (k+1))=eB (key x) (k:Int) (mX key (l.take k)):=by
 have hk:=(List.getElem?_eq_some_iff.1 h).1
 rw[List.take_succ_eq_append_getElem hk,(List.getElem?_eq_some_iff.1 h).2]
 unfold mX
 rw[uG,List.length_take]
 congr 2
 omega
theorem zH (k:K)(x:Int):∀t:List (K×Int),(eB k x t).length=if(cR k t).isSome then t.length else t.length+1
 |[]=>rfl
 | p::r=>by
   simp only[eB,cR]
   split
   ·simp
   ·rw[List.length_cons,zH k x r];split<;>simp
theorem rF:∀ (l:List bD) (i:Nat) (t:List (K×Int)),(gp key i t l).length≤t.length+l.length∧((gp key i t l).length=t.length+l.length↔ (l.map key).Nodup∧∀a∈l,(cR (key a) t).isSome=false)
 |[],i,t=>by simp[gp]
 | a :: r,i,t=>by
   obtain⟨h1,h2⟩:=rF r (i+1) (eB (key a) (i:Int) t)
   have hl:=zH (key a) (i:Int) t
   show(gp key (i+1) (eB (key a) (i:Int) t) r).length≤_∧((gp key (i+1) (eB (key a) (i:Int) t) r).length=_↔_)
   cases hg:(cR (key a) t).isSome with
   | true=>
     rw[hg,if_pos rfl] at hl
     refine⟨by simp only[List.length_cons];omega,⟨fun h=>?_,fun h=>?_⟩⟩
     ·simp only[List.length_cons] at h;omega
     ·have:=h.2 a (by simp);rw[hg] at this;cases this
   | false=>
     rw[hg,if_neg (by simp)] at hl
     refine⟨by simp only[List.length_cons];omega,?_⟩
     rw[show(gp key (i+1) (eB (key a) (i:Int) t) r).length=t.length+ (a::r).length↔ (gp key (i+1) (eB (key a) (i:Int) t) r).length=(eB (key a) (i:Int) t).length+r.length from by rw[hl,List.length_cons];omega,h2]
     simp only[List.map_cons,List.nodup_cons,List.mem_cons,forall_eq_or_imp]
     constructor
     ·rintro⟨k1,k2⟩
      refine⟨⟨fun hm=>?_,k1⟩,hg,fun b hb=>?_⟩
      ·obtain⟨b,hb,he⟩:=List.mem_map.1 hm
       have:=k2 b hb
       rw[fo,he,if_pos rfl] at this;cases this
      ·have:=k2 b hb
       rw[fo] at this
       split at this
       ·cases this
       ·exact this
     ·rintro⟨⟨k1,k2⟩,_,k3⟩
      refine⟨k2,fun b hb=>?_⟩
      rw[fo,if_neg (fun e=>k1 (List.mem_map.2 ⟨b,hb,e.symm⟩))]
      exact k3 b hb
theorem FE (l:List bD):(mX key l).length=l.length↔ (l.map key).Nodup:=by
 have:=(rF key l 0 []).2
 simp only[List.length_nil,Nat.zero_add] at this
 exact this.trans ⟨fun h=>h.1,fun h=>⟨h,fun _ _=>rfl⟩⟩
theorem J7 (l:List bD):(mX key l).length≤l.length:=by
 have:=(rF key l 0 []).1
 simp only[List.length_nil,Nat.zero_add] at this
 exact this
theorem oT {s:K}:∀ (l:List bD) (i:Nat) (t:List (K×Int)),(∀a∈l,key a≠s)→cR s (gp key i t l)=cR s t
 |[],i,t,_=>rfl
 | a::r,i,t,h=>by
   rw[gp,oT r (i+1) _ fun b hb=>h b (List.mem_cons_of_mem _ hb),fo,if_neg (h a (List.mem_cons_self ..))]
theorem wF {s:K}:∀ (l:List bD) (i:Nat) (t:List (K×Int)) (j:Nat) (a:bD),(l.map key).Nodup→l[j]? =some a→key a=s→cR s (gp key i t l)=some ((i+j:Nat):Int)
 |[],i,t,j,a,_,h,_=>by simp at h
 | x::r,i,t,0,a,hn,h,he=>by
   simp at h;subst h
   simp only[List.map_cons,List.nodup_cons] at hn
   rw[gp,oT key r (i+1) _ fun b hb e=>hn.1 (List.mem_map.2 ⟨b,hb,e.trans he.symm⟩),fo,if_pos he]
   rfl
 | x::r,i,t,j+1,a,hn,h,he=>by
   simp only[List.map_cons,List.nodup_cons] at hn
   rw[gp,wF r (i+1) _ j a hn.2 (by simpa using h) he]
   congr 1;omega
theorem CF {l:List bD}{s:K}(h:∀a∈l,key a≠s):cR s (mX key l)=none:=oT key l 0 [] h
theorem EH {l:List bD}{s:K}{j:Nat}{a:bD}(hn:(l.map key).Nodup)(h:l[j]? =some a)(he:key a=s):cR s (mX key l)=some (j:Int):=by
 have:=wF key l 0 [] j a hn h he
 simpa[mX] using this
end
def kN (x:bD):ByteArray:=x.name
def kC (x:bD):Int:=x.cls
theorem PC {l:List bD}(h:(l.map bD.name).Nodup)(s:ByteArray):(cR s (mX kN l)=none∧AQ l s=-1)∨∃ (k:Nat) (x:bD),cR s (mX kN l)=some (k:Int)∧AQ l s=k∧l[k]? =some x∧x.name=s:=by
 rcases jn (NJ s) l with⟨h1,h2⟩|⟨k,x,h1,h2,h3,_⟩
 ·exact .inl ⟨CF kN fun a ha=>of_decide_eq_false (h2 a ha),h1⟩
 ·have he:x.name=s:=of_decide_eq_true h3
  exact .inr ⟨k,x,EH kN h h2 he,h1,h2,he⟩
theorem O8 {l:List bD}(h:(l.map bD.cls).Nodup)(s:Int):(cR s (mX kC l)=none∧BE l s=-1)∨∃ (k:Nat) (x:bD),cR s (mX kC l)=some (k:Int)∧BE l s=k∧l[k]? =some x∧x.cls=s:=by
 rcases jn (HU s) l with⟨h1,h2⟩|⟨k,x,h1,h2,h3,_⟩
 ·exact .inl ⟨CF kC fun a ha=>of_decide_eq_false (h2 a ha),h1⟩
 ·have he:x.cls=s:=of_decide_eq_true h3
  exact .inr ⟨k,x,EH kC h h2 he,h1,h2,he⟩
def iA (l:List bD):List bD:=l.take ((l.takeWhile gW).length+1)
theorem Gr {l:List bD}(h:∀x∈l,gW x=true):l.takeWhile gW=l:=by
 induction l with
 |nil=>rfl
 |cons x r ih=>rw[List.takeWhile_cons_of_pos (h x (List.mem_cons_self ..)),ih fun y hy=>h y (List.mem_cons_of_mem _ hy)]
theorem tH {l:List bD}(h:∀x∈l,gW x=true):iA l=l:=by
 unfold iA
 rw[Gr h,List.take_of_length_le (by omega)]
theorem F5 {l:List bD}{k:Nat}{x:bD}(h:∀ (j:Nat) (y:bD),j<k→l[j]? =some y→gW y=true)(hx:l[k]? =some x)(hb:gW x=false):iA l=l.take (k+1):=by
 unfold iA
 have hk:=(List.getElem?_eq_some_iff.1 hx).1
 have e:l=l.take k++x::l.drop (k+1):=by
  rw[←(List.getElem?_eq_some_iff.1 hx).2,List.getElem_cons_drop,List.take_append_drop]
 have hg:∀y∈l.take k,gW y=true:=fun y hy=>by
  obtain⟨j,hj⟩:=List.getElem?_of_mem hy
  rw[List.getElem?_take] at hj
  split at hj
  ·rename_i hjk;exact h j y hjk hj
  ·cases hj
 have:(l.takeWhile gW).length=k:=by
  conv=>lhs;rw[e]
  rw[List.takeWhile_append_of_pos hg,List.takeWhile_cons_of_neg (by simp[hb])]
  simp;omega
 rw[this]
@[reducible] def jH (x : bD) : AV := .agg [cm x.name, cm x.locl, aq x.cls]
def fH (x:bD):AV:=jH x
@[reducible] def nY (l : List bD) : AV := .sl 3 (l.map fH)
@[reducible] def Ci (w : nU) : AV := .agg [cm w.name, aq w.ticket]
def rV (w:nU):AV:=Ci w
@[reducible] def oK (l : List nU) : AV := .sl 2 (l.map rV)
@[reducible] def gi (d : aZ) : AV := .agg [nY d.defs, oK d.waits, aq d.next, aA d.busy]
theorem dD {l:List bD}{k:Nat}{x:bD}(h:l[k]? =some x):(l.map fH)[k]? =some (jH x):=by rw[List.getElem?_map,h];rfl
theorem xD {l:List nU}{k:Nat}{x:nU}(h:l[k]? =some x):(l.map rV)[k]? =some (Ci x):=by rw[List.getElem?_map,h];rfl
@[reducible] def rN (l : List bD) : MS := .live 2 (dZ Value.string bF (mX kN l)) false
@[reducible] def rC (l : List bD) : MS := .live 2 (dZ oD bF (mX kC l)) false
theorem aB {K:Type}(kv:K→Value)(t:List (K×Int)):aN (dZ kv bF t)=true:=by
 rw[bL];intro x hx
 obtain⟨a,_,rfl⟩:=List.mem_map.1 hx
 rfl
theorem oc:ja Tryz.prog 183 .string (.int .i64 0):=⟨9,3,by kernel_rfl,by kernel_rfl,fun w=>Tryz.zeroValue3 w⟩
theorem C7:ja Tryz.prog 184 (.int .i64) (.int .i64 0):=⟨3,3,by kernel_rfl,by kernel_rfl,fun w=>Tryz.zeroValue3 w⟩
theorem ij {s:ByteArray}{b:Bool}(h:cK s=b):ah Tryz.prog 109 [] [cm s] [] (aA b):=by have:=vB s;rwa [h] at this
theorem tA {s:ByteArray}{b:Bool}(h:sR s=b):ah Tryz.prog 238 [] [cm s] [] (aA b):=by have:=LP s;unfold sR at h;rwa [h] at this
theorem Lg (d:aZ)(hl:d.defs.length≤100000):ah Tryz.prog 190 [] [gi d] [rN (iA d.defs),rC (iA d.defs)] (.tup [.agg [.mapr 0,.mapr 1],aA (fO d.defs)]):=by
 obtain⟨l,ws,nx,bz⟩:=d
 have hlm:(l.map fH).length=l.length:=List.length_map ..
 refine ah.af (rvs:=[.cell 2 186,.tmp 3]) G aa Tryz.func190 rfl Tryz.ntmps190 rfl rfl ?_;with_reducible refine wD ?_
 have hl':l.length≤100000:=hl
 refine aU.use G aa (fun(k:Nat)=>[(1,.ptr 10 0 0),(2,.ptr 20 0 0),(4,.ptr 40 0 0),(12,nY l),(13,aq l.length),(14,aq k)])
  (fun k=>[(10,.live 4 [gi ⟨l,ws,nx,bz⟩] false),(20,.live 2 [.agg [.lit (.map none),.lit (.map none)]] false),(40,.live 2 [.agg [.mapr 81,.mapr 91]] false),(81,rN (l.take k)),(91,rC (l.take k))])
  (fun k=>k≤l.length∧∀ (j:Nat) (y:bD),j<k→l[j]? =some y→gW y=true) (fun k=>l.length-k) 0 ⟨Nat.zero_le _,fun j y h=>by omega⟩
  ⟨⟨rfl,rfl⟩,⟨⟨rfl,rfl⟩,⟨rfl,rfl⟩,⟨rfl,rfl⟩,rfl,by show(l.length:Int)=((l.map fH).length:Int);rw[hlm],rfl,trivial⟩,⟨⟨rfl,rfl,rfl,rfl,trivial⟩,trivial⟩,⟨⟨⟨rfl,rfl⟩,⟨rfl,rfl⟩,trivial⟩,trivial⟩,⟨⟨trivial,trivial,trivial⟩,trivial⟩,⟨.refl rfl,rfl⟩,⟨.refl rfl,rfl⟩,trivial⟩ ?_
 intro k ⟨hk,hok⟩
 with_reducible refine wK ?_
 refine bq.mk (fun h1=>?_) (fun h1=>?_)<;>(try simp only[aF] at h1)<;>with_reducible refine wK ?_
 ·simp only[decide_eq_true_eq] at h1
  have hk':k<l.length:=by omega
  obtain⟨⟨n,lo,c⟩,hx⟩:∃a,l[k]? =some a:=⟨_,List.getElem?_eq_getElem hk'⟩
  refine ay.mk k (jH ⟨n,lo,c⟩) rfl (dD hx) ?_;with_reducible refine wK ?_
  have hle1:(mX kN (l.take k)).length≤k:=Nat.le_trans (J7 _ _) (by simp;omega)
  have hle2:(mX kC (l.take k)).length≤k:=Nat.le_trans (J7 _ _) (by simp;omega)
  refine s7.ck Value.string bF (mX kN (l.take k)) (k:=n) (k:Int) oc rfl j3 j5 (by unfold maxLen;omega) rfl ?_;with_reducible refine wK ?_
  refine s7.ck oD bF (mX kC (l.take k)) (k:=c) (k:Int) C7 rfl ju j4 (by unfold maxLen;omega) rfl ?_;with_reducible refine wK ?_
  have e1:eB n (k:Int) (mX kN (l.take k))=mX kN (l.take (k+1)):=(BY kN hx).symm
  have e2:eB c (k:Int) (mX kC (l.take k))=mX kC (l.take (k+1)):=(BY kC hx).symm
  rw[e1,e2]
  refine dK ?_;with_reducible refine wK ?_
  cases hg:gW ⟨n,lo,c⟩ with
  | true=>
    obtain⟨g1,g2,g3,g4⟩:=lN hg
    simp only at g1 g2 g3 g4
    have hnext:∀ (j:Nat) (y:bD),j<k+1→l[j]? =some y→gW y=true:=fun j y hj hy=>by
     by_cases e:j=k
     ·subst e;rw[hx] at hy;cases hy;exact hg
     ·exact hok j y (by omega) hy
    by_cases e:lo=n
    ·(have fct:=And.intro e (And.intro g1 (And.intro g3 (g4)));(repeat' (first
  |refine gF ?_|refine aE ?_ ?_
  | ((first
   |((with_reducible refine kQ 109 ?_);refine cL (ij g1) kJ ?_)
   |((with_reducible show aL _ _);refine aL.mk (k+1) ⟨by omega,hnext⟩ (by omega) ⟨⟨rfl,rfl⟩,⟨⟨rfl,rfl⟩,⟨rfl,rfl⟩,⟨rfl,rfl⟩,rfl,rfl,by show((k+1:Nat):Int)=(k:Int)+1;omega,trivial⟩,⟨⟨rfl,rfl,rfl,rfl,trivial⟩,trivial⟩,⟨⟨⟨rfl,rfl⟩,⟨rfl,rfl⟩,trivial⟩,trivial⟩,⟨⟨trivial,trivial,trivial⟩,trivial⟩,⟨.refl (aB _ _),aB _ _⟩,⟨.refl (aB _ _),aB _ _⟩,trivial⟩))<;>with_reducible refine wK ?_)
  | apply trivial));all_goals clear fct)
    ·have g2':=g2.resolve_left e
     (have fct:=And.intro e (And.intro g1 (And.intro g2' (And.intro g3 (g4))));(repeat' (first
  |refine gF ?_|refine aE ?_ ?_
  | ((first
   |((with_reducible refine kQ 109 ?_);refine cL (ij g1) kJ ?_)
   |((with_reducible refine kQ 238 ?_);refine cL (tA g2') I9 ?_)
   |((with_reducible show aL _ _);refine aL.mk (k+1) ⟨by omega,hnext⟩ (by omega) ⟨⟨rfl,rfl⟩,⟨⟨rfl,rfl⟩,⟨rfl,rfl⟩,⟨rfl,rfl⟩,rfl,rfl,by show((k+1:Nat):Int)=(k:Int)+1;omega,trivial⟩,⟨⟨rfl,rfl,rfl,rfl,trivial⟩,trivial⟩,⟨⟨⟨rfl,rfl⟩,⟨rfl,rfl⟩,trivial⟩,trivial⟩,⟨⟨trivial,trivial,trivial⟩,trivial⟩,⟨.refl (aB _ _),aB _ _⟩,⟨.refl (aB _ _),aB _ _⟩,trivial⟩))<;>with_reducible refine wK ?_)
  |apply trivial));all_goals clear fct)
  | false=>
    have hpr:iA l=l.take (k+1):=F5 hok hx hg
    have hdb:fO l=false:=by
     cases h:fO l with
     |false=>rfl
     |true=>rw[(mj.1 h).1 _ (List.mem_of_getElem? hx)] at hg;cases hg
    have hgood:∀ {p:Prop},(cK n=true∧(lo=n∨sR lo=true)∧0≤c∧c<12)→p:=fun h=>by
     exfalso
     have:gW ⟨n,lo,c⟩=true:=by
      obtain⟨a1,a2,a3,a4⟩:=h
      unfold gW El
      simp only[a1,a3,a4,decide_true,Bool.and_true,Bool.true_and]
      rcases a2 with a2|a2
      ·rw[decide_eq_true a2];rfl
      ·rw[a2];simp
     rw[hg] at this;cases this
    rw[hpr,hdb]
    by_cases e:lo=n
    ·cases hc:cK n with
     |false=>((have fct:=e;(repeat' (first
  |refine gF ?_|refine aE ?_ ?_
  |(((with_reducible refine kQ 109 ?_);refine cL (ij hc) kJ ?_)<;>with_reducible refine wK ?_)
  |apply trivial));all_goals clear fct))<;>first|exact aD (aB _ _)|exact⟨.refl (aB _ _),aB _ _⟩|rfl
     | true=>
       by_cases h3:c<0
       ·((have fct:=And.intro e (h3);(repeat' (first
  |refine gF ?_|refine aE ?_ ?_
  |(((with_reducible refine kQ 109 ?_);refine cL (ij hc) kJ ?_)<;>with_reducible refine wK ?_)
  |apply trivial));all_goals clear fct))<;>first|exact aD (aB _ _)|exact⟨.refl (aB _ _),aB _ _⟩|rfl
       ·by_cases h4:c<12
        ·exact hgood ⟨hc,.inl e,by omega,h4⟩
        ·((have fct:=And.intro e (And.intro h3 (h4));(repeat' (first
  |refine gF ?_|refine aE ?_ ?_
  |(((with_reducible refine kQ 109 ?_);refine cL (ij hc) kJ ?_)<;>with_reducible refine wK ?_)
  | apply trivial));all_goals clear fct))<;>first|exact aD (aB _ _)|exact⟨.refl (aB _ _),aB _ _⟩|rfl
    ·cases hkn:sR lo with
     |false=>cases hc:cK n<;>((have fct:=e;(repeat' (first
  |refine gF ?_|refine aE ?_ ?_
  | ((first
   |((with_reducible refine kQ 109 ?_);refine cL (ij hc) kJ ?_)
   |((with_reducible refine kQ 238 ?_);refine cL (tA hkn) I9 ?_))<;>with_reducible refine wK ?_)
  |apply trivial))                          ;all_goals clear fct))<;>first|exact aD (aB _ _)|exact⟨.refl (aB _ _),aB _ _⟩|rfl
     | true=>
       cases hc:cK n with
       |false=>((have fct:=e;(repeat' (first
  |refine gF ?_|refine aE ?_ ?_
  | ((first
   |((with_reducible refine kQ 109 ?_);refine cL (ij hc) kJ ?_)
   |((with_reducible refine kQ 238 ?_);refine cL (tA hkn) I9 ?_))<;>with_reducible refine wK ?_)
  |apply  trivial));all_goals clear fct))<;>first|exact aD (aB _ _)|exact⟨.refl (aB _ _),aB _ _⟩|rfl
       | true=>
         by_cases h3:c<0
         ·((have fct:=And.intro e (h3);(repeat' (first
  |refine gF ?_|refine aE ?_ ?_
  | ((first
   |((with_reducible refine kQ 109 ?_);refine cL (ij hc) kJ ?_)
   |((with_reducible refine kQ 238 ?_);refine cL (tA hkn) I9 ?_))<;>with_reducible refine wK ?_)
  |apply  trivial));all_goals clear fct))<;>first|exact aD (aB _ _)|exact⟨.refl (aB _ _),aB _ _⟩|rfl
         ·by_cases h4:c<12
          ·exact hgood ⟨hc,.inr hkn,by omega,h4⟩
          ·((have fct:=And.intro e (And.intro h3 (h4));(repeat' (first
  |refine gF ?_|refine aE ?_ ?_
  | ((first
   |((with_reducible refine kQ 109 ?_);refine cL (ij hc) kJ ?_)
   |((with_reducible refine kQ 238 ?_);refine cL (tA hkn) I9 ?_))<;>with_reducible refine wK ?_)
  |apply trivial));all_goals clear fct))<;>first|exact aD (aB _ _)|exact⟨.refl (aB _ _),aB _ _⟩|rfl
 ·have hkl:k=l.length:=by simp only[decide_eq_false_iff_not] at h1;omega
  subst hkl
  have hall:∀x∈l,gW x=true:=fun x hx=>by
   obtain⟨j,hj⟩:=List.getElem?_of_mem hx
   exact hok j x (List.getElem?_eq_some_iff.1 hj).1 hj
  rw[List.take_length,tH hall]
  have en:(dZ Value.string bF (mX kN l)).length=(mX kN l).length:=List.length_map ..
  have ec:(dZ oD bF (mX kC l)).length=(mX kC l).length:=List.length_map ..
  have hn:=FE kN l
  have hc:=FE kC l
  have hd:fO l=(decide ((l.map bD.name).Nodup)&&decide ((l.map bD.cls).Nodup)):=by
   unfold fO
   rw[List.all_eq_true.2 hall];rfl
  rw[hd]
  by_cases h2:(l.map bD.name).Nodup
  ·have h2':(mX kN l).length=l.length:=hn.2 h2
   by_cases h3:(l.map bD.cls).Nodup
   ·have h3':(mX kC l).length=l.length:=hc.2 h3
    ((have fct:=And.intro en (And.intro ec (And.intro h2' (And.intro h3' (hlm))));(repeat' (first
  |refine gF ?_|refine aE ?_ ?_
  | ((first
   |((with_reducible show gr _ _ 183 _ _ _ _);refine gr.mk oc ⟨_,_,rfl⟩ rfl ?_)
   |((with_reducible show gr _ _ 184 _ _ _ _);refine gr.mk C7 ⟨_,_,rfl⟩ rfl ?_))<;>with_reducible refine wK ?_)
  | apply trivial));all_goals clear fct))<;>first|exact aD (aB _ _)|exact⟨.refl (aB _ _),aB _ _⟩|rfl|(simp[h2,h3,en,ec,h2',h3'];done)|(simp[h2,h3,en,ec,h2'];simp only[aF];omega)|(simp[h2,h3,en,ec,h2'];exact fun hh=>h3' (Int.ofNat.inj hh))
   ·have h3':(mX kC l).length≠l.length:=fun h=>h3 (hc.1 h)
    ((have fct:=And.intro en (And.intro ec (And.intro h2' (And.intro h3' (hlm))));(repeat' (first
  |refine gF ?_|refine aE ?_ ?_
  | ((first
   |((with_reducible show gr _ _ 183 _ _ _ _);refine gr.mk oc ⟨_,_,rfl⟩ rfl ?_)
   |((with_reducible show gr _ _ 184 _ _ _ _);refine gr.mk C7 ⟨_,_,rfl⟩ rfl ?_))<;>with_reducible refine wK ?_)
  |apply trivial));all_goals clear fct))<;>first|exact aD (aB _ _)|exact⟨.refl (aB _ _),aB _ _⟩|rfl|(simp[h2,h3,en,ec,h2',h3'];done)|(simp[h2,h3,en,ec,h2'];simp only[aF];omega)|(simp[h2,h3,en,ec,h2'];exact fun hh=>h3' (Int.ofNat.inj hh))
  ·have h2':(mX kN l).length≠l.length:=fun h=>h2 (hn.1 h)
   ((have fct:=And.intro en (And.intro ec (And.intro h2' (hlm)));(repeat' (first
  |refine gF ?_|refine aE ?_ ?_
  | ((first
   |((with_reducible show gr _ _ 183 _ _ _ _);refine gr.mk oc ⟨_,_,rfl⟩ rfl ?_)
   |((with_reducible show gr _ _ 184 _ _ _ _);refine gr.mk C7 ⟨_,_,rfl⟩ rfl ?_))<;>with_reducible refine wK ?_)
  |apply trivial));all_goals clear fct))<;>first|exact aD (aB _ _)|exact⟨.refl (aB _ _),aB _ _⟩|rfl|(simp[h2,en,h2'];done)
theorem qg (l:List bD):fR [rN l,rC l]:=by
 refine⟨bw.eD fun r hr=>?_,aB _ _,bw.eD fun r hr=>?_,aB _ _,trivial⟩
 ·obtain⟨p,_,rfl⟩:=List.mem_map.1 hr
  rfl
 ·obtain⟨p,_,rfl⟩:=List.mem_map.1 hr
  rfl
def vX (d:aZ)(i:Nat×Bool×Int):Prop:=i.1≤d.waits.length∧(i.2.1&&oP d.defs d.next i.2.2 (d.waits.drop i.1))=(fO d.defs&&oP d.defs d.next (-1) d.waits)
theorem Dq {d:aZ}{k:Nat}{b:Bool}{last:Int}{w:nU}(h:vX d (k,b,last))(hw:d.waits[k]? =some w):vX d (k+1,b&&okW d.defs d.next w last,w.ticket):=by
 obtain⟨h1,h2⟩:=h
 have hk:=(List.getElem?_eq_some_iff.1 hw).1
 refine⟨by show k+1≤_;omega,?_⟩
 rw[←h2]
 simp only
 rw[List.drop_eq_getElem_cons hk,(List.getElem?_eq_some_iff.1 hw).2,oP,Bool.and_assoc]
theorem u7 {l:List bD}(h:fO l=true)(s:ByteArray):(cR s (mX kN (iA l))=none∧AQ l s=-1)∨∃ (k:Nat) (x:bD),cR s (mX kN (iA l))=some (k:Int)∧AQ l s=k∧l[k]? =some x∧x.name=s:=by
 obtain⟨h1,h2,_⟩:=mj.1 h
 rw[tH h1];exact PC h2 s
theorem Na {l:List bD}(h:fO l=true)(s:Int):(cR s (mX kC (iA l))=none∧BE l s=-1)∨∃ (k:Nat) (x:bD),cR s (mX kC (iA l))=some (k:Int)∧BE l s=k∧l[k]? =some x∧x.cls=s:=by
 obtain⟨h1,_,h2⟩:=mj.1 h
 rw[tH h1];exact O8 h2 s
theorem AU (d:aZ)(hl:d.defs.length≤100000)(hw:d.waits.length≤100000):ah Tryz.prog 122 [] [gi d] [rN (iA d.defs),rC (iA d.defs)] (.tup [.agg [.mapr 0,.mapr 1],aA (eW d)]):=by
 have hI0:vX d (0,fO d.defs,-1):=⟨Nat.zero_le _,rfl⟩
 have hI1:=@Dq d
 have hI2:∀b last,vX d (d.waits.length,b,last)→b=(fO d.defs&&oP d.defs d.next (-1) d.waits):=fun b last h=>by
  have:=h.2
  simp only[List.drop_length] at this
  rw[←this];simp[oP]
 have hI3:∀k b last,vX d (k,b,last)→b=true→fO d.defs=true∨eW d=false:=fun k b last h hb=>by
  cases hd:fO d.defs with
  |true=>exact .inl rfl
  |false=>right;unfold eW;rw[hd];rfl
 have hr44:=Lg d hl
 unfold eW
 obtain⟨l,ws,nx,bz⟩:=d
 have hlm:(ws.map rV).length=ws.length:=List.length_map ..
 refine ah.af (rvs:=[.cell 2 186,.tmp 3]) G aa Tryz.func122 rfl Tryz.ntmps122 rfl rfl ?_;with_reducible refine wD ?_
 refine aj.new 131 [] hr44 Ra ⟨⟨rfl,rfl,rfl,rfl,trivial⟩,trivial⟩ rfl rfl rfl (qg _) rfl ?_;with_reducible refine wK ?_
 have hwl:ws.length≤100000:=hw
 refine aU.use G aa (fun(i:Nat×Bool×Int)=>[(1,.ptr 10 0 0),(2,.ptr 20 0 0),(4,.ptr 40 0 0),(5,aA i.2.1),(6,aq i.2.2),(17,oK ws),(18,aq ws.length),(19,aq i.1)])
  (fun _=>[(10,.live 4 [gi ⟨l,ws,nx,bz⟩] false),(20,.live 2 [.agg [.lit (.map none),.lit (.map none)]] false),(40,.live 2 [.agg [.mapr 131,.mapr 132]] false),(131,rN (iA l)),(132,rC (iA l))])
  (fun i=>vX ⟨l,ws,nx,bz⟩ i∧(i.2.1=true→fO l=true)) (fun i=>ws.length-i.1) (0,fO l,-1) ⟨hI0,id⟩
  ⟨⟨rfl,rfl⟩,⟨⟨rfl,rfl⟩,⟨rfl,rfl⟩,⟨rfl,rfl⟩,rfl,rfl,rfl,by show(ws.length:Int)=((ws.map rV).length:Int);rw[hlm],rfl,trivial⟩,⟨⟨rfl,rfl,rfl,rfl,trivial⟩,trivial⟩,⟨⟨⟨rfl,rfl⟩,⟨rfl,rfl⟩,trivial⟩,trivial⟩,⟨⟨trivial,trivial,trivial⟩,trivial⟩,⟨.refl (aB _ _),aB _ _⟩,⟨.refl (aB _ _),aB _ _⟩,trivial⟩ ?_
 rintro⟨k,b,last⟩ ⟨hI,hbd⟩
 have hkw:k≤ws.length:=hI.1
 simp only at hbd
 with_reducible refine wK ?_
 refine bq.mk (fun h1=>?_) (fun h1=>?_)<;>(try simp only[aF] at h1)<;>with_reducible refine wK ?_
 ·simp only[decide_eq_true_eq] at h1
  have hk':k<ws.length:=by omega
  obtain⟨⟨n,tk⟩,hx⟩:∃a,ws[k]? =some a:=⟨_,List.getElem?_eq_getElem hk'⟩
  have hst:∀v,(b&&okW l nx ⟨n,tk⟩ last)=v→vX ⟨l,ws,nx,bz⟩ (k+1,v,tk)∧(v=true→fO l=true):=fun v hv=>by
   have:=hI1 hI hx
   refine⟨by rw[←hv];exact this,fun h=>hbd ?_⟩
   rw[h] at hv
   exact(Bool.and_eq_true_iff.1 hv).1
  refine ay.mk k (Ci ⟨n,tk⟩) rfl (xD hx) ?_;with_reducible refine wK ?_
  refine jc.ck Value.string bF (mX kN (iA l)) (k:=n) (zv:=aq 0) oc ⟨_,_,rfl⟩ j3 j5 rfl rfl (fun x hxx=>?_) (fun hxx=>?_)
  ·rw [show bF x=aq x from rfl]
   with_reducible refine wK ?_
   cases b with
   | false=>
     have hs:=hst false rfl
     (have fct:=hlm;(repeat' (first
  |refine gF ?_|refine aE ?_ ?_
  |(((with_reducible show aL _ _);refine aL.mk (k+1,false,tk) hs (by show ws.length- (k+1)<ws.length-k;omega) ⟨⟨rfl,rfl⟩,⟨⟨rfl,rfl⟩,⟨rfl,rfl⟩,⟨rfl,rfl⟩,rfl,rfl,rfl,rfl,by show((k+1:Nat):Int)=(k:Int)+1;omega,trivial⟩,⟨⟨rfl,rfl,rfl,rfl,trivial⟩,trivial⟩,⟨⟨⟨rfl,rfl⟩,⟨rfl,rfl⟩,trivial⟩,trivial⟩,⟨⟨trivial,trivial,trivial⟩,trivial⟩,⟨.refl (aB _ _),aB _ _⟩,⟨.refl (aB _ _),aB _ _⟩,trivial⟩)<;>with_reducible refine wK ?_)
  | apply trivial));all_goals clear fct)
   | true=>
     have hp:¬AQ l n=-1:=by
      rcases u7 (hbd rfl) n with⟨a1,_⟩|⟨j,y,_,a2,_⟩
      ·rw[hxx] at a1;cases a1
      ·omega
     have hs:=hst false (by unfold okW;simp[hp])
     (have fct:=hlm;(repeat' (first
  |refine gF ?_|refine aE ?_ ?_
  |(((with_reducible show aL _ _);refine aL.mk (k+1,false,tk) hs (by show ws.length- (k+1)<ws.length-k;omega) ⟨⟨rfl,rfl⟩,⟨⟨rfl,rfl⟩,⟨rfl,rfl⟩,⟨rfl,rfl⟩,rfl,rfl,rfl,rfl,by show((k+1:Nat):Int)=(k:Int)+1;omega,trivial⟩,⟨⟨rfl,rfl,rfl,rfl,trivial⟩,trivial⟩,⟨⟨⟨rfl,rfl⟩,⟨rfl,rfl⟩,trivial⟩,trivial⟩,⟨⟨trivial,trivial,trivial⟩,trivial⟩,⟨.refl (aB _ _),aB _ _⟩,⟨.refl (aB _ _),aB _ _⟩,trivial⟩)<;>with_reducible refine wK ?_)
  |apply trivial));all_goals clear fct)
  ·with_reducible refine wK ?_
   cases b with
   | false=>
     have hs:=hst false rfl
     (have fct:=hlm;(repeat' (first
  |refine gF ?_|refine aE ?_ ?_
  |(((with_reducible show aL _ _);refine aL.mk (k+1,false,tk) hs (by show ws.length- (k+1)<ws.length-k;omega) ⟨⟨rfl,rfl⟩,⟨⟨rfl,rfl⟩,⟨rfl,rfl⟩,⟨rfl,rfl⟩,rfl,rfl,rfl,rfl,by show((k+1:Nat):Int)=(k:Int)+1;omega,trivial⟩,⟨⟨rfl,rfl,rfl,rfl,trivial⟩,trivial⟩,⟨⟨⟨rfl,rfl⟩,⟨rfl,rfl⟩,trivial⟩,trivial⟩,⟨⟨trivial,trivial,trivial⟩,trivial⟩,⟨.refl (aB _ _),aB _ _⟩,⟨.refl (aB _ _),aB _ _⟩,trivial⟩)<;>with_reducible refine wK ?_)
  | apply trivial));all_goals clear fct)
   | true=>
     have hp:AQ l n=-1:=by
      rcases u7 (hbd rfl) n with⟨_,a1⟩|⟨j,y,a2,_⟩
      ·exact a1
      ·rw[hxx] at a2;cases a2
     cases hc:cK n with
     | false=>
       have hs:=hst false (by unfold okW;simp[hc])
       (have fct:=hlm;(repeat' (first
  |refine gF ?_|refine aE ?_ ?_
  | ((first
   |((with_reducible refine kQ 109 ?_);refine cL (ij hc) kJ ?_)
   |((with_reducible show aL _ _);refine aL.mk (k+1,false,tk) hs (by show ws.length- (k+1)<ws.length-k;omega) ⟨⟨rfl,rfl⟩,⟨⟨rfl,rfl⟩,⟨rfl,rfl⟩,⟨rfl,rfl⟩,rfl,rfl,rfl,rfl,by show((k+1:Nat):Int)=(k:Int)+1;omega,trivial⟩,⟨⟨rfl,rfl,rfl,rfl,trivial⟩,trivial⟩,⟨⟨⟨rfl,rfl⟩,⟨rfl,rfl⟩,trivial⟩,trivial⟩,⟨⟨trivial,trivial,trivial⟩,trivial⟩,⟨.refl (aB _ _),aB _ _⟩,⟨.refl (aB _ _),aB _ _⟩,trivial⟩))<;>with_reducible refine wK ?_)
  |apply trivial));all_goals clear fct)
     | true=>
       by_cases h3:last<tk
       ·have hs:=hst (decide (tk<nx)) (by unfold okW;simp[hc,hp,h3])
        (have fct:=And.intro hlm (h3);(repeat' (first
  |refine gF ?_|refine aE ?_ ?_
  | ((first
   |((with_reducible refine kQ 109 ?_);refine cL (ij hc) kJ ?_)
   |((with_reducible show aL _ _);refine aL.mk (k+1,decide (tk<nx),tk) hs (by show ws.length- (k+1)<ws.length-k;omega) ⟨⟨rfl,rfl⟩,⟨⟨rfl,rfl⟩,⟨rfl,rfl⟩,⟨rfl,rfl⟩,rfl,rfl,rfl,rfl,by show((k+1:Nat):Int)=(k:Int)+1;omega,trivial⟩,⟨⟨rfl,rfl,rfl,rfl,trivial⟩,trivial⟩,⟨⟨⟨rfl,rfl⟩,⟨rfl,rfl⟩,trivial⟩,trivial⟩,⟨⟨trivial,trivial,trivial⟩,trivial⟩,⟨.refl (aB _ _),aB _ _⟩,⟨.refl (aB _ _),aB _ _⟩,trivial⟩))<;>with_reducible refine wK ?_)
  |apply trivial));all_goals clear fct)
       ·have hs:=hst false (by unfold okW;simp[hc,hp,h3])
        (have fct:=And.intro hlm (h3);(repeat' (first
  |refine gF ?_|refine aE ?_ ?_
  | ((first
   |((with_reducible refine kQ 109 ?_);refine cL (ij hc) kJ ?_)
   |((with_reducible show aL _ _);refine aL.mk (k+1,false,tk) hs (by show ws.length- (k+1)<ws.length-k;omega) ⟨⟨rfl,rfl⟩,⟨⟨rfl,rfl⟩,⟨rfl,rfl⟩,⟨rfl,rfl⟩,rfl,rfl,rfl,rfl,by show((k+1:Nat):Int)=(k:Int)+1;omega,trivial⟩,⟨⟨rfl,rfl,rfl,rfl,trivial⟩,trivial⟩,⟨⟨⟨rfl,rfl⟩,⟨rfl,rfl⟩,trivial⟩,trivial⟩,⟨⟨trivial,trivial,trivial⟩,trivial⟩,⟨.refl (aB _ _),aB _ _⟩,⟨.refl (aB _ _),aB _ _⟩,trivial⟩))<;>with_reducible refine wK ?_)
  |apply trivial));all_goals clear fct)
 ·have hkl:k=ws.length:=by simp only[decide_eq_false_iff_not] at h1;omega
  subst hkl
  have hb:=hI2 b last hI
  simp only at hb ⊢
  rw[←hb]
  cases b with
  |false=>((have fct:=hlm;(repeat' (first
  |refine gF ?_|refine aE ?_ ?_
  |apply trivial));all_goals clear fct))<;>first|exact aD (aB _ _)|exact⟨.refl (aB _ _),aB _ _⟩|rfl
  | true=>
    by_cases h4:0≤nx
    ·((have fct:=And.intro hlm (h4);(repeat' (first
  |refine gF ?_|refine aE ?_ ?_
  | apply trivial));all_goals clear fct))<;>first|exact aD (aB _ _)|exact⟨.refl (aB _ _),aB _ _⟩|simp[h4]
    ·((have fct:=And.intro hlm (h4);(repeat' (first
  |refine gF ?_|refine aE ?_ ?_
  |apply trivial));all_goals clear fct))<;>first|exact aD (aB _ _)|exact⟨.refl (aB _ _),aB _ _⟩|simp[h4]
structure iS (d:aZ):Prop where
 defs:d.defs.length≤100000
 waits:d.waits.length≤100000
theorem AZ (d:aZ)(h:iS d):ah Tryz.prog 144 [] [gi d] [] (aA (eW d)):=by
 have h29:=AU d h.defs h.waits
 obtain⟨l,ws,nx,bz⟩:=d
 refine ah.af (rvs:=[.tmp 2]) G aa Tryz.func144 rfl Tryz.ntmps144 rfl rfl ?_;with_reducible refine wD ?_
 refine aj.new 71 [] h29 NH ⟨⟨rfl,rfl,rfl,rfl,trivial⟩,trivial⟩ rfl rfl rfl (qg _) rfl ?_;with_reducible refine wK ?_
 (have fct:=h29;(repeat' (first
  |refine gF ?_|refine aE ?_ ?_
  |apply trivial));all_goals clear fct)
theorem rD {d:aZ}(h:eW d=true):fO d.defs=true:=(Dx.1 h).1
theorem mU {l:List bD}{a b:ByteArray}(h:fO l=true)(ha:∀ (k:Nat) (x:bD),l[k]? =some x→x.name=a→x.locl≠a)(hb:∀ (k:Nat) (x:bD),l[k]? =some x→x.name=b→x.locl≠a):sP l a b=-1:=by
 rcases oF l a b with⟨h1,_⟩|⟨j,y,_,h2,h3⟩
 ·exact h1
 ·obtain⟨g1,g2⟩:=kq.1 h3
  rcases g2 with g2|g2
  ·exact absurd g1 (ha j y h2 g2)
  ·exact absurd g1 (hb j y h2 g2)
theorem uy {l:List bD}(h:fO l=true){k:Nat}{x:bD}{s v:ByteArray}(hx:l[k]? =some x)(hn:x.name=s)(hv:x.locl≠v):∀ (j:Nat) (y:bD),l[j]? =some y→y.name=s→y.locl≠v:=fun j y hy he=>by
 have:=xy (mj.1 h).2.1 hx hy (hn.trans he.symm)
 subst this;rw[hx] at hy;cases hy;exact hv
theorem Ar {l:List bD}{s v:ByteArray}(h:AQ l s=-1):∀ (j:Nat) (y:bD),l[j]? =some y→y.name=s→y.locl≠v:=fun j y hy he=>absurd he (Mc h y (List.mem_of_getElem? hy))
theorem Me (d:aZ)(h:iS d)(a b:ByteArray):ah Tryz.prog 192 [] [gi d,cm a,cm b] [] (aq (findD d a b)):=by
 have h29:=AU d h.defs h.waits
 have hrd:=@rD d
 unfold findD
 obtain⟨r,hr⟩:∃r,eW d=r:=⟨_,rfl⟩
 rw[hr] at h29 hrd ⊢
 obtain⟨l,ws,nx,bz⟩:=d
 refine ah.af (rvs:=[.tmp 6]) G aa Tryz.func192 rfl Tryz.ntmps192 rfl rfl ?_;with_reducible refine wD ?_
 refine aj.new 151 [] h29 NH ⟨⟨rfl,rfl,rfl,rfl,trivial⟩,trivial⟩ rfl rfl rfl (qg _) rfl ?_;with_reducible refine wK ?_
 cases r with
 | false=>((have fct:=hr;(repeat' (first
  |refine gF ?_|refine aE ?_ ?_
  |apply trivial));all_goals clear fct))<;>rfl
 | true =>
   have hd:=hrd rfl
   rw[if_pos rfl]
   simp only at hd ⊢
   have second:∀ (k:Nat) (y:bD),l[k]? =some y→y.name=b→y.locl=a→sP l a b=k:=fun k y hy he hl=>wv hd hy (kq.2 ⟨hl,.inr he⟩)
   refine bq.ff ?_;with_reducible refine wK ?_
   refine jc.ck Value.string bF (mX kN (iA l)) (k:=a) (zv:=aq 0) oc ⟨_,_,rfl⟩ j3 j5 rfl rfl (fun x hxx=>?_) (fun hxx=>?_)
   ·rw[show bF x=aq x from rfl]
    with_reducible refine wK ?_
    rcases u7 hd a with⟨a1,_⟩|⟨j,⟨yn,yl,yc⟩,a1,a2,a3,a4⟩
    ·rw[hxx] at a1;cases a1
    rw[hxx] at a1;cases a1
    simp only at a4
    refine bq.tt ?_;with_reducible refine wK ?_
    refine ay.mk j (jH ⟨yn,yl,yc⟩) rfl (dD a3) ?_;with_reducible refine wK ?_
    by_cases hl:yl=a
    ·have hf:=wv (b:=b) hd a3 (kq.2 ⟨hl,.inl a4⟩)
     rw[hf]
     (have fct:=hl;(repeat' (first
  |refine gF ?_|refine aE ?_ ?_
  | apply trivial));all_goals clear fct)
    ·have n1:=uy hd a3 a4 hl
     refine bq.no (decide_eq_false hl) ?_;with_reducible refine wK ?_
     refine jc.ck Value.string bF (mX kN (iA l)) (k:=b) (zv:=aq 0) oc ⟨_,_,rfl⟩ j3 j5 rfl rfl (fun x hxx=>?_) (fun hxx=>?_)
     ·rw[show bF x=aq x from rfl]
      with_reducible refine wK ?_
      rcases u7 hd b with⟨b1,_⟩|⟨i,⟨zn,zl,zc⟩,b1,b2,b3,b4⟩
      ·rw[hxx] at b1;cases b1
      rw[hxx] at b1;cases b1
      refine bq.tt ?_;with_reducible refine wK ?_
      refine ay.mk i (jH ⟨zn,zl,zc⟩) rfl (dD b3) ?_;with_reducible refine wK ?_
      by_cases hz:zl=a
      ·have hf:=second i _ b3 b4 hz
       rw[hf]
       (have fct:=hz;(repeat' (first
  |refine gF ?_|refine aE ?_ ?_
  |apply trivial));all_goals clear fct)
      ·rw[mU hd n1 (uy hd b3 b4 hz)]
       (have fct:=hz;(repeat' (first
  |refine gF ?_|refine aE ?_ ?_
  |apply trivial));all_goals clear fct)
     ·with_reducible refine wK ?_
      rcases u7 hd b with⟨_,b1⟩|⟨i,y,b1,_⟩
      ·rw[mU hd n1 (Ar b1)]
       (have fct:=b1;(repeat' (first
  |refine gF ?_|refine aE ?_ ?_
  | apply trivial));all_goals clear fct)
      ·rw[hxx] at b1;cases b1
   ·with_reducible refine wK ?_
    rcases u7 hd a with⟨_,a1⟩|⟨j,y,a1,_⟩
    ·have n1:∀ (k:Nat) (x:bD),l[k]? =some x→x.name=a→x.locl≠a:=Ar a1
     refine bq.ff ?_;with_reducible refine wK ?_
     refine bq.ff ?_;with_reducible refine wK ?_
     refine jc.ck Value.string bF (mX kN (iA l)) (k:=b) (zv:=aq 0) oc ⟨_,_,rfl⟩ j3 j5 rfl rfl (fun x hxx=>?_) (fun hxx=>?_)
     ·rw[show bF x=aq x from rfl]
      with_reducible refine wK ?_
      rcases u7 hd b with⟨b1,_⟩|⟨i,⟨zn,zl,zc⟩,b1,b2,b3,b4⟩
      ·rw[hxx] at b1;cases b1
      rw[hxx] at b1;cases b1
      refine bq.tt ?_;with_reducible refine wK ?_
      refine ay.mk i (jH ⟨zn,zl,zc⟩) rfl (dD b3) ?_;with_reducible refine wK ?_
      by_cases hz:zl=a
      ·have hf:=second i _ b3 b4 hz
       rw[hf]
       (have fct:=hz;(repeat' (first
  |refine gF ?_|refine aE ?_ ?_
  |apply trivial));all_goals clear fct)
      ·rw[mU hd n1 (uy hd b3 b4 hz)]
       (have fct:=hz;(repeat' (first
  |refine gF ?_|refine aE ?_ ?_
  |apply trivial));all_goals clear fct)
     ·with_reducible refine wK ?_
      rcases u7 hd b with⟨_,b1⟩|⟨i,y,b1,_⟩
      ·rw[mU hd n1 (Ar b1)]
       (have fct:=b1;(repeat' (first
  |refine gF ?_|refine aE ?_ ?_
  | apply trivial));all_goals clear fct)
      ·rw[hxx] at b1;cases b1
    ·rw[hxx] at a1;cases a1
structure DQ (d:aZ):Prop where
 defs:d.defs.length≤40
 waits:d.waits.length≤40
 names:∀x∈d.defs,x.name.size≤300∧x.locl.size≤300
 wnames:∀w∈d.waits,w.name.size≤300
theorem DQ.small {d:aZ}(h:DQ d):iS d:=⟨Nat.le_trans h.defs (by omega),Nat.le_trans h.waits (by omega)⟩
theorem zK {α:Type}{P:α→Prop}{l:List α}{k:Nat}{a:α}(h:∀ (j:Nat) (b:α),j<k→l[j]? =some b→P b)(ha:l[k]? =some a)(hp:P a):∀ (j:Nat) (b:α),j<k+1→l[j]? =some b→P b:=fun j b hj hb=>by
 by_cases e:j=k
 ·subst e;rw[ha] at hb;cases hb;exact hp
 ·exact h j b (by omega) hb


end Go.Proofs.Heir
