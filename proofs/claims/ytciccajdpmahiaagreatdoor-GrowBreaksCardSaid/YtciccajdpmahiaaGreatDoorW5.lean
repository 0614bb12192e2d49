/- Models, plain laws and contracts of functions of the given program; conditions as stated in each theorem. By an AI agent. -/
import Derived.Test.YtciccajdpmahiaaGreatDoorW3
import Derived.Test.YtciccajdpmahiaaGreatDoorW4
import Derived.Test.YtciccajdpmahiaaGreatDoorChecked
import Derived.Test.YtciccajdpmahiaaGreatDoorW2
import Derived.Shelf.GgClosure.StringsIndexFunc
import Derived.Deep.LoopGhost
import Derived.WalkKit
import Derived.Laws.IdiomStrings
import Derived.IntWalk
import Derived.Outline
import Derived.Lib.Hide
import Derived.Lib.MapLaws
import Derived.Shelf.Strings.Search1
import Derived.Shelf.Strings.Search2
import Derived.Shelf.Strings.Search3
import Derived.Shelf.LaysM
import Derived.Shelf.Strings.Shaped
import Derived.Shelf.Strings.Fields
import Derived.RangeFuncNested
import Derived.RangeFuncBound
import Derived.RangeFuncCalls
import Derived.Shelf.Abstract
import Derived.Shelf.RegionOpen
import Derived.OwnWalkIn
import Derived.TacticsInMore
import Derived.LoopNIn
import Derived.LoopIn
set_option linter.unusedSimpArgs false
set_option linter.unusedVariables false
namespace Go.Proofs.Heir
open Go.Am
set_option maxRecDepth 100000
@[reducible] def G : TEnv := [(1, .sc .nilFunc), (2, .sc (.int .i64 0)), (3, .sc (.int .i64 0)), (4, .bl), (5, .sc (.int .u8 0)), (9, .str), (12, .sc (.int .u64 0)), (15, .sc (.pointer none)), (16, .sc (.pointer none)), (17, .sc (.pointer none)), (20, .sc .nilIface), (21, .sc (.int .i32 0)), (22, .sl 80 10 136), (24, .st 2 [(0, 22), (1, 3)] (Array.mk [(.slice none 0 0), (.int .i64 0)]) [1, 1]), (25, .sl 75 4 32), (26, .sl 95 3 40), (27, .sl 162 2 24), (29, .st 4 [(0, 26), (1, 27), (2, 3), (3, 4)] (Array.mk [(.slice none 0 0), (.slice none 0 0), (.int .i64 0), (.bool false)]) [1, 1, 1, 1]), (30, .sl 77 1 24), (31, .sl 32 1 24), (32, .sl 3 1 8), (34, .st 4 [(0, 30), (1, 31), (2, 32), (3, 4)] (Array.mk [(.slice none 0 0), (.slice none 0 0), (.slice none 0 0), (.bool false)]) [1, 1, 1, 1]), (35, .sl 73 3 24), (36, .sl 92 2 16), (37, .sl 53 5 104), (39, .st 14 [(0, 24), (2, 25), (3, 29), (7, 34), (11, 35), (12, 36), (13, 37)] (Array.mk [(.slice none 0 0), (.int .i64 0), (.slice none 0 0), (.slice none 0 0), (.slice none 0 0), (.int .i64 0), (.bool false), (.slice none 0 0), (.slice none 0 0), (.slice none 0 0), (.bool false), (.slice none 0 0), (.slice none 0 0), (.slice none 0 0)]) [2, 1, 4, 4, 1, 1, 1]), (40, .sl 218 9 88), (41, .sl 61 11 104), (42, .sc .nilFunc), (43, .sc .nilFunc), (44, .sc .nilFunc), (45, .sc .nilFunc), (46, .sc .nilFunc), (47, .sc .nilFunc), (48, .sc .nilFunc), (49, .sl 9 1 16), (50, .sl 274 7 72), (51, .sl 138 2 32), (53, .st 5 [(0, 4), (1, 49), (2, 50), (3, 50), (4, 51)] (Array.mk [(.bool false), (.slice none 0 0), (.slice none 0 0), (.slice none 0 0), (.slice none 0 0)]) [1, 1, 1, 1, 1]), (54, .sc (.int .i64 0)), (56, .sc .nilFunc), (57, .sc .nilFunc), (59, .st 10 [(0, 3), (1, 3), (2, 9), (3, 4), (4, 4), (5, 9), (6, 9), (7, 3), (8, 3), (9, 4)] (Array.mk [(.int .i64 0), (.int .i64 0), (.string ByteArray.empty), (.bool false), (.bool false), (.string ByteArray.empty), (.string ByteArray.empty), (.int .i64 0), (.int .i64 0), (.bool false)]) [1, 1, 1, 1, 1, 1, 1, 1, 1, 1]), (61, .st 11 [(0, 3), (1, 59)] (Array.mk [(.int .i64 0), (.int .i64 0), (.int .i64 0), (.string ByteArray.empty), (.bool false), (.bool false), (.string ByteArray.empty), (.string ByteArray.empty), (.int .i64 0), (.int .i64 0), (.bool false)]) [1, 10]), (62, .sc .nilFunc), (63, .sc .nilFunc), (64, .sc .nilFunc), (65, .sc .nilFunc), (66, .sc .nilFunc), (67, .sc .nilFunc), (68, .sc .nilFunc), (69, .sc .nilFunc), (70, .sc .nilFunc), (71, .sc .nilFunc), (73, .st 3 [(0, 3), (1, 3), (2, 3)] (Array.mk [(.int .i64 0), (.int .i64 0), (.int .i64 0)]) [1, 1, 1]), (75, .st 4 [(0, 3), (1, 3), (2, 3), (3, 4)] (Array.mk [(.int .i64 0), (.int .i64 0), (.int .i64 0), (.bool false)]) [1, 1, 1, 1]), (76, .sc .nilFunc), (77, .sl 59 10 96), (78, .sl 179 2 32), (80, .st 10 [(0, 3), (1, 9), (2, 9), (3, 9), (4, 78), (5, 3), (6, 32), (7, 3), (8, 3), (9, 3)] (Array.mk [(.int .i64 0), (.string ByteArray.empty), (.string ByteArray.empty), (.string ByteArray.empty), (.slice none 0 0), (.int .i64 0), (.slice none 0 0), (.int .i64 0), (.int .i64 0), (.int .i64 0)]) [1, 1, 1, 1, 1, 1, 1, 1, 1, 1]), (81, .sc .nilFunc), (82, .sc .nilFunc), (83, .sc .nilFunc), (84, .sc .nilFunc), (85, .sc .nilFunc), (86, .sc .nilFunc), (88, .sc .nilFunc), (89, .sc .nilFunc), (90, .sc .nilFunc), (92, .st 2 [(0, 3), (1, 3)] (Array.mk [(.int .i64 0), (.int .i64 0)]) [1, 1]), (93, .sc .nilFunc), (95, .st 3 [(0, 9), (1, 9), (2, 3)] (Array.mk [(.string ByteArray.empty), (.string ByteArray.empty), (.int .i64 0)]) [1, 1, 1]), (97, .sc .nilFunc), (98, .sc .nilFunc), (99, .sc .nilFunc), (100, .sl 5 1 1), (101, .sc .nilFunc), (102, .sc .nilFunc), (103, .sc .nilFunc), (105, .sc .nilFunc), (106, .sc .nilFunc), (107, .sc .nilFunc), (108, .sc .nilFunc), (109, .sc .nilFunc), (110, .sc .nilFunc), (111, .sc .nilFunc), (112, .sc .nilFunc), (114, .st 17 [(0, 39), (14, 3), (15, 4), (16, 3)] (Array.mk [(.slice none 0 0), (.int .i64 0), (.slice none 0 0), (.slice none 0 0), (.slice none 0 0), (.int .i64 0), (.bool false), (.slice none 0 0), (.slice none 0 0), (.slice none 0 0), (.bool false), (.slice none 0 0), (.slice none 0 0), (.slice none 0 0), (.int .i64 0), (.bool false), (.int .i64 0)]) [14, 1, 1, 1]), (115, .sc .nilFunc), (117, .sc .nilFunc), (118, .sc .nilFunc), (119, .sc .nilFunc), (120, .sc .nilFunc), (121, .sc .nilFunc), (122, .sc .nilFunc), (124, .sc .nilFunc), (125, .sc .nilFunc), (126, .sc .nilFunc), (127, .sc .nilFunc), (128, .sc .nilFunc), (130, .st 14 [(0, 39)] (Array.mk [(.slice none 0 0), (.int .i64 0), (.slice none 0 0), (.slice none 0 0), (.slice none 0 0), (.int .i64 0), (.bool false), (.slice none 0 0), (.slice none 0 0), (.slice none 0 0), (.bool false), (.slice none 0 0), (.slice none 0 0), (.slice none 0 0)]) [14]), (131, .sc .nilFunc), (132, .sc .nilFunc), (133, .sc .nilFunc), (135, .sc .nilFunc), (136, .sc .nilFunc), (138, .st 2 [(0, 3), (1, 50)] (Array.mk [(.int .i64 0), (.slice none 0 0)]) [1, 1]), (139, .sc .nilFunc), (140, .sc .nilFunc), (141, .sc .nilFunc), (142, .sc .nilFunc), (143, .sc .nilFunc), (145, .sc .nilFunc), (146, .sc .nilFunc), (147, .sc .nilFunc), (148, .sc .nilFunc), (149, .sc .nilFunc), (150, .sc .nilFunc), (151, .sc .nilFunc), (152, .sc .nilFunc), (153, .sc .nilFunc), (155, .sc .nilFunc), (156, .sc .nilFunc), (157, .sc .nilFunc), (159, .sc .nilFunc), (160, .sc .nilFunc), (162, .st 2 [(0, 9), (1, 3)] (Array.mk [(.string ByteArray.empty), (.int .i64 0)]) [1, 1]), (163, .sc .nilFunc), (164, .sc .nilFunc), (165, .sc .nilFunc), (166, .sc (.pointer none)), (168, .sc .nilFunc), (169, .sc .nilFunc), (170, .st 14 [(0, 39)] (Array.mk [(.slice none 0 0), (.int .i64 0), (.slice none 0 0), (.slice none 0 0), (.slice none 0 0), (.int .i64 0), (.bool false), (.slice none 0 0), (.slice none 0 0), (.slice none 0 0), (.bool false), (.slice none 0 0), (.slice none 0 0), (.slice none 0 0)]) [14]), (171, .sc .nilFunc), (173, .st 8 [(0, 24), (2, 25), (3, 29), (7, 37)] (Array.mk [(.slice none 0 0), (.int .i64 0), (.slice none 0 0), (.slice none 0 0), (.slice none 0 0), (.int .i64 0), (.bool false), (.slice none 0 0)]) [2, 1, 4, 1]), (175, .sc .nilFunc), (177, .sc .nilFunc), (179, .st 2 [(0, 9), (1, 9)] (Array.mk [(.string ByteArray.empty), (.string ByteArray.empty)]) [1, 1]), (180, .sc .nilFunc), (181, .sc .nilFunc), (182, .sc .nilFunc), (183, .sc (.map none)), (184, .sc (.map none)), (186, .st 2 [(0, 183), (1, 184)] (Array.mk [(.map none), (.map none)]) [1, 1]), (188, .sc .nilFunc), (190, .sc .nilFunc), (191, .sc .nilFunc), (192, .sc .nilFunc), (193, .sc .nilFunc), (195, .sc .nilFunc), (196, .sc .nilFunc), (197, .sc .nilFunc), (198, .sc .nilFunc), (200, .st 2 [(0, 24)] (Array.mk [(.slice none 0 0), (.int .i64 0)]) [2]), (201, .sc .nilFunc), (202, .sc .nilFunc), (203, .sc .nilFunc), (204, .sc .nilFunc), (205, .sc .nilFunc), (206, .sc .nilFunc), (207, .sc .nilFunc), (208, .sc .nilFunc), (209, .sc .nilFunc), (210, .sc .nilFunc), (211, .sc .nilFunc), (212, .sc (.pointer none)), (213, .sc .nilFunc), (215, .sc .nilFunc), (216, .sc .nilFunc), (218, .st 9 [(0, 3), (1, 3), (2, 3), (3, 3), (4, 9), (5, 4), (6, 4), (7, 9), (8, 9)] (Array.mk [(.int .i64 0), (.int .i64 0), (.int .i64 0), (.int .i64 0), (.string ByteArray.empty), (.bool false), (.bool false), (.string ByteArray.empty), (.string ByteArray.empty)]) [1, 1, 1, 1, 1, 1, 1, 1, 1]), (220, .sc .nilFunc), (221, .sc (.pointer none)), (223, .sc .nilFunc), (225, .st 9 [(0, 24), (2, 25), (3, 29), (7, 37), (8, 41)] (Array.mk [(.slice none 0 0), (.int .i64 0), (.slice none 0 0), (.slice none 0 0), (.slice none 0 0), (.int .i64 0), (.bool false), (.slice none 0 0), (.slice none 0 0)]) [2, 1, 4, 1, 1]), (226, .sc .nilFunc), (227, .sc .nilFunc), (228, .sc (.pointer none)), (229, .sc .nilFunc), (230, .sc .nilFunc), (231, .sc .nilFunc), (232, .sc .nilFunc), (233, .sc .nilFunc), (234, .sc .nilFunc), (235, .sc .nilFunc), (236, .sc .nilFunc), (237, .sc .nilFunc), (238, .sc .nilFunc), (239, .sc .nilFunc), (240, .sc .nilFunc), (242, .sc (.map none)), (243, .sc .nilFunc), (244, .sc .nilFunc), (245, .sc .nilFunc), (246, .sc .nilFunc), (248, .sc .nilFunc), (249, .sc .nilFunc), (250, .sc .nilFunc), (251, .sc .nilFunc), (252, .sc .nilFunc), (253, .sc .nilFunc), (254, .sc .nilFunc), (255, .sc .nilFunc), (256, .sc .nilFunc), (257, .sc .nilFunc), (258, .sc .nilFunc), (259, .sc .nilFunc), (260, .sc .nilFunc), (261, .sc .nilFunc), (262, .sc .nilFunc), (263, .sc (.map none)), (265, .st 3 [(0, 24), (2, 263)] (Array.mk [(.slice none 0 0), (.int .i64 0), (.map none)]) [2, 1]), (266, .sc .nilFunc), (267, .sc .nilFunc), (269, .sc .nilFunc), (270, .sc .nilFunc), (271, .sc .nilFunc), (272, .sc .nilFunc), (274, .st 7 [(0, 3), (1, 3), (2, 3), (3, 3), (4, 9), (5, 9), (6, 4)] (Array.mk [(.int .i64 0), (.int .i64 0), (.int .i64 0), (.int .i64 0), (.string ByteArray.empty), (.string ByteArray.empty), (.bool false)]) [1, 1, 1, 1, 1, 1, 1]), (275, .sc .nilFunc), (276, .sc .nilFunc), (277, .sc .nilFunc), (278, .sc .nilFunc), (279, .sc .nilFunc), (280, .sc .nilFunc), (281, .sc .nilFunc), (282, .sc .nilFunc), (283, .sc .nilFunc), (284, .sc (.map none)), (285, .sc .nilFunc), (286, .sc .nilFunc), (287, .sc .nilFunc), (288, .sc .nilFunc), (289, .sc .nilFunc), (290, .sc .nilFunc), (291, .sc .nilFunc), (292, .sc .nilFunc), (293, .sc .nilFunc), (295, .sc .nilFunc), (297, .sc .nilFunc), (298, .sc .nilFunc), (299, .sc (.int .u64 0)), (300, .sc .nilFunc), (301, .sc .nilFunc), (302, .sc .nilFunc), (303, .sc .nilFunc), (304, .sc (.int .u32 0)), (306, .sc .nilFunc), (308, .sc .nilFunc), (309, .sl 311 2 16), (311, .st 2 [(0, 3), (1, 3)] (Array.mk [(.int .i64 0), (.int .i64 0)]) [1, 1]), (312, .sc .nilFunc), (313, .sc (.pointer none)), (314, .sl 320 3 6), (315, .sl 323 3 12), (317, .st 3 [(0, 314), (1, 315), (2, 3)] (Array.mk [(.slice none 0 0), (.slice none 0 0), (.int .i64 0)]) [1, 1, 1]), (318, .sc (.int .u16 0)), (320, .st 3 [(0, 318), (1, 318), (2, 318)] (Array.mk [(.int .u16 0), (.int .u16 0), (.int .u16 0)]) [1, 1, 1]), (321, .sc .nilFunc), (323, .st 3 [(0, 304), (1, 304), (2, 304)] (Array.mk [(.int .u32 0), (.int .u32 0), (.int .u32 0)]) [1, 1, 1]), (324, .sc .nilFunc), (325, .sc (.pointer none)), (326, .sc (.pointer none)), (327, .sc .nilFunc), (333, .sc .nilFunc), (336, .sc .nilFunc), (337, .sc (.pointer none))]
theorem G_good:G.Good Tryz.prog:=fS<|fS<|fS<|fB<|fS<|fG<|fS<|fS<|fS<|fS<|fS<|fS<|fL<|fT Tryz.underlying24<|fL<|fL<|fL<|fT Tryz.underlying29<|fL<|fL<|fL<|fT Tryz.underlying34<|fL<|fL<|fL<|fT Tryz.underlying39<|fL<|fL<|fS<|fS<|fS<|fS<|fS<|fS<|fS<|fL<|fL<|fL<|fT Tryz.underlying53<|fS<|fS<|fS<|fT Tryz.underlying59<|fT Tryz.underlying61<|fS<|fS<|fS<|fS<|fS<|fS<|fS<|fS<|fS<|fS<|fT Tryz.underlying73<|fT Tryz.underlying75<|fS<|fL<|fL<|fT Tryz.underlying80<|fS<|fS<|fS<|fS<|fS<|fS<|fS<|fS<|fS<|fT Tryz.underlying92<|fS<|fT Tryz.underlying95<|fS<|fS<|fS<|fL<|fS<|fS<|fS<|fS<|fS<|fS<|fS<|fS<|fS<|fS<|fS<|fT Tryz.underlying114<|fS<|fS<|fS<|fS<|fS<|fS<|fS<|fS<|fS<|fS<|fS<|fS<|fT Tryz.underlying130<|fS<|fS<|fS<|fS<|fS<|fT Tryz.underlying138<|fS<|fS<|fS<|fS<|fS<|fS<|fS<|fS<|fS<|fS<|fS<|fS<|fS<|fS<|fS<|fS<|fS<|fS<|fS<|fT Tryz.underlying162<|fS<|fS<|fS<|fS<|fS<|fS<|fT Tryz.underlying170<|fS<|fT Tryz.underlying173<|fS<|fS<|fT Tryz.underlying179<|fS<|fS<|fS<|fS<|fS<|fT Tryz.underlying186<|fS<|fS<|fS<|fS<|fS<|fS<|fS<|fS<|fS<|fT Tryz.underlying200<|fS<|fS<|fS<|fS<|fS<|fS<|fS<|fS<|fS<|fS<|fS<|fS<|fS<|fS<|fS<|fT Tryz.underlying218<|fS<|fS<|fS<|fT Tryz.underlying225<|fS<|fS<|fS<|fS<|fS<|fS<|fS<|fS<|fS<|fS<|fS<|fS<|fS<|fS<|fS<|fS<|fS<|fS<|fS<|fS<|fS<|fS<|fS<|fS<|fS<|fS<|fS<|fS<|fS<|fS<|fS<|fS<|fS<|fS<|fS<|fS<|fT Tryz.underlying265<|fS<|fS<|fS<|fS<|fS<|fS<|fT Tryz.underlying274<|fS<|fS<|fS<|fS<|fS<|fS<|fS<|fS<|fS<|fS<|fS<|fS<|fS<|fS<|fS<|fS<|fS<|fS<|fS<|fS<|fS<|fS<|fS<|fS<|fS<|fS<|fS<|fS<|fS<|fS<|fL<|fT Tryz.underlying311<|fS<|fS<|fL<|fL<|fT Tryz.underlying317<|fS<|fT Tryz.underlying320<|fS<|fT Tryz.underlying323<|fS<|fS<|fS<|fS<|fS<|fS<|fS<|fN
theorem c3:Callable Tryz.prog 3:=fun _ _=>by kernel_rfl
theorem c4:Callable Tryz.prog 4:=fun _ _=>by kernel_rfl
theorem c5:Callable Tryz.prog 5:=fun _ _=>by kernel_rfl
theorem c6:Callable Tryz.prog 6:=fun _ _=>by kernel_rfl
theorem c7:Callable Tryz.prog 7:=fun _ _=>by kernel_rfl
theorem c8:Callable Tryz.prog 8:=fun _ _=>by kernel_rfl
theorem c9:Callable Tryz.prog 9:=fun _ _=>by kernel_rfl
theorem c10:Callable Tryz.prog 10:=fun _ _=>by kernel_rfl
theorem c16:Callable Tryz.prog 16:=fun _ _=>by kernel_rfl
theorem c17:Callable Tryz.prog 17:=fun _ _=>by kernel_rfl
theorem c19:Callable Tryz.prog 19:=fun _ _=>by kernel_rfl
theorem c23:Callable Tryz.prog 23:=fun _ _=>by kernel_rfl
theorem c26:Callable Tryz.prog 26:=fun _ _=>by kernel_rfl
theorem c28:Callable Tryz.prog 28:=fun _ _=>by kernel_rfl
theorem c31:Callable Tryz.prog 31:=fun _ _=>by kernel_rfl
theorem c33:Callable Tryz.prog 33:=fun _ _=>by kernel_rfl
theorem c37:Callable Tryz.prog 37:=fun _ _=>by kernel_rfl
theorem c38:Callable Tryz.prog 38:=fun _ _=>by kernel_rfl
theorem c39:Callable Tryz.prog 39:=fun _ _=>by kernel_rfl
theorem c41:Callable Tryz.prog 41:=fun _ _=>by kernel_rfl
theorem c42:Callable Tryz.prog 42:=fun _ _=>by kernel_rfl
theorem c43:Callable Tryz.prog 43:=fun _ _=>by kernel_rfl
theorem c44:Callable Tryz.prog 44:=fun _ _=>by kernel_rfl
theorem c46:Callable Tryz.prog 46:=fun _ _=>by kernel_rfl
theorem c47:Callable Tryz.prog 47:=fun _ _=>by kernel_rfl
theorem c48:Callable Tryz.prog 48:=fun _ _=>by kernel_rfl
theorem c49:Callable Tryz.prog 49:=fun _ _=>by kernel_rfl
theorem c50:Callable Tryz.prog 50:=fun _ _=>by kernel_rfl
theorem c51:Callable Tryz.prog 51:=fun _ _=>by kernel_rfl
theorem c52:Callable Tryz.prog 52:=fun _ _=>by kernel_rfl
theorem c54:Callable Tryz.prog 54:=fun _ _=>by kernel_rfl
theorem c55:Callable Tryz.prog 55:=fun _ _=>by kernel_rfl
theorem c56:Callable Tryz.prog 56:=fun _ _=>by kernel_rfl
theorem c58:Callable Tryz.prog 58:=fun _ _=>by kernel_rfl
theorem c59:Callable Tryz.prog 59:=fun _ _=>by kernel_rfl
theorem c67:Callable Tryz.prog 67:=fun _ _=>by kernel_rfl
theorem c68:Callable Tryz.prog 68:=fun _ _=>by kernel_rfl
theorem c69:Callable Tryz.prog 69:=fun _ _=>by kernel_rfl
theorem c70:Callable Tryz.prog 70:=fun _ _=>by kernel_rfl
theorem c71:Callable Tryz.prog 71:=fun _ _=>by kernel_rfl
theorem c78:Callable Tryz.prog 78:=fun _ _=>by kernel_rfl
theorem c80:Callable Tryz.prog 80:=fun _ _=>by kernel_rfl
theorem c81:Callable Tryz.prog 81:=fun _ _=>by kernel_rfl
theorem c82:Callable Tryz.prog 82:=fun _ _=>by kernel_rfl
theorem c83:Callable Tryz.prog 83:=fun _ _=>by kernel_rfl
theorem c84:Callable Tryz.prog 84:=fun _ _=>by kernel_rfl
theorem c85:Callable Tryz.prog 85:=fun _ _=>by kernel_rfl
theorem c88:Callable Tryz.prog 88:=fun _ _=>by kernel_rfl
theorem c89:Callable Tryz.prog 89:=fun _ _=>by kernel_rfl
theorem c90:Callable Tryz.prog 90:=fun _ _=>by kernel_rfl
theorem c91:Callable Tryz.prog 91:=fun _ _=>by kernel_rfl
theorem c94:Callable Tryz.prog 94:=fun _ _=>by kernel_rfl
theorem c97:Callable Tryz.prog 97:=fun _ _=>by kernel_rfl
theorem c100:Callable Tryz.prog 100:=fun _ _=>by kernel_rfl
theorem c102:Callable Tryz.prog 102:=fun _ _=>by kernel_rfl
theorem c103:Callable Tryz.prog 103:=fun _ _=>by kernel_rfl
theorem c104:Callable Tryz.prog 104:=fun _ _=>by kernel_rfl
theorem c108:Callable Tryz.prog 108:=fun _ _=>by kernel_rfl
theorem c109:Callable Tryz.prog 109:=fun _ _=>by kernel_rfl
theorem c112:Callable Tryz.prog 112:=fun _ _=>by kernel_rfl
theorem c114:Callable Tryz.prog 114:=fun _ _=>by kernel_rfl
theorem c115:Callable Tryz.prog 115:=fun _ _=>by kernel_rfl
theorem c117:Callable Tryz.prog 117:=fun _ _=>by kernel_rfl
theorem c118:Callable Tryz.prog 118:=fun _ _=>by kernel_rfl
theorem c119:Callable Tryz.prog 119:=fun _ _=>by kernel_rfl
theorem c120:Callable Tryz.prog 120:=fun _ _=>by kernel_rfl
theorem c122:Callable Tryz.prog 122:=fun _ _=>by kernel_rfl
theorem c125:Callable Tryz.prog 125:=fun _ _=>by kernel_rfl
theorem c126:Callable Tryz.prog 126:=fun _ _=>by kernel_rfl
theorem c135:Callable Tryz.prog 135:=fun _ _=>by kernel_rfl
theorem c136:Callable Tryz.prog 136:=fun _ _=>by kernel_rfl
theorem c138:Callable Tryz.prog 138:=fun _ _=>by kernel_rfl
theorem c140:Callable Tryz.prog 140:=fun _ _=>by kernel_rfl
theorem c144:Callable Tryz.prog 144:=fun _ _=>by kernel_rfl
theorem c145:Callable Tryz.prog 145:=fun _ _=>by kernel_rfl
theorem c147:Callable Tryz.prog 147:=fun _ _=>by kernel_rfl
theorem c149:Callable Tryz.prog 149:=fun _ _=>by kernel_rfl
theorem c152:Callable Tryz.prog 152:=fun _ _=>by kernel_rfl
theorem c155:Callable Tryz.prog 155:=fun _ _=>by kernel_rfl
theorem c156:Callable Tryz.prog 156:=fun _ _=>by kernel_rfl
theorem c157:Callable Tryz.prog 157:=fun _ _=>by kernel_rfl
theorem c158:Callable Tryz.prog 158:=fun _ _=>by kernel_rfl
theorem c159:Callable Tryz.prog 159:=fun _ _=>by kernel_rfl
theorem c163:Callable Tryz.prog 163:=fun _ _=>by kernel_rfl
theorem c164:Callable Tryz.prog 164:=fun _ _=>by kernel_rfl
theorem c165:Callable Tryz.prog 165:=fun _ _=>by kernel_rfl
theorem c168:Callable Tryz.prog 168:=fun _ _=>by kernel_rfl
theorem c169:Callable Tryz.prog 169:=fun _ _=>by kernel_rfl
theorem c172:Callable Tryz.prog 172:=fun _ _=>by kernel_rfl
theorem c179:Callable Tryz.prog 179:=fun _ _=>by kernel_rfl
theorem c180:Callable Tryz.prog 180:=fun _ _=>by kernel_rfl
theorem c181:Callable Tryz.prog 181:=fun _ _=>by kernel_rfl
theorem c182:Callable Tryz.prog 182:=fun _ _=>by kernel_rfl
theorem c183:Callable Tryz.prog 183:=fun _ _=>by kernel_rfl
theorem c184:Callable Tryz.prog 184:=fun _ _=>by kernel_rfl
theorem c185:Callable Tryz.prog 185:=fun _ _=>by kernel_rfl
theorem c187:Callable Tryz.prog 187:=fun _ _=>by kernel_rfl
theorem c188:Callable Tryz.prog 188:=fun _ _=>by kernel_rfl
theorem c189:Callable Tryz.prog 189:=fun _ _=>by kernel_rfl
theorem c190:Callable Tryz.prog 190:=fun _ _=>by kernel_rfl
theorem c191:Callable Tryz.prog 191:=fun _ _=>by kernel_rfl
theorem c192:Callable Tryz.prog 192:=fun _ _=>by kernel_rfl
theorem c203:Callable Tryz.prog 203:=fun _ _=>by kernel_rfl
theorem c207:Callable Tryz.prog 207:=fun _ _=>by kernel_rfl
theorem c208:Callable Tryz.prog 208:=fun _ _=>by kernel_rfl
theorem c209:Callable Tryz.prog 209:=fun _ _=>by kernel_rfl
theorem c210:Callable Tryz.prog 210:=fun _ _=>by kernel_rfl
theorem c211:Callable Tryz.prog 211:=fun _ _=>by kernel_rfl
theorem c212:Callable Tryz.prog 212:=fun _ _=>by kernel_rfl
theorem c213:Callable Tryz.prog 213:=fun _ _=>by kernel_rfl
theorem c214:Callable Tryz.prog 214:=fun _ _=>by kernel_rfl
theorem c215:Callable Tryz.prog 215:=fun _ _=>by kernel_rfl
theorem c216:Callable Tryz.prog 216:=fun _ _=>by kernel_rfl
theorem c217:Callable Tryz.prog 217:=fun _ _=>by kernel_rfl
theorem c218:Callable Tryz.prog 218:=fun _ _=>by kernel_rfl
theorem c219:Callable Tryz.prog 219:=fun _ _=>by kernel_rfl
theorem c221:Callable Tryz.prog 221:=fun _ _=>by kernel_rfl
theorem c233:Callable Tryz.prog 233:=fun _ _=>by kernel_rfl
theorem c234:Callable Tryz.prog 234:=fun _ _=>by kernel_rfl
theorem c235:Callable Tryz.prog 235:=fun _ _=>by kernel_rfl
theorem c236:Callable Tryz.prog 236:=fun _ _=>by kernel_rfl
theorem c237:Callable Tryz.prog 237:=fun _ _=>by kernel_rfl
theorem c238:Callable Tryz.prog 238:=fun _ _=>by kernel_rfl
theorem c240:Callable Tryz.prog 240:=fun _ _=>by kernel_rfl
theorem c241:Callable Tryz.prog 241:=fun _ _=>by kernel_rfl
theorem c243:Callable Tryz.prog 243:=fun _ _=>by kernel_rfl
theorem c244:Callable Tryz.prog 244:=fun _ _=>by kernel_rfl
theorem c245:Callable Tryz.prog 245:=fun _ _=>by kernel_rfl
theorem c246:Callable Tryz.prog 246:=fun _ _=>by kernel_rfl
theorem c247:Callable Tryz.prog 247:=fun _ _=>by kernel_rfl
theorem c248:Callable Tryz.prog 248:=fun _ _=>by kernel_rfl
theorem c251:Callable Tryz.prog 251:=fun _ _=>by kernel_rfl
theorem c252:Callable Tryz.prog 252:=fun _ _=>by kernel_rfl
theorem c253:Callable Tryz.prog 253:=fun _ _=>by kernel_rfl
theorem c254:Callable Tryz.prog 254:=fun _ _=>by kernel_rfl
theorem c258:Callable Tryz.prog 258:=fun _ _=>by kernel_rfl
theorem c259:Callable Tryz.prog 259:=fun _ _=>by kernel_rfl
theorem c260:Callable Tryz.prog 260:=fun _ _=>by kernel_rfl
theorem c262:Callable Tryz.prog 262:=fun _ _=>by kernel_rfl
theorem c263:Callable Tryz.prog 263:=fun _ _=>by kernel_rfl
theorem c264:Callable Tryz.prog 264:=fun _ _=>by kernel_rfl
theorem c265:Callable Tryz.prog 265:=fun _ _=>by kernel_rfl
theorem c266:Callable Tryz.prog 266:=fun _ _=>by kernel_rfl
theorem c267:Callable Tryz.prog 267:=fun _ _=>by kernel_rfl
theorem c268:Callable Tryz.prog 268:=fun _ _=>by kernel_rfl
theorem c269:Callable Tryz.prog 269:=fun _ _=>by kernel_rfl
theorem c275:Callable Tryz.prog 275:=fun _ _=>by kernel_rfl
theorem c276:Callable Tryz.prog 276:=fun _ _=>by kernel_rfl
theorem c277:Callable Tryz.prog 277:=fun _ _=>by kernel_rfl
theorem c282:Callable Tryz.prog 282:=fun _ _=>by kernel_rfl
theorem c283:Callable Tryz.prog 283:=fun _ _=>by kernel_rfl
theorem c75:Callable Tryz.prog 75:=fun _ _=>by kernel_rfl
theorem c95:Callable Tryz.prog 95:=fun _ _=>by kernel_rfl
theorem c96:Callable Tryz.prog 96:=fun _ _=>by kernel_rfl
theorem c98:Callable Tryz.prog 98:=fun _ _=>by kernel_rfl
theorem c101:Callable Tryz.prog 101:=fun _ _=>by kernel_rfl
theorem c113:Callable Tryz.prog 113:=fun _ _=>by kernel_rfl
theorem c116:Callable Tryz.prog 116:=fun _ _=>by kernel_rfl
theorem c121:Callable Tryz.prog 121:=fun _ _=>by kernel_rfl
theorem c123:Callable Tryz.prog 123:=fun _ _=>by kernel_rfl
theorem c124:Callable Tryz.prog 124:=fun _ _=>by kernel_rfl
theorem c137:Callable Tryz.prog 137:=fun _ _=>by kernel_rfl
theorem c139:Callable Tryz.prog 139:=fun _ _=>by kernel_rfl
theorem c143:Callable Tryz.prog 143:=fun _ _=>by kernel_rfl
theorem c146:Callable Tryz.prog 146:=fun _ _=>by kernel_rfl
theorem c148:Callable Tryz.prog 148:=fun _ _=>by kernel_rfl
theorem c150:Callable Tryz.prog 150:=fun _ _=>by kernel_rfl
theorem c151:Callable Tryz.prog 151:=fun _ _=>by kernel_rfl
theorem c153:Callable Tryz.prog 153:=fun _ _=>by kernel_rfl
theorem c154:Callable Tryz.prog 154:=fun _ _=>by kernel_rfl
theorem c162:Callable Tryz.prog 162:=fun _ _=>by kernel_rfl
theorem c167:Callable Tryz.prog 167:=fun _ _=>by kernel_rfl
theorem c170:Callable Tryz.prog 170:=fun _ _=>by kernel_rfl
theorem c171:Callable Tryz.prog 171:=fun _ _=>by kernel_rfl
theorem c198:Callable Tryz.prog 198:=fun _ _=>by kernel_rfl
theorem c199:Callable Tryz.prog 199:=fun _ _=>by kernel_rfl
theorem c200:Callable Tryz.prog 200:=fun _ _=>by kernel_rfl
theorem c201:Callable Tryz.prog 201:=fun _ _=>by kernel_rfl
theorem c202:Callable Tryz.prog 202:=fun _ _=>by kernel_rfl
theorem c204:Callable Tryz.prog 204:=fun _ _=>by kernel_rfl
theorem c205:Callable Tryz.prog 205:=fun _ _=>by kernel_rfl
theorem c206:Callable Tryz.prog 206:=fun _ _=>by kernel_rfl
theorem c220:Callable Tryz.prog 220:=fun _ _=>by kernel_rfl
theorem c242:Callable Tryz.prog 242:=fun _ _=>by kernel_rfl
theorem c249:Callable Tryz.prog 249:=fun _ _=>by kernel_rfl
theorem c250:Callable Tryz.prog 250:=fun _ _=>by kernel_rfl
theorem mt74:MapTy Tryz.prog 184 (.int .i64) (.int .i64 0):=⟨3,3,by kernel_rfl,by kernel_rfl,fun w=>Tryz.zeroValue3 w⟩
end Go.Proofs.Heir
namespace Go.Proofs.Heir
open Go.Am
set_option maxRecDepth 100000
set_option maxHeartbeats 8000000
def smallC (c:Int):Bool:=decide (97≤c)&&decide (c≤122)
def capC (c:Int):Bool:=decide (65≤c)&&decide (c≤90)
def signC (c:Int):Bool:=smallC c||capC c||(decide (48≤c)&&decide (c≤57))||decide (c=45)||decide (c=95)||decide (c=46)
@[reducible] def eRune (c : Int) : AV := .lit (.int .i32 c)
@[reducible] def eBool (b : Bool) : AV := .lit (.bool b)
@[reducible] def eStr (s : ByteArray) : AV := .lit (.string s)
@[reducible] def eInt (n : Int) : AV := .lit (.int .i64 n)
theorem f180_ok (c:Int):FnOK Tryz.prog 180 [] [eRune c] [] (eBool (smallC c)):=by
 refine FnOK.startC (rvs:=[.tmp 2]) G G_good Tryz.func180 rfl Tryz.ntmps180 rfl rfl ?_;with_reducible refine wD ?_
 refine IfK.mk (fun h=>?_) (fun h=>?_)<;>(try simp only[castN] at h)<;>with_reducible refine wK ?_
 ·(refine eK ?_ ?_<;>with_reducible repeat' (first|exact trivial|(show _∧_;refine aK ?_ ?_)))
  unfold smallC
  simp at h;simp[h]
 ·(refine eK ?_ ?_<;>with_reducible repeat' (first|exact trivial|(show _∧_;refine aK ?_ ?_)))
  unfold smallC
  simp at h;simp;omega
theorem f182_ok (c:Int):FnOK Tryz.prog 182 [] [eRune c] [] (eBool (capC c)):=by
 refine FnOK.startC (rvs:=[.tmp 2]) G G_good Tryz.func182 rfl Tryz.ntmps182 rfl rfl ?_;with_reducible refine wD ?_
 refine IfK.mk (fun h=>?_) (fun h=>?_)<;>(try simp only[castN] at h)<;>with_reducible refine wK ?_
 ·(refine eK ?_ ?_<;>with_reducible repeat' (first|exact trivial|(show _∧_;refine aK ?_ ?_)))
  unfold capC
  simp at h;simp[h]
 ·(refine eK ?_ ?_<;>with_reducible repeat' (first|exact trivial|(show _∧_;refine aK ?_ ?_)))
  unfold capC
  simp at h;simp;omega
theorem f215_ok (c:Int):FnOK Tryz.prog 215 [] [eRune c] [] (eBool (signC c)):=by
 refine FnOK.startC (rvs:=[.tmp 2]) G G_good Tryz.func215 rfl Tryz.ntmps215 rfl rfl ?_;with_reducible refine wD ?_
 refine cL (f180_ok c) c180 ?_;with_reducible refine wK ?_
 repeat' (first
  |refine aE ?_ ?_
  |((with_reducible show IfK _ _ _ _);first|refine iK ?_|(refine IfK.mk (fun _=>?_) (fun _=>?_)<;>with_reducible refine wK ?_))
  |((with_reducible refine kQ 182 ?_);refine cL (f182_ok c) c182 ?_;with_reducible refine wK ?_)
  |apply trivial)
 all_goals (simp_all[signC,smallC,capC]<;>omega)
theorem f214_ok (c:Int):FnOK Tryz.prog 214 [] [eRune c] [] (eBool (!signC c)):=by
 refine FnOK.startC (rvs:=[.tmp 2]) G G_good Tryz.func214 rfl Tryz.ntmps214 rfl rfl ?_;with_reducible refine wD ?_
 refine cL (f215_ok c) c215 ?_;with_reducible refine wK ?_
 (refine eK ?_ ?_<;>with_reducible repeat' (first|exact trivial|(show _∧_;refine aK ?_ ?_)))
open Go.RowKit Go.Lib in
theorem f256_calls (g:Nat)(eg:∀args w,(callFunc g args).run Tryz.prog w=.ok (.enter g args) w)(p:Nat→Bool)(s:ByteArray)(w:World)(ht:Tabs Tryz.prog w fun _=>none)(hp:∀ (W:World) (x:Nat),(Tabs Tryz.prog W fun _=>none)→x≤1114111→Calls Tryz.prog g #[.int .i32 (x:Int)] W fun e w'=>e=.returned (.bool (p x))∧Below W.heap.size W w'):
  Calls Tryz.prog 256 #[.string s,.func (.func g) #[] #[],.bool true] w fun e w'=>e=.returned (.int .i64 (Lib.idxFunc p true s))∧Below w.heap.size w w':=by
 go_enter Tryz.func256,Tryz.ntmps256
 go_wp2
 go_loopg [] s.size (fun gf wx=> ∃pos:Nat,wx.heap[w.heap.size]? =some (.stringIter s pos)∧Below w.heap.size w wx∧Lib.idxFuncFrom p true s gf pos=Lib.idxFunc p true s∧s.size≤pos+gf)
 case atStart=>exact⟨0,World.iter_heap w s 0,(Below.refl _ w).alloc (Nat.le_refl _) _,rfl,by omega⟩
 case round=>
  obtain⟨pos,hit,hbw,hleft,hfu⟩:=hrel
  by_cases hps:pos<s.size
  ·obtain⟨g',rfl⟩:∃g',gk=g'+1:=⟨gk-1,by omega⟩
   have hnx:∀ty,(Instr.next (.pointer (some ⟨w.heap.size,0,none⟩)) true ty).run Tryz.prog wr=_:=fun ty=>Lib.run_next_any_at wr w.heap.size s pos ty hit hps
   have hwd:=Lib.width_pos s pos
   obtain⟨R,hR⟩:∃R,(Utf8.decode s pos).1=R:=⟨_,rfl⟩
   obtain⟨K,hK⟩:∃K,(Utf8.decode s pos).2=K:=⟨_,rfl⟩
   simp only[Lib.idxFuncFrom,hps,if_true,hR,hK] at hleft
   rw[hR,hK] at hnx
   rw[hK] at hwd
   have hit2:=Lib.iterAt_heap wr w.heap.size s pos (pos+K) hit
   have hbw2:=Lib.below_iterAt hbw (k:=w.heap.size) (Nat.le_refl _) s (pos+K)
   obtain⟨W,hWd⟩:∃W,wr.iterAt w.heap.size s (pos+K)=W:=⟨_,rfl⟩
   rw[hWd] at hnx hit2 hbw2
   have hltW:w.heap.size<W.heap.size:=(Array.getElem?_eq_some_iff.1 hit2).1
   have cS:Calls Tryz.prog g #[.int .i32 (R:Int)] W _       :=hp W R (ht.below hbw2) (by rw[←hR];exact Lib.rune_le s pos)
   clear hp
   cases hsp:p R<;>rw[hsp] at cS<;>simp only[hsp,if_true,Bool.false_eq_true,Bool.true_eq_false,if_false] at hleft
   ·go_wp2_with (go_at_fn g;refine cS.mono ?_;rintro e W' ⟨rfl,hbc⟩)
    go_roundg g'
    case measure=>omega
    case rel=>exact⟨pos+K,(hbc.block _ hltW).trans hit2,(hbw2.trans (hbc.mono hbw2.size)),hleft,by omega⟩
   ·go_wp2_with (go_at_fn g;refine cS.mono ?_;rintro e W' ⟨rfl,hbc⟩)
    go_ret
    exact⟨by rw[←hleft]<;>rfl,(hbw2.trans (hbc.mono hbw2.size))⟩
  ·have hnx:∀ty,(Instr.next (.pointer (some ⟨w.heap.size,0,none⟩)) true ty).run Tryz.prog wr=_:=fun ty=>Lib.run_next_end_at wr w.heap.size s pos ty hit hps
   rw[Lib.idxFuncFrom_end p true s gk pos hps] at hleft
   go_wp2
   go_ret
   exact⟨by rw[←hleft]<;>rfl,hbw⟩
end Go.Proofs.Heir
namespace Go.Proofs.Heir
open Go Go.Am Go.RowKit Go.Lib
set_option maxRecDepth 100000
set_option maxHeartbeats 8000000
def lowB (c:UInt8):UInt8:=if capC (c.toNat:Int) then c+32 else c
def lowL (l:List UInt8):List UInt8:=l.map lowB
def lowS (s:ByteArray):ByteArray:=⟨(lowL s.data.toList).toArray⟩
def midL (l:List UInt8)(k:Nat):List UInt8:=(l.take k).map lowB++l.drop k
theorem midL_len (l:List UInt8)(k:Nat):(midL l k).length=l.length:=by simp[midL];omega
theorem midL_get (l:List UInt8)(k:Nat)(h:k<l.length):(midL l k)[k]? =some l[k]:=by
 simp[midL,List.getElem?_append,List.getElem?_drop,Nat.min_eq_left (Nat.le_of_lt h),h]
theorem midL_set (l:List UInt8)(k:Nat)(h:k<l.length):(midL l k).set k (lowB l[k])=midL l (k+1):=by
 unfold midL
 have h1:((l.take k).map lowB).length=k:=by simp;omega
 rw[List.set_append_right _ _ (by omega),h1,Nat.sub_self,List.take_succ_eq_append_getElem h,List.drop_eq_getElem_cons h]
 simp only[List.set_cons_zero,List.map_append,List.map_cons,List.map_nil,List.append_assoc,List.cons_append,List.nil_append]
theorem midL_skip (l:List UInt8)(k:Nat)(h:k<l.length)(hc:capC (l[k].toNat:Int)=false):midL l k=midL l (k+1):=by
 rw[←midL_set l k h]
 have h2:=midL_get l k h
 apply List.ext_getElem?
 intro j
 rw[List.getElem?_set]
 by_cases hj:k=j
 ·subst hj
  rw[if_pos rfl,if_pos (by rw[midL_len];exact h),h2]
  simp[lowB,hc]
 ·rw[if_neg hj]
def rowOf (l:List UInt8)(z:List Value):Array Value:=(l.map (fun b=>Value.int .u8 b.toNat)++z).toArray
theorem rowOf_get (l:List UInt8)(z:List Value)(k:Nat)(b:UInt8)(h:l[k]? =some b):(rowOf l z)[k]? =some (.int .u8 b.toNat):=by
 have hk:=(List.getElem?_eq_some_iff.1 h).1
 simp only[rowOf,List.getElem?_toArray]
 rw[List.getElem?_append_left (by simpa using hk),List.getElem?_map,h];rfl
theorem rowOf_set (l:List UInt8)(z:List Value)(k:Nat)(b:UInt8)(h:k<l.length):(rowOf l z).setIfInBounds k (.int .u8 b.toNat)=rowOf (l.set k b) z:=by
 apply Array.ext'
 simp only[rowOf,Array.toList_setIfInBounds,List.map_set]
 rw[List.set_append_left _ _ (by simpa using h)]
theorem cap_step (c:UInt8)(h:capC (c.toNat:Int)=true):IntKind.u8.wrap (IntKind.u8.wrap ((c.toNat:Int)-65)+97)=((c+32:UInt8).toNat:Int):=by
 simp only[capC,Bool.and_eq_true,decide_eq_true_eq] at h
 have h1:IntKind.u8.wrap ((c.toNat:Int)-65)=(c.toNat:Int)-65:=by simp[IntKind.wrap_u8];omega
 rw[h1]
 have h2:IntKind.u8.wrap ((c.toNat:Int)-65+97)=(c.toNat:Int)+32:=by simp[IntKind.wrap_u8];omega
 rw[h2]
 have:(c+32:UInt8).toNat=c.toNat+32:=by
  rw[UInt8.toNat_add];simp;omega
 rw[this];rfl
theorem f156_calls (s:ByteArray)(w:World)(ht:Tabs Tryz.prog w fun _=>none)(hs:s.size≤100000):Calls Tryz.prog 156 #[.string s] w fun e w'=>e=.returned (.string (lowS s))∧Below w.heap.size w w':=by
 obtain⟨l,rfl⟩:∃l:List UInt8,s=⟨l.toArray⟩:=⟨s.data.toList,by obtain⟨⟨l⟩⟩:=s;rfl⟩
 have hsz:(ByteArray.mk l.toArray).size=l.length:=by simp[ByteArray.size]
 have hconv:=run_bytes_of_string (P:=Tryz.prog) w 9 100 5 ⟨l.toArray⟩ Tryz.underlying9 Tryz.underlying100 Tryz.underlying5
 rw[hsz] at hconv hs
 obtain⟨cap,hcap⟩:∃cap,grownCap w l.length 0 5=cap:=⟨_,rfl⟩
 rw[hcap] at hconv
 obtain⟨z,hz⟩:∃z:List Value,bytesRow ⟨l.toArray⟩ cap=rowOf l z:=⟨List.replicate (cap-l.length) (.int .u8 0),by
  apply Array.ext';simp[bytesRow,rowOf,ByteArray.size]⟩
 rw[hz] at hconv
 obtain⟨n,hn⟩:∃n,(rowOf l z).size=n:=⟨_,rfl⟩
 rw[hn] at hconv
 clear hcap hz
 go_enter Tryz.func156,Tryz.ntmps156
 go_wp2
 go_loopw [10] (fun i wr=> ∃k:Nat,k≤l.length∧i=.int .i64 k∧wr.heap[w.heap.size]? =some (.cells (rowOf (midL l k) z) 5 (n,n+1))∧Below w.heap.size w wr) (fun i _=>l.length- (intOf i).toNat)
 case atStart=>exact⟨0,Nat.zero_le _,rfl,(heap_alloc_new w (Obj.cells (rowOf l z) 5 (n,n+1))),((Below.refl _ w).alloc (Nat.le_refl _) _).drew⟩
 case round=>
  obtain⟨k,hk,rfl,hh,hb⟩:=hrel
  by_cases hlt:k<l.length
  ·have hcell:wr.cell? ⟨w.heap.size,k,none⟩=some (.int .u8 (l[k].toNat:Int)):=by
    simp only[World.cell?,hh]
    exact rowOf_get _ z k _ (midL_get l k hlt)
   have hn2:k<n:=by rw[←hn];simp[rowOf];omega
   have hfz:wr.frozen? ⟨w.heap.size,k,none⟩=false:=by
    simp[World.frozen?,hh];omega
   have hbs:w.heap.size<wr.heap.size:=(Array.getElem?_eq_some_iff.1 hh).1
   have hb1:0≤ (l[k].toNat:Int):=Int.natCast_nonneg _
   have hb2:(l[k].toNat:Int)≤255:=by have:=UInt8.toNat_lt l[k];omega
   cases hc:capC (l[k].toNat:Int) with
   | false=>
     go_wp2_with (go_at_call 182;refine((f182_ok (l[k].toNat:Int)).below (vs:=[.int .i32 (l[k].toNat:Int)]) _ (ht.below hb)).mono ?_;rw[hc];rintro e w1 ⟨rfl,hb3⟩)
     go_roundw
     case rel=>exact⟨k+1,by omega,by go_num,by rw[hb3.block _ hbs,hh,midL_skip l k hlt hc],hb.trans (hb3.mono hb.size)⟩
     case measure=>simp[intOf];omega
   | true=>
     have hst:IntKind.u8.wrap (IntKind.u8.wrap ((l[k].toNat:Int)-65)+97)=((lowB l[k]).toNat:Int):=by
      rw[cap_step _ hc];unfold lowB;rw[hc];rfl
     simp only[IntKind.wrap_u8] at hst
     have H:=hid hst
     clear hst
     go_wp2_with (go_at_call 182;refine((f182_ok (l[k].toNat:Int)).below (vs:=[.int .i32 (l[k].toNat:Int)]) _ (ht.below hb)).mono ?_;rw[hc];rintro e w1 ⟨rfl,hb3⟩;have hc1:=(hb3.cell (p:=⟨w.heap.size,k,none⟩) hbs).trans hcell;have hf1:=(hb3.frozen (p:=⟨w.heap.size,k,none⟩) hbs).trans hfz)
     go_roundw
     case rel=>
      refine⟨k+1,by omega,by go_num,?_,hb.trans ((hb3.mono hb.size).setCell (Nat.le_refl _) _)⟩
      have hm:((l[k].toNat:Int)-65+97)%256=((lowB l[k]).toNat:Int):=by
       rw[←H.out];omega
      rw[hm]
      have hq:w1.heap[w.heap.size]? =some (.cells (rowOf (midL l k) z) 5 (n,n+1)):=(hb3.block _ hbs).trans hh
      have hs2:w.heap.size<w1.heap.size:=(Array.getElem?_eq_some_iff.1 hq).1
      unfold World.setCell
      simp only[Array.getElem?_modify,hq,if_true,Option.map_some]
      have hrs:=rowOf_set (midL l k) z k (lowB l[k]) (by rw[midL_len];exact hlt)
      rw[midL_set l k hlt] at hrs
      simp only[hrs];rfl
     case measure=>simp[intOf];omega
  ·have:k=l.length:=by omega
   subst this
   have hrw:rowOf (midL l l.length) z=rowOf (lowL l) z:=by simp[midL,lowL]
   rw[hrw] at hh
   have hcv:=run_convert_bytes_back (P:=Tryz.prog) wr 100 9 5 ⟨w.heap.size,0,none⟩ cap (lowL l) Tryz.underlying100 Tryz.underlying5 Tryz.underlying9 (fun j hj=>by
    have:=rowOf_get (lowL l) z j ((lowL l)[j]) (List.getElem?_eq_getElem hj)
    have ha:(⟨w.heap.size,0,none⟩:Addr).add j=⟨w.heap.size,j,none⟩:=by
     unfold Addr.add;split<;>simp_all
    rw[ha];simp only[World.cell?,hh,this];rfl)
   rw[show(lowL l).length=l.length from by simp[lowL]] at hcv
   go_wp2
   go_ret
   exact⟨rfl,hb⟩
theorem f156_ok (s:ByteArray)(hs:s.size≤100000):FnOK Tryz.prog 156 [] [eStr s] [] (eStr (lowS s)):=
 FnOK.of_calls (vs:=[.string s]) (v:=.string (lowS s)) fun w ht=>f156_calls s w ht hs
def signB (b:UInt8):Bool:=signC (b.toNat:Int)
def firstB:List UInt8→Bool
 |[]=>false
 |b::_=>smallC (b.toNat:Int)||capC (b.toNat:Int)||decide ((b.toNat:Int)=95)
def rightL (l:List UInt8):Bool:=decide (1≤l.length)&&decide (l.length≤40)&&l.all signB&&firstB l
def rightS (s:ByteArray):Bool:=rightL s.data.toList
theorem idx_bad (s:ByteArray):∀ (f pos:Nat),s.size≤pos+f→(0≤idxFuncFrom (fun r=> !signC (r:Int)) true s f pos↔ ∃i,pos≤i∧∃b,s.data.toList[i]? =some b∧signB b=false)
 | 0,pos,h=>by
   have:¬ (0:Int)≤idxFuncFrom (fun r=> !signC (r:Int)) true s 0 pos:=by simp[idxFuncFrom]
   refine⟨fun h'=>absurd h' this,?_⟩
   rintro⟨i,h1,b,h2,_⟩
   have:=(List.getElem?_eq_some_iff.1 h2).1
   have:i<s.size:=this
   omega
 | f + 1, pos,h=>by
   by_cases hp:pos<s.size
   ·have ih:=idx_bad s f
    have hb:∃b,s.data.toList[pos]? =some b∧s.get! pos=b:=⟨_,List.getElem?_eq_getElem hp,by show s.data[pos]! =_;rw[getElem!_pos s.data pos hp];rfl⟩
    obtain⟨b,hb1,hb2⟩:=hb
    unfold idxFuncFrom
    rw[if_pos hp,decode_at,hb2]
    have hbn:b.toNat<256:=UInt8.toNat_lt b
    have big:∀r:Nat,128≤r→signC (r:Int)=false:=by
     intro r hr
     have:(128:Int)≤r:=by omega
     simp only[signC,smallC,capC,Bool.or_eq_false_iff,Bool.and_eq_false_iff,decide_eq_false_iff_not]
     omega
    have bad:∀r w:Nat,128≤r→128≤b.toNat→((0:Int)≤ (if(!signC (r:Int))=true then(pos:Int) else idxFuncFrom (fun r=> !signC (r:Int)) true s f (pos+w))↔ ∃i,pos≤i∧∃b,s.data.toList[i]? =some b∧signB b=false):=by
     intro r w hr hbr
     rw[big r hr]
     exact⟨fun _=>⟨pos,Nat.le_refl _,b,hb1,big _ hbr⟩,fun _=>by simp⟩
    rcases decodeN_shape (s.size-pos) b.toNat (s.get! (pos+1)).toNat (s.get! (pos+2)).toNat (s.get! (pos+3)).toNat with⟨h1,h2⟩|⟨h1,h3,h4,h5,h2⟩|⟨h1,h3,h4,h5,h6,h7,h2⟩|⟨h1,h3,h4,h5,h6,h7,h8,h2⟩|h2
    ·rw [h2]
     show(0:Int)≤ (if(!signC (b.toNat:Int))=true then(pos:Int) else idxFuncFrom _ true s f (pos+1))↔_
     cases hs:signC (b.toNat:Int) with
     |false=>exact⟨fun _=>⟨pos,Nat.le_refl _,b,hb1,hs⟩,fun _=>by simp⟩
     | true=>
       rw[if_neg (by simp),ih (pos+1) (by omega)]
       constructor
       ·rintro⟨i,h3,h4⟩;exact⟨i,by omega,h4⟩
       ·rintro⟨i,h3,b',h4,h5⟩
        rcases Nat.lt_or_ge pos i with h6|h6
        ·exact⟨i,h6,b',h4,h5⟩
        ·have:i=pos:=by omega
         subst this
         rw[hb1] at h4;cases h4
         rw[signB,hs] at h5;cases h5
    ·rw[h2];exact bad _ _ (by omega) (by omega)
    ·rw[h2];exact bad _ _ (by omega) (by omega)
    ·rw[h2];exact bad _ _ (by omega) (by omega)
    ·rw[h2]
     refine bad _ _ (by omega) ?_
     rcases Nat.lt_or_ge b.toNat 128 with h3|h3
     ·rw[decodeN,if_pos h3] at h2;simp only[Prod.mk.injEq] at h2;omega
     ·exact h3
   ·rw[idxFuncFrom_end _ _ _ _ _ hp]
    refine⟨fun h'=>by omega,?_⟩
    rintro⟨i,h1,b,h2,_⟩
    have:=(List.getElem?_eq_some_iff.1 h2).1
    have:i<s.size:=this
    omega
theorem idx_all (s:ByteArray):decide (0≤idxFunc (fun r=> !signC (r:Int)) true s)=!s.data.toList.all signB:=by
 have h:=idx_bad s s.size 0 (by omega)
 cases ha:s.data.toList.all signB with
 | true=>
   simp only[Bool.not_true,decide_eq_false_iff_not]
   intro h'
   obtain⟨i,_,b,h1,h2⟩:=h.1 h'
   have:=List.all_eq_true.1 ha b (List.mem_of_getElem? h1)
   rw[this] at h2;cases h2
 | false=>
   simp only[Bool.not_false,decide_eq_true_eq]
   refine h.2 ?_
   obtain⟨b,h1,h2⟩:=List.all_eq_false.1 ha
   obtain⟨i,h3⟩:=List.getElem?_of_mem h1
   exact⟨i,Nat.zero_le _,b,h3,by simpa using h2⟩
theorem f231_calls (g:Nat)(eg:∀args w,(callFunc g args).run Tryz.prog w=.ok (.enter g args) w)(p:Nat→Bool)(s:ByteArray)(w:World)(ht:Tabs Tryz.prog w fun _=>none)(hp:∀ (W:World) (x:Nat),(Tabs Tryz.prog W fun _=>none)→x≤1114111→Calls Tryz.prog g #[.int .i32 (x:Int)] W fun e w'=>e=.returned (.bool (p x))∧Below W.heap.size W w'):
  Calls Tryz.prog 231 #[.string s,.func (.func g) #[] #[]] w fun e w'=>e=.returned (.int .i64 (Lib.idxFunc p true s))∧Below w.heap.size w w':=by
 have h44:=f256_calls g eg p s w ht hp
 clear hp
 go_enter Tryz.func231,Tryz.ntmps231
 go_wp2_with (go_at_call 256;refine h44.mono ?_;rintro e w1 ⟨rfl,hb⟩)
 go_ret
 exact⟨rfl,hb⟩
theorem f181_calls (g:Nat)(eg:∀args w,(callFunc g args).run Tryz.prog w=.ok (.enter g args) w)(p:Nat→Bool)(s:ByteArray)(w:World)(ht:Tabs Tryz.prog w fun _=>none)(hp:∀ (W:World) (x:Nat),(Tabs Tryz.prog W fun _=>none)→x≤1114111→Calls Tryz.prog g #[.int .i32 (x:Int)] W fun e w'=>e=.returned (.bool (p x))∧Below W.heap.size W w'):
  Calls Tryz.prog 181 #[.string s,.func (.func g) #[] #[]] w fun e w'=>e=.returned (.bool (decide (0≤Lib.idxFunc p true s)))∧Below w.heap.size w w':=by
 have h43:=f231_calls g eg p s w ht hp
 clear hp
 go_enter Tryz.func181,Tryz.ntmps181
 go_wp2_with (go_at_call 231;refine h43.mono ?_;rintro e w1 ⟨rfl,hb⟩)
 go_ret
 exact⟨rfl,hb⟩
theorem f181_ok (s:ByteArray):FnOK Tryz.prog 181 [] [eStr s,.lit (.func (.func 214) #[] #[])] [] (eBool (!s.data.toList.all signB)):=by
 rw[←idx_all]
 exact FnOK.of_calls (vs:=[.string s,.func (.func 214) #[] #[]]) fun w ht=>f181_calls 214 c214 (fun r=> !signC (r:Int)) s w ht fun W x ht _=>(f214_ok (x:Int)).below (vs:=[.int .i32 (x:Int)]) W ht
theorem size_len (s:ByteArray):s.size=s.data.toList.length:=(Array.length_toList (xs:=s.data)).symm
theorem first_get {l:List UInt8}(h:1≤l.length):∃b r,l=b::r∧l[0]? =some b:=by
 cases l with
 |nil=>simp at h
 |cons b r=>exact⟨b,r,rfl,rfl⟩
theorem u8_i32 (b:UInt8):IntKind.i32.wrap (b.toNat:Int)=(b.toNat:Int):=by
 have h:b.toNat<256:=UInt8.toNat_lt b
 rw[IntKind.wrap_i32];omega
theorem f155_ok (s:ByteArray):FnOK Tryz.prog 155 [] [eStr s] [] (eBool (rightS s)):=by
 have hsz:s.size=s.data.toList.length:=size_len s
 have hb0:1≤s.data.toList.length→∃b r,s.data.toList=b::r∧s.data.toList[0]? =some b:=first_get
 refine FnOK.startC (rvs:=[.tmp 2]) G G_good Tryz.func155 rfl Tryz.ntmps155 rfl rfl ?_;with_reducible refine wD ?_
 repeat' (first
  |refine aE ?_ ?_
  |((with_reducible show IfK _ _ _ _);first|refine iK ?_|(refine IfK.mk (fun _=>?_) (fun _=>?_)<;>with_reducible refine wK ?_))
  |((with_reducible refine kQ 181 ?_);refine CallK.lit [] (f181_ok _) c181 ⟨rfl,MF_refl 12 _ rfl,trivial⟩ rfl rfl ?_;with_reducible refine wK ?_)
  |((with_reducible refine kQ 182 ?_);refine cL (f182_ok _) c182 ?_;with_reducible refine wK ?_)
  |((with_reducible refine kQ 180 ?_);refine cL (f180_ok _) c180 ?_;with_reducible refine wK ?_)
  |((with_reducible show IdxSK _ _ _ _ _);obtain⟨b,r,hl,hb⟩:=hb0 (by simp only[decide_eq_false_iff_not] at*;omega);refine IdxSK.mk 0 b rfl hb ?_;with_reducible refine wK ?_)
  |((with_reducible show ConvK _ _ _ _ _ _ _);refine ConvK.int (by kernel_rfl) (by kernel_rfl) (u8_i32 _) ?_;with_reducible refine wK ?_)
  |apply trivial)
 all_goals (simp only[decide_eq_true_eq,decide_eq_false_iff_not,hsz] at*;unfold rightS rightL)
 ·rw[show decide (1≤s.data.toList.length)=false from decide_eq_false (by omega)];rfl
 ·rw[show decide (s.data.toList.length≤40)=false from decide_eq_false (by omega)];simp
 ·rw[show s.data.toList.all signB=false from by simp_all];simp
 all_goals rw[show decide (1≤s.data.toList.length)=true from decide_eq_true (by omega),show decide (s.data.toList.length≤40)=true from decide_eq_true (by omega),show s.data.toList.all signB=true from by simp_all,hl];simp_all[firstB]
theorem right_size {s:ByteArray}(h:rightS s=true):s.size≤40:=by
 unfold rightS rightL at h
 simp only[Bool.and_eq_true,decide_eq_true_eq] at h
 rw[size_len];exact h.1.1.2
theorem right_small {s:ByteArray}(h:(!rightS s)=false):s.size≤100000:=by
 have:=right_size (s:=s) (by simpa using h)
 omega
theorem f81_ok (s:ByteArray):FnOK Tryz.prog 81 [] [eStr s] [] (.tup [eStr (if rightS s then lowS s else⟨#[]⟩),eInt (if rightS s then 0 else 4)]):=by
 refine FnOK.startC (rvs:=[.tmp 2,.tmp 3]) G G_good Tryz.func81 rfl Tryz.ntmps81 rfl rfl ?_;with_reducible refine wD ?_
 repeat' (first
  |refine aE ?_ ?_
  |((with_reducible show IfK _ _ _ _);first|refine iK ?_|(refine IfK.mk (fun _=>?_) (fun _=>?_)<;>with_reducible refine wK ?_))
  |((with_reducible refine kQ 155 ?_);refine cL (f155_ok _) c155 ?_;with_reducible refine wK ?_)
  |((with_reducible refine kQ 156 ?_);refine CallK.lit [] (f156_ok _ (right_small (by assumption))) c156 ⟨rfl,trivial⟩ rfl rfl ?_;with_reducible refine wK ?_)
  |apply trivial)
 all_goals simp_all
theorem lowL_len (l:List UInt8):(lowL l).length=l.length:=by simp[lowL]
structure AttrM where
 name:ByteArray
 value:ByteArray
 deriving DecidableEq
@[reducible] def eAttr (a : AttrM) : AV := .agg [eStr a.name, eStr a.value]
def oAttr (a:AttrM):AV:=eAttr a
@[reducible] def eAttrs (l : List AttrM) : AV := .sl 2 (l.map oAttr)
theorem noRef_attrs (l:List AttrM):noRefL (l.map oAttr)=true:=by
 rw[noRefL_iff];intro x hx
 obtain⟨a,_,rfl⟩:=List.mem_map.1 hx
 rfl
theorem MFL_refl {tab:List (Nat×Nat)}{fz:Nat→Bool}{m:ML}{n:Nat}:∀ {cs:List AV},noRefL cs=true→MFL (MF tab fz m n) cs cs
 |[],_=>trivial
 | c::cs,h=>by
   simp only[noRefL,Bool.and_eq_true] at h
   exact⟨MF_refl n c h.1,MFL_refl h.2⟩
theorem f282_ok (a:AttrM)(n:ByteArray):FnOK Tryz.prog 282 [] [eAttr a,.fptr (eStr n) 0] [] (eBool (decide (a.name=n))):=by
 refine FnOK.startC (rvs:=[.tmp 3]) G G_good Tryz.func282 rfl Tryz.ntmps282 rfl rfl ?_;with_reducible refine wD ?_
 (refine eK ?_ ?_<;>with_reducible repeat' (first|exact trivial|(show _∧_;refine aK ?_ ?_)))
def badA (a:AttrM):Bool:=!(rightS a.name&&decide (lowS a.name=a.name)&&decide (a.value.size≤200))
theorem f243_ok (a:AttrM):FnOK Tryz.prog 243 [] [eAttr a] [] (eBool (badA a)):=by
 obtain⟨n,v⟩:=a
 refine FnOK.startC (rvs:=[.tmp 2]) G G_good Tryz.func243 rfl Tryz.ntmps243 rfl rfl ?_;with_reducible refine wD ?_
 refine cL (f81_ok _) c81 ?_;with_reducible refine wK ?_
 repeat' (first
  |refine aE ?_ ?_
  |((with_reducible show IfK _ _ _ _);first|refine iK ?_|(refine IfK.mk (fun _=>?_) (fun _=>?_)<;>with_reducible refine wK ?_))
  |apply trivial)
 all_goals (unfold badA;cases hr:rightS n<;>simp_all)
 by_cases h2:v.size≤200
 ·rw[decide_eq_true h2,decide_eq_false (by(try simp only[castN]);omega)];rfl
 ·rw[decide_eq_false h2,decide_eq_true (by(try simp only[castN]);omega)];rfl
def idxI {α:Type}(p:α→Bool)(l:List α):Int:=match l.findIdx? p with|some i=>(i:Int)|none=> -1
theorem idxI_hit {α:Type}{p:α→Bool}{l:List α}{k:Nat}{a:α}(h:l[k]? =some a)(hp:p a=true)(hno:∀ (j:Nat) (x:α),j<k→l[j]? =some x→p x=false):idxI p l=k:=by
 have:l.findIdx? p=some k:=by
  rw[List.findIdx?_eq_some_iff_getElem]
  obtain⟨hk,hx⟩:=List.getElem?_eq_some_iff.1 h
  exact⟨hk,by rw[hx];exact hp,fun j hj=>by simpa using hno j _ hj (List.getElem?_eq_getElem (by omega))⟩
 rw[idxI,this]
theorem idxI_none {α:Type}{p:α→Bool}{l:List α}(hno:∀ (j:Nat) (x:α),l[j]? =some x→p x=false):idxI p l=-1:=by
 have:l.findIdx? p=none:=by
  rw[List.findIdx?_eq_none_iff]
  intro x hx
  obtain⟨j,hj⟩:=List.getElem?_of_mem hx
  exact hno j x hj
 rw[idxI,this]
theorem attr_get {l:List AttrM}{k:Nat}{a:AttrM}(h:l[k]? =some a):(l.map oAttr)[k]? =some (eAttr a):=by rw[List.getElem?_map,h];rfl
theorem f263_ok (g:Nat)(cg:Callable Tryz.prog g)(caps:List AV)(hcaps:noRefL caps=true)(p:AttrM→Bool)(l:List AttrM)(hl:l.length≤100000)(hf:∀a,a∈l→FnOK Tryz.prog g [] (eAttr a::caps) [] (eBool (p a))):
  FnOK Tryz.prog 263 [] [eAttrs l,.clo (.func g) [] caps] [] (eInt (idxI p l)):=by
 have hlm:(l.map oAttr).length=l.length:=List.length_map ..
 refine FnOK.startC (rvs:=[.tmp 4]) G G_good Tryz.func263 rfl Tryz.ntmps263 rfl rfl ?_;with_reducible refine wD ?_
 refine LoopK.use G G_good (fun(k:Nat)=>[(0,eAttrs l),(1,.clo (.func g) [] caps),(7,eInt l.length),(8,eInt k)]) (fun _=>[]) (fun k=>k≤l.length∧∀j x,j<k→l[j]? =some x→p x=false) (fun k=>l.length-k) 0 ⟨Nat.zero_le _,fun j x h=>by omega⟩
  ⟨⟨rfl,rfl⟩,⟨rfl,⟨rfl,trivial,MFL_refl hcaps⟩,by show(l.length:Int)=((l.map oAttr).length:Int);rw[hlm],rfl,trivial⟩,trivial⟩ ?_
 rintro k ⟨hk,hno⟩
 with_reducible refine wK ?_
 refine IfK.mk (fun h1=>?_) (fun h1=>?_)<;>(try simp only[castN] at h1)<;>with_reducible refine wK ?_
 ·simp only[decide_eq_true_eq] at h1
  have hk':k<l.length:=by omega
  obtain⟨a,ha⟩:∃a,l[k]? =some a:=⟨_,List.getElem?_eq_getElem hk'⟩
  refine IdxK.mk k (eAttr a) rfl (attr_get ha) ?_;with_reducible refine wK ?_
  refine CallK.lit [] (hf a (List.mem_of_getElem? ha)) cg ⟨⟨rfl,rfl,trivial⟩,MFL_refl hcaps⟩ rfl rfl ?_;with_reducible refine wK ?_
  refine IfK.mk (fun h2=>?_) (fun h2=>?_)<;>(try simp only[castN] at h2)<;>with_reducible refine wK ?_
  ·(refine eK ?_ ?_<;>with_reducible repeat' (first|exact trivial|(show _∧_;refine aK ?_ ?_)))
   exact idxI_hit ha h2 hno
  ·refine nK ?_;with_reducible refine wK ?_
   refine NextK.mk (k+1) ⟨by omega,fun j x hj hx=>?_⟩ (by omega) ⟨⟨rfl,rfl⟩,⟨rfl,⟨rfl,trivial,MFL_refl hcaps⟩,rfl,by show((k+1:Nat):Int)=(k:Int)+1;omega,trivial⟩,trivial⟩
   rcases Nat.lt_or_ge j k with h6|h6
   ·exact hno j x h6 hx
   ·have:j=k:=by omega
    subst this
    rw[ha] at hx;cases hx;exact h2
 ·(refine eK ?_ ?_<;>with_reducible repeat' (first|exact trivial|(show _∧_;refine aK ?_ ?_)))
  have:k=l.length:=by simp only[decide_eq_false_iff_not] at h1;omega
  exact idxI_none fun j x hx=>hno j x (by have:=(List.getElem?_eq_some_iff.1 hx).1;omega) hx
theorem f244_ok (g:Nat)(cg:Callable Tryz.prog g)(caps:List AV)(hcaps:noRefL caps=true)(p:AttrM→Bool)(l:List AttrM)(hl:l.length≤100000)(hf:∀a,a∈l→FnOK Tryz.prog g [] (eAttr a::caps) [] (eBool (p a))):
  FnOK Tryz.prog 244 [] [eAttrs l,.clo (.func g) [] caps] [] (eBool (l.any p)):=by
 refine FnOK.startC (rvs:=[.tmp 4]) G G_good Tryz.func244 rfl Tryz.ntmps244 rfl rfl ?_;with_reducible refine wD ?_
 refine CallK.lit [] (f263_ok g cg caps hcaps p l hl hf) c263 ⟨rfl,⟨rfl,trivial,MFL_refl hcaps⟩,trivial⟩ rfl rfl ?_;with_reducible refine wK ?_
 (refine eK ?_ ?_<;>with_reducible repeat' (first|exact trivial|(show _∧_;refine aK ?_ ?_)))
 unfold idxI
 cases h:l.findIdx? p with
 | none=>
   rw[List.findIdx?_eq_none_iff] at h
   have:l.any p=false:=by rw[List.any_eq_false];intro x hx;rw[h x hx];simp
   rw[this];rfl
 | some i=>
   rw[List.findIdx?_eq_some_iff_getElem] at h
   obtain⟨hi,h1,_⟩:=h
   have:l.any p=true:=List.any_eq_true.2 ⟨_,List.getElem_mem hi,h1⟩
   rw[this];exact(decide_eq_true (Int.natCast_nonneg i)).symm
theorem f275_ok (l:List AttrM)(hl:l.length≤100000)(n:ByteArray):FnOK Tryz.prog 275 [] [eAttrs l,eStr n] [] (eInt (idxI (fun a=>decide (a.name=n)) l)):=by
 refine FnOK.startC (rvs:=[.tmp 4]) G G_good Tryz.func275 rfl Tryz.ntmps275 rfl rfl ?_;with_reducible refine wD ?_
 refine CallK.lit [30] (f263_ok 282 c282 [.fptr (eStr n) 0] rfl (fun a=>decide (a.name=n)) l hl fun a _=>f282_ok a n) c263 ⟨rfl,⟨rfl,trivial,⟨_,_,_,_,_,rfl,rfl,rfl,rfl,rfl,rfl⟩,trivial⟩,trivial⟩ rfl rfl ?_;with_reducible refine wK ?_
 (refine eK ?_ ?_<;>with_reducible repeat' (first|exact trivial|(show _∧_;refine aK ?_ ?_)))
def okA (a:AttrM):Bool:=rightS a.name&&decide (lowS a.name=a.name)&&decide (a.value.size≤200)
theorem badA_eq (a:AttrM):badA a=!okA a:=rfl
def hasName (n:ByteArray)(a:AttrM):Bool:=decide (a.name=n)
def posA (l:List AttrM)(n:ByteArray):Int:=idxI (hasName n) l
def rightA (l:List AttrM):Bool:=decide (l.length≤40)&&l.all okA&&decide ((l.map AttrM.name).Nodup)
def tabFrom (t:List (ByteArray×AttrM))(l:List AttrM):List (ByteArray×AttrM):=l.foldl (fun t a=>tput a.name a t) t
def tabL (l:List AttrM):List (ByteArray×AttrM):=tabFrom [] l
theorem tput_len {K α:Type}[DecidableEq K](k:K)(x:α):∀t:List (K×α),(tput k x t).length=if(tget k t).isSome then t.length else t.length+1
 |[]=>rfl
 | p::r=>by
   simp only[tput,tget]
   split
   ·simp
   ·rw[List.length_cons,tput_len k x r];split<;>simp
theorem tabFrom_len:∀ (l:List AttrM) (t:List (ByteArray×AttrM)),(tabFrom t l).length≤t.length+l.length∧((tabFrom t l).length=t.length+l.length↔ (l.map AttrM.name).Nodup∧∀a∈l,(tget a.name t).isSome=false)
 |[],t=>by simp[tabFrom]
 | a :: r,t=>by
   obtain⟨h1,h2⟩:=tabFrom_len r (tput a.name a t)
   have hl:=tput_len a.name a t
   show(tabFrom (tput a.name a t) r).length≤_∧((tabFrom (tput a.name a t) r).length=_↔_)
   cases hg:(tget a.name t).isSome with
   | true=>
     rw[hg,if_pos rfl] at hl
     refine⟨by simp only[List.length_cons];omega,⟨fun h=>?_,fun h=>?_⟩⟩
     ·simp only[List.length_cons] at h;omega
     ·have:=h.2 a (by simp);rw[hg] at this;cases this
   | false=>
     rw[hg,if_neg (by simp)] at hl
     refine⟨by simp only[List.length_cons];omega,?_⟩
     rw[show(tabFrom (tput a.name a t) r).length=t.length+ (a::r).length↔ (tabFrom (tput a.name a t) r).length=(tput a.name a t).length+r.length from by rw[hl,List.length_cons];omega,h2]
     simp only[List.map_cons,List.nodup_cons,List.mem_cons,forall_eq_or_imp]
     constructor
     ·rintro⟨k1,k2⟩
      refine⟨⟨fun hm=>?_,k1⟩,hg,fun b hb=>?_⟩
      ·obtain⟨b,hb,he⟩:=List.mem_map.1 hm
       have:=k2 b hb
       rw[tget_put,he,if_pos rfl] at this;cases this
      ·have:=k2 b hb
       rw[tget_put] at this
       split at this
       ·cases this
       ·exact this
     ·rintro⟨⟨k1,k2⟩,_,k3⟩
      refine⟨k2,fun b hb=>?_⟩
      rw[tget_put,if_neg (fun e=>k1 (List.mem_map.2 ⟨b,hb,e.symm⟩))]
      exact k3 b hb
theorem tabL_len (l:List AttrM):(tabL l).length=l.length↔ (l.map AttrM.name).Nodup:=by
 have:=(tabFrom_len l []).2
 simp only[List.length_nil,Nat.zero_add] at this
 exact this.trans ⟨fun h=>h.1,fun h=>⟨h,fun _ _=>rfl⟩⟩
theorem tabL_le (l:List AttrM):(tabL l).length≤l.length:=by
 have:=(tabFrom_len l []).1
 simp only[List.length_nil,Nat.zero_add] at this
 exact this
theorem tabL_snoc {l:List AttrM}{k:Nat}{a:AttrM}(h:l[k]? =some a):tabL (l.take (k+1))=tput a.name a (tabL (l.take k)):=by
 have hk:=(List.getElem?_eq_some_iff.1 h).1
 rw[List.take_succ_eq_append_getElem hk,(List.getElem?_eq_some_iff.1 h).2]
 simp[tabL,tabFrom,List.foldl_append]
@[reducible] def rTab (l : List AttrM) : MS := .live 2 (tRows Value.string oAttr (tabL l)) false
theorem noRef_tabA (t:List (ByteArray×AttrM)):noRefL (tRows Value.string oAttr t)=true:=by
 rw[noRefL_iff];intro x hx
 obtain⟨a,_,rfl⟩:=List.mem_map.1 hx
 rfl
theorem map64:MapTy Tryz.prog 284 .string (.agg #[.string ByteArray.empty,.string ByteArray.empty]):=⟨9,179,by kernel_rfl,by kernel_rfl,fun w=>Tryz.zeroValue179 w⟩
theorem f245_ok (l:List AttrM)(hl:l.length≤100000):FnOK Tryz.prog 245 [] [eAttrs l] [rTab l] (.mapr 0):=by
 have hlm:(l.map oAttr).length=l.length:=List.length_map ..
 refine FnOK.startC (rvs:=[.tmp 2]) G G_good Tryz.func245 rfl Tryz.ntmps245 rfl rfl ?_;with_reducible refine wD ?_
 refine LoopK.use G G_good (fun(k:Nat)=>[(3,.mapr 61),(7,eAttrs l),(8,eInt l.length),(9,eInt k)]) (fun k=>[(61,.live 2 (tRows Value.string oAttr (tabL (l.take k))) false)]) (fun k=>k≤l.length) (fun k=>l.length-k) 0 (Nat.zero_le _)
  ⟨⟨rfl,rfl⟩,⟨trivial,rfl,by show(l.length:Int)=((l.map oAttr).length:Int);rw[hlm],rfl,trivial⟩,⟨.refl rfl,rfl⟩,trivial⟩ ?_
 intro k hk
 with_reducible refine wK ?_
 refine IfK.mk (fun h1=>?_) (fun h1=>?_)<;>(try simp only[castN] at h1)<;>with_reducible refine wK ?_
 ·simp only[decide_eq_true_eq] at h1
  have hk':k<l.length:=by omega
  obtain⟨a,ha⟩:∃a,l[k]? =some a:=⟨_,List.getElem?_eq_getElem hk'⟩
  obtain⟨n,v⟩:=a
  refine IdxK.mk k (eAttr ⟨n,v⟩) rfl (attr_get ha) ?_;with_reducible refine wK ?_
  have hle:(tabL (l.take k)).length≤k:=Nat.le_trans (tabL_le _) (by simp;omega)
  refine PutK.tab Value.string oAttr (tabL (l.take k)) (k:=n) ⟨n,v⟩ map64 rfl key_str inj_str (by unfold maxLen;omega) rfl ?_;with_reducible refine wK ?_
  refine nK ?_;with_reducible refine wK ?_
  refine NextK.mk (k+1) (by omega) (by omega) ⟨⟨rfl,rfl⟩,⟨trivial,rfl,rfl,by show((k+1:Nat):Int)=(k:Int)+1;omega,trivial⟩,⟨?_,?_⟩,trivial⟩
  ·rw[tabL_snoc ha];exact .refl (noRef_tabA _)
  ·exact noRef_tabA _
 ·(refine eK ?_ ?_<;>with_reducible repeat' (first|exact trivial|(show _∧_;refine aK ?_ ?_)))
  have:k=l.length:=by simp only[decide_eq_false_iff_not] at h1;omega
  rw[this,List.take_length]
  exact MFL_refl (noRef_tabA _)
theorem FnOK.fn1 {P:Program}{f g:FuncId}{a:AV}{outs:List MS}{res:AV}(h:FnOK P f [] [a,.clo (.func g) [] []] outs res):FnOK P f [] [a,.lit (.func (.func g) #[] #[])] outs res:=by
 intro w W0 L vs hL hs hr
 refine h w W0 L vs hL hs ⟨hr.1,fun j c v h1 h2=>?_⟩
 match j with
 |0=>exact hr.2 0 c v h1 h2
 | 1=>
   have:=hr.2 1 _ v rfl h2
   cases this
   simp at h1
   subst h1
   exact Rep.clo (va:=[]) (vb:=[]) rfl rfl (fun j c v h=>by simp at h) (fun j c v h=>by simp at h)
 |j+2=>simp at h1
theorem right_bad (l:List AttrM):l.any badA=!l.all okA:=by
 induction l with
 |nil=>rfl
 |cons a r ih=>simp[List.any_cons,List.all_cons,ih,badA_eq]
theorem tab_outs (l:List AttrM):okOuts [rTab l]:=by
 refine⟨Wide.of_mem fun r hr=>?_,noRef_tabA _,trivial⟩
 obtain⟨p,_,rfl⟩:=List.mem_map.1 hr
 rfl
theorem f203_ok (l:List AttrM)(hl:l.length≤100000):FnOK Tryz.prog 203 [] [eAttrs l] [] (eBool (rightA l)):=by
 have hlm:(l.map oAttr).length=l.length:=List.length_map ..
 refine FnOK.startC (rvs:=[.tmp 2]) G G_good Tryz.func203 rfl Tryz.ntmps203 rfl rfl ?_;with_reducible refine wD ?_
 repeat' (first
  |refine aE ?_ ?_
  |((with_reducible show IfK _ _ _ _);first|refine iK ?_|(refine IfK.mk (fun _=>?_) (fun _=>?_)<;>with_reducible refine wK ?_))
  |((with_reducible refine kQ 244 ?_);refine CallK.lit [] (FnOK.fn1 (f244_ok 243 c243 [] rfl badA l hl fun a _=>f243_ok a)) c244 ⟨rfl,MF_refl 12 _ rfl,trivial⟩ rfl rfl ?_;with_reducible refine wK ?_)
  |((with_reducible refine kQ 245 ?_);refine CallK.new 151 [] (f245_ok l hl) c245 ⟨rfl,trivial⟩ rfl rfl rfl (tab_outs l) rfl ?_;with_reducible refine wK ?_)
  |((with_reducible show CountK _ _ _ _ _ _ _);refine CountK.mk map64 ⟨_,_,rfl⟩ rfl ?_;with_reducible refine wK ?_)
  |apply trivial)
 ·have h2:l.all okA=true:=by have:=right_bad l;simp_all
  have e:(tRows Value.string oAttr (tabL l)).length=(tabL l).length:=List.length_map ..
  have h3:l.length≤40:=by simp only[hlm,decide_eq_true_eq] at*;omega
  have h4:=tabL_len l
  unfold rightA
  rw[h2,decide_eq_true h3,e,hlm]
  by_cases hn:(l.map AttrM.name).Nodup
  ·rw[decide_eq_true hn,h4.2 hn];simp
  ·rw[decide_eq_false hn]
   have:¬ (tabL l).length=l.length:=fun h=>hn (h4.1 h)
   rw[decide_eq_false (by(try simp only[castN]);omega)];rfl
 ·have h2:l.all okA=false:=by have:=right_bad l;simp_all
  unfold rightA;rw[h2];simp
 ·have h2:decide (l.length≤40)=false:=by simp only[hlm,decide_eq_false_iff_not] at*;omega
  unfold rightA;rw[h2];simp
def noS:ByteArray:=⟨#[]⟩
def findE (l:List AttrM)(n:ByteArray):Int:=if rightA l then(if rightS n then 0 else 4) else 1
def findS (l:List AttrM)(n:ByteArray):ByteArray:=if rightA l&&rightS n then lowS n else noS
def findP (l:List AttrM)(n:ByteArray):Int:=if rightA l&&rightS n then posA l (lowS n) else-1
theorem f264_ok (l:List AttrM)(hl:l.length≤100000)(n:ByteArray):FnOK Tryz.prog 264 [] [eAttrs l,eStr n] [] (.tup [eStr (findS l n),eInt (findP l n),eInt (findE l n)]):=by
 refine FnOK.startC (rvs:=[.tmp 4,.tmp 5,.tmp 6]) G G_good Tryz.func264 rfl Tryz.ntmps264 rfl rfl ?_;with_reducible refine wD ?_
 repeat' (first
  |refine aE ?_ ?_
  |((with_reducible show IfK _ _ _ _);first|refine iK ?_|(refine IfK.mk (fun _=>?_) (fun _=>?_)<;>with_reducible refine wK ?_))
  |((with_reducible refine kQ 203 ?_);refine cL (f203_ok l hl) c203 ?_;with_reducible refine wK ?_)
  |((with_reducible refine kQ 81 ?_);refine cL (f81_ok _) c81 ?_;with_reducible refine wK ?_)
  |((with_reducible refine kQ 275 ?_);refine cL (f275_ok l hl _) c275 ?_;with_reducible refine wK ?_)
  |apply trivial)
 all_goals (cases h1:rightA l<;>cases h2:rightS n<;>simp_all[findE,findS,findP,noS])
 rfl
def getS (l:List AttrM)(n:ByteArray):ByteArray:=if 0≤findP l n then((l[(findP l n).toNat]?).map AttrM.value).getD noS else noS
theorem idxI_cases {α:Type}(p:α→Bool)(l:List α):idxI p l=-1∨∃ (k:Nat) (a:α),idxI p l=k∧l[k]? =some a∧p a=true:=by
 unfold idxI
 cases h:l.findIdx? p with
 |none=>exact .inl rfl
 | some k=>
   rw[List.findIdx?_eq_some_iff_getElem] at h
   obtain⟨hk,h1,_⟩:=h
   exact .inr ⟨k,_,rfl,List.getElem?_eq_getElem hk,h1⟩
theorem findP_cases (l:List AttrM)(n:ByteArray):findP l n=-1∨∃ (k:Nat) (a:AttrM),findP l n=k∧l[k]? =some a∧a.name=lowS n:=by
 unfold findP
 split
 ·rcases idxI_cases (hasName (lowS n)) l with h|⟨k,a,h1,h2,h3⟩
  ·exact .inl h
  ·exact .inr ⟨k,a,h1,h2,by simpa[hasName] using h3⟩
 ·exact .inl rfl
theorem f248_ok (l:List AttrM)(hl:l.length≤100000)(n:ByteArray):FnOK Tryz.prog 248 [] [eAttrs l,eStr n] [] (.tup [eStr (getS l n),eBool (decide (0≤findP l n))]):=by
 refine FnOK.startC (rvs:=[.tmp 4,.tmp 5]) G G_good Tryz.func248 rfl Tryz.ntmps248 rfl rfl ?_;with_reducible refine wD ?_
 refine cL (f264_ok l hl n) c264 ?_;with_reducible refine wK ?_
 rcases findP_cases l n with h|⟨k,a,h,ha,hn⟩
 ·simp only[h]
  refine IfK.yes rfl ?_;with_reducible refine wK ?_
  (refine eK ?_ ?_<;>with_reducible repeat' (first|exact trivial|(show _∧_;refine aK ?_ ?_)))
  ·unfold getS;rw[h];rfl
  ·rfl
 ·simp only[h]
  refine IfK.no (decide_eq_false (by(try simp only[castN]);omega)) ?_;with_reducible refine wK ?_
  refine IdxK.mk k (eAttr a) rfl (attr_get ha) ?_;with_reducible refine wK ?_
  (refine eK ?_ ?_<;>with_reducible repeat' (first|exact trivial|(show _∧_;refine aK ?_ ?_)))
  ·unfold getS;rw[h,if_pos (by omega),Int.toNat_natCast,ha];rfl
  ·exact decide_eq_true (by omega)
theorem frz_attrs {m:ML}{fz:Nat→Bool}{tab:List (Nat×Nat)}{n t len:Nat}{ro:Bool}{rows:List AV}{l:List AttrM}(h1:lkM m t=.live 2 rows ro)(h2:fz t=true)(h3:rows=l.map oAttr)(h4:len=l.length):FrzK m fz (MF tab fz m n) (eAttrs l) t 0 len:=by
 subst h3;subst h4
 have e:(l.map oAttr).length=l.length:=List.length_map ..
 exact .cut h1 h2 (by omega) (by rw[List.drop_zero,List.take_of_length_le (by omega)]) (noRef_attrs l)


end Go.Proofs.Heir
namespace Go.Proofs
open Go.Shelf
def Tryz.lays144_ren:Go.Shelf.Ren:=⟨fun|144=>183|143=>232|219=>257|217=>270|225=>271|224=>272|267=>273|266=>278|314=>279|n=>n,fun|9=>9|4=>4|3=>3|5=>5|46=>299|146=>305|51=>304|n=>n,fun|1=>0|n=>n⟩
theorem Tryz.lays144:Go.Proofs.Lays.n144 Tryz.prog Tryz.lays144_ren:={
  mixed:=by kernel_rfl
  f143:=Tryz.func232.trans (congrArg some (by kernel_rfl))
  f144:=Tryz.func183.trans (congrArg some (by kernel_rfl))
  f217:=Tryz.func270.trans (congrArg some (by kernel_rfl))
  f219:=Tryz.func257.trans (congrArg some (by kernel_rfl))
  f224:=Tryz.func272.trans (congrArg some (by kernel_rfl))
  f225:=Tryz.func271.trans (congrArg some (by kernel_rfl))
  f266:=Tryz.func278.trans (congrArg some (by kernel_rfl))
  f267:=Tryz.func273.trans (congrArg some (by kernel_rfl))
  f314:=Tryz.func279.trans (congrArg some (by kernel_rfl))
  t3:=Tryz.underlying3
  a3:=Tryz.isAgg3
  z3:=Tryz.sizeOf3
  v3:=Tryz.zeroValue3
  t4:=Tryz.underlying4
  a4:=Tryz.isAgg4
  z4:=Tryz.sizeOf4
  v4:=Tryz.zeroValue4
  t5:=Tryz.underlying5
  a5:=Tryz.isAgg5
  z5:=Tryz.sizeOf5
  v5:=Tryz.zeroValue5
  t9:=Tryz.underlying9
  a9:=Tryz.isAgg9
  z9:=Tryz.sizeOf9
  v9:=Tryz.zeroValue9
  t46:=Tryz.underlying299
  a46:=Tryz.isAgg299
  z46:=Tryz.sizeOf299
  v46:=Tryz.zeroValue299
  t51:=Tryz.underlying304
  a51:=Tryz.isAgg304
  z51:=Tryz.sizeOf304
  v51:=Tryz.zeroValue304
  t146:=Tryz.underlying305
  a146:=Tryz.isAgg305
  z146:=Tryz.sizeOf305
  v146:=Tryz.zeroValue305
  g1:=by kernel_rfl}
open Go.RowKit Go.Lib in
theorem Tryz.strings_Contains_one (s:ByteArray)(c:UInt8)(w:World):
    Calls Tryz.prog 183 #[.string s,.string ⟨#[c]⟩] w fun e w'=>e=.returned (.bool (decide (0≤Lib.indexByte s.data.toList c)))∧w'=w:=Any.strings_Contains_one Tryz.lays144 s c w
def Tryz.lays157_ren:Go.Shelf.Ren:=⟨fun|157=>274|229=>280|199=>281|261=>284|311=>285|312=>286|n=>n,fun|9=>9|31=>49|3=>3|5=>5|4=>4|119=>307|0=>0|40=>235|152=>309|21=>21|154=>311|51=>304|141=>313|196=>317|193=>314|198=>320|49=>318|194=>315|201=>323|226=>325|46=>299|227=>326|n=>n,fun|0=>1|6=>2|n=>n⟩
theorem Tryz.lays157:Go.Proofs.Lays.n157 Tryz.prog Tryz.lays157_ren:={
  mixed:=by kernel_rfl
  f157:=Tryz.func274.trans (congrArg some (by kernel_rfl))
  f199:=Tryz.func281.trans (congrArg some (by kernel_rfl))
  f229:=Tryz.func280.trans (congrArg some (by kernel_rfl))
  f261:=Tryz.func284.trans (congrArg some (by kernel_rfl))
  f311:=Tryz.func285.trans (congrArg some (by kernel_rfl))
  f312:=Tryz.func286.trans (congrArg some (by kernel_rfl))
  t0:=Tryz.underlying0
  a0:=Tryz.isAgg0
  z0:=Tryz.sizeOf0
  v0:=Tryz.zeroValue0
  t3:=Tryz.underlying3
  a3:=Tryz.isAgg3
  z3:=Tryz.sizeOf3
  v3:=Tryz.zeroValue3
  t4:=Tryz.underlying4
  a4:=Tryz.isAgg4
  z4:=Tryz.sizeOf4
  v4:=Tryz.zeroValue4
  t5:=Tryz.underlying5
  a5:=Tryz.isAgg5
  z5:=Tryz.sizeOf5
  v5:=Tryz.zeroValue5
  t9:=Tryz.underlying9
  a9:=Tryz.isAgg9
  z9:=Tryz.sizeOf9
  v9:=Tryz.zeroValue9
  t21:=Tryz.underlying21
  a21:=Tryz.isAgg21
  z21:=Tryz.sizeOf21
  v21:=Tryz.zeroValue21
  t31:=Tryz.underlying49
  a31:=Tryz.isAgg49
  z31:=Tryz.sizeOf49
  v31:=Tryz.zeroValue49
  t40:=Tryz.underlying235
  a40:=Tryz.isAgg235
  z40:=Tryz.sizeOf235
  v40:=Tryz.zeroValue235
  t46:=Tryz.underlying299
  a46:=Tryz.isAgg299
  z46:=Tryz.sizeOf299
  v46:=Tryz.zeroValue299
  t49:=Tryz.underlying318
  a49:=Tryz.isAgg318
  z49:=Tryz.sizeOf318
  v49:=Tryz.zeroValue318
  t51:=Tryz.underlying304
  a51:=Tryz.isAgg304
  z51:=Tryz.sizeOf304
  v51:=Tryz.zeroValue304
  t119:=Tryz.underlying307
  a119:=Tryz.isAgg307
  z119:=Tryz.sizeOf307
  t141:=Tryz.underlying313
  a141:=Tryz.isAgg313
  z141:=Tryz.sizeOf313
  v141:=Tryz.zeroValue313
  t152:=Tryz.underlying309
  a152:=Tryz.isAgg309
  z152:=Tryz.sizeOf309
  v152:=Tryz.zeroValue309
  t154:=Tryz.underlying311
  a154:=Tryz.isAgg311
  z154:=Tryz.sizeOf311
  v154:=Tryz.zeroValue311
  t193:=Tryz.underlying314
  a193:=Tryz.isAgg314
  z193:=Tryz.sizeOf314
  v193:=Tryz.zeroValue314
  t194:=Tryz.underlying315
  a194:=Tryz.isAgg315
  z194:=Tryz.sizeOf315
  v194:=Tryz.zeroValue315
  t196:=Tryz.underlying317
  a196:=Tryz.isAgg317
  z196:=Tryz.sizeOf317
  v196:=Tryz.zeroValue317
  t198:=Tryz.underlying320
  a198:=Tryz.isAgg320
  z198:=Tryz.sizeOf320
  v198:=Tryz.zeroValue320
  t201:=Tryz.underlying323
  a201:=Tryz.isAgg323
  z201:=Tryz.sizeOf323
  v201:=Tryz.zeroValue323
  t226:=Tryz.underlying325
  a226:=Tryz.isAgg325
  z226:=Tryz.sizeOf325
  v226:=Tryz.zeroValue325
  t227:=Tryz.underlying326
  a227:=Tryz.isAgg326
  z227:=Tryz.sizeOf326
  v227:=Tryz.zeroValue326
  g0:=by kernel_rfl
  g6:=by kernel_rfl}
end Go.Proofs
namespace Go.Proofs.Heir
open Go Go.Am Go.RowKit Go.Lib
set_option maxRecDepth 100000
set_option maxHeartbeats 8000000
def oStr (s:ByteArray):AV:=eStr s
@[reducible] def eStrs (l : List ByteArray) : AV := .sl 1 (l.map oStr)
@[reducible] def rStrs (l : List ByteArray) : MS := .live 1 (l.map oStr) false
theorem noRef_strs (l:List ByteArray):noRefL (l.map oStr)=true:=by
 rw[noRefL_iff];intro x hx
 obtain⟨a,_,rfl⟩:=List.mem_map.1 hx
 rfl
theorem strs_get {l:List ByteArray}{k:Nat}{a:ByteArray}(h:l[k]? =some a):(l.map oStr)[k]? =some (eStr a):=by rw[List.getElem?_map,h];rfl
theorem strs_outs (l:List ByteArray):okOuts [rStrs l]:=⟨Wide.of_mem fun r hr=>by obtain⟨a,_,rfl⟩:=List.mem_map.1 hr;rfl,noRef_strs l,trivial⟩
theorem frz_strs {m:ML}{fz:Nat→Bool}{tab:List (Nat×Nat)}{n t len:Nat}{ro:Bool}{rows:List AV}{l:List ByteArray}(h1:lkM m t=.live 1 rows ro)(h2:fz t=true)(h3:rows=l.map oStr)(h4:len=l.length):FrzK m fz (MF tab fz m n) (eStrs l) t 0 len:=by
 subst h3;subst h4
 have e:(l.map oStr).length=l.length:=List.length_map ..
 exact .cut h1 h2 (by omega) (by rw[List.drop_zero,List.take_of_length_le (by omega)]) (noRef_strs l)
theorem f233_ok (l:List ByteArray)(hl:l.length≤100000)(s:ByteArray):FnOK Tryz.prog 233 [] [eStrs l,eStr s] [] (eInt (idxI (fun x=>decide (x=s)) l)):=by
 have hlm:(l.map oStr).length=l.length:=List.length_map ..
 refine FnOK.startC (rvs:=[.tmp 4]) G G_good Tryz.func233 rfl Tryz.ntmps233 rfl rfl ?_;with_reducible refine wD ?_
 refine LoopK.use G G_good (fun(k:Nat)=>[(0,eStrs l),(1,eStr s),(7,eInt l.length),(8,eInt k)]) (fun _=>[]) (fun k=>k≤l.length∧∀j x,j<k→l[j]? =some x→decide (x=s)=false) (fun k=>l.length-k) 0 ⟨Nat.zero_le _,fun j x h=>by omega⟩
  ⟨⟨rfl,rfl⟩,⟨rfl,rfl,by show(l.length:Int)=((l.map oStr).length:Int);rw[hlm],rfl,trivial⟩,trivial⟩ ?_
 rintro k ⟨hk,hno⟩
 with_reducible refine wK ?_
 refine IfK.mk (fun h1=>?_) (fun h1=>?_)<;>(try simp only[castN] at h1)<;>with_reducible refine wK ?_
 ·simp only[decide_eq_true_eq] at h1
  have hk':k<l.length:=by omega
  obtain⟨a,ha⟩:∃a,l[k]? =some a:=⟨_,List.getElem?_eq_getElem hk'⟩
  refine IdxK.mk k (eStr a) rfl (strs_get ha) ?_;with_reducible refine wK ?_
  refine IfK.mk (fun h2=>?_) (fun h2=>?_)<;>(try simp only[castN] at h2)<;>with_reducible refine wK ?_
  ·(refine eK ?_ ?_<;>with_reducible repeat' (first|exact trivial|(show _∧_;refine aK ?_ ?_)))
   refine idxI_hit (p:=fun x=>decide (x=s)) ha ?_ hno
   simp only[decide_eq_true_eq] at h2 ⊢;exact h2.symm
  ·refine nK ?_;with_reducible refine wK ?_
   refine NextK.mk (k+1) ⟨by omega,fun j x hj hx=>?_⟩ (by omega) ⟨⟨rfl,rfl⟩,⟨rfl,rfl,rfl,by show((k+1:Nat):Int)=(k:Int)+1;omega,trivial⟩,trivial⟩
   rcases Nat.lt_or_ge j k with h3|h3
   ·exact hno j x h3 hx
   ·have:j=k:=by omega
    subst this
    rw[ha] at hx;cases hx
    simp only[decide_eq_false_iff_not] at h2 ⊢;exact fun e=>h2 e.symm
 ·(refine eK ?_ ?_<;>with_reducible repeat' (first|exact trivial|(show _∧_;refine aK ?_ ?_)))
  exact idxI_none fun j x hx=>hno j x (by have:=(List.getElem?_eq_some_iff.1 hx).1;simp only[decide_eq_false_iff_not] at h1;omega) hx
def hasW (l:List ByteArray)(s:ByteArray):Bool:=l.any fun x=>decide (x=s)
theorem hasW_iff {l:List ByteArray}{s:ByteArray}:hasW l s=true↔s∈l:=by
 unfold hasW;rw[List.any_eq_true]
 exact⟨fun⟨x,hx,e⟩=>by rw[←of_decide_eq_true e];exact hx,fun h=>⟨s,h,decide_eq_true rfl⟩⟩
theorem idxI_mem {l:List ByteArray}{s:ByteArray}:decide (0≤idxI (fun x=>decide (x=s)) l)=hasW l s:=by
 rw[Bool.eq_iff_iff,decide_eq_true_eq,hasW_iff]
 unfold idxI
 cases h:l.findIdx? (fun x=>decide (x=s)) with
 | none=>
   rw[List.findIdx?_eq_none_iff] at h
   simp only
   refine⟨fun h'=>by omega,fun hs=>?_⟩
   have:=h s hs
   simp at this
 | some k=>
   rw[List.findIdx?_eq_some_iff_getElem] at h
   obtain⟨hk,h2,_⟩:=h
   simp only
   exact⟨fun _=>by rw[←of_decide_eq_true h2];exact List.getElem_mem hk,fun _=>by omega⟩
theorem f184_ok (l:List ByteArray)(hl:l.length≤100000)(s:ByteArray):FnOK Tryz.prog 184 [] [eStrs l,eStr s] [] (eBool (hasW l s)):=by
 rw[←idxI_mem]
 refine FnOK.startC (rvs:=[.tmp 4]) G G_good Tryz.func184 rfl Tryz.ntmps184 rfl rfl ?_;with_reducible refine wD ?_
 refine cL (f233_ok l hl s) c233 ?_;with_reducible refine wK ?_
 (refine eK ?_ ?_<;>with_reducible repeat' (first|exact trivial|(show _∧_;refine aK ?_ ?_)))
def strB (l:List UInt8):ByteArray:=⟨l.toArray⟩
def resL:List ByteArray:=[strB [97,110,110,111,116,97,116,105,111,110,45,120,109,108],strB [99,111,108,111,114,45,112,114,111,102,105,108,101],strB [102,111,110,116,45,102,97,99,101],strB [102,111,110,116,45,102,97,99,101,45,115,114,99],
 strB [102,111,110,116,45,102,97,99,101,45,117,114,105],strB [102,111,110,116,45,102,97,99,101,45,102,111,114,109,97,116],strB [102,111,110,116,45,102,97,99,101,45,110,97,109,101],strB [109,105,115,115,105,110,103,45,103,108,121,112,104]]
theorem f185_ok:FnOK Tryz.prog 185 [] [] [rStrs resL] (.own 0 0 8):=by
 refine FnOK.startC (rvs:=[.tmp 0]) G G_good Tryz.func185 rfl Tryz.ntmps185 rfl rfl ?_;with_reducible refine wD ?_
 (refine eK ?_ ?_<;>with_reducible repeat' (first|exact trivial|(show _∧_;refine aK ?_ ?_)))
 all_goals first|rfl|exact MFL_refl (noRef_strs resL)
theorem f183_ok (s:ByteArray)(c:UInt8):FnOK Tryz.prog 183 [] [eStr s,eStr ⟨#[c]⟩] [] (eBool (decide (0≤Lib.indexByte s.data.toList c))):=
 FnOK.of_calls (vs:=[.string s,.string ⟨#[c]⟩]) (v:=.bool _) fun w _=>(Go.Proofs.Tryz.strings_Contains_one s c w).mono fun e w' ⟨h1,h2⟩=>⟨h1,by rw[h2];exact Below.refl _ w⟩

@[reducible] def knowB : List UInt8 := [97, 32, 98, 32, 98, 117, 116, 116, 111, 110, 32, 100, 105, 118, 32, 102, 105, 101, 108, 100, 115, 101, 116, 32, 102, 111, 114, 109, 32, 105, 32, 105, 110, 112, 117, 116, 32, 108, 97, 98, 101, 108, 32, 108, 101, 103, 101, 110, 100, 32, 108, 105, 32, 111, 112, 116, 105, 111, 110, 32, 111, 117, 116, 112, 117, 116, 32, 112, 32, 115, 101, 108, 101, 99, 116, 32, 115, 112, 97, 110, 32, 116, 101, 109, 112, 108, 97, 116, 101, 32, 116, 101, 120, 116, 97, 114, 101, 97, 32, 117, 108]
def knowL:List ByteArray:=(Lib.fields knowB).map strB
theorem knowL_len:(Lib.fields knowB).length=19:=by decide+kernel
theorem know_ascii:∀ (j:Nat) b,(ByteArray.mk knowB.toArray).data.toList[j]? =some b→b.toNat<128:=by
 intro j b h
 have h1:knowB.all (fun b=>decide (b.toNat<128))=true:=by decide+kernel
 exact of_decide_eq_true (List.all_eq_true.1 h1 b (List.mem_of_getElem? h))
theorem flat_strs (l:List ByteArray):flat (l.map oStr)=l.map oStr:=by
 induction l with
 |nil=>rfl
 |cons a r ih=>show cells (oStr a)++flat (r.map oStr)=_;rw[ih];rfl
theorem FnOK.at_strs {P:Program}{f:FuncId}{l:List ByteArray}{s:ByteArray}{b:Bool}(h:FnOK P f [] [eStrs l,eStr s] [] (eBool b)){w:World}{blk cap:Nat}{arr:Array Value}{ty:TypeId}{fz:Nat×Nat}(hh:w.heap[blk]? =some (.cells arr ty fz))
  (harr:∀ (i:Nat) (x:ByteArray),l[i]? =some x→arr[i]? =some (.string x)) (hcap:l.length≤cap) (ht:Tabs P w fun _=>none):
  Calls P f #[.slice (some ⟨blk,0,none⟩) l.length cap,.string s] w fun e w'=>e=.returned (.bool b)∧Below w.heap.size w w':=by
 have hW:∀b,¬Wr (fun _=>False) (fun _=>none) (objsOf []) b:=by
  rintro b (h|⟨t,B,wd,rows,_,h,_⟩)
  ·exact h
  ·cases h
 have hblk:blk<w.heap.size:=(Array.getElem?_eq_some_iff.1 hh).1
 refine(h w (fun _=>False) (fun _=>none) [.slice (some ⟨blk,0,none⟩) l.length cap,.string s] (fun _ _=>rfl) (sim_start w ht) ⟨rfl,?_⟩).mono ?_
 ·intro j c v h1 h2
  match j with
  | 0 =>
    simp at h1 h2;subst h1;subst h2
    have key:∀ (q:Nat) (c:AV),(flat (l.map oStr))[q]? =some c→∃x,l[q]? =some x∧c=eStr x:=by
     intro q c hq
     rw[flat_strs,List.getElem?_map] at hq
     cases hx:l[q]? with
     |none=>rw[hx] at hq;cases hq
     |some x=>rw[hx] at hq;exact⟨x,rfl,(Option.some.inj hq).symm⟩
    refine .sl (f:=fun q=>arr.getD q undef) (hW _) hblk (by simp) hcap (fun i r hr=>?_) (fun q c hq=>?_) (fun q c hq=>?_) (fun c hc=>?_)
    ·rw[List.getElem?_map] at hr
     cases hx:l[i]? with
     |none=>rw[hx] at hr;cases hr
     |some x=>rw[hx] at hr;cases hr;rfl
    ·obtain⟨x,hx,rfl⟩:=key q c hq
     have:=harr q x hx
     simp[World.cell?,hh,this,Array.getD_eq_getD_getElem?]
    ·obtain⟨x,hx,rfl⟩:=key q c hq
     have:=harr q x hx
     simp only[Array.getD_eq_getD_getElem?,this,Option.getD_some]
     exact .lit
    ·rw[flat_strs] at hc
     obtain⟨x,_,rfl⟩:=List.mem_map.1 hc
     rfl
  |1=>simp at h1 h2;subst h1;subst h2;exact .lit
  |j+2=>simp at h1
 ·rintro e w' ⟨v',μ',rfl,hs,hv⟩
  cases hv
  exact⟨rfl,hs.os,hs.tape,hs.output,hs.hsize,fun b hb=>hs.keep b hb (by rintro⟨t,B,h,_⟩;cases h)⟩
theorem f261_calls (w:World)(ht:Tabs Tryz.prog w fun _=>none):Calls Tryz.prog 261 #[] w fun e w'=>e=.returned (.slice (some ⟨w.heap.size,0,none⟩) 19 19)∧w'=w.alloc (.cells (knowL.map Value.string).toArray 9):=by
 have hf:=Any.strings_Fields_core Go.Proofs.Tryz.lays157 (by kernel_rfl) (ByteArray.mk knowB.toArray) w (by decide) know_ascii (fun c hc=>((ht _ (by kernel_rfl)).2.2 c hc))
 have e1:(ByteArray.mk knowB.toArray).data.toList=knowB:=rfl
 rw[e1,knowL_len,show((Lib.fields knowB).map fun l=>Value.string ⟨l.toArray⟩)=knowL.map Value.string from by unfold knowL;rw[List.map_map];rfl] at hf
 go_enter Tryz.func261,Tryz.ntmps261
 go_wp2_with (go_at_call 274;refine hf.mono ?_;rintro e w1 ⟨rfl,rfl⟩)
 go_ret
 exact⟨rfl,rfl⟩
theorem f238_ok (s:ByteArray):FnOK Tryz.prog 238 [] [eStr s] [] (eBool (hasW knowL s)):=by
 refine FnOK.of_calls (vs:=[.string s]) (v:=.bool (hasW knowL s)) fun w ht=>?_
 have hl:knowL.length=19:=by unfold knowL;rw[List.length_map,knowL_len]
 have h29:=f261_calls w ht
 have hb:Below w.heap.size w (w.alloc (.cells (knowL.map Value.string).toArray 9)):=(Below.refl _ w).alloc (Nat.le_refl _) _
 have h26:=FnOK.at_strs (f184_ok knowL (by omega) s) (w:=w.alloc (.cells (knowL.map Value.string).toArray 9)) (blk:=w.heap.size) (cap:=19) (heap_alloc_new w _) (fun i x hx=>by simp[hx]) (by omega) (ht.below hb)
 rw[hl] at h26
 go_enter Tryz.func238,Tryz.ntmps238
 go_wp2_with (first
  |(go_at_call 261;refine h29.mono ?_;rintro e w1 ⟨rfl,rfl⟩)
  |(go_at_call 184;refine h26.mono ?_;rintro e w2 ⟨rfl,hb2⟩))
 go_ret
 exact⟨rfl,hb.trans (hb2.mono hb.size)⟩
@[reducible] def resB : List UInt8 := [97, 110, 110, 111, 116, 97, 116, 105, 111, 110, 45, 120, 109, 108, 32, 99, 111, 108, 111, 114, 45, 112, 114, 111, 102, 105, 108, 101, 32, 102, 111, 110, 116, 45, 102, 97, 99, 101, 32, 102, 111, 110, 116, 45, 102, 97, 99, 101, 45, 115, 114, 99, 32, 102, 111, 110, 116, 45, 102, 97, 99, 101, 45, 117, 114, 105, 32, 102, 111, 110, 116, 45, 102, 97, 99, 101, 45, 102, 111, 114, 109, 97, 116, 32, 102, 111, 110, 116, 45, 102, 97, 99, 101, 45, 110, 97, 109, 101, 32, 109, 105, 115, 115, 105, 110, 103, 45, 103, 108, 121, 112, 104]
def dashB (l:List UInt8):Bool:=l.any (fun b=>decide (b=45))
def capsB (l:List UInt8):Bool:=l.any (fun b=>capC (b.toNat:Int))
def lowFirst:List UInt8→Bool
 |[]=>false
 |b::_=>smallC (b.toNat:Int)
def customS (s:ByteArray):Bool:=rightS s&&(lowFirst s.data.toList&&(!capsB s.data.toList&&(dashB s.data.toList&& !hasW resL s)))
theorem dash_index (l:List UInt8):decide (0≤Lib.indexByte l 45)=dashB l:=by
 rw[Bool.eq_iff_iff,decide_eq_true_eq]
 unfold dashB
 rw[List.any_eq_true]
 constructor
 ·intro h
  obtain⟨o,ho⟩:∃o:Nat,Lib.indexByte l 45=o:=⟨(Lib.indexByte l 45).toNat,by omega⟩
  obtain⟨h1,_⟩:=Lib.indexByte_some ho
  exact⟨45,List.mem_of_getElem? h1,rfl⟩
 ·rintro⟨b,hb,e⟩
  have:=of_decide_eq_true e;subst this
  rcases Int.lt_or_le (Lib.indexByte l 45) 0 with h|h
  ·have:Lib.indexByte l 45=-1:=by have:=Lib.indexByte_ge l 45;omega
   obtain⟨k,hk⟩:=List.getElem?_of_mem hb
   exact absurd hk (Lib.indexByte_none this k)
  ·exact h
theorem idx_plain (p:Nat→Bool)(s:ByteArray)(hs:∀b∈s.data.toList,b.toNat<128):∀ (f pos:Nat),s.size≤pos+f→(0≤idxFuncFrom p true s f pos↔ ∃i,pos≤i∧∃b,s.data.toList[i]? =some b∧p b.toNat=true)
 | 0,pos,h=>by
   have:¬ (0:Int)≤idxFuncFrom p true s 0 pos:=by simp[idxFuncFrom]
   refine⟨fun h'=>absurd h' this,?_⟩
   rintro⟨i,h1,b,h2,_⟩
   have:=(List.getElem?_eq_some_iff.1 h2).1
   have:i<s.size:=this
   omega
 | f + 1,pos,h=>by
   by_cases hp:pos<s.size
   ·have ih:=idx_plain p s hs f
    obtain⟨b,hb1,hb2⟩:∃b,s.data.toList[pos]? =some b∧s.get! pos=b:=⟨_,List.getElem?_eq_getElem hp,by show s.data[pos]! =_;rw[getElem!_pos s.data pos hp];rfl⟩
    have hb3:=hs b (List.mem_of_getElem? hb1)
    unfold idxFuncFrom
    rw[if_pos hp,decode_at,hb2]
    have hd:∀n b1 b2 b3,decodeN n b.toNat b1 b2 b3=(b.toNat,1):=fun n b1 b2 b3=>by rw[decodeN,if_pos hb3]
    rw[hd]
    show(0:Int)≤ (if p b.toNat=true then(pos:Int) else idxFuncFrom p true s f (pos+1))↔_
    cases hpb:p b.toNat with
    |true=>exact⟨fun _=>⟨pos,Nat.le_refl _,b,hb1,hpb⟩,fun _=>by simp⟩
    | false=>
      rw[if_neg (by simp),ih (pos+1) (by omega)]
      constructor
      ·rintro⟨i,h3,h4⟩;exact⟨i,by omega,h4⟩
      ·rintro⟨i,h3,b',h4,h5⟩
       rcases Nat.lt_or_ge pos i with h6|h6
       ·exact⟨i,h6,b',h4,h5⟩
       ·have:i=pos:=by omega
        subst this
        rw[hb1] at h4;cases h4
        rw[hpb] at h5;cases h5
   ·rw[idxFuncFrom_end _ _ _ _ _ hp]
    refine⟨fun h'=>by omega,?_⟩
    rintro⟨i,h1,b,h2,_⟩
    have:=(List.getElem?_eq_some_iff.1 h2).1
    have:i<s.size:=this
    omega
theorem right_plain {s:ByteArray}(h:rightS s=true):∀b∈s.data.toList,b.toNat<128:=by
 intro b hb
 unfold rightS rightL at h
 simp only[Bool.and_eq_true,List.all_eq_true] at h
 have:=h.1.2 b hb
 unfold signB signC smallC capC at this
 simp only[Bool.or_eq_true,Bool.and_eq_true,decide_eq_true_eq] at this
 omega
theorem caps_index {s:ByteArray}(h:rightS s=true):decide (0≤idxFunc (fun r=>capC (r:Int)) true s)=capsB s.data.toList:=by
 rw[Bool.eq_iff_iff,decide_eq_true_eq]
 unfold capsB
 rw[List.any_eq_true]
 have:=idx_plain (fun r=>capC (r:Int)) s (right_plain h) s.size 0 (by omega)
 refine Iff.trans this ⟨?_,?_⟩
 ·rintro⟨i,_,b,h1,h2⟩;exact⟨b,List.mem_of_getElem? h1,h2⟩
 ·rintro⟨b,h1,h2⟩
  obtain⟨i,hi⟩:=List.getElem?_of_mem h1
  exact⟨i,Nat.zero_le _,b,hi,h2⟩
theorem f20c_ok (s:ByteArray)(h:rightS s=true):FnOK Tryz.prog 181 [] [eStr s,.lit (.func (.func 182) #[] #[])] [] (eBool (capsB s.data.toList)):=by
 rw[←caps_index h]
 exact FnOK.of_calls (vs:=[.string s,.func (.func 182) #[] #[]]) fun w ht=>f181_calls 182 c182 (fun r=>capC (r:Int)) s w ht fun W x ht _=>(f182_ok (x:Int)).below (vs:=[.int .i32 (x:Int)]) W ht
theorem right_first {s:ByteArray}(h:rightS s=true):∃b r,s.data.toList=b::r:=by
 unfold rightS rightL at h
 simp only[Bool.and_eq_true,decide_eq_true_eq] at h
 obtain⟨b,r,e,_⟩:=first_get h.1.1.1
 exact⟨b,r,e⟩
theorem f109_ok (s:ByteArray):FnOK Tryz.prog 109 [] [eStr s] [] (eBool (customS s)):=by
 refine FnOK.startC (rvs:=[.tmp 2]) G G_good Tryz.func109 rfl Tryz.ntmps109 rfl rfl ?_;with_reducible refine wD ?_
 refine cL (f155_ok s) c155 ?_;with_reducible refine wK ?_
 unfold customS
 cases hr:rightS s with
 | false=>
   repeat' (first
  |refine aE ?_ ?_
  |((with_reducible show IfK _ _ _ _);first|refine iK ?_|(refine IfK.mk (fun _=>?_) (fun _=>?_)<;>with_reducible refine wK ?_))
  | apply trivial)
   all_goals rfl
 | true=>
   obtain⟨b,r,hb⟩:=right_first hr
   have hb0:s.data.toList[0]? =some b:=by rw[hb];rfl
   have hlf:lowFirst s.data.toList=smallC (b.toNat:Int):=by rw[hb];rfl
   have hda:=dash_index s.data.toList
   have f25:=f183_ok s 45
   rw[hda] at f25
   refine IfK.tt ?_;with_reducible refine wK ?_
   refine IdxSK.mk 0 b rfl hb0 ?_;with_reducible refine wK ?_
   refine ConvK.int (by kernel_rfl) (by kernel_rfl) (u8_i32 _) ?_;with_reducible refine wK ?_
   refine cL (f180_ok _) c180 ?_;with_reducible refine wK ?_
   repeat' (first
  |refine aE ?_ ?_
  |((with_reducible show IfK _ _ _ _);first|refine iK ?_|(refine IfK.mk (fun _=>?_) (fun _=>?_)<;>with_reducible refine wK ?_))
  |((with_reducible refine kQ 181 ?_);refine cL (f20c_ok s hr) c181 ?_;with_reducible refine wK ?_)
  |((with_reducible refine kQ 183 ?_);refine cL f25 c183 ?_;with_reducible refine wK ?_)
  |((with_reducible refine kQ 185 ?_);refine CallK.new 211 [] f185_ok c185 trivial rfl rfl rfl (strs_outs resL) rfl ?_;with_reducible refine wK ?_)
  |((with_reducible refine kQ 184 ?_);refine CallK.lit [211] (f184_ok resL (by decide) s) c184 ⟨frz_strs rfl rfl rfl rfl,rfl,trivial⟩ rfl rfl ?_;with_reducible refine wK ?_)
  | apply trivial)
   all_goals (rw[hlf];clear hb hb0 hda f25 hlf;rw[show s.data.toList=s.1.1 from rfl];simp_all)
theorem byte_all (p:UInt8→Bool)(h:(List.range 256).all (fun n=>p (UInt8.ofNat n))=true)(c:UInt8):p c=true:=by
 have:=List.all_eq_true.1 h c.toNat (List.mem_range.2 (UInt8.toNat_lt c))
 simpa using this
theorem lowB_low (c:UInt8):lowB (lowB c)=lowB c:=by
 have:=byte_all (fun c=>decide (lowB (lowB c)=lowB c)) (by decide+kernel) c
 simpa using this
theorem signB_low (c:UInt8):signB (lowB c)=signB c:=by
 have:=byte_all (fun c=>decide (signB (lowB c)=signB c)) (by decide+kernel) c
 simpa using this
theorem lowS_low (s:ByteArray):lowS (lowS s)=lowS s:=by
 unfold lowS lowL
 simp only[List.map_map]
 congr 2
 apply List.map_congr_left
 intro c _
 exact lowB_low c
theorem firstB_low (l:List UInt8):firstB (lowL l)=firstB l:=by
 cases l with
 |nil=>rfl
 | cons c r=>
   have:=byte_all (fun c=>decide (firstB [lowB c]=firstB [c])) (by decide+kernel) c
   exact of_decide_eq_true this
theorem rightS_low (s:ByteArray):rightS (lowS s)=rightS s:=by
 unfold rightS rightL
 have h1:(lowS s).data.toList=lowL s.data.toList:=rfl
 rw[h1,firstB_low]
 have h2:(lowL s.data.toList).length=s.data.toList.length:=by unfold lowL;simp
 have h3:(lowL s.data.toList).all signB=s.data.toList.all signB:=by
  unfold lowL
  rw[List.all_map]
  congr 1
  funext c
  exact signB_low c
 rw[h2,h3]
theorem lowS_size (s:ByteArray):(lowS s).size=s.size:=by
 rw[size_len,size_len]
 show(lowL s.data.toList).length=_
 exact lowL_len _
theorem know_facts {s:ByteArray}(h:hasW knowL s=true):rightS s=true∧dashB s.data.toList=false∧capsB s.data.toList=false:=by
 have hs:=hasW_iff.1 h
 have key:knowL.all (fun x=>rightS x&&(!dashB x.data.toList&& !capsB x.data.toList))=true:=by decide+kernel
 have:=List.all_eq_true.1 key s hs
 simp only[Bool.and_eq_true,Bool.not_eq_true'] at this
 exact this
theorem know_uncustom {s:ByteArray}(h:hasW knowL s=true):customS s=false:=by
 unfold customS;rw[(know_facts h).2.1];simp
def oInt (n:Int):AV:=eInt n
def vInt (n:Int):Value:=.int .i64 n
@[reducible] def eInts (l : List Int) : AV := .sl 1 (l.map oInt)
theorem int_get {l:List Int}{k:Nat}{x:Int}(h:l[k]? =some x):(l.map oInt)[k]? =some (eInt x):=by rw[List.getElem?_map,h];rfl
structure NodeM where
 kind:Int
 name:ByteArray
 is:ByteArray
 data:ByteArray
 attrs:List AttrM
 parent:Int
 kids:List Int
 host:Int
 under:Int
 doc:Int
structure ForM where
 nodes:List NodeM
 most:Int
def noNode:NodeM:=⟨0,⟨#[]⟩,⟨#[]⟩,⟨#[]⟩,[],0,[],0,0,0⟩
def nd (l:List NodeM)(n:Int):NodeM:=(l[n.toNat]?).getD noNode
def thereN (l:List NodeM)(n:Int):Bool:=decide (0≤n)&&decide (n< (l.length:Int))
def isN (l:List NodeM)(n k:Int):Bool:=thereN l n&&decide ((nd l n).kind=k)
def holdK (k:Int):Bool:=decide (k=0)||decide (k=1)||decide (k=3)||decide (k=4)
def hasI (l:List Int)(n:Int):Bool:=decide (n∈l)
def upN (x:NodeM):Int:=if x.parent=-1 then x.host else x.parent
def ownedN (l:List NodeM)(n:Int)(x:NodeM):Bool:=isN l x.doc 0&&(decide (x.kind≠0)||decide (x.doc=n))
def hungN (l:List NodeM)(n:Int)(x:NodeM):Bool:=decide (x.parent=-1)||((decide (x.kind=1)||decide (x.kind=2))&&thereN l x.parent&&holdK (nd l x.parent).kind&&hasI (nd l x.parent).kids n)
def kidOK (l:List NodeM)(n:Int)(x:NodeM)(pre:List Int)(c:Int):Bool:=
 thereN l c&& !hasI pre c&&decide ((nd l c).parent=n)&&decide ((nd l c).doc=x.doc)&&(decide ((nd l c).kind=1)||(decide ((nd l c).kind=2)&&decide (x.kind≠0)))
def kidsOK (l:List NodeM)(n:Int)(x:NodeM):List Int→List Int→Bool
 |_,[]=>true
 |pre,c::r=>kidOK l n x pre c&&kidsOK l n x (pre++ [c]) r
def elemsN (l:List NodeM)(cs:List Int):Nat:=cs.countP (fun c=>decide ((nd l c).kind=1))
def bearsN (l:List NodeM)(n:Int)(x:NodeM):Bool:=
 kidsOK l n x [] x.kids&&((holdK x.kind||decide (x.kids=[]))&&(decide (x.kind≠0)||decide (elemsN l x.kids≤1)))
def shadedN (l:List NodeM)(n:Int)(x:NodeM):Bool:=
 (if x.kind=4 then isN l x.host 1&&decide ((nd l x.host).under=n)&&decide ((nd l x.host).doc=x.doc) else decide (x.host=-1))&&
 (decide (x.under=-1)||(decide (x.kind=1)&&isN l x.under 4&&decide ((nd l x.under).host=n)))
def endsN (l:List NodeM):Nat→Int→Bool
 |0,_=>false
 |m+1,n=>if upN (nd l n)=-1 then true else endsN l m (upN (nd l n))
def namedN (x:NodeM):Bool:=
 if x.kind=1 then rightS x.name&&decide (lowS x.name=x.name)&&(decide (x.is=⟨#[]⟩)||customS x.is)&&decide (x.data=⟨#[]⟩)&&rightA x.attrs
 else if x.kind=2 then decide (x.data.size≤200)&&decide (x.name=⟨#[]⟩)&&decide (x.is=⟨#[]⟩)&&decide (x.attrs=[])
 else if x.kind=0∨x.kind=3∨x.kind=4 then decide (x.name=⟨#[]⟩)&&decide (x.is=⟨#[]⟩)&&decide (x.data=⟨#[]⟩)&&decide (x.attrs=[])
 else false
def nodeOK (l:List NodeM)(n:Int)(x:NodeM):Bool:=namedN x&&(ownedN l n x&&(hungN l n x&&(bearsN l n x&&shadedN l n x)))
def headOK (f:ForM):Bool:=decide (1≤f.most)&&decide (f.most≤400)&&decide (1≤f.nodes.length)&&decide ((f.nodes.length:Int)≤f.most)&&decide ((nd f.nodes 0).kind=0)
def allIx {α:Type}(p:Nat→α→Bool):Nat→List α→Bool
 |_,[]=>true
 |i,x::r=>p i x&&allIx p (i+1) r
def rightF (f:ForM):Bool:=headOK f&&(allIx (fun k x=>nodeOK f.nodes k x) 0 f.nodes&&allIx (fun k _=>endsN f.nodes f.nodes.length k) 0 f.nodes)
def shortF (f:ForM):Bool:=decide (f.nodes.length≤60)&&f.nodes.all (fun x=>decide (x.kids.length≤60)&&decide (x.attrs.length≤60)&&decide (x.name.size≤300))
structure SmallN (l:List NodeM):Prop where
 len:l.length≤64
 kids:∀x∈l,x.kids.length≤60
 attrs:∀x∈l,x.attrs.length≤60
 name:∀x∈l,x.name.size≤300
theorem shortF_small {f:ForM}(h:shortF f=true):SmallN f.nodes:=by
 unfold shortF at h
 simp only[Bool.and_eq_true,decide_eq_true_eq,List.all_eq_true] at h
 obtain⟨h1,h2⟩:=h
 exact⟨by omega,fun x hx=>(h2 x hx).1.1,fun x hx=>(h2 x hx).1.2,fun x hx=>(h2 x hx).2⟩
theorem nd_get {l:List NodeM}{k:Nat}{x:NodeM}(h:l[k]? =some x):nd l (k:Int)=x:=by unfold nd;rw[Int.toNat_natCast,h];rfl
theorem there_get {l:List NodeM}{k:Nat}{x:NodeM}(h:l[k]? =some x):thereN l (k:Int)=true:=by
 unfold thereN
 have:=(List.getElem?_eq_some_iff.1 h).1
 simp;omega
theorem there_iff {l:List NodeM}{n:Int}:thereN l n=true↔ ∃ (k:Nat) (x:NodeM),n=(k:Int)∧l[k]? =some x∧nd l n=x:=by
 constructor
 ·intro h
  unfold thereN at h
  simp only[Bool.and_eq_true,decide_eq_true_eq] at h
  have hk:n.toNat<l.length:=by omega
  have hn:n=(n.toNat:Int):=by omega
  refine⟨n.toNat,l[n.toNat],hn,List.getElem?_eq_getElem hk,?_⟩
  unfold nd;rw[List.getElem?_eq_getElem hk];rfl
 ·rintro⟨k,x,rfl,h,_⟩
  exact there_get h
theorem allIx_iff {α:Type}{p:Nat→α→Bool}:∀ {i:Nat} {l:List α},allIx p i l=true↔ ∀k x,l[k]? =some x→p (i+k) x=true
 |i,[]=>by simp[allIx]
 | i,a::r=>by
   simp only[allIx,Bool.and_eq_true,allIx_iff (i:=i+1) (l:=r)]
   constructor
   ·rintro⟨h1,h2⟩ k x hx
    cases k with
    |zero=>simp at hx;subst hx;exact h1
    |succ k=>have:=h2 k x (by simpa using hx);rw[show i+ (k+1)=i+1+k from by omega];exact this
   ·intro h
    refine⟨h 0 a rfl,fun k x hx=>?_⟩
    have:=h (k+1) x (by simpa using hx)
    rw[show i+1+k=i+ (k+1) from by omega];exact this
@[reducible] def eNode (x : NodeM) : AV := .agg [eInt x.kind, eStr x.name, eStr x.is, eStr x.data, eAttrs x.attrs, eInt x.parent, eInts x.kids, eInt x.host, eInt x.under, eInt x.doc]
def oNode (x:NodeM):AV:=eNode x
@[reducible] def eNodes (l : List NodeM) : AV := .sl 10 (l.map oNode)
@[reducible] def eFor (f : ForM) : AV := .agg [eNodes f.nodes, eInt f.most]
theorem node_get {l:List NodeM}{k:Nat}{x:NodeM}(h:l[k]? =some x):(l.map oNode)[k]? =some (eNode x):=by rw[List.getElem?_map,h];rfl
end Go.Proofs.Heir
section
namespace Go.Proofs.Heir
open Go Go.Am Go.RowKit Go.Lib
set_option maxRecDepth 100000
set_option maxHeartbeats 8000000
def finN (l:List NodeM):Nat→Int→Bool
 |0,_=>false
 |m+1,n=>if(nd l n).parent=-1 then true else finN l m (nd l n).parent
def chN (l:List NodeM):Nat→Int→List Int
 |0,_=>[]
 |m+1,n=>n::if(nd l n).parent=-1 then[] else chN l m (nd l n).parent
def ordN (l:List NodeM):Nat→Int→List Int
 |0,_=>[]
 |m+1,n=>n::(nd l n).kids.flatMap (ordN l m)
def wayN (l:List NodeM)(n:Int):List Int:=chN l l.length n
theorem fin_of_ends {l:List NodeM}:∀ {m:Nat} {n:Int},endsN l m n=true→finN l m n=true
 |0,n,h=>by simp[endsN] at h
 | m +1,n,h=>by
   unfold finN
   by_cases hp:(nd l n).parent=-1
   ·rw[if_pos hp]
   ·rw[if_neg hp]
    have hu:upN (nd l n)=(nd l n).parent:=if_neg hp
    unfold endsN at h
    rw[hu,if_neg hp] at h
    exact fin_of_ends h
theorem ch_len (l:List NodeM):∀ (m:Nat) (n:Int),(chN l m n).length≤m
 |0,_=>Nat.le_refl _
 | m +1,n=>by
   unfold chN
   split
   ·simp
   ·have:=ch_len l m (nd l n).parent
    simp;omega
theorem ch_more {l:List NodeM}:∀ {m k:Nat} {n:Int},finN l m n=true→m≤k→chN l k n=chN l m n
 |0,k,n,h,_=>by simp[finN] at h
 | m +1,k,n,h,hk=>by
   obtain⟨k,rfl⟩:∃j,k=j+1:=⟨k-1,by omega⟩
   unfold finN at h
   unfold chN
   by_cases hp:(nd l n).parent=-1
   ·rw[if_pos hp,if_pos hp]
   ·rw[if_neg hp] at h
    rw[if_neg hp,if_neg hp,ch_more h (by omega)]
structure Tree (l:List NodeM):Prop where
 par:∀n,thereN l n=true→(nd l n).parent≠-1→thereN l (nd l n).parent=true∧n∈ (nd l (nd l n).parent).kids
 kid:∀n,thereN l n=true→∀k∈ (nd l n).kids,thereN l k=true∧(nd l k).parent=n
 dup:∀n,thereN l n=true→(nd l n).kids.Nodup
 fin:∀n,thereN l n=true→finN l l.length n=true
 nam:∀n,thereN l n=true→namedN (nd l n)=true
theorem there_pos {l:List NodeM}{n:Int}(h:thereN l n=true):0≤n∧n< (l.length:Int):=by
 unfold thereN at h;simpa using h
variable {l : List NodeM}
theorem up_ind (T:Tree l){P:Int→Prop}(h0:∀n,thereN l n=true→(nd l n).parent=-1→P n)(h1:∀n,thereN l n=true→(nd l n).parent≠-1→thereN l (nd l n).parent=true→P (nd l n).parent→P n):∀n,thereN l n=true→P n:=by
 have H:∀ (m:Nat) (n:Int),thereN l n=true→finN l m n=true→P n:=by
  intro m
  induction m with
  |zero=>intro n _ h;simp[finN] at h
  | succ m ih=>
    intro n hn h
    unfold finN at h
    by_cases hp:(nd l n).parent=-1
    ·exact h0 n hn hp
    ·rw[if_neg hp] at h
     have hq:=(T.par n hn hp).1
     exact h1 n hn hp hq (ih _ hq h)
 exact fun n hn=>H _ n hn (T.fin n hn)
theorem way_top (T:Tree l){n:Int}(hn:thereN l n=true)(hp:(nd l n).parent=-1):wayN l n=[n]:=by
 have:=there_pos hn
 obtain⟨m,hm⟩:∃m,l.length=m+1:=⟨l.length-1,by omega⟩
 unfold wayN;rw[hm];unfold chN;rw[if_pos hp]
theorem way_step (T:Tree l){n:Int}(hn:thereN l n=true)(hp:(nd l n).parent≠-1):wayN l n=n::wayN l (nd l n).parent:=by
 have:=there_pos hn
 obtain⟨m,hm⟩:∃m,l.length=m+1:=⟨l.length-1,by omega⟩
 have hf:=T.fin n hn
 unfold wayN;rw[hm] at hf ⊢
 unfold finN at hf
 rw[if_neg hp] at hf
 rw[chN,if_neg hp,ch_more hf (Nat.le_succ m)]
theorem way_kid (T:Tree l){n k:Int}(hn:thereN l n=true)(hk:k∈ (nd l n).kids):wayN l k=k::wayN l n:=by
 have h:=T.kid n hn k hk
 have h0:=there_pos hn
 have hp:(nd l k).parent≠-1:=by rw[h.2];omega
 rw[way_step T h.1 hp,h.2]
theorem way_head (T:Tree l){n:Int}(hn:thereN l n=true):∃r,wayN l n=n::r:=by
 by_cases hp:(nd l n).parent=-1
 ·exact⟨[],way_top T hn hp⟩
 ·exact⟨_,way_step T hn hp⟩
theorem way_self (T:Tree l){n:Int}(hn:thereN l n=true):n∈wayN l n:=by
 obtain⟨r,hr⟩:=way_head T hn;rw[hr];exact List.mem_cons_self
theorem way_len (n:Int):(wayN l n).length≤l.length:=ch_len l _ n
theorem way_there (T:Tree l):∀n,thereN l n=true→∀a∈wayN l n,thereN l a=true:=by
 refine up_ind T (fun n hn hp a ha=>?_) (fun n hn hp hq ih a ha=>?_)
 ·rw[way_top T hn hp] at ha;rw[List.mem_singleton.1 ha];exact hn
 ·rw[way_step T hn hp] at ha
  rcases List.mem_cons.1 ha with rfl|h
  ·exact hn
  ·exact ih a h
theorem way_cut (T:Tree l):∀n,thereN l n=true→∀a∈wayN l n,∃t,wayN l n=t++wayN l a:=by
 refine up_ind T (fun n hn hp a ha=>?_) (fun n hn hp hq ih a ha=>?_)
 ·have h:=ha;rw[way_top T hn hp] at h;rw[List.mem_singleton.1 h];exact⟨[],rfl⟩
 ·have h:=ha
  rw[way_step T hn hp] at h
  rcases List.mem_cons.1 h with rfl|h
  ·exact⟨[],rfl⟩
  ·obtain⟨t,ht⟩:=ih a h
   exact⟨n::t,by rw[way_step T hn hp,ht];rfl⟩
theorem way_trans (T:Tree l){a b c:Int}(hc:thereN l c=true)(h1:a∈wayN l b)(h2:b∈wayN l c):a∈wayN l c:=by
 obtain⟨t,ht⟩:=way_cut T c hc b h2
 rw[ht];exact List.mem_append_right _ h1
theorem way_eq (T:Tree l){n a b:Int}(hn:thereN l n=true)(ha:a∈wayN l n)(hb:b∈wayN l n)(he:(wayN l a).length=(wayN l b).length):a=b:=by
 obtain⟨t,ht⟩:=way_cut T n hn a ha
 obtain⟨s,hs⟩:=way_cut T n hn b hb
 rw[ht] at hs
 have h:=(List.append_inj' hs he).2
 obtain⟨r,hr⟩:=way_head T (way_there T n hn a ha)
 obtain⟨q,hq⟩:=way_head T (way_there T n hn b hb)
 rw[hr,hq] at h
 exact(List.cons.inj h).1
theorem ord_way (T:Tree l):∀ (m:Nat) (n:Int),thereN l n=true→∀b∈ordN l m n,thereN l b=true∧n∈wayN l b
 |0,n,_,b,hb=>by simp[ordN] at hb
 | m +1,n,hn,b,hb=>by
   unfold ordN at hb
   rcases List.mem_cons.1 hb with rfl|h
   ·exact⟨hn,way_self T hn⟩
   ·obtain⟨k,hk,hbk⟩:=List.mem_flatMap.1 h
    have hkk:=T.kid n hn k hk
    obtain⟨h1,h2⟩:=ord_way T m k hkk.1 b hbk
    refine⟨h1,way_trans T h1 ?_ h2⟩
    rw[way_kid T hn hk]
    exact List.mem_cons_of_mem _ (way_self T hn)
theorem ord_nodup (T:Tree l):∀ (m:Nat) (n:Int),thereN l n=true→(ordN l m n).Nodup
 |0,_,_=>List.nodup_nil
 | m +1,n,hn=>by
   unfold ordN
   refine List.nodup_cons.2 ⟨fun h=>?_,?_⟩
   ·obtain⟨k,hk,hnk⟩:=List.mem_flatMap.1 h
    have hkk:=T.kid n hn k hk
    have h1:=(ord_way T m k hkk.1 n hnk).2
    obtain⟨t,ht⟩:=way_cut T n hn k h1
    have h2:=congrArg List.length ht
    rw[way_kid T hn hk] at h2
    simp at h2
    omega
   ·refine List.pairwise_flatMap.2 ⟨fun k hk=>ord_nodup T m k (T.kid n hn k hk).1,?_⟩
    refine List.Pairwise.imp_of_mem (fun{a b} ha hb hab x hx y hy e=>?_) (T.dup n hn)
    subst e
    have h1:=ord_way T m a (T.kid n hn a ha).1 x hx
    have h2:=ord_way T m b (T.kid n hn b hb).1 x hy
    refine hab (way_eq T h1.1 h1.2 h2.2 ?_)
    rw[way_kid T hn ha,way_kid T hn hb];rfl
theorem nodup_len:∀ (s t:List Int),t.Nodup→(∀x∈t,x∈s)→t.length≤s.length
 | [],t,_,h=>by
   cases t with
   |nil=>exact Nat.le_refl _
   |cons a r=>exact absurd (h a List.mem_cons_self) (by simp)
 | a::s,t,hd,h=>by
   have h1:=nodup_len s (t.erase a) (hd.erase a) (fun x hx=>by
   have h2:=(hd.mem_erase_iff).1 hx
   rcases List.mem_cons.1 (h x h2.2) with e|e
   ·exact absurd e h2.1
   ·exact e)
   have h3:t.length≤ (t.erase a).length+1:=by rw[List.length_erase];split<;>omega
   simp;omega
theorem ints_len {t:List Int}{n:Nat}(hd:t.Nodup)(h:∀x∈t,0≤x∧x< (n:Int)):t.length≤n:=by
 have:=nodup_len ((List.range n).map (fun k:Nat=>(k:Int))) t hd (fun x hx=>by
  have:=h x hx
  exact List.mem_map.2 ⟨x.toNat,List.mem_range.2 (by omega),by omega⟩)
 simpa using this
theorem ord_len (T:Tree l)(m:Nat){n:Int}(hn:thereN l n=true):(ordN l m n).length≤l.length:=
 ints_len (ord_nodup T m n hn) fun x hx=>there_pos (ord_way T m n hn x hx).1
def kidP (l:List NodeM)(n:Int)(x:NodeM)(c:Int):Bool:=
 thereN l c&&(decide ((nd l c).parent=n)&&(decide ((nd l c).doc=x.doc)&&(decide ((nd l c).kind=1)||(decide ((nd l c).kind=2)&&decide (x.kind≠0)))))
theorem kidsOK_iff {n:Int}{x:NodeM}:∀ {cs pre:List Int},kidsOK l n x pre cs=true↔ (∀c∈cs,kidP l n x c=true)∧cs.Nodup∧(∀c∈cs,c∉pre)
 |[],pre=>by simp[kidsOK]
 | a ::r,pre=>by
   have hk:kidOK l n x pre a=true↔kidP l n x a=true∧a∉pre:=by
    unfold kidOK kidP hasI
    simp only[Bool.and_eq_true,Bool.or_eq_true,decide_eq_true_eq,Bool.not_eq_true',decide_eq_false_iff_not]
    constructor
    ·rintro⟨⟨⟨⟨h1,h2⟩,h3⟩,h4⟩,h5⟩;exact⟨⟨h1,h3,h4,h5⟩,h2⟩
    ·rintro⟨⟨h1,h3,h4,h5⟩,h2⟩;exact⟨⟨⟨⟨h1,h2⟩,h3⟩,h4⟩,h5⟩
   unfold kidsOK
   rw[Bool.and_eq_true,hk,kidsOK_iff,List.nodup_cons]
   constructor
   ·rintro⟨⟨h1,h2⟩,h3,h4,h5⟩
    refine⟨fun c hc=>?_,⟨fun h=>?_,h4⟩,fun c hc=>?_⟩
    ·rcases List.mem_cons.1 hc with rfl|h
     ·exact h1
     ·exact h3 c h
    ·exact h5 a h (by simp)
    ·rcases List.mem_cons.1 hc with rfl|h
     ·exact h2
     ·exact fun h6=>h5 c h (List.mem_append_left _ h6)
   ·rintro⟨h1,⟨h2,h3⟩,h4⟩
    refine⟨⟨h1 a List.mem_cons_self,h4 a List.mem_cons_self⟩,fun c hc=>h1 c (List.mem_cons_of_mem _ hc),h3,fun c hc h=>?_⟩
    rcases List.mem_append.1 h with h|h
    ·exact h4 c (List.mem_cons_of_mem _ hc) h
    ·rw[List.mem_singleton] at h;subst h;exact h2 hc
theorem right_nodes {f:ForM}(h:rightF f=true):∀n,thereN f.nodes n=true→nodeOK f.nodes n (nd f.nodes n)=true:=by
 intro n hn
 obtain⟨k,x,rfl,hk,hx⟩:=there_iff.1 hn
 unfold rightF at h
 simp only[Bool.and_eq_true] at h
 have:=allIx_iff.1 h.2.1 k x hk
 rw[hx];simpa using this
theorem right_ends {f:ForM}(h:rightF f=true):∀n,thereN f.nodes n=true→endsN f.nodes f.nodes.length n=true:=by
 intro n hn
 obtain⟨k,x,rfl,hk,hx⟩:=there_iff.1 hn
 unfold rightF at h
 simp only[Bool.and_eq_true] at h
 simpa using allIx_iff.1 h.2.2 k x hk
theorem tree_of {f:ForM}(h:rightF f=true):Tree f.nodes:=by
 have hN:=right_nodes h
 have hB:∀n,thereN f.nodes n=true→(∀c∈ (nd f.nodes n).kids,kidP f.nodes n (nd f.nodes n) c=true)∧(nd f.nodes n).kids.Nodup:=by
  intro n hn
  have h1:=hN n hn
  unfold nodeOK bearsN at h1
  simp only[Bool.and_eq_true] at h1
  have:=kidsOK_iff.1 h1.2.2.2.1.1
  exact⟨this.1,this.2.1⟩
 refine⟨fun n hn hp=>?_,fun n hn k hk=>?_,fun n hn=>(hB n hn).2,fun n hn=>fin_of_ends (right_ends h n hn),fun n hn=>?_⟩
 ·have h1:=hN n hn
  unfold nodeOK hungN at h1
  simp only[Bool.and_eq_true,Bool.or_eq_true,decide_eq_true_eq] at h1
  rcases h1.2.2.1 with h2|h2
  ·exact absurd h2 hp
  ·refine⟨h2.1.1.2,?_⟩
   have:=h2.2
   unfold hasI at this;simpa using this
 ·have h1:=(hB n hn).1 k hk
  unfold kidP at h1
  simp only[Bool.and_eq_true,decide_eq_true_eq] at h1
  exact⟨h1.1,h1.2.1⟩
 ·have h1:=hN n hn
  unfold nodeOK at h1
  simp only[Bool.and_eq_true] at h1
  exact h1.1
end Go.Proofs.Heir
end
section
namespace Go.Proofs.Heir
open Go Go.Am Go.RowKit Go.Lib
set_option maxRecDepth 100000
set_option maxHeartbeats 8000000
@[reducible] def disW : ByteArray := ⟨⟨[100, 105, 115, 97, 98, 108, 101, 100]⟩⟩
@[reducible] def legW : ByteArray := ⟨⟨[108, 101, 103, 101, 110, 100]⟩⟩
@[reducible] def fldW : ByteArray := ⟨⟨[102, 105, 101, 108, 100, 115, 101, 116]⟩⟩
def disX (x:NodeM):Bool:=decide (x.kind=1)&&decide (0≤findP x.attrs disW)
def isLeg (l:List NodeM)(k:Int):Bool:=decide ((nd l k).kind=1)&&decide ((nd l k).name=legW)
def kidAt (p:Int→Bool)(cs:List Int):Int:=if 0≤idxI p cs then(cs[(idxI p cs).toNat]?).getD (-1) else-1
def legN (l:List NodeM)(n:Int):Int:=kidAt (isLeg l) (nd l n).kids
def condB (l:List NodeM)(p b:Int):Bool:=decide ((nd l p).name=fldW)&&(disX (nd l p)&&decide (legN l p≠b))
def walkB (l:List NodeM):Nat→Int→Bool
 |0,_=>false
 |m+1,b=>if(nd l b).parent=-1 then false else(condB l (nd l b).parent b||walkB l m (nd l b).parent)
def barN (l:List NodeM)(n:Int):Bool:=disX (nd l n)||(decide ((nd l n).kind=1)&&walkB l l.length n)
variable {l : List NodeM}
theorem dis_kind {x:NodeM}(h:disX x=true):x.kind=1:=by
 unfold disX at h;simp only[Bool.and_eq_true,decide_eq_true_eq] at h;exact h.1
end Go.Proofs.Heir
end
section
namespace Go.Proofs.Heir
open Go Go.Am Go.RowKit Go.Lib
set_option maxRecDepth 100000
set_option maxHeartbeats 8000000
variable {l : List NodeM}
theorem node_up (h:∀n,thereN l n=true→nodeOK l n (nd l n)=true):∀n,thereN l n=true→upN (nd l n)=-1∨thereN l (upN (nd l n))=true:=by
 intro n hn
 have h0:=h n hn
 unfold nodeOK at h0
 simp only[Bool.and_eq_true] at h0
 obtain⟨_,_,hH,_,hS⟩:=h0
 unfold upN
 unfold hungN at hH
 simp only[Bool.and_eq_true,Bool.or_eq_true,decide_eq_true_eq] at hH
 by_cases e:(nd l n).parent=-1
 ·rw[if_pos e]
  unfold shadedN at hS
  rw[Bool.and_eq_true] at hS
  by_cases e4:(nd l n).kind=4
  ·rw[if_pos e4] at hS
   unfold isN at hS
   simp only[Bool.and_eq_true] at hS
   exact .inr hS.1.1.1.1
  ·rw[if_neg e4] at hS
   exact .inl (by simpa using hS.1)
 ·rw[if_neg e]
  rcases hH with h|h
  ·exact absurd h e
  ·exact .inr h.1.1.2
end Go.Proofs.Heir
end
namespace Go.Proofs.Heir
open Go Go.Am Go.RowKit Go.Lib
set_option maxRecDepth 100000
set_option maxHeartbeats 8000000
def chU (x:NodeM):List Int:=(if x.under=-1 then[] else[x.under])++x.kids
namespace U
def finN (l:List NodeM):Nat→Int→Bool
 |0,_=>false
 |m+1,n=>if(upN (nd l n))=-1 then true else finN l m (upN (nd l n))
def chN (l:List NodeM):Nat→Int→List Int
 |0,_=>[]
 |m+1,n=>n::if(upN (nd l n))=-1 then[] else chN l m (upN (nd l n))
def ordN (l:List NodeM):Nat→Int→List Int
 |0,_=>[]
 |m+1,n=>n::(chU (nd l n)).flatMap (ordN l m)
def wayN (l:List NodeM)(n:Int):List Int:=chN l l.length n
theorem fin_of_ends {l:List NodeM}:∀ {m:Nat} {n:Int},endsN l m n=true→finN l m n=true
 |0,n,h=>by simp[endsN] at h
 | m+1,n,h=>by
   unfold finN;unfold endsN at h
   by_cases hp:upN (nd l n)=-1
   ·rw[if_pos hp]
   ·rw[if_neg hp] at h ⊢;exact fin_of_ends h
theorem ch_len (l:List NodeM):∀ (m:Nat) (n:Int),(chN l m n).length≤m
 |0,_=>Nat.le_refl _
 | m +1,n=>by
   unfold chN
   split
   ·simp
   ·have:=ch_len l m (upN (nd l n))
    simp;omega
theorem ch_more {l:List NodeM}:∀ {m k:Nat} {n:Int},finN l m n=true→m≤k→chN l k n=chN l m n
 |0,k,n,h,_=>by simp[finN] at h
 | m +1,k,n,h,hk=>by
   obtain⟨k,rfl⟩:∃j,k=j+1:=⟨k-1,by omega⟩
   unfold finN at h
   unfold chN
   by_cases hp:(upN (nd l n))=-1
   ·rw[if_pos hp,if_pos hp]
   ·rw[if_neg hp] at h
    rw[if_neg hp,if_neg hp,ch_more h (by omega)]
structure Tree (l:List NodeM):Prop where
 par:∀n,thereN l n=true→(upN (nd l n))≠-1→thereN l (upN (nd l n))=true∧n∈ (chU (nd l (upN (nd l n))))
 kid:∀n,thereN l n=true→∀k∈ (chU (nd l n)),thereN l k=true∧(upN (nd l k))=n
 dup:∀n,thereN l n=true→(chU (nd l n)).Nodup
 fin:∀n,thereN l n=true→finN l l.length n=true
variable {l : List NodeM}
theorem up_ind (T:Tree l){P:Int→Prop}(h0:∀n,thereN l n=true→(upN (nd l n))=-1→P n)(h1:∀n,thereN l n=true→(upN (nd l n))≠-1→thereN l (upN (nd l n))=true→P (upN (nd l n))→P n):∀n,thereN l n=true→P n:=by
 have H:∀ (m:Nat) (n:Int),thereN l n=true→finN l m n=true→P n:=by
  intro m
  induction m with
  |zero=>intro n _ h;simp[finN] at h
  | succ m ih=>
    intro n hn h
    unfold finN at h
    by_cases hp:(upN (nd l n))=-1
    ·exact h0 n hn hp
    ·rw[if_neg hp] at h
     have hq:=(T.par n hn hp).1
     exact h1 n hn hp hq (ih _ hq h)
 exact fun n hn=>H _ n hn (T.fin n hn)
theorem way_top (T:Tree l){n:Int}(hn:thereN l n=true)(hp:(upN (nd l n))=-1):wayN l n=[n]:=by
 have:=there_pos hn
 obtain⟨m,hm⟩:∃m,l.length=m+1:=⟨l.length-1,by omega⟩
 unfold wayN;rw[hm];unfold chN;rw[if_pos hp]
theorem way_step (T:Tree l){n:Int}(hn:thereN l n=true)(hp:(upN (nd l n))≠-1):wayN l n=n::wayN l (upN (nd l n)):=by
 have:=there_pos hn
 obtain⟨m,hm⟩:∃m,l.length=m+1:=⟨l.length-1,by omega⟩
 have hf:=T.fin n hn
 unfold wayN;rw[hm] at hf ⊢
 unfold finN at hf
 rw[if_neg hp] at hf
 rw[chN,if_neg hp,ch_more hf (Nat.le_succ m)]
theorem way_kid (T:Tree l){n k:Int}(hn:thereN l n=true)(hk:k∈ (chU (nd l n))):wayN l k=k::wayN l n:=by
 have h:=T.kid n hn k hk
 have h0:=there_pos hn
 have hp:(upN (nd l k))≠-1:=by rw[h.2];omega
 rw[way_step T h.1 hp,h.2]
theorem way_head (T:Tree l){n:Int}(hn:thereN l n=true):∃r,wayN l n=n::r:=by
 by_cases hp:(upN (nd l n))=-1
 ·exact⟨[],way_top T hn hp⟩
 ·exact⟨_,way_step T hn hp⟩
theorem way_self (T:Tree l){n:Int}(hn:thereN l n=true):n∈wayN l n:=by
 obtain⟨r,hr⟩:=way_head T hn;rw[hr];exact List.mem_cons_self
theorem way_len (n:Int):(wayN l n).length≤l.length:=ch_len l _ n
theorem way_there (T:Tree l):∀n,thereN l n=true→∀a∈wayN l n,thereN l a=true:=by
 refine up_ind T (fun n hn hp a ha=>?_) (fun n hn hp hq ih a ha=>?_)
 ·rw[way_top T hn hp] at ha;rw[List.mem_singleton.1 ha];exact hn
 ·rw[way_step T hn hp] at ha
  rcases List.mem_cons.1 ha with rfl|h
  ·exact hn
  ·exact ih a h
theorem way_cut (T:Tree l):∀n,thereN l n=true→∀a∈wayN l n,∃t,wayN l n=t++wayN l a:=by
 refine up_ind T (fun n hn hp a ha=>?_) (fun n hn hp hq ih a ha=>?_)
 ·have h:=ha;rw[way_top T hn hp] at h;rw[List.mem_singleton.1 h];exact⟨[],rfl⟩
 ·have h:=ha
  rw[way_step T hn hp] at h
  rcases List.mem_cons.1 h with rfl|h
  ·exact⟨[],rfl⟩
  ·obtain⟨t,ht⟩:=ih a h
   exact⟨n::t,by rw[way_step T hn hp,ht];rfl⟩
theorem way_trans (T:Tree l){a b c:Int}(hc:thereN l c=true)(h1:a∈wayN l b)(h2:b∈wayN l c):a∈wayN l c:=by
 obtain⟨t,ht⟩:=way_cut T c hc b h2
 rw[ht];exact List.mem_append_right _ h1
theorem way_eq (T:Tree l){n a b:Int}(hn:thereN l n=true)(ha:a∈wayN l n)(hb:b∈wayN l n)(he:(wayN l a).length=(wayN l b).length):a=b:=by
 obtain⟨t,ht⟩:=way_cut T n hn a ha
 obtain⟨s,hs⟩:=way_cut T n hn b hb
 rw[ht] at hs
 have h:=(List.append_inj' hs he).2
 obtain⟨r,hr⟩:=way_head T (way_there T n hn a ha)
 obtain⟨q,hq⟩:=way_head T (way_there T n hn b hb)
 rw[hr,hq] at h
 exact(List.cons.inj h).1
theorem ord_way (T:Tree l):∀ (m:Nat) (n:Int),thereN l n=true→∀b∈ordN l m n,thereN l b=true∧n∈wayN l b
 |0,n,_,b,hb=>by simp[ordN] at hb
 | m +1,n,hn,b,hb=>by
   unfold ordN at hb
   rcases List.mem_cons.1 hb with rfl|h
   ·exact⟨hn,way_self T hn⟩
   ·obtain⟨k,hk,hbk⟩:=List.mem_flatMap.1 h
    have hkk:=T.kid n hn k hk
    obtain⟨h1,h2⟩:=ord_way T m k hkk.1 b hbk
    refine⟨h1,way_trans T h1 ?_ h2⟩
    rw[way_kid T hn hk]
    exact List.mem_cons_of_mem _ (way_self T hn)
theorem ord_nodup (T:Tree l):∀ (m:Nat) (n:Int),thereN l n=true→(ordN l m n).Nodup
 |0,_,_=>List.nodup_nil
 | m +1,n,hn=>by
   unfold ordN
   refine List.nodup_cons.2 ⟨fun h=>?_,?_⟩
   ·obtain⟨k,hk,hnk⟩:=List.mem_flatMap.1 h
    have hkk:=T.kid n hn k hk
    have h1:=(ord_way T m k hkk.1 n hnk).2
    obtain⟨t,ht⟩:=way_cut T n hn k h1
    have h2:=congrArg List.length ht
    rw[way_kid T hn hk] at h2
    simp at h2
    omega
   ·refine List.pairwise_flatMap.2 ⟨fun k hk=>ord_nodup T m k (T.kid n hn k hk).1,?_⟩
    refine List.Pairwise.imp_of_mem (fun{a b} ha hb hab x hx y hy e=>?_) (T.dup n hn)
    subst e
    have h1:=ord_way T m a (T.kid n hn a ha).1 x hx
    have h2:=ord_way T m b (T.kid n hn b hb).1 x hy
    refine hab (way_eq T h1.1 h1.2 h2.2 ?_)
    rw[way_kid T hn ha,way_kid T hn hb];rfl
theorem ord_len (T:Tree l)(m:Nat){n:Int}(hn:thereN l n=true):(ordN l m n).length≤l.length:=
 ints_len (ord_nodup T m n hn) fun x hx=>there_pos (ord_way T m n hn x hx).1
theorem tree_of {f:ForM}(h:rightF f=true):Tree f.nodes:=by
 have hN:=right_nodes h
 have T:=Heir.tree_of h
 have kidK:∀n,thereN f.nodes n=true→∀c∈ (nd f.nodes n).kids,(nd f.nodes c).kind=1∨(nd f.nodes c).kind=2:=by
  intro n hn c hc
  have h1:=hN n hn
  unfold nodeOK bearsN at h1
  simp only[Bool.and_eq_true] at h1
  have h2:=(kidsOK_iff.1 h1.2.2.2.1.1).1 c hc
  unfold kidP at h2
  simp only[Bool.and_eq_true,Bool.or_eq_true,decide_eq_true_eq] at h2
  rcases h2.2.2.2 with h3|h3
  ·exact .inl h3
  ·exact .inr h3.1
 have und:∀n,thereN f.nodes n=true→(nd f.nodes n).under≠-1→thereN f.nodes (nd f.nodes n).under=true∧(nd f.nodes (nd f.nodes n).under).kind=4∧(nd f.nodes (nd f.nodes n).under).host=n:=by
  intro n hn hu
  have h1:=hN n hn
  unfold nodeOK shadedN isN at h1
  simp only[Bool.and_eq_true,Bool.or_eq_true,decide_eq_true_eq] at h1
  rcases h1.2.2.2.2.2 with h2|h2
  ·exact absurd h2 hu
  ·exact⟨h2.1.2.1,h2.1.2.2,h2.2⟩
 have top4:∀n,thereN f.nodes n=true→(nd f.nodes n).kind=4→(nd f.nodes n).parent=-1:=by
  intro n hn hk
  have h1:=hN n hn
  unfold nodeOK hungN at h1
  simp only[Bool.and_eq_true,Bool.or_eq_true,decide_eq_true_eq] at h1
  rcases h1.2.2.1 with h2|h2
  ·exact h2
  ·rcases h2.1.1.1 with h3|h3<;>(rw[hk] at h3;cases h3)
 have mem:∀ (x:NodeM) (k:Int),k∈chU x↔ (x.under≠-1∧k=x.under)∨k∈x.kids:=by
  intro x k
  unfold chU
  rw[List.mem_append]
  by_cases hu:x.under=-1
  ·simp[hu]
  ·simp[hu]
 refine⟨fun n hn hp=>?_,fun n hn k hk=>?_,fun n hn=>?_,fun n hn=>fin_of_ends (right_ends h n hn)⟩
 ·unfold upN at hp ⊢
  by_cases hq:(nd f.nodes n).parent=-1
  ·rw[if_pos hq] at hp ⊢
   have h1:=hN n hn
   unfold nodeOK shadedN at h1
   simp only[Bool.and_eq_true] at h1
   have h2:=h1.2.2.2.2.1
   by_cases hk:(nd f.nodes n).kind=4
   ·rw[if_pos hk] at h2
    unfold isN at h2
    simp only[Bool.and_eq_true,decide_eq_true_eq] at h2
    refine⟨h2.1.1.1,(mem _ _).2 (.inl ⟨?_,h2.1.2.symm⟩)⟩
    rw[h2.1.2]
    have:=there_pos hn
    omega
   ·rw[if_neg hk] at h2
    exact absurd (by simpa using h2) hp
  ·rw[if_neg hq]
   have h1:=T.par n hn hq
   exact⟨h1.1,(mem _ _).2 (.inr h1.2)⟩
 ·have hn0:=there_pos hn
  rcases(mem _ _).1 hk with⟨h1,rfl⟩|h1
  ·obtain⟨h2,h3,h4⟩:=und n hn h1
   exact⟨h2,by unfold upN;rw[if_pos (top4 _ h2 h3)];exact h4⟩
  ·obtain⟨h2,h3⟩:=T.kid n hn k h1
   exact⟨h2,by unfold upN;rw[if_neg (by rw[h3];omega)];exact h3⟩
 ·unfold chU
  by_cases hu:(nd f.nodes n).under=-1
  ·rw[if_pos hu];exact T.dup n hn
  ·rw[if_neg hu]
   refine List.nodup_cons.2 ⟨fun hm=>?_,T.dup n hn⟩
   have h1:=(und n hn hu).2.1
   rcases kidK n hn _ hm with h2|h2<;>(rw[h1] at h2;cases h2)
end U
theorem AppK.take {rb rs:List AV}{off len off' len' bytes:Nat}{acc:Tk}{sl:SL}{m:ML}{A:List AV→Tk→SL→ML→Prop}(rows0 news:List AV)(h0:off=0∧len≤rb.length∧rows0=rb.take len)(h1:off'=0∧len'=rs.length∧news=rs)(h2:oneL (flat news)=true)
  (h3:(rows0.length+news.length)*bytes≤140737488355328) (h4:rows0.length+news.length≤9223372036854775807) (h:A (rows0++news) acc sl m):AppK rb off len rs off' len' bytes acc sl m (A:=A):=by
 obtain⟨rfl,hl,rfl⟩:=h0
 obtain⟨rfl,rfl,rfl⟩:=h1
 exact⟨_,_,by omega,by simp,by omega,by simp,h2,h3,h4,h⟩
theorem flatMap_congrI {α β:Type}{f g:α→List β}:∀ {l:List α},(∀a∈l,f a=g a)→l.flatMap f=l.flatMap g
 |[],_=>rfl
 |a::r,h=>by rw[List.flatMap_cons,List.flatMap_cons,h a List.mem_cons_self,flatMap_congrI fun b hb=>h b (List.mem_cons_of_mem _ hb)]
namespace U
variable {l : List NodeM}
theorem ord_more (T:Tree l):∀ (m:Nat) (n:Int),thereN l n=true→l.length+1≤m+ (wayN l n).length→ordN l (m+1) n=ordN l m n
 |0,n,_,h=>by have:=way_len (l:=l) n;omega
 | m+1,n,hn,h=>by
   rw[ordN,ordN]
   congr 1
   refine flatMap_congrI fun k hk=>?_
   refine ord_more T m k (T.kid n hn k hk).1 ?_
   rw[way_kid T hn hk];simp;omega
theorem ord_eq (T:Tree l){n:Int}(hn:thereN l n=true):ordN l l.length n=n::(chU (nd l n)).flatMap (ordN l l.length):=by
 have h0:=there_pos hn
 obtain⟨m,hm⟩:∃m,l.length=m+1:=⟨l.length-1,by omega⟩
 have h1:∀k∈chU (nd l n),ordN l l.length k=ordN l m k:=fun k hk=>by
  rw[hm]
  refine ord_more T m k (T.kid n hn k hk).1 ?_
  obtain⟨r,hr⟩:=way_head T hn
  rw[way_kid T hn hk,hr];simp;omega
 conv=>lhs;rw[hm,ordN]
 congr 1
 exact flatMap_congrI fun k hk=>(h1 k hk).symm
def rest (l:List NodeM)(st:List Int):List Int:=st.reverse.flatMap (ordN l l.length)
theorem rest_pop (T:Tree l){st:List Int}{t:Int}(ht:thereN l t=true):rest l (st++ [t])=t::rest l (st++ (chU (nd l t)).reverse):=by
 unfold rest
 rw[List.reverse_append,List.reverse_append,List.reverse_reverse]
 simp only[List.reverse_cons,List.reverse_nil,List.nil_append,List.cons_append,List.flatMap_cons,List.flatMap_append]
 rw[ord_eq T ht];rfl
theorem rest_len (T:Tree l):∀ {st:List Int},(∀c∈st,thereN l c=true)→st.length≤ (rest l st).length:=by
 intro st h
 unfold rest
 have:∀s:List Int,(∀c∈s,thereN l c=true)→s.length≤ (s.flatMap (ordN l l.length)).length:=by
  intro s
  induction s with
  |nil=>intro _;exact Nat.le_refl _
  | cons a r ih=>
    intro h
    have h1:=ih fun c hc=>h c (List.mem_cons_of_mem _ hc)
    rw[List.flatMap_cons,List.length_append,ord_eq T (h a List.mem_cons_self),List.length_cons,List.length_cons]
    omega
 have:=this st.reverse fun c hc=>h c (by simpa using hc)
 simpa using this
end U

theorem f204_ok (f:ForM)(n:Int):FnOK Tryz.prog 204 [] [eFor f,eInt n] [] (eBool (thereN f.nodes n)):=by
 obtain⟨l,m⟩:=f
 have hlm:(l.map oNode).length=l.length:=List.length_map ..
 refine FnOK.startC (rvs:=[.tmp 4]) G G_good Tryz.func204 rfl Tryz.ntmps204 rfl rfl ?_;with_reducible refine wD ?_
 by_cases h:(0:Int)≤n
 ·(have fct:=h;(repeat' (first
  |refine gF ?_|refine aE ?_ ?_
  |apply trivial));all_goals clear fct)
  all_goals simp[thereN,h]
 ·(have fct:=(eq_false h);(repeat' (first
  |refine gF ?_|refine aE ?_ ?_
  |apply trivial));all_goals clear fct)
  all_goals simp[thereN,h]
theorem f240_ok (k:Int):FnOK Tryz.prog 240 [] [eInt k] [] (eBool (holdK k)):=by
 refine FnOK.startC (rvs:=[.tmp 2]) G G_good Tryz.func240 rfl Tryz.ntmps240 rfl rfl ?_;with_reducible refine wD ?_
 by_cases e0:k=0
 ·(have fct:=e0;(repeat' (first
  |refine gF ?_|refine aE ?_ ?_
  |apply trivial));all_goals clear fct)
  all_goals simp[holdK,e0]
 ·by_cases e1:k=1
  ·(have fct:=e1;(repeat' (first
  |refine gF ?_|refine aE ?_ ?_
  | apply trivial));all_goals clear fct)
   all_goals simp[holdK,e1]
  ·by_cases e3:k=3
   ·(have fct:=e3;(repeat' (first
  |refine gF ?_|refine aE ?_ ?_
  | apply trivial));all_goals clear fct)
    all_goals simp[holdK,e3]
   ·by_cases e4:k=4
    ·(have fct:=e4;(repeat' (first
  |refine gF ?_|refine aE ?_ ?_
  | apply trivial));all_goals clear fct)
     all_goals simp[holdK,e4]
    ·(have fct:=And.intro e0 (And.intro e1 (And.intro e3 (e4)));(repeat' (first
  |refine gF ?_|refine aE ?_ ?_
  |apply trivial));all_goals clear fct)
     all_goals simp[holdK,e0,e1,e3,e4]
theorem f139_ok (f:ForM)(n k:Int):FnOK Tryz.prog 139 [] [eFor f,eInt n,eInt k] [] (eBool (isN f.nodes n k)):=by
 have h49:=f204_ok f n
 obtain⟨l,m⟩:=f
 refine FnOK.startC (rvs:=[.tmp 6]) G G_good Tryz.func139 rfl Tryz.ntmps139 rfl rfl ?_;with_reducible refine wD ?_
 refine cL h49 c204 ?_;with_reducible refine wK ?_
 cases ht:thereN l n with
 | false=>
   (have fct:=ht;(repeat' (first
  |refine gF ?_|refine aE ?_ ?_
  | apply trivial));all_goals clear fct)
   all_goals simp[isN,ht]
 | true=>
   obtain⟨i,x,rfl,hx,hnd⟩:=there_iff.1 ht
   obtain⟨a1,a2,a3,a4,a5,a6,a7,a8,a9,a10⟩:=x
   (have fct:=ht;(repeat' (first
  |refine gF ?_|refine aE ?_ ?_
  |((refine IdxK.mk i (eNode _) rfl (node_get hx) ?_)<;>with_reducible refine wK ?_)
  | apply trivial));all_goals clear fct)
   all_goals simp[isN,ht,hnd]
theorem f262_ok (l:List Int)(hl:l.length≤100000)(n:Int):FnOK Tryz.prog 262 [] [eInts l,eInt n] [] (eInt (idxI (fun x=>decide (x=n)) l)):=by
 have hlm:(l.map oInt).length=l.length:=List.length_map ..
 refine FnOK.startC (rvs:=[.tmp 4]) G G_good Tryz.func262 rfl Tryz.ntmps262 rfl rfl ?_;with_reducible refine wD ?_
 refine LoopK.use G G_good (fun(k:Nat)=>[(0,eInts l),(1,eInt n),(7,eInt l.length),(8,eInt k)]) (fun _=>[]) (fun k=>k≤l.length∧∀j x,j<k→l[j]? =some x→decide (x=n)=false) (fun k=>l.length-k) 0 ⟨Nat.zero_le _,fun j x h=>by omega⟩
  ⟨⟨rfl,rfl⟩,⟨rfl,rfl,by show(l.length:Int)=((l.map oInt).length:Int);rw[hlm],rfl,trivial⟩,trivial⟩ ?_
 rintro k ⟨hk,hno⟩
 with_reducible refine wK ?_
 refine IfK.mk (fun h1=>?_) (fun h1=>?_)<;>(try simp only[castN] at h1)<;>with_reducible refine wK ?_
 ·have hk':k<l.length:=by simp only[decide_eq_true_eq] at h1;omega
  obtain⟨a,ha⟩:∃a,l[k]? =some a:=⟨_,List.getElem?_eq_getElem hk'⟩
  refine IdxK.mk k (eInt a) rfl (int_get ha) ?_;with_reducible refine wK ?_
  refine IfK.mk (fun h2=>?_) (fun h2=>?_)<;>(try simp only[castN] at h2)<;>with_reducible refine wK ?_
  ·(refine eK ?_ ?_<;>with_reducible repeat' (first|exact trivial|(show _∧_;refine aK ?_ ?_)))
   refine idxI_hit (p:=fun x=>decide (x=n)) ha ?_ hno
   simp only[decide_eq_true_eq] at h2 ⊢;exact h2.symm
  ·refine nK ?_;with_reducible refine wK ?_
   refine NextK.mk (k+1) ⟨by omega,fun j x hj hx=>?_⟩ (by omega) ⟨⟨rfl,rfl⟩,⟨rfl,rfl,rfl,by show((k+1:Nat):Int)=(k:Int)+1;omega,trivial⟩,trivial⟩
   rcases Nat.lt_or_ge j k with h3|h3
   ·exact hno j x h3 hx
   ·have:j=k:=by omega
    subst this
    rw[ha] at hx;cases hx
    simp only[decide_eq_false_iff_not] at h2 ⊢;exact fun e=>h2 e.symm
 ·(refine eK ?_ ?_<;>with_reducible repeat' (first|exact trivial|(show _∧_;refine aK ?_ ?_)))
  exact idxI_none fun j x hx=>hno j x (by have:=(List.getElem?_eq_some_iff.1 hx).1;simp only[decide_eq_false_iff_not] at h1;omega) hx
theorem idxI_has {l:List Int}{n:Int}:decide (0≤idxI (fun x=>decide (x=n)) l)=hasI l n:=by
 rw[Bool.eq_iff_iff,decide_eq_true_eq]
 unfold hasI
 rw[decide_eq_true_eq]
 unfold idxI
 cases h:l.findIdx? (fun x=>decide (x=n)) with
 | none=>
   rw[List.findIdx?_eq_none_iff] at h
   simp only
   refine⟨fun h'=>by omega,fun hs=>?_⟩
   have:=h n hs
   simp at this
 | some k=>
   rw[List.findIdx?_eq_some_iff_getElem] at h
   obtain⟨hk,h2,_⟩:=h
   simp only
   exact⟨fun _=>by rw[←of_decide_eq_true h2];exact List.getElem_mem hk,fun _=>by omega⟩
theorem f241_ok (l:List Int)(hl:l.length≤100000)(n:Int):FnOK Tryz.prog 241 [] [eInts l,eInt n] [] (eBool (hasI l n)):=by
 rw[←idxI_has]
 refine FnOK.startC (rvs:=[.tmp 4]) G G_good Tryz.func241 rfl Tryz.ntmps241 rfl rfl ?_;with_reducible refine wD ?_
 refine cL (f262_ok l hl n) c262 ?_;with_reducible refine wK ?_
 (refine eK ?_ ?_<;>with_reducible repeat' (first|exact trivial|(show _∧_;refine aK ?_ ?_)))
theorem f242_ok (f:ForM)(k:Nat)(x:NodeM)(hx:f.nodes[k]? =some x):FnOK Tryz.prog 242 [] [eFor f,eInt k] [] (eInt (upN x)):=by
 obtain⟨l,m⟩:=f
 obtain⟨a1,a2,a3,a4,a5,a6,a7,a8,a9,a10⟩:=x
 refine FnOK.startC (rvs:=[.tmp 4]) G G_good Tryz.func242 rfl Tryz.ntmps242 rfl rfl ?_;with_reducible refine wD ?_
 refine IdxK.mk k (eNode _) rfl (node_get hx) ?_;with_reducible refine wK ?_
 unfold upN
 by_cases e:a6=-1
 ·(have fct:=e;(repeat' (first
  |refine gF ?_|refine aE ?_ ?_
  |((refine IdxK.mk k (eNode _) rfl (node_get hx) ?_)<;>with_reducible refine wK ?_)
  |apply trivial));all_goals clear fct)
  all_goals simp[e]
 ·(have fct:=(eq_false e);(repeat' (first
  |refine gF ?_|refine aE ?_ ?_
  |((refine IdxK.mk k (eNode _) rfl (node_get hx) ?_)<;>with_reducible refine wK ?_)
  |apply trivial));all_goals clear fct)
  all_goals simp[e]
theorem f198_ok (f:ForM)(k:Nat)(x:NodeM)(hx:f.nodes[k]? =some x):FnOK Tryz.prog 198 [] [eFor f,eInt k] [] (eBool (ownedN f.nodes k x)):=by
 have h55:=f139_ok f x.doc 0
 obtain⟨l,m⟩:=f
 obtain⟨a1,a2,a3,a4,a5,a6,a7,a8,a9,a10⟩:=x
 unfold ownedN
 simp only at h55 hx ⊢
 refine FnOK.startC (rvs:=[.tmp 4]) G G_good Tryz.func198 rfl Tryz.ntmps198 rfl rfl ?_;with_reducible refine wD ?_
 refine IdxK.mk k (eNode _) rfl (node_get hx) ?_;with_reducible refine wK ?_
 refine cL h55 c139 ?_;with_reducible refine wK ?_
 cases hi:isN l a10 0 with
 | false=>
   (have fct:=hi;(repeat' (first
  |refine gF ?_|refine aE ?_ ?_
  | apply trivial));all_goals clear fct)
   all_goals simp[hi]
 | true=>
   by_cases e:a1=0
   ·(have fct:=And.intro hi (e);(repeat' (first
  |refine gF ?_|refine aE ?_ ?_
  | apply trivial));all_goals clear fct)
    all_goals simp[hi,e]
   ·(have fct:=And.intro hi ((eq_false e));(repeat' (first
  |refine gF ?_|refine aE ?_ ?_
  | apply trivial));all_goals clear fct)
    all_goals simp[hi,e]
theorem f199_ok (f:ForM)(hs:SmallN f.nodes)(k:Nat)(x:NodeM)(hx:f.nodes[k]? =some x):FnOK Tryz.prog 199 [] [eFor f,eInt k] [] (eBool (hungN f.nodes k x)):=by
 have h49:=f204_ok f x.parent
 have h56:=f240_ok (nd f.nodes x.parent).kind
 have h57:thereN f.nodes x.parent=true→FnOK Tryz.prog 241 [] [eInts (nd f.nodes x.parent).kids,eInt k] [] (eBool (hasI (nd f.nodes x.parent).kids k)):=fun ht=>by
  obtain⟨i,y,_,hy,hnd⟩:=there_iff.1 ht
  rw[hnd]
  exact f241_ok y.kids (by have:=hs.kids y (List.mem_of_getElem? hy);omega) k
 obtain⟨l,m⟩:=f
 obtain⟨a1,a2,a3,a4,a5,a6,a7,a8,a9,a10⟩:=x
 unfold hungN
 simp only at h49 h56 h57 hx ⊢
 refine FnOK.startC (rvs:=[.tmp 4]) G G_good Tryz.func199 rfl Tryz.ntmps199 rfl rfl ?_;with_reducible refine wD ?_
 refine IdxK.mk k (eNode _) rfl (node_get hx) ?_;with_reducible refine wK ?_
 by_cases e6:a6=-1
 ·(have fct:=e6;(repeat' (first
  |refine gF ?_|refine aE ?_ ?_
  |apply trivial));all_goals clear fct)
  all_goals simp[e6]
 ·refine IfK.no (by simp[e6]) ?_;with_reducible refine wK ?_
  have rest:∀b:Bool,(decide (a1=1)||decide (a1=2))=b→(b=false∨b=true):=fun b _=>by cases b<;>simp
  cases ht:thereN l a6 with
  | false=>
    by_cases e1:a1=1
    ·(have fct:=And.intro e1 (And.intro ht ((eq_false e6)));(repeat' (first
  |refine gF ?_|refine aE ?_ ?_
  |(((with_reducible refine kQ 204 ?_);refine cL h49 c204 ?_)<;>with_reducible refine wK ?_)
  | apply trivial));all_goals clear fct)
     all_goals simp[e1,ht,e6]
    ·by_cases e2:a1=2
     ·(have fct:=And.intro e2 (And.intro ht ((eq_false e6)));(repeat' (first
  |refine gF ?_|refine aE ?_ ?_
  |(((with_reducible refine kQ 204 ?_);refine cL h49 c204 ?_)<;>with_reducible refine wK ?_)
  |apply trivial));all_goals clear fct)
      all_goals simp[e2,ht,e6]
     ·(have fct:=And.intro (eq_false e1) (And.intro (eq_false e2) (And.intro ht ((eq_false e6))));(repeat' (first
  |refine gF ?_|refine aE ?_ ?_
  |apply trivial));all_goals clear fct)
      all_goals simp[e1,e2,ht,e6]
  | true=>
    obtain⟨i,y,rfl,hy,hnd⟩:=there_iff.1 ht
    have h57':=h57 ht
    rw[hnd] at h56 h57' ⊢
    obtain⟨b1,b2,b3,b4,b5,b6,b7,b8,b9,b10⟩:=y
    simp only at h56 h57'
    cases hh:holdK b1 with
    | false=>
      by_cases e1:a1=1
      ·(have fct:=And.intro e1 (And.intro ht (And.intro hh ((eq_false e6))));(repeat' (first
  |refine gF ?_|refine aE ?_ ?_
  | ((first
   |((with_reducible refine kQ 204 ?_);refine cL h49 c204 ?_)
   |((with_reducible refine kQ 240 ?_);refine cL h56 c240 ?_)
   |(refine IdxK.mk i (eNode _) rfl (node_get hy) ?_))<;>with_reducible refine wK ?_)
  |apply trivial));all_goals clear fct)
       all_goals simp[e1,ht,e6,hh]
      ·by_cases e2:a1=2
       ·(have fct:=And.intro e2 (And.intro ht (And.intro hh ((eq_false e6))));(repeat' (first
  |refine gF ?_|refine aE ?_ ?_
  | ((first
   |((with_reducible refine kQ 204 ?_);refine cL h49 c204 ?_)
   |((with_reducible refine kQ 240 ?_);refine cL h56 c240 ?_)
   |(refine IdxK.mk i (eNode _) rfl (node_get hy) ?_))<;>with_reducible refine wK ?_)
  |apply trivial));all_goals clear fct)
        all_goals simp[e2,ht,e6,hh]
       ·(have fct:=And.intro (eq_false e1) (And.intro (eq_false e2) (And.intro ht (And.intro hh ((eq_false e6)))));(repeat' (first
  |refine gF ?_|refine aE ?_ ?_
  | apply trivial));all_goals clear fct)
        all_goals simp[e1,e2,ht,e6]
    | true=>
      by_cases e1:a1=1
      ·(have fct:=And.intro e1 (And.intro ht (And.intro hh ((eq_false e6))));(repeat' (first
  |refine gF ?_|refine aE ?_ ?_
  | ((first
   |((with_reducible refine kQ 204 ?_);refine cL h49 c204 ?_)
   |((with_reducible refine kQ 240 ?_);refine cL h56 c240 ?_)
   |((with_reducible refine kQ 241 ?_);refine cL h57' c241 ?_)
   |(refine IdxK.mk i (eNode _) rfl (node_get hy) ?_))<;>with_reducible refine wK ?_)
  |apply trivial));all_goals clear fct)
       all_goals simp[e1,ht,e6,hh]
      ·by_cases e2:a1=2
       ·(have fct:=And.intro e2 (And.intro ht (And.intro hh ((eq_false e6))));(repeat' (first
  |refine gF ?_|refine aE ?_ ?_
  | ((first
   |((with_reducible refine kQ 204 ?_);refine cL h49 c204 ?_)
   |((with_reducible refine kQ 240 ?_);refine cL h56 c240 ?_)
   |((with_reducible refine kQ 241 ?_);refine cL h57' c241 ?_)
   |(refine IdxK.mk i (eNode _) rfl (node_get hy) ?_))<;>with_reducible refine wK ?_)
  |apply trivial));all_goals clear fct)
        all_goals simp[e2,ht,e6,hh]
       ·(have fct:=And.intro (eq_false e1) (And.intro (eq_false e2) (And.intro ht (And.intro hh ((eq_false e6)))));(repeat' (first
  |refine gF ?_|refine aE ?_ ?_
  |apply trivial));all_goals clear fct)
        all_goals simp[e1,e2,ht,e6]
theorem endsN_succ (l:List NodeM)(m:Nat)(n:Int):endsN l (m+1) n=if upN (nd l n)=-1 then true else endsN l m (upN (nd l n)):=rfl
theorem f202_ok (f:ForM)(hl:f.nodes.length≤100000)(hup:∀ (k:Nat) (x:NodeM),f.nodes[k]? =some x→upN x=-1∨thereN f.nodes (upN x)=true)(k:Nat)(hk:k<f.nodes.length):FnOK Tryz.prog 202 [] [eFor f,eInt k] [] (eBool (endsN f.nodes f.nodes.length k)):=by
 have h58:=f242_ok f
 obtain⟨l,m⟩:=f
 simp only at h58 hup hk hl ⊢
 have hlm:(l.map oNode).length=l.length:=List.length_map ..
 refine FnOK.startC (rvs:=[.tmp 4]) G G_good Tryz.func202 rfl Tryz.ntmps202 rfl rfl ?_;with_reducible refine wD ?_
 refine LoopK.use G G_good (fun(i:Nat×Nat)=>[(1,eInt i.2),(2,.ptr 20 0 0),(8,eInt l.length),(9,eInt i.1)]) (fun _=>[(20,.live 2 [eFor ⟨l,m⟩] false)]) (fun i=>i.1≤l.length∧i.2<l.length∧endsN l l.length k=endsN l (l.length-i.1) i.2) (fun i=>l.length-i.1) (0,k) ⟨Nat.zero_le _,hk,rfl⟩
  ⟨⟨rfl,rfl⟩,⟨rfl,⟨rfl,rfl⟩,by show(l.length:Int)=((l.map oNode).length:Int);rw[hlm],rfl,trivial⟩,⟨⟨rfl,rfl,trivial⟩,trivial⟩,trivial⟩ ?_
 rintro⟨i,j⟩ ⟨hi,hj,he⟩
 simp only at hi hj he
 with_reducible refine wK ?_
 refine IfK.mk (fun h1=>?_) (fun h1=>?_)<;>(try simp only[castN] at h1)<;>with_reducible refine wK ?_
 ·have hi':i<l.length:=by simp only[decide_eq_true_eq] at h1;omega
  obtain⟨x,hx⟩:∃x,l[j]? =some x:=⟨_,List.getElem?_eq_getElem hj⟩
  have h58':=h58 j x hx
  refine cL h58' c242 ?_;with_reducible refine wK ?_
  rw[show l.length-i=(l.length- (i+1))+1 from by omega] at he
  rw[endsN_succ,nd_get hx] at he
  by_cases e:upN x=-1
  ·rw[if_pos e] at he
   (have fct:=e;(repeat' (first
  |refine gF ?_|refine aE ?_ ?_
  | apply trivial));all_goals clear fct)
   all_goals rw[he]
  ·rw[if_neg e] at he
   rcases hup j x hx with h|h
   ·exact absurd h e
   obtain⟨j',y,hj1,hj2,_⟩:=there_iff.1 h
   rw[hj1] at he
   have hlt:=(List.getElem?_eq_some_iff.1 hj2).1
   refine IfK.no (decide_eq_false e) ?_;with_reducible refine wK ?_
   refine nK ?_;with_reducible refine wK ?_
   refine NextK.mk (i+1,j') ⟨by show i+1≤l.length;omega,hlt,he⟩ (by show l.length- (i+1)<l.length-i;omega) ⟨⟨rfl,rfl⟩,⟨hj1.symm,⟨rfl,rfl⟩,rfl,by show((i+1:Nat):Int)=(i:Int)+1;omega,trivial⟩,⟨⟨rfl,rfl,trivial⟩,trivial⟩,trivial⟩
 ·(refine eK ?_ ?_<;>with_reducible repeat' (first|exact trivial|(show _∧_;refine aK ?_ ?_)))
  have:i=l.length:=by simp only[decide_eq_false_iff_not] at h1;omega
  rw[he,this,Nat.sub_self];rfl
theorem is_there {l:List NodeM}{n k:Int}(h:isN l n k=true):∃ (i:Nat) (x:NodeM),n=(i:Int)∧l[i]? =some x∧nd l n=x:=by
 unfold isN at h
 simp only[Bool.and_eq_true] at h
 exact there_iff.1 h.1
theorem f201_ok (f:ForM)(k:Nat)(x:NodeM)(hx:f.nodes[k]? =some x):FnOK Tryz.prog 201 [] [eFor f,eInt k] [] (eBool (shadedN f.nodes k x)):=by
 have h1:=f139_ok f x.host 1
 have h4:=f139_ok f x.under 4
 obtain⟨l,m⟩:=f
 obtain⟨a1,a2,a3,a4,a5,a6,a7,a8,a9,a10⟩:=x
 unfold shadedN
 simp only at h1 h4 hx ⊢
 refine FnOK.startC (rvs:=[.tmp 4]) G G_good Tryz.func201 rfl Tryz.ntmps201 rfl rfl ?_;with_reducible refine wD ?_
 refine IdxK.mk k (eNode _) rfl (node_get hx) ?_;with_reducible refine wK ?_
 by_cases e4:a1=4
 ·have e1:¬a1=1:=by omega
  refine IfK.yes (by simp[e4]) ?_;with_reducible refine wK ?_
  rw[if_pos e4]
  cases hi:isN l a8 1 with
  | false=>
    rw[hi] at h1
    by_cases e9:a9=-1
    ·(have fct:=And.intro e4 (e9);(repeat' (first
  |refine gF ?_|refine aE ?_ ?_
  |(((with_reducible refine kQ 139 ?_);refine cL h1 c139 ?_)<;>with_reducible refine wK ?_)
  | apply trivial));all_goals clear fct)
     all_goals simp[e9]
    ·(have fct:=And.intro e4 (And.intro (eq_false e9) ((eq_false e1)));(repeat' (first
  |refine gF ?_|refine aE ?_ ?_
  |(((with_reducible refine kQ 139 ?_);refine cL h1 c139 ?_)<;>with_reducible refine wK ?_)
  |apply trivial));all_goals clear fct)
     all_goals simp[e9,e1]
  | true=>
    rw[hi] at h1
    obtain⟨i,y,rfl,hy,hnd⟩:=is_there hi
    rw[hnd]
    obtain⟨b1,b2,b3,b4,b5,b6,b7,b8,b9,b10⟩:=y
    by_cases e9:a9=-1
    ·by_cases u9:b9=k
     ·by_cases u10:b10=a10
      ·(have fct:=And.intro e4 (And.intro e9 (And.intro u9 (u10)));(repeat' (first
  |refine gF ?_|refine aE ?_ ?_
  | ((first
   |((with_reducible refine kQ 139 ?_);refine cL h1 c139 ?_)
   |(refine IdxK.mk i (eNode _) rfl (node_get hy) ?_))<;>with_reducible refine wK ?_)
  |apply trivial));all_goals clear fct)
       all_goals simp[e9,u9,u10]
      ·(have fct:=And.intro e4 (And.intro e9 (And.intro u9 ((eq_false u10))));(repeat' (first
  |refine gF ?_|refine aE ?_ ?_
  | ((first
   |((with_reducible refine kQ 139 ?_);refine cL h1 c139 ?_)
   |(refine IdxK.mk i (eNode _) rfl (node_get hy) ?_))<;>with_reducible refine wK ?_)
  |apply trivial));all_goals clear fct)
       all_goals simp[e9,u9,u10]
     ·(have fct:=And.intro e4 (And.intro e9 ((eq_false u9)));(repeat' (first
  |refine gF ?_|refine aE ?_ ?_
  | ((first
   |((with_reducible refine kQ 139 ?_);refine cL h1 c139 ?_)
   |(refine IdxK.mk i (eNode _) rfl (node_get hy) ?_))<;>with_reducible refine wK ?_)
  | apply trivial));all_goals clear fct)
      all_goals simp[e9,u9]
    ·by_cases u9:b9=k
     ·by_cases u10:b10=a10
      ·(have fct:=And.intro e4 (And.intro (eq_false e9) (And.intro (eq_false e1) (And.intro u9 (u10))));(repeat' (first
  |refine gF ?_|refine aE ?_ ?_
  | ((first
   |((with_reducible refine kQ 139 ?_);refine cL h1 c139 ?_)
   |(refine IdxK.mk i (eNode _) rfl (node_get hy) ?_))<;>with_reducible refine wK ?_)
  |apply trivial));all_goals clear fct)
       all_goals simp[e9,e1,u9,u10]
      ·(have fct:=And.intro e4 (And.intro (eq_false e9) (And.intro (eq_false e1) (And.intro u9 ((eq_false u10)))));(repeat' (first
  |refine gF ?_|refine aE ?_ ?_
  | ((first
   |((with_reducible refine kQ 139 ?_);refine cL h1 c139 ?_)
   |(refine IdxK.mk i (eNode _) rfl (node_get hy) ?_))<;>with_reducible refine wK ?_)
  |apply trivial));all_goals clear fct)
       all_goals simp[e9,e1,u9,u10]
     ·(have fct:=And.intro e4 (And.intro (eq_false e9) (And.intro (eq_false e1) ((eq_false u9))));(repeat' (first
  |refine gF ?_|refine aE ?_ ?_
  | ((first
   |((with_reducible refine kQ 139 ?_);refine cL h1 c139 ?_)
   |(refine IdxK.mk i (eNode _) rfl (node_get hy) ?_))<;>with_reducible refine wK ?_)
  |apply trivial));all_goals clear fct)
      all_goals simp[e9,e1,u9]
 ·refine IfK.no (by simp[e4]) ?_;with_reducible refine wK ?_
  rw[if_neg e4]
  by_cases e8:a8=-1
  ·by_cases e9:a9=-1
   ·(have fct:=And.intro (eq_false e4) (And.intro e8 (e9));(repeat' (first
  |refine gF ?_|refine aE ?_ ?_
  | apply trivial));all_goals clear fct)
    all_goals simp[e9,e8]
   ·by_cases e1:a1=1
    ·cases hu:isN l a9 4 with
     | false=>
       rw[hu] at h4
       (have fct:=And.intro (eq_false e4) (And.intro e8 (And.intro (eq_false e9) (e1)));(repeat' (first
  |refine gF ?_|refine aE ?_ ?_
  |(((with_reducible refine kQ 139 ?_);refine cL h4 c139 ?_)<;>with_reducible refine wK ?_)
  |apply trivial));all_goals clear fct)
       all_goals simp[e9,e8,e1]
     | true=>
       rw[hu] at h4
       obtain⟨j,z,rfl,hz,hnd⟩:=is_there hu
       rw[hnd]
       obtain⟨d1,d2,d3,d4,d5,d6,d7,d8,d9,d10⟩:=z
       (have fct:=And.intro (eq_false e4) (And.intro e8 (And.intro (eq_false e9) (e1)));(repeat' (first
  |refine gF ?_|refine aE ?_ ?_
  | ((first
   |((with_reducible refine kQ 139 ?_);refine cL h4 c139 ?_)
   |(refine IdxK.mk j (eNode ⟨d1,d2,d3,d4,d5,d6,d7,d8,d9,d10⟩) rfl (node_get hz) ?_))<;>with_reducible refine wK ?_)
  | apply trivial));all_goals clear fct)
       all_goals simp[e9,e8,e1]
    ·(have fct:=And.intro (eq_false e4) (And.intro e8 (And.intro (eq_false e9) ((eq_false e1))));(repeat' (first
  |refine gF ?_|refine aE ?_ ?_
  |apply trivial));all_goals clear fct)
     all_goals simp[e9,e8,e1]
  ·by_cases e9:a9=-1
   ·(have fct:=And.intro (eq_false e4) (And.intro (eq_false e8) (e9));(repeat' (first
  |refine gF ?_|refine aE ?_ ?_
  | apply trivial));all_goals clear fct)
    all_goals simp[e9,e8]
   ·by_cases e1:a1=1
    ·cases hu:isN l a9 4 with
     | false=>
       rw[hu] at h4
       (have fct:=And.intro (eq_false e4) (And.intro (eq_false e8) (And.intro (eq_false e9) (e1)));(repeat' (first
  |refine gF ?_|refine aE ?_ ?_
  |(((with_reducible refine kQ 139 ?_);refine cL h4 c139 ?_)<;>with_reducible refine wK ?_)
  |apply trivial));all_goals clear fct)
       all_goals simp[e9,e8,e1]
     | true=>
       rw[hu] at h4
       obtain⟨j,z,rfl,hz,hnd⟩:=is_there hu
       rw[hnd]
       obtain⟨d1,d2,d3,d4,d5,d6,d7,d8,d9,d10⟩:=z
       (have fct:=And.intro (eq_false e4) (And.intro (eq_false e8) (And.intro (eq_false e9) (e1)));(repeat' (first
  |refine gF ?_|refine aE ?_ ?_
  | ((first
   |((with_reducible refine kQ 139 ?_);refine cL h4 c139 ?_)
   |(refine IdxK.mk j (eNode ⟨d1,d2,d3,d4,d5,d6,d7,d8,d9,d10⟩) rfl (node_get hz) ?_))<;>with_reducible refine wK ?_)
  | apply trivial));all_goals clear fct)
       all_goals simp[e9,e8,e1]
    ·(have fct:=And.intro (eq_false e4) (And.intro (eq_false e8) (And.intro (eq_false e9) ((eq_false e1))));(repeat' (first
  |refine gF ?_|refine aE ?_ ?_
  |apply trivial));all_goals clear fct)
     all_goals simp[e9,e8,e1]
theorem f138_ok (x:NodeM)(hx:x.attrs.length≤100000):FnOK Tryz.prog 138 [] [eNode x] [] (eBool (namedN x)):=by
 have h45:=f81_ok x.name
 have h54:=f109_ok x.is
 have h44:=f203_ok x.attrs hx
 obtain⟨a1,a2,a3,a4,a5,a6,a7,a8,a9,a10⟩:=x
 have hlm:(a5.map oAttr).length=a5.length:=List.length_map ..
 unfold namedN
 simp only at h45 h54 h44 hx ⊢
 refine FnOK.startC (rvs:=[.tmp 2]) G G_good Tryz.func138 rfl Tryz.ntmps138 rfl rfl ?_;with_reducible refine wD ?_
 by_cases e1:a1=1
 ·rw [if_pos e1]
  cases hr:rightS a2 with
  | false=>
    rw[hr] at h45
    simp only[Bool.false_eq_true,if_false] at h45
    (have fct:=And.intro e1 (hr);(repeat' (first
  |refine gF ?_|refine aE ?_ ?_
  |(((with_reducible refine kQ 81 ?_);refine cL h45 c81 ?_)<;>with_reducible refine wK ?_)
  | apply trivial));all_goals clear fct)
    all_goals simp[hr]
  | true=>
    rw[hr] at h45
    simp only[if_true] at h45
    by_cases hl:lowS a2=a2
    ·by_cases h3:a3=⟨#[]⟩
     ·by_cases h4:a4=⟨#[]⟩
      ·(have fct:=And.intro e1 (And.intro hr (And.intro hl (And.intro h3 (h4))));(repeat' (first
  |refine gF ?_|refine aE ?_ ?_
  | ((first
   |((with_reducible refine kQ 81 ?_);refine cL h45 c81 ?_)
   |((with_reducible refine kQ 203 ?_);refine cL h44 c203 ?_))<;>with_reducible refine wK ?_)
  |apply trivial));all_goals clear fct)
       all_goals simp[hr,hl,h3,h4]
      ·(have fct:=And.intro e1 (And.intro hr (And.intro hl (And.intro h3 ((eq_false h4)))));(repeat' (first
  |refine gF ?_|refine aE ?_ ?_
  |(((with_reducible refine kQ 81 ?_);refine cL h45 c81 ?_)<;>with_reducible refine wK ?_)
  |apply trivial));all_goals clear fct)
       all_goals simp[hr,hl,h3,h4]
     ·cases hc:customS a3 with
      | false=>
        rw[hc] at h54
        (have fct:=And.intro e1 (And.intro hr (And.intro hl (And.intro (eq_false h3) (hc))));(repeat' (first
  |refine gF ?_|refine aE ?_ ?_
  | ((first
   |((with_reducible refine kQ 81 ?_);refine cL h45 c81 ?_)
   |((with_reducible refine kQ 109 ?_);refine cL h54 c109 ?_))<;>with_reducible refine wK ?_)
  |apply trivial));all_goals clear fct)
        all_goals simp[hr,hl,h3,hc]
      | true=>
        rw[hc] at h54
        by_cases h4:a4=⟨#[]⟩
        ·(have fct:=And.intro e1 (And.intro hr (And.intro hl (And.intro (eq_false h3) (And.intro hc (h4)))));(repeat' (first
  |refine gF ?_|refine aE ?_ ?_
  | ((first
   |((with_reducible refine kQ 81 ?_);refine cL h45 c81 ?_)
   |((with_reducible refine kQ 109 ?_);refine cL h54 c109 ?_)
   |((with_reducible refine kQ 203 ?_);refine cL h44 c203 ?_))<;>with_reducible refine wK ?_)
  |apply  trivial));all_goals clear fct)
         all_goals simp[hr,hl,h3,hc,h4]
        ·(have fct:=And.intro e1 (And.intro hr (And.intro hl (And.intro (eq_false h3) (And.intro hc ((eq_false h4))))));(repeat' (first
  |refine gF ?_|refine aE ?_ ?_
  | ((first
   |((with_reducible refine kQ 81 ?_);refine cL h45 c81 ?_)
   |((with_reducible refine kQ 109 ?_);refine cL h54 c109 ?_))<;>with_reducible refine wK ?_)
  | apply trivial));all_goals clear fct)
         all_goals simp[hr,hl,h3,hc,h4]
    ·(have fct:=And.intro e1 (And.intro hr ((eq_false hl)));(repeat' (first
  |refine gF ?_|refine aE ?_ ?_
  |(((with_reducible refine kQ 81 ?_);refine cL h45 c81 ?_)<;>with_reducible refine wK ?_)
  |apply trivial));all_goals clear fct)
     all_goals simp[hr,hl]
 ·rw [if_neg e1]
  by_cases e2:a1=2
  ·rw [if_pos e2]
   by_cases hd:a4.size≤200
   ·by_cases h2:a2=⟨#[]⟩
    ·by_cases h3:a3=⟨#[]⟩
     ·(have fct:=And.intro e2 (And.intro hd (And.intro h2 (h3)));(repeat' (first
  |refine gF ?_|refine aE ?_ ?_
  |apply trivial));all_goals clear fct)
      all_goals simp[hd,h2,h3]
     ·(have fct:=And.intro e2 (And.intro hd (And.intro h2 ((eq_false h3))));(repeat' (first
  |refine gF ?_|refine aE ?_ ?_
  | apply trivial));all_goals clear fct)
      all_goals simp[hd,h2,h3]
    ·(have fct:=And.intro e2 (And.intro hd ((eq_false h2)));(repeat' (first
  |refine gF ?_|refine aE ?_ ?_
  | apply trivial));all_goals clear fct)
     all_goals simp[hd,h2]
   ·(have fct:=And.intro e2 ((eq_false hd));(repeat' (first
  |refine gF ?_|refine aE ?_ ?_
  | apply trivial));all_goals clear fct)
    all_goals simp[hd]
  ·rw [if_neg e2]
   by_cases ho:a1=0∨a1=3∨a1=4
   ·rw [if_pos ho]
    by_cases h2:a2=⟨#[]⟩
    ·by_cases h3:a3=⟨#[]⟩
     ·by_cases h4:a4=⟨#[]⟩
      ·rcases ho with e|e|e
       ·(have fct:=And.intro e (And.intro h2 (And.intro h3 (h4)));(repeat' (first
  |refine gF ?_|refine aE ?_ ?_
  |apply trivial));all_goals clear fct)
        all_goals simp[h2,h3,h4]
       ·(have fct:=And.intro e (And.intro h2 (And.intro h3 (h4)));(repeat' (first
  |refine gF ?_|refine aE ?_ ?_
  |apply trivial));all_goals clear fct)
        all_goals simp[h2,h3,h4]
       ·(have fct:=And.intro e (And.intro h2 (And.intro h3 (h4)));(repeat' (first
  |refine gF ?_|refine aE ?_ ?_
  |apply trivial));all_goals clear fct)
        all_goals simp[h2,h3,h4]
      ·rcases ho with e|e|e
       ·(have fct:=And.intro e (And.intro h2 (And.intro h3 ((eq_false h4))));(repeat' (first
  |refine gF ?_|refine aE ?_ ?_
  |apply trivial));all_goals clear fct)
        all_goals simp[h2,h3,h4]
       ·(have fct:=And.intro e (And.intro h2 (And.intro h3 ((eq_false h4))));(repeat' (first
  |refine gF ?_|refine aE ?_ ?_
  |apply trivial));all_goals clear fct)
        all_goals simp[h2,h3,h4]
       ·(have fct:=And.intro e (And.intro h2 (And.intro h3 ((eq_false h4))));(repeat' (first
  |refine gF ?_|refine aE ?_ ?_
  |apply trivial));all_goals clear fct)
        all_goals simp[h2,h3,h4]
     ·rcases ho with e|e|e
      ·(have fct:=And.intro e (And.intro h2 ((eq_false h3)));(repeat' (first
  |refine gF ?_|refine aE ?_ ?_
  |apply trivial));all_goals clear fct)
       all_goals simp[h2,h3]
      ·(have fct:=And.intro e (And.intro h2 ((eq_false h3)));(repeat' (first
  |refine gF ?_|refine aE ?_ ?_
  |apply trivial));all_goals clear fct)
       all_goals simp[h2,h3]
      ·(have fct:=And.intro e (And.intro h2 ((eq_false h3)));(repeat' (first
  |refine gF ?_|refine aE ?_ ?_
  | apply trivial));all_goals clear fct)
       all_goals simp[h2,h3]
    ·rcases ho with e|e|e
     ·(have fct:=And.intro e ((eq_false h2));(repeat' (first
  |refine gF ?_|refine aE ?_ ?_
  |apply trivial));all_goals clear fct)
      all_goals simp[h2]
     ·(have fct:=And.intro e ((eq_false h2));(repeat' (first
  |refine gF ?_|refine aE ?_ ?_
  |apply trivial));all_goals clear fct)
      all_goals simp[h2]
     ·(have fct:=And.intro e ((eq_false h2));(repeat' (first
  |refine gF ?_|refine aE ?_ ?_
  | apply trivial));all_goals clear fct)
      all_goals simp[h2]
   ·rw[if_neg ho]
    have e0:¬a1=0:=fun h=>ho (.inl h)
    have e3:¬a1=3:=fun h=>ho (.inr (.inl h))
    have e4:¬a1=4:=fun h=>ho (.inr (.inr h))
    (have fct:=And.intro e0 (And.intro e1 (And.intro e2 (And.intro e3 (e4))));(repeat' (first
  |refine gF ?_|refine aE ?_ ?_
  |apply trivial));all_goals clear fct)
def seenT (l:List Int):List (Int×Int):=l.map fun c=>(c,1)
theorem tget_seen (c:Int):∀l:List Int,tget c (seenT l)=if c∈l then some 1 else none
 |[]=>rfl
 | a ::r=>by
   show(if a=c then some 1 else tget c (seenT r))=_
   rw[tget_seen c r]
   by_cases e:a=c
   ·rw[if_pos e,if_pos (by simp[e])]
   ·rw[if_neg e]
    by_cases h:c∈r
    ·rw[if_pos h,if_pos (List.mem_cons_of_mem _ h)]
    ·rw[if_neg h,if_neg (by simp[h];exact fun e'=>e e'.symm)]
theorem seen_snoc {l:List Int}{c:Int}(h:c∉l):tput c 1 (seenT l)=seenT (l++ [c]):=by
 rw[tput_new (by rw[tget_seen,if_neg h])]
 simp[seenT]
theorem take_snocI {α:Type}{l:List α}{k:Nat}{x:α}(h:l[k]? =some x):l.take (k+1)=l.take k++ [x]:=by
 obtain⟨hk,rfl⟩:=List.getElem?_eq_some_iff.1 h
 rw[List.take_add_one,List.getElem?_eq_getElem hk];rfl
theorem kids_step {l:List NodeM}{n:Int}{x:NodeM}{cs:List Int}{j:Nat}{c:Int}(h:cs[j]? =some c):kidsOK l n x (cs.take j) (cs.drop j)=(kidOK l n x (cs.take j) c&&kidsOK l n x (cs.take (j+1)) (cs.drop (j+1))):=by
 obtain⟨hk,rfl⟩:=List.getElem?_eq_some_iff.1 h
 rw[List.drop_eq_getElem_cons hk,take_snocI h]
 rfl
theorem elems_step {l:List NodeM}{cs:List Int}{j:Nat}{c:Int}(h:cs[j]? =some c):elemsN l (cs.take (j+1))=elemsN l (cs.take j)+if(nd l c).kind=1 then 1 else 0:=by
 rw[take_snocI h]
 unfold elemsN
 rw[List.countP_append,List.countP_cons];simp
theorem elems_le (l:List NodeM)(cs:List Int)(j:Nat):elemsN l (cs.take j)≤j:=by
 unfold elemsN
 refine Nat.le_trans List.countP_le_length ?_
 simp;omega
@[reducible] def rSeen (t : List (Int × Int)) : MS := .live 2 (tRows vInt oInt t) false
theorem noRef_seen (t:List (Int×Int)):noRefL (tRows vInt oInt t)=true:=by
 rw[noRefL_iff];intro x hx
 obtain⟨a,_,rfl⟩:=List.mem_map.1 hx
 rfl
theorem f200_ok (f:ForM)(hs:SmallN f.nodes)(k:Nat)(x:NodeM)(hx:f.nodes[k]? =some x):FnOK Tryz.prog 200 [] [eFor f,eInt k] [] (eBool (bearsN f.nodes k x)):=by
 have h49:=f204_ok f
 have h56:=f240_ok x.kind
 have h7:=hs.kids x (List.mem_of_getElem? hx)
 have hl:=hs.len
 obtain⟨l,m⟩:=f
 have hst:=fun j c=> @kids_step l k x x.kids j c
 have hse:=fun j c=> @elems_step l x.kids j c
 unfold bearsN
 simp only at h49 h56 hx h7 hl ⊢
 obtain⟨⟨a1,a2,a3,a4,a5,a6,a7,a8,a9,a10⟩,hx0⟩:∃y,y=x:=⟨x,rfl⟩
 rw[←hx0] at hx h56 h7 hst hse ⊢
 simp only at h56 h7 hst hse ⊢
 have hlm:(a7.map oInt).length=a7.length:=List.length_map ..
 refine FnOK.startC (rvs:=[.tmp 4]) G G_good Tryz.func200 rfl Tryz.ntmps200 rfl rfl ?_;with_reducible refine wD ?_
 refine IdxK.mk k (eNode _) rfl (node_get hx) ?_;with_reducible refine wK ?_
 refine LoopK.use G G_good (fun(j:Nat)=>[(1,eInt k),(2,.ptr 20 0 0),(5,.ptr 50 0 0),(6,.mapr 161),(7,eInt (elemsN l (a7.take j))),(18,eInts a7),(19,eInt a7.length),(20,eInt j)])
  (fun j=>[(20,.live 2 [eFor ⟨l,m⟩] false),(50,.live 10 [eNode ⟨a1,a2,a3,a4,a5,a6,a7,a8,a9,a10⟩] false),(161,rSeen (seenT (a7.take j)))])
  (fun j=>j≤a7.length∧kidsOK l k ⟨a1,a2,a3,a4,a5,a6,a7,a8,a9,a10⟩ [] a7=kidsOK l k ⟨a1,a2,a3,a4,a5,a6,a7,a8,a9,a10⟩ (a7.take j) (a7.drop j)) (fun j=>a7.length-j) 0 ⟨Nat.zero_le _,rfl⟩
  ⟨⟨rfl,rfl⟩,⟨rfl,⟨rfl,rfl⟩,⟨rfl,rfl⟩,trivial,rfl,rfl,by show(a7.length:Int)=((a7.map oInt).length:Int);rw[hlm],rfl,trivial⟩,⟨⟨rfl,rfl,trivial⟩,trivial⟩,⟨⟨rfl,rfl,rfl,rfl,rfl,rfl,rfl,rfl,rfl,rfl,trivial⟩,trivial⟩,⟨.refl rfl,rfl⟩,trivial⟩ ?_
 rintro j ⟨hj,hok⟩
 with_reducible refine wK ?_
 refine IfK.mk (fun h1=>?_) (fun h1=>?_)<;>(try simp only[castN] at h1)<;>with_reducible refine wK ?_
 ·have hj' :j<a7.length:=by simp only[decide_eq_true_eq] at h1;omega
  obtain⟨c,hc⟩:∃c,a7[j]? =some c:=⟨_,List.getElem?_eq_getElem hj'⟩
  rw[hst j c hc] at hok
  have hse':=hse j c hc
  have hel:=elems_le l a7 j
  have h49':=h49 c
  unfold kidOK at hok
  refine IdxK.mk j (eInt c) rfl (int_get hc) ?_;with_reducible refine wK ?_
  refine cL h49' c204 ?_;with_reducible refine wK ?_
  cases ht:thereN l c with
  | false=>
    rw[ht] at hok
    simp only[Bool.false_and] at hok
    rw[hok,Bool.false_and]
    (have fct:=ht;(repeat' (first
  |refine gF ?_|refine aE ?_ ?_
  |apply trivial));all_goals clear fct)
  | true=>
    obtain⟨i,y,rfl,hy,hnd⟩:=there_iff.1 ht
    rw[ht,hnd] at hok
    rw[hnd] at hse'
    obtain⟨b1,b2,b3,b4,b5,b6,b7,b8,b9,b10⟩:=y
    simp only[Bool.true_and] at hok hse'
    refine IfK.ff ?_;with_reducible refine wK ?_
    have hts:=tget_seen (i:Int) (a7.take j)
    refine LookK.tab vInt oInt (seenT (a7.take j)) (k:=(i:Int)) (zv:=eInt 0) mt74 ⟨_,_,rfl⟩ key_int inj_int rfl rfl (fun z hxx=>?_) (fun hxx=>?_)
    ·rw[hxx] at hts
     have hin:(i:Int)∈a7.take j:=by by_cases h:(i:Int)∈a7.take j;exact h;rw[if_neg h] at hts;cases hts
     rw[if_pos hin] at hts
     cases hts
     rw[show hasI (a7.take j) (i:Int)=true from decide_eq_true hin] at hok
     simp only[Bool.not_true,Bool.false_and] at hok
     rw[hok,Bool.false_and]
     rw[show oInt 1=eInt 1 from rfl]
     with_reducible refine wK ?_
     (have fct:=ht;(repeat' (first
  |refine gF ?_|refine aE ?_ ?_
  | apply trivial));all_goals clear fct)
    ·rw [hxx] at hts
     have hin:(i:Int)∉a7.take j:=by intro h;rw[if_pos h] at hts;cases hts
     rw[show hasI (a7.take j) (i:Int)=false from decide_eq_false hin] at hok
     simp only[Bool.not_false,Bool.true_and] at hok
     with_reducible refine wK ?_
     by_cases e6:b6=k
     ·by_cases e10:b10=a10
      ·simp only[e6,e10,decide_true,Bool.true_and] at hok
       (have fct:=And.intro e6 (e10);(repeat' (first
  |refine gF ?_|refine aE ?_ ?_
  |((refine IdxK.mk i (eNode _) rfl (node_get hy) ?_)<;>with_reducible refine wK ?_)
  |apply trivial));all_goals clear fct)
       refine LookK.tab vInt oInt (seenT (a7.take j)) (k:=(i:Int)) (zv:=eInt 0) mt74 ⟨_,_,rfl⟩ key_int inj_int rfl rfl (fun z hyy=>?_) (fun hyy=>?_)
       ·rw[hxx] at hyy;cases hyy
       with_reducible refine wK ?_
       have hln:(seenT (a7.take j)).length≤j:=by unfold seenT;simp;omega
       have hsn:=seen_snoc hin
       rw[←take_snocI hc] at hsn
       refine nK ?_;with_reducible refine wK ?_
       refine PutK.tab vInt oInt (seenT (a7.take j)) (k:=(i:Int)) (1:Int) mt74 rfl key_int inj_int (by unfold maxLen;omega) rfl ?_;with_reducible refine wK ?_
       rw[hsn]
       refine IdxK.mk i (eNode _) rfl (node_get hy) ?_;with_reducible refine wK ?_
       by_cases f1:b1=1
       ·have hs1:(elemsN l (a7.take (j+1)):Int)=elemsN l (a7.take j)+1:=by rw[hse',if_pos f1];rfl
        simp only[f1,decide_true,Bool.true_or,Bool.true_and] at hok
        (have fct:=f1;(repeat' (first
  |refine gF ?_|refine aE ?_ ?_
  |(((with_reducible show NextK _ _);refine NextK.mk (j+1) ⟨by omega,hok⟩ (by omega) ⟨⟨rfl,rfl⟩,⟨rfl,⟨rfl,rfl⟩,⟨rfl,rfl⟩,trivial,hs1,rfl,rfl,by show((j+1:Nat):Int)=(j:Int)+1;omega,trivial⟩,⟨⟨rfl,rfl,trivial⟩,trivial⟩,⟨⟨rfl,rfl,rfl,rfl,rfl,rfl,rfl,rfl,rfl,rfl,trivial⟩,trivial⟩,⟨.refl (noRef_seen _),noRef_seen _⟩,trivial⟩)<;>with_reducible refine wK ?_)
  |apply  trivial));all_goals clear fct)
       ·have hs1:(elemsN l (a7.take (j+1)):Int)=elemsN l (a7.take j):=by rw[hse',if_neg f1];rfl
        by_cases f2:b1=2
        ·by_cases e0:a1=0
         ·have hkk:(decide (b1=1)||decide (b1=2)&&decide (a1≠0))=false:=by simp[f2,e0]
          rw[hkk,Bool.false_and] at hok
          rw[hok,Bool.false_and]
          (have fct:=And.intro (eq_false f1) (And.intro f2 (e0));(repeat' (first
  |refine gF ?_|refine aE ?_ ?_
  |apply  trivial));all_goals clear fct)
         ·have hkk:(decide (b1=1)||decide (b1=2)&&decide (a1≠0))=true:=by simp[f2,e0]
          rw[hkk,Bool.true_and] at hok
          (have fct:=And.intro (eq_false f1) (And.intro f2 ((eq_false e0)));(repeat' (first
  |refine gF ?_|refine aE ?_ ?_
  |(((with_reducible show NextK _ _);refine NextK.mk (j+1) ⟨by omega,hok⟩ (by omega) ⟨⟨rfl,rfl⟩,⟨rfl,⟨rfl,rfl⟩,⟨rfl,rfl⟩,trivial,hs1,rfl,rfl,by show((j+1:Nat):Int)=(j:Int)+1;omega,trivial⟩,⟨⟨rfl,rfl,trivial⟩,trivial⟩,⟨⟨rfl,rfl,rfl,rfl,rfl,rfl,rfl,rfl,rfl,rfl,trivial⟩,trivial⟩,⟨.refl (noRef_seen _),noRef_seen _⟩,trivial⟩)<;>with_reducible refine wK ?_)
  |apply  trivial));all_goals clear fct)
        ·simp only[eq_false f1,eq_false f2,decide_false,Bool.false_and,Bool.or_false] at hok
         rw[hok,Bool.false_and]
         (have fct:=And.intro f1 (f2);(repeat' (first
  |refine gF ?_|refine aE ?_ ?_
  |apply trivial));all_goals clear fct)
      ·simp only[e6,eq_false e10,decide_true,decide_false,Bool.true_and,Bool.false_and] at hok
       rw[hok,Bool.false_and]
       (have fct:=And.intro e6 ((eq_false e10));(repeat' (first
  |refine gF ?_|refine aE ?_ ?_
  |((refine IdxK.mk i (eNode _) rfl (node_get hy) ?_)<;>with_reducible refine wK ?_)
  |apply trivial));all_goals clear fct)
     ·simp only[eq_false e6,decide_false,Bool.false_and] at hok
      rw[hok,Bool.false_and]
      (have fct:=(eq_false e6);(repeat' (first
  |refine gF ?_|refine aE ?_ ?_
  |((refine IdxK.mk i (eNode _) rfl (node_get hy) ?_)<;>with_reducible refine wK ?_)
  |apply trivial));all_goals clear fct)
 ·have hjl:j=a7.length:=by simp only[decide_eq_false_iff_not] at h1;omega
  rw[hjl,List.take_length,List.drop_length] at hok
  rw[hjl,List.take_length]
  rw[hok]
  simp only[kidsOK,Bool.true_and]
  refine cL h56 c240 ?_;with_reducible refine wK ?_
  by_cases e7:a7.length=0
  ·have e7':a7=[]:=List.eq_nil_of_length_eq_zero e7
   cases hh:holdK a1 with
   | false=>
     by_cases e0:a1=0
     ·(have fct:=And.intro hh (And.intro e0 (And.intro e7 (hlm)));(repeat' (first
  |refine gF ?_|refine aE ?_ ?_
  |apply trivial));all_goals clear fct)
      all_goals first|(simp[hh,e0,e7'];done)|((try simp only[castN]);simp[hh,e0,e7'];omega)
     ·(have fct:=And.intro hh (And.intro (eq_false e0) (And.intro e7 (hlm)));(repeat' (first
  |refine gF ?_|refine aE ?_ ?_
  | apply trivial));all_goals clear fct)
      all_goals first|(simp[hh,e0,e7'];done)|((try simp only[castN]);simp[hh,e0,e7'];omega)
   | true=>
     by_cases e0:a1=0
     ·(have fct:=And.intro hh (And.intro e0 (And.intro e7 (hlm)));(repeat' (first
  |refine gF ?_|refine aE ?_ ?_
  |apply trivial));all_goals clear fct)
      all_goals first|(simp[hh,e0,e7'];done)|((try simp only[castN]);simp[hh,e0,e7'];omega)
     ·(have fct:=And.intro hh (And.intro (eq_false e0) (And.intro e7 (hlm)));(repeat' (first
  |refine gF ?_|refine aE ?_ ?_
  |apply trivial));all_goals clear fct)
      all_goals first|(simp[hh,e0,e7'];done)|((try simp only[castN]);simp[hh,e0,e7'];omega)
  ·have e7':¬a7=[]:=fun h=>e7 (by rw[h];rfl)
   cases hh:holdK a1 with
   | false=>
     by_cases e0:a1=0
     ·(have fct:=And.intro hh (And.intro e0 (And.intro e7 (hlm)));(repeat' (first
  |refine gF ?_|refine aE ?_ ?_
  |apply trivial));all_goals clear fct)
      all_goals first|(simp[hh,e0,e7'];done)|((try simp only[castN]);simp[hh,e0,e7'];omega)
     ·(have fct:=And.intro hh (And.intro (eq_false e0) (And.intro e7 (hlm)));(repeat' (first
  |refine gF ?_|refine aE ?_ ?_
  | apply trivial));all_goals clear fct)
      all_goals first|(simp[hh,e0,e7'];done)|((try simp only[castN]);simp[hh,e0,e7'];omega)
   | true=>
     by_cases e0:a1=0
     ·(have fct:=And.intro hh (And.intro e0 (And.intro e7 (hlm)));(repeat' (first
  |refine gF ?_|refine aE ?_ ?_
  |apply trivial));all_goals clear fct)
      all_goals first|(simp[hh,e0,e7'];done)|((try simp only[castN]);simp[hh,e0,e7'];omega)
     ·(have fct:=And.intro hh (And.intro (eq_false e0) (And.intro e7 (hlm)));(repeat' (first
  |refine gF ?_|refine aE ?_ ?_
  |apply trivial));all_goals clear fct)
      all_goals first|(simp[hh,e0,e7'];done)|((try simp only[castN]);simp[hh,e0,e7'];omega)
theorem allIx_no {α:Type}{p:Nat→α→Bool}{l:List α}{k:Nat}{x:α}(h:l[k]? =some x)(hp:p k x=false):allIx p 0 l=false:=by
 rw[Bool.eq_false_iff]
 intro h1
 have:=allIx_iff.1 h1 k x h
 rw[Nat.zero_add,hp] at this
 cases this
theorem allIx_yes {α:Type}{p:Nat→α→Bool}{l:List α}(h:∀k x,l[k]? =some x→p k x=true):allIx p 0 l=true:=
 allIx_iff.2 fun k x hx=>by rw[Nat.zero_add];exact h k x hx
theorem f137_ok (f:ForM)(hs:SmallN f.nodes):FnOK Tryz.prog 137 [] [eFor f] [] (eBool (rightF f)):=by
 have hl:=hs.len
 have h38:∀x∈f.nodes,FnOK Tryz.prog 138 [] [eNode x] [] (eBool (namedN x)):=fun x hx=>f138_ok x (by have:=hs.attrs x hx;omega)
 have h39:=f198_ok f
 have h40:=f199_ok f hs
 have h41:=f200_ok f hs
 have h42:=f201_ok f
 have h43:(∀n,thereN f.nodes n=true→nodeOK f.nodes n (nd f.nodes n)=true)→∀k,k<f.nodes.length→FnOK Tryz.prog 202 [] [eFor f,eInt k] [] (eBool (endsN f.nodes f.nodes.length k)):=fun hN k hk=>f202_ok f (by omega) (fun k x hx=>by have:=node_up hN k (there_get hx);rwa [nd_get hx] at this) k hk
 obtain⟨l,m⟩:=f
 unfold rightF headOK
 simp only at hl h38 h39 h40 h41 h42 h43 ⊢
 have hlm:(l.map oNode).length=l.length:=List.length_map ..
 refine FnOK.startC (rvs:=[.tmp 2]) G G_good Tryz.func137 rfl Tryz.ntmps137 rfl rfl ?_;with_reducible refine wD ?_
 by_cases e1:m<1
 ·have c1:decide (1≤m)=false:=decide_eq_false (by omega)
  rw[c1]
  (have fct:=e1;(repeat' (first
  |refine gF ?_|refine aE ?_ ?_
  |apply trivial));all_goals clear fct)
  all_goals simp
 by_cases e2:400<m
 ·have c1:decide (m≤400)=false:=decide_eq_false (by omega)
  rw[c1]
  (have fct:=And.intro (eq_false e1) (e2);(repeat' (first
  |refine gF ?_|refine aE ?_ ?_
  |apply trivial));all_goals clear fct)
  all_goals simp
 by_cases e3:l.length<1
 ·have c1:decide (1≤l.length)=false:=decide_eq_false (by omega)
  have e3':(l.length:Int)<1:=by omega
  rw[c1]
  (have fct:=And.intro (eq_false e1) (And.intro (eq_false e2) (And.intro hlm (e3')));(repeat' (first
  |refine gF ?_|refine aE ?_ ?_
  |apply trivial));all_goals clear fct)
  all_goals simp
 have e3':¬ (l.length:Int)<1:=by omega
 by_cases e4:m< (l.length:Int)
 ·have c1:decide ((l.length:Int)≤m)=false:=decide_eq_false (by omega)
  rw[c1]
  (have fct:=And.intro (eq_false e1) (And.intro (eq_false e2) (And.intro hlm (And.intro (eq_false e3') (e4))));(repeat' (first
  |refine gF ?_|refine aE ?_ ?_
  |apply trivial));all_goals clear fct)
  all_goals simp
 obtain⟨x0,hx0⟩:∃x,l[0]? =some x:=⟨_,List.getElem?_eq_getElem (by omega)⟩
 have hn0:nd l 0=x0:=nd_get (k:=0) hx0
 rw[hn0]
 obtain⟨z1,z2,z3,z4,z5,z6,z7,z8,z9,z10⟩:=x0
 by_cases e5:¬z1=0
 ·(have fct:=And.intro (eq_false e1) (And.intro (eq_false e2) (And.intro hlm (And.intro (eq_false e3') (And.intro (eq_false e4) ((eq_false e5))))));(repeat' (first
  |refine gF ?_|refine aE ?_ ?_
  |((refine IdxK.mk 0 (eNode ⟨z1,z2,z3,z4,z5,z6,z7,z8,z9,z10⟩) rfl (node_get hx0) ?_)<;>with_reducible refine wK ?_)
  |apply trivial));all_goals clear fct)
  all_goals simp[e5]
 have e5:=Decidable.not_not.1 e5
 have c1:(decide (1≤m)&&decide (m≤400)&&decide (1≤l.length)&&decide ((l.length:Int)≤m)&&decide (z1=0))=true:=by
  simp only[Bool.and_eq_true,decide_eq_true_eq];omega
 simp only at c1 ⊢
 rw[c1,Bool.true_and]
 (have fct:=And.intro (eq_false e1) (And.intro (eq_false e2) (And.intro hlm (And.intro (eq_false e3') (And.intro (eq_false e4) (e5)))));(repeat' (first
  |refine gF ?_|refine aE ?_ ?_
  |((refine IdxK.mk 0 (eNode ⟨z1,z2,z3,z4,z5,z6,z7,z8,z9,z10⟩) rfl (node_get hx0) ?_)<;>with_reducible refine wK ?_)
  |apply trivial));all_goals clear fct)
 refine LoopK.use G G_good (fun(k:Nat)=>[(1,.ptr 10 0 0),(44,eNodes l),(45,eInt l.length),(46,eInt k)]) (fun _=>[(10,.live 2 [eFor ⟨l,m⟩] false)])
  (fun k=>k≤l.length∧∀j x,j<k→l[j]? =some x→nodeOK l j x=true) (fun k=>l.length-k) 0 ⟨Nat.zero_le _,fun j x h=>by omega⟩
  ⟨⟨rfl,rfl⟩,⟨⟨rfl,rfl⟩,rfl,by show(l.length:Int)=((l.map oNode).length:Int);rw[hlm],rfl,trivial⟩,⟨⟨rfl,rfl,trivial⟩,trivial⟩,trivial⟩ ?_
 rintro k ⟨hk,hok⟩
 with_reducible refine wK ?_
 refine IfK.mk (fun g1=>?_) (fun g1=>?_)<;>(try simp only[castN] at g1)<;>with_reducible refine wK ?_
 ·have hk' : k<l.length:=by simp only[decide_eq_true_eq] at g1;omega
  obtain⟨x,hx⟩:∃x,l[k]? =some x:=⟨_,List.getElem?_eq_getElem hk'⟩
  have h38':=h38 x (List.mem_of_getElem? hx)
  have h39':=h39 k x hx
  have h40':=h40 k x hx
  have h41':=h41 k x hx
  have h42':=h42 k x hx
  have bad:nodeOK l k x=false→allIx (fun k x=>nodeOK l k x) 0 l=false:=fun h=>allIx_no hx h
  have good:nodeOK l k x=true→∀j y,j<k+1→l[j]? =some y→nodeOK l j y=true:=fun h j y hj hy=>by
   rcases Nat.lt_or_ge j k with h6|h6
   ·exact hok j y h6 hy
   ·have:j=k:=by omega
    subst this
    rw[hx] at hy;cases hy;exact h
  obtain⟨a1,a2,a3,a4,a5,a6,a7,a8,a9,a10⟩:=x
  refine IdxK.mk k (eNode _) rfl (node_get hx) ?_;with_reducible refine wK ?_
  cases q1:namedN ⟨a1,a2,a3,a4,a5,a6,a7,a8,a9,a10⟩ with
  | false=>
    rw[bad (by unfold nodeOK;rw[q1];rfl),Bool.false_and]
    (have fct:=q1;(repeat' (first
  |refine gF ?_|refine aE ?_ ?_
  |(((with_reducible refine kQ 138 ?_);refine cL h38' c138 ?_)<;>with_reducible refine wK ?_)
  |apply trivial));all_goals clear fct)
  | true=>
    cases q2:ownedN l k ⟨a1,a2,a3,a4,a5,a6,a7,a8,a9,a10⟩ with
    | false=>
      rw[bad (by unfold nodeOK;rw[q1,q2];rfl),Bool.false_and]
      (have fct:=And.intro q1 (q2);(repeat' (first
  |refine gF ?_|refine aE ?_ ?_
  | ((first
   |((with_reducible refine kQ 138 ?_);refine cL h38' c138 ?_)
   |((with_reducible refine kQ 198 ?_);refine cL h39' c198 ?_))<;>with_reducible refine wK ?_)
  | apply trivial));all_goals clear fct)
    | true=>
      cases q3:hungN l k ⟨a1,a2,a3,a4,a5,a6,a7,a8,a9,a10⟩ with
      | false=>
        rw[bad (by unfold nodeOK;rw[q1,q2,q3];rfl),Bool.false_and]
        (have fct:=And.intro q1 (And.intro q2 (q3));(repeat' (first
  |refine gF ?_|refine aE ?_ ?_
  | ((first
   |((with_reducible refine kQ 138 ?_);refine cL h38' c138 ?_)
   |((with_reducible refine kQ 198 ?_);refine cL h39' c198 ?_)
   |((with_reducible refine kQ 199 ?_);refine cL h40' c199 ?_))<;>with_reducible refine wK ?_)
  |apply  trivial));all_goals clear fct)
      | true=>
        cases q4:bearsN l k ⟨a1,a2,a3,a4,a5,a6,a7,a8,a9,a10⟩ with
        | false=>
          rw[bad (by unfold nodeOK;rw[q1,q2,q3,q4];rfl),Bool.false_and]
          (have fct:=And.intro q1 (And.intro q2 (And.intro q3 (q4)));(repeat' (first
  |refine gF ?_|refine aE ?_ ?_
  | ((first
   |((with_reducible refine kQ 138 ?_);refine cL h38' c138 ?_)
   |((with_reducible refine kQ 198 ?_);refine cL h39' c198 ?_)
   |((with_reducible refine kQ 199 ?_);refine cL h40' c199 ?_)
   |((with_reducible refine kQ 200 ?_);refine cL h41' c200 ?_))<;>with_reducible refine wK ?_)
  |apply  trivial));all_goals clear fct)
        | true=>
          cases q5:shadedN l k ⟨a1,a2,a3,a4,a5,a6,a7,a8,a9,a10⟩ with
          | false=>
            rw[bad (by unfold nodeOK;rw[q1,q2,q3,q4,q5];rfl),Bool.false_and]
            (have fct:=And.intro q1 (And.intro q2 (And.intro q3 (And.intro q4 (q5))));(repeat' (first
  |refine gF ?_|refine aE ?_ ?_
  | ((first
   |((with_reducible refine kQ 138 ?_);refine cL h38' c138 ?_)
   |((with_reducible refine kQ 198 ?_);refine cL h39' c198 ?_)
   |((with_reducible refine kQ 199 ?_);refine cL h40' c199 ?_)
   |((with_reducible refine kQ 200 ?_);refine cL h41' c200 ?_)
   |((with_reducible refine kQ 201 ?_);refine cL h42' c201 ?_))<;>with_reducible refine wK ?_)
  |apply  trivial));all_goals clear fct)
          | true=>
            have hnx:=good (by unfold nodeOK;rw[q1,q2,q3,q4,q5];rfl)
            (have fct:=And.intro q1 (And.intro q2 (And.intro q3 (And.intro q4 (q5))));(repeat' (first
  |refine gF ?_|refine aE ?_ ?_
  | ((first
   |((with_reducible refine kQ 138 ?_);refine cL h38' c138 ?_)
   |((with_reducible refine kQ 198 ?_);refine cL h39' c198 ?_)
   |((with_reducible refine kQ 199 ?_);refine cL h40' c199 ?_)
   |((with_reducible refine kQ 200 ?_);refine cL h41' c200 ?_)
   |((with_reducible refine kQ 201 ?_);refine cL h42' c201 ?_)
   |((with_reducible show NextK _ _);refine NextK.mk (k+1) ⟨by omega,hnx⟩ (by omega) ⟨⟨rfl,rfl⟩,⟨⟨rfl,rfl⟩,rfl,rfl,by show((k+1:Nat):Int)=(k:Int)+1;omega,trivial⟩,⟨⟨rfl,rfl,trivial⟩,trivial⟩,trivial⟩))<;>with_reducible refine wK ?_)
  |apply trivial));all_goals clear fct)
 ·have hkl:k=l.length:=by simp only[decide_eq_false_iff_not] at g1;omega
  have hall:∀ (j:Nat) (x:NodeM),l[j]? =some x→nodeOK l j x=true:=fun j x hx=>hok j x (by have:=(List.getElem?_eq_some_iff.1 hx).1;omega) hx
  rw[allIx_yes hall,Bool.true_and]
  have h43':=h43 fun n hn=>by
   obtain⟨k,x,rfl,hk,hx⟩:=there_iff.1 hn
   rw[hx];exact hall k x hk
  refine LoopK.use G G_good (fun(k:Nat)=>[(1,.ptr 10 0 0),(82,eInt l.length),(83,eInt k)]) (fun _=>[(10,.live 2 [eFor ⟨l,m⟩] false)])
   (fun k=>k≤l.length∧∀ (j:Nat) (x:NodeM),j<k→l[j]? =some x→endsN l l.length j=true) (fun k=>l.length-k) 0 ⟨Nat.zero_le _,fun j x h=>by omega⟩
   ⟨⟨rfl,rfl⟩,⟨⟨rfl,rfl⟩,by show(l.length:Int)=((l.map oNode).length:Int);rw[hlm],rfl,trivial⟩,⟨⟨rfl,rfl,trivial⟩,trivial⟩,trivial⟩ ?_
  rintro i ⟨hi,hends⟩
  with_reducible refine wK ?_
  refine IfK.mk (fun g2=>?_) (fun g2=>?_)<;>(try simp only[castN] at g2)<;>with_reducible refine wK ?_
  ·have hi':i<l.length:=by simp only[decide_eq_true_eq] at g2;omega
   obtain⟨y,hy⟩:∃y,l[i]? =some y:=⟨_,List.getElem?_eq_getElem hi'⟩
   have h43'':=h43' i hi'
   refine cL h43'' c202 ?_;with_reducible refine wK ?_
   cases q:endsN l l.length i with
   | false=>
     rw[allIx_no hy q]
     (have fct:=q;(repeat' (first
  |refine gF ?_|refine aE ?_ ?_
  | apply trivial));all_goals clear fct)
   | true=>
     (have fct:=q;(repeat' (first
  |refine gF ?_|refine aE ?_ ?_
  |(((with_reducible show NextK _ _);refine NextK.mk (i+1) ⟨by omega,fun j x hj hx=>?_⟩ (by omega) ⟨⟨rfl,rfl⟩,⟨⟨rfl,rfl⟩,rfl,by show((i+1:Nat):Int)=(i:Int)+1;omega,trivial⟩,⟨⟨rfl,rfl,trivial⟩,trivial⟩,trivial⟩)<;>with_reducible refine wK ?_)
  |apply trivial));all_goals clear fct)
     rcases Nat.lt_or_ge j i with h6|h6
     ·exact hends j x h6 hx
     ·have:j=i:=by omega
      rw[this];exact q
  ·have hil:i=l.length:=by simp only[decide_eq_false_iff_not] at g2;omega
   rw[allIx_yes fun j x hx=>hends j x (by have:=(List.getElem?_eq_some_iff.1 hx).1;omega) hx]
   (refine eK ?_ ?_<;>with_reducible repeat' (first|exact trivial|(show _∧_;refine aK ?_ ?_)))
theorem f100_ok (f:ForM)(hs:SmallN f.nodes):FnOK Tryz.prog 100 [] [eFor f] [] (eBool (rightF f)):=by
 have h23:=f137_ok f hs
 obtain⟨l,m⟩:=f
 refine FnOK.startC (rvs:=[.tmp 2]) G G_good Tryz.func100 rfl Tryz.ntmps100 rfl rfl ?_;with_reducible refine wD ?_
 refine cL h23 c137 ?_;with_reducible refine wK ?_
 (refine eK ?_ ?_<;>with_reducible repeat' (first|exact trivial|(show _∧_;refine aK ?_ ?_)))
theorem noRef_ints (l:List Int):noRefL (l.map oInt)=true:=by
 rw[noRefL_iff];intro x hx
 obtain⟨a,_,rfl⟩:=List.mem_map.1 hx
 rfl
theorem frz_ints {m:ML}{fz:Nat→Bool}{tab:List (Nat×Nat)}{n t len:Nat}{ro:Bool}{rows:List AV}{l:List Int}(h1:lkM m t=.live 1 rows ro)(h2:fz t=true)(h3:rows=l.map oInt)(h4:len=l.length):FrzK m fz (MF tab fz m n) (eInts l) t 0 len:=by
 subst h3;subst h4
 have e:(l.map oInt).length=l.length:=List.length_map ..
 exact .cut h1 h2 (by omega) (by rw[List.drop_zero,List.take_of_length_le (by omega)]) (noRef_ints l)
@[reducible] def rInts (l : List Int) : MS := .live 1 (l.map oInt) false
def smallX (x:NodeM):Bool:=decide (x.kids.length≤60)&&decide (x.attrs.length≤60)&&decide (x.name.size≤300)
theorem short_eq (f:ForM):shortF f=(decide (f.nodes.length≤60)&&f.nodes.all smallX):=rfl
theorem all_no {α:Type}{p:α→Bool}{l:List α}{k:Nat}{x:α}(h:l[k]? =some x)(hp:p x=false):l.all p=false:=by
 rw[Bool.eq_false_iff]
 intro h1
 rw[List.all_eq_true] at h1
 rw[h1 x (List.mem_of_getElem? h)] at hp;cases hp
theorem all_yes {α:Type}{p:α→Bool}{l:List α}(h:∀ (k:Nat) (x:α),l[k]? =some x→p x=true):l.all p=true:=by
 rw[List.all_eq_true]
 intro x hx
 obtain⟨k,hk⟩:=List.getElem?_of_mem hx
 exact h k x hk
theorem f17_ok (f:ForM):FnOK Tryz.prog 17 [] [eFor f] [] (eBool (shortF f)):=by
 rw[short_eq]
 obtain⟨l,m⟩:=f
 simp only
 have hlm:(l.map oNode).length=l.length:=List.length_map ..
 refine FnOK.startC (rvs:=[.tmp 2]) G G_good Tryz.func17 rfl Tryz.ntmps17 rfl rfl ?_;with_reducible refine wD ?_
 by_cases e0:(60:Int)< (l.length:Int)
 ·rw[decide_eq_false (show ¬l.length≤60 by omega)]
  (have fct:=And.intro hlm (e0);(repeat' (first
  |refine gF ?_|refine aE ?_ ?_
  |apply trivial));all_goals clear fct)
  all_goals rfl
 rw[decide_eq_true (show l.length≤60 by omega),Bool.true_and]
 (have fct:=And.intro hlm ((eq_false e0));(repeat' (first
  |refine gF ?_|refine aE ?_ ?_
  |apply trivial));all_goals clear fct)
 refine LoopK.use G G_good (fun(k:Nat)=>[(1,.ptr 10 0 0),(3,eInt k)]) (fun _=>[(10,.live 2 [eFor ⟨l,m⟩] false)])
  (fun k=>k≤l.length∧∀ (j:Nat) (y:NodeM),j<k→l[j]? =some y→smallX y=true) (fun k=>l.length-k) 0 ⟨Nat.zero_le _,fun j y h=>by omega⟩
  ⟨⟨rfl,rfl⟩,⟨⟨rfl,rfl⟩,rfl,trivial⟩,⟨⟨rfl,rfl,trivial⟩,trivial⟩,trivial⟩ ?_
 rintro k ⟨hk,hok⟩
 with_reducible refine wK ?_
 refine IfK.mk (fun h1=>?_) (fun h1=>?_)<;>(try simp only[castN] at h1)<;>with_reducible refine wK ?_
 ·have hk':k<l.length:=by simp only[decide_eq_true_eq] at h1;omega
  obtain⟨x,hx⟩:∃x,l[k]? =some x:=⟨_,List.getElem?_eq_getElem hk'⟩
  have bad:smallX x=false→l.all smallX=false:=fun h=>all_no hx h
  have good:smallX x=true→∀ (j:Nat) (y:NodeM),j<k+1→l[j]? =some y→smallX y=true:=fun h j y hj hy=>by
   rcases Nat.lt_or_ge j k with h6|h6
   ·exact hok j y h6 hy
   ·have:j=k:=by omega
    subst this
    rw[hx] at hy;cases hy;exact h
  obtain⟨a1,a2,a3,a4,a5,a6,a7,a8,a9,a10⟩:=x
  have hla:(a5.map oAttr).length=a5.length:=List.length_map ..
  have hlk:(a7.map oInt).length=a7.length:=List.length_map ..
  have sm:smallX ⟨a1,a2,a3,a4,a5,a6,a7,a8,a9,a10⟩=(decide (a7.length≤60)&&decide (a5.length≤60)&&decide (a2.size≤300)):=rfl
  rw[sm] at bad good
  refine IdxK.mk k (eNode _) rfl (node_get hx) ?_;with_reducible refine wK ?_
  by_cases e1:(60:Int)< (a7.length:Int)
  ·rw[bad (by rw[decide_eq_false (show ¬a7.length≤60 by omega)];rfl)]
   (have fct:=And.intro hlk (e1);(repeat' (first
  |refine gF ?_|refine aE ?_ ?_
  |apply trivial));all_goals clear fct)
  by_cases e2:(60:Int)< (a5.length:Int)
  ·rw[bad (by rw[decide_eq_false (show ¬a5.length≤60 by omega),Bool.and_false];rfl)]
   (have fct:=And.intro hlk (And.intro hla (And.intro (eq_false e1) (e2)));(repeat' (first
  |refine gF ?_|refine aE ?_ ?_
  |((refine IdxK.mk k (eNode _) rfl (node_get hx) ?_)<;>with_reducible refine wK ?_)
  |apply trivial));all_goals clear fct)
  by_cases e3:(300:Int)< (a2.size:Int)
  ·rw[bad (by rw[decide_eq_false (show ¬a2.size≤300 by omega),Bool.and_false])]
   (have fct:=And.intro hlk (And.intro hla (And.intro (eq_false e1) (And.intro (eq_false e2) (e3))));(repeat' (first
  |refine gF ?_|refine aE ?_ ?_
  |((refine IdxK.mk k (eNode _) rfl (node_get hx) ?_)<;>with_reducible refine wK ?_)
  |apply trivial));all_goals clear fct)
  have hnx:=good (by simp only[Bool.and_eq_true,decide_eq_true_eq];omega)
  (have fct:=And.intro hlk (And.intro hla (And.intro (eq_false e1) (And.intro (eq_false e2) ((eq_false e3)))));(repeat' (first
  |refine gF ?_|refine aE ?_ ?_
  | ((first
   |(refine IdxK.mk k (eNode _) rfl (node_get hx) ?_)
   |((with_reducible show NextK _ _);refine NextK.mk (k+1) ⟨by omega,hnx⟩ (by omega) ⟨⟨rfl,rfl⟩,⟨⟨rfl,rfl⟩,by show((k+1:Nat):Int)=(k:Int)+1;omega,trivial⟩,⟨⟨rfl,rfl,trivial⟩,trivial⟩,trivial⟩))<;>with_reducible refine wK ?_)
  |apply trivial));all_goals clear fct)
 ·have hkl:k=l.length:=by simp only[decide_eq_false_iff_not] at h1;omega
  rw[all_yes fun j y hy=>hok j y (by have:=(List.getElem?_eq_some_iff.1 hy).1;omega) hy]
  (refine eK ?_ ?_<;>with_reducible repeat' (first|exact trivial|(show _∧_;refine aK ?_ ?_)))
theorem CutK {P:Program}{N nL:Nat}{sl:SL}{m:ML}{c:Code}{Q:Exit→SL→ML→Prop}{F G:Prop}(main:(F→LoopK P N nL sl m (c:=c) (Q:=Q))→G)(rest:F→LoopK P N nL sl m (c:=c) (Q:=Q)):G:=main rest

theorem f268_ok (g:Nat)(cg:Callable Tryz.prog g)(caps:List AV)(hcaps:noRefL caps=true)(p:Int→Bool)(l:List Int)(hl:l.length≤100000)(hf:∀a,a∈l→FnOK Tryz.prog g [] (eInt a::caps) [] (eBool (p a))):
  FnOK Tryz.prog 268 [] [eInts l,.clo (.func g) [] caps] [] (eInt (idxI p l)):=by
 have hlm:(l.map oInt).length=l.length:=List.length_map ..
 refine FnOK.startC (rvs:=[.tmp 4]) G G_good Tryz.func268 rfl Tryz.ntmps268 rfl rfl ?_;with_reducible refine wD ?_
 refine LoopK.use G G_good (fun(k:Nat)=>[(0,eInts l),(1,.clo (.func g) [] caps),(7,eInt l.length),(8,eInt k)]) (fun _=>[]) (fun k=>k≤l.length∧∀j x,j<k→l[j]? =some x→p x=false) (fun k=>l.length-k) 0 ⟨Nat.zero_le _,fun j x h=>by omega⟩
  ⟨⟨rfl,rfl⟩,⟨rfl,⟨rfl,trivial,MFL_refl hcaps⟩,by show(l.length:Int)=((l.map oInt).length:Int);rw[hlm],rfl,trivial⟩,trivial⟩ ?_
 rintro k ⟨hk,hno⟩
 with_reducible refine wK ?_
 refine IfK.mk (fun h1=>?_) (fun h1=>?_)<;>(try simp only[castN] at h1)<;>with_reducible refine wK ?_
 ·simp only[decide_eq_true_eq] at h1
  have hk':k<l.length:=by omega
  obtain⟨a,ha⟩:∃a,l[k]? =some a:=⟨_,List.getElem?_eq_getElem hk'⟩
  refine IdxK.mk k (eInt a) rfl (int_get ha) ?_;with_reducible refine wK ?_
  refine CallK.lit [] (hf a (List.mem_of_getElem? ha)) cg ⟨rfl,MFL_refl hcaps⟩ rfl rfl ?_;with_reducible refine wK ?_
  refine IfK.mk (fun h2=>?_) (fun h2=>?_)<;>(try simp only[castN] at h2)<;>with_reducible refine wK ?_
  ·(refine eK ?_ ?_<;>with_reducible repeat' (first|exact trivial|(show _∧_;refine aK ?_ ?_)))
   exact idxI_hit ha h2 hno
  ·refine nK ?_;with_reducible refine wK ?_
   refine NextK.mk (k+1) ⟨by omega,fun j x hj hx=>?_⟩ (by omega) ⟨⟨rfl,rfl⟩,⟨rfl,⟨rfl,trivial,MFL_refl hcaps⟩,rfl,by show((k+1:Nat):Int)=(k:Int)+1;omega,trivial⟩,trivial⟩
   rcases Nat.lt_or_ge j k with h6|h6
   ·exact hno j x h6 hx
   ·have:j=k:=by omega
    subst this
    rw[ha] at hx;cases hx;exact h2
 ·(refine eK ?_ ?_<;>with_reducible repeat' (first|exact trivial|(show _∧_;refine aK ?_ ?_)))
  have:k=l.length:=by simp only[decide_eq_false_iff_not] at h1;omega
  exact idxI_none fun j x hx=>hno j x (by have:=(List.getElem?_eq_some_iff.1 hx).1;omega) hx
theorem f269_ok (f:ForM)(c:Int)(hc:thereN f.nodes c=true):FnOK Tryz.prog 269 [] [eInt c,.fptr (eFor f) 0] [] (eBool (isLeg f.nodes c)):=by
 obtain⟨k,x,rfl,hx,hnd⟩:=there_iff.1 hc
 obtain⟨l,m⟩:=f
 unfold isLeg
 simp only at hx hnd ⊢
 rw[hnd]
 obtain⟨a1,a2,a3,a4,a5,a6,a7,a8,a9,a10⟩:=x
 refine FnOK.startC (rvs:=[.tmp 3]) G G_good Tryz.func269 rfl Tryz.ntmps269 rfl rfl ?_;with_reducible refine wD ?_
 refine IdxK.mk k (eNode _) rfl (node_get hx) ?_;with_reducible refine wK ?_
 by_cases e1:a1=1
 ·(have fct:=e1;(repeat' (first
  |refine gF ?_|refine aE ?_ ?_
  |((refine IdxK.mk k (eNode _) rfl (node_get hx) ?_)<;>with_reducible refine wK ?_)
  |apply trivial));all_goals clear fct)
  all_goals simp[e1]
 ·(have fct:=(eq_false e1);(repeat' (first
  |refine gF ?_|refine aE ?_ ?_
  |apply trivial));all_goals clear fct)
  all_goals simp[e1]
theorem f254_ok (f:ForM)(hs:SmallN f.nodes)(k:Nat)(x:NodeM)(hx:f.nodes[k]? =some x)(hkids:∀c∈x.kids,thereN f.nodes c=true):FnOK Tryz.prog 254 [] [eFor f,eInt k] [] (eInt (legN f.nodes k)):=by
 have h7:=hs.kids x (List.mem_of_getElem? hx)
 have h35:=fun c hc=>f269_ok f c (hkids c hc)
 obtain⟨l,m⟩:=f
 unfold legN kidAt
 simp only at hx h7 hkids h35 ⊢
 rw[nd_get hx]
 obtain⟨a1,a2,a3,a4,a5,a6,a7,a8,a9,a10⟩:=x
 simp only at h7 hkids h35 ⊢
 refine FnOK.startC (rvs:=[.tmp 4]) G G_good Tryz.func254 rfl Tryz.ntmps254 rfl rfl ?_;with_reducible refine wD ?_
 refine IdxK.mk k (eNode _) rfl (node_get hx) ?_;with_reducible refine wK ?_
 refine CallK.lit [20] (f268_ok 269 c269 [.fptr (eFor ⟨l,m⟩) 0] rfl (isLeg l) a7 (by omega) h35) c268 ⟨rfl,⟨rfl,trivial,⟨_,_,_,_,_,rfl,rfl,rfl,rfl,rfl,⟨rfl,rfl,trivial⟩⟩,trivial⟩,trivial⟩ rfl rfl ?_;with_reducible refine wK ?_
 rcases idxI_cases (isLeg l) a7 with h|⟨i,c,h,hi,_⟩
 ·rw[h]
  (have fct:=h;(repeat' (first
  |refine gF ?_|refine aE ?_ ?_
  |apply trivial));all_goals clear fct)
  all_goals simp
 ·rw[h]
  (have fct:=h;(repeat' (first
  |refine gF ?_|refine aE ?_ ?_
  |((refine IdxK.mk i (eInt c) rfl (int_get hi) ?_)<;>with_reducible refine wK ?_)
  |apply trivial));all_goals clear fct)
  all_goals simp[hi]
theorem f253_ok (x:NodeM)(hx:x.attrs.length≤100000):FnOK Tryz.prog 253 [] [eNode x] [] (eBool (disX x)):=by
 have h14:=f248_ok x.attrs hx disW
 unfold disX
 obtain⟨a1,a2,a3,a4,a5,a6,a7,a8,a9,a10⟩:=x
 simp only at h14 hx ⊢
 refine FnOK.startC (rvs:=[.tmp 2]) G G_good Tryz.func253 rfl Tryz.ntmps253 rfl rfl ?_;with_reducible refine wD ?_
 refine cL h14 c248 ?_;with_reducible refine wK ?_
 by_cases e1:a1=1
 ·(have fct:=e1;(repeat' (first
  |refine gF ?_|refine aE ?_ ?_
  |apply trivial));all_goals clear fct)
  all_goals simp[e1]
 ·(have fct:=(eq_false e1);(repeat' (first
  |refine gF ?_|refine aE ?_ ?_
  |apply trivial));all_goals clear fct)
  all_goals simp[e1]
theorem f277_ok (f:ForM)(n:Int):FnOK Tryz.prog 277 [] [eInt n,.fptr (eFor f) 0] [] (eBool (!thereN f.nodes n)):=by
 have h49:=f204_ok f n
 obtain⟨l,m⟩:=f
 simp only at h49 ⊢
 refine FnOK.startC (rvs:=[.tmp 3]) G G_good Tryz.func277 rfl Tryz.ntmps277 rfl rfl ?_;with_reducible refine wD ?_
 refine cL h49 c204 ?_;with_reducible refine wK ?_
 (refine eK ?_ ?_<;>with_reducible repeat' (first|exact trivial|(show _∧_;refine aK ?_ ?_)))
 all_goals rfl
theorem f260_ok (g:Nat)(cg:Callable Tryz.prog g)(caps:List AV)(hcaps:noRefL caps=true)(p:Int→Bool)(l:List Int)(hl:l.length≤100000)(hf:∀a,a∈l→FnOK Tryz.prog g [] (eInt a::caps) [] (eBool (p a))):
  FnOK Tryz.prog 260 [] [eInts l,.clo (.func g) [] caps] [] (eBool (decide (0≤idxI p l))):=by
 have h34:=f268_ok g cg caps hcaps p l hl hf
 refine FnOK.startC (rvs:=[.tmp 4]) G G_good Tryz.func260 rfl Tryz.ntmps260 rfl rfl ?_;with_reducible refine wD ?_
 refine CallK.lit [] h34 c268 ⟨rfl,⟨rfl,trivial,MFL_refl hcaps⟩,trivial⟩ rfl rfl ?_;with_reducible refine wK ?_
 (refine eK ?_ ?_<;>with_reducible repeat' (first|exact trivial|(show _∧_;refine aK ?_ ?_)))
 all_goals rfl
theorem f266_ok (f:ForM)(hs:SmallN f.nodes)(l:List Int)(hl:l.length≤100000):FnOK Tryz.prog 266 [] [eFor f,eInts l] [] (eBool (rightF f&& !decide (0≤idxI (fun n=> !thereN f.nodes n) l))):=by
 have h23:=f137_ok f hs
 have h47:=f260_ok 277 c277 [.fptr (eFor f) 0] rfl (fun n=> !thereN f.nodes n) l hl (fun a _=>f277_ok f a)
 obtain⟨ns,m⟩:=f
 simp only at h23 h47 ⊢
 refine FnOK.startC (rvs:=[.tmp 4]) G G_good Tryz.func266 rfl Tryz.ntmps266 rfl rfl ?_;with_reducible refine wD ?_
 refine cL h23 c137 ?_;with_reducible refine wK ?_
 cases hr:rightF ⟨ns,m⟩ with
 | false=>
   (have fct:=hr;(repeat' (first
  |refine gF ?_|refine aE ?_ ?_
  | apply trivial));all_goals clear fct)
   all_goals rfl
 | true=>
   refine IfK.tt ?_;with_reducible refine wK ?_
   refine CallK.lit [50] h47 c260 ⟨rfl,⟨rfl,trivial,⟨_,_,_,_,_,rfl,rfl,rfl,rfl,rfl,⟨rfl,rfl,trivial⟩⟩,trivial⟩,trivial⟩ rfl rfl ?_;with_reducible refine wK ?_
   (refine eK ?_ ?_<;>with_reducible repeat' (first|exact trivial|(show _∧_;refine aK ?_ ?_)))
   all_goals rfl
end Go.Proofs.Heir
namespace Go.Proofs.Heir
open Go Go.Am Go.RowKit Go.Shelf
set_option maxRecDepth 100000
set_option maxHeartbeats 8000000
theorem ints_box {Wn:Nat→Prop}{μ:Mu}{W:World}{l:List Int}{b o:Nat}(h:Rep Wn μ W (.fptr (.sl 1 (l.map oInt)) 0) (.pointer (some ⟨b,o,none⟩))):
  ∃ad cap,W.cell? ⟨b,o,none⟩=some (.slice ad l.length cap)∧l.length≤cap∧∀ (j:Nat) (x:Int),l[j]? =some x→∃b2 o2,ad=some ⟨b2,o2,none⟩∧W.cell? ⟨b2,o2+j,none⟩=some (.int .i64 x):=by
 generalize hv:Value.pointer (some ⟨b,o,none⟩)=v at h
 cases h with
 | @fptr _ _ b' o' f h1 h2 h3 h4 h5=>
   cases hv
   have k3:=h3 0 _ rfl
   have k4:=h4 0 _ rfl
   rw[Nat.add_zero] at k3
   rw[Nat.add_zero,k3]
   generalize f 0=s at k4
   cases hl:l with
   | nil=>
     subst hl
     cases k4 with
     |slNil=>exact⟨_,_,rfl,Nat.zero_le _,fun j x h=>by simp at h⟩
     |sl a1 a2 a3 a4 a5 a6 a7 a8=>subst a3;exact⟨_,_,rfl,Nat.zero_le _,fun j x h=>by simp at h⟩
   | cons y r=>
     rw[←hl]
     generalize hrows:l.map oInt=rows at k4
     have hne:rows≠ []:=by rw[←hrows,hl];simp
     cases k4 with
     |slNil=>exact absurd rfl hne
     | sl a1 a2 a3 a4 a5 a6 a7 a8=>
       subst a3
       have hlen:rows.length=l.length:=by rw[←hrows];simp
       refine⟨_,_,by rw[hlen],by rw[←hlen];exact a4,fun j x hx=>⟨_,_,rfl,?_⟩⟩
       have hr:rows[j]? =some (oInt x):=by rw[←hrows,List.getElem?_map,hx];rfl
       have hq:=flat_get (wd:=1) (fun i r hr=>a5 i r hr) hr (show(cells (oInt x))[0]? =some (oInt x) from rfl)
       rw[Nat.mul_one,Nat.add_zero] at hq
       have c1:=a6 j _ hq
       have c2:=a7 j _ hq
       have one:∀v,Rep Wn μ W (oInt x) v→v=.int .i64 x:=by intro v hv;unfold oInt at hv;cases hv;rfl
       rw[c1,one _ c2]
theorem back_it (l:List Int)(hl:l.length≤100000):ItOK Tryz.prog 283 [.fptr (.sl 1 (l.map oInt)) 0] l.length (fun k=>[oInt ((l.length:Int)-1-k),oInt ((l.reverse[k]?).getD 0)]):=by
 intro vals y J Jx hJ hJm hJxm _ hY Wn w h0
 obtain⟨⟨μ,hr⟩,_⟩:=hJ 0 Wn w h0
 obtain⟨vb,us,rfl,hvb,hus⟩:=RepL.uncons hr
 obtain rfl:=RepL.unnil hus
 obtain⟨b,o,rfl⟩:∃b o,vb=.pointer (some ⟨b,o,none⟩):=by cases hvb;exact⟨_,_,rfl⟩
 have box:∀k Wn W,J k Wn W→∃ad cap,W.cell? ⟨b,o,none⟩=some (.slice ad l.length cap)∧l.length≤cap∧∀ (j:Nat) (x:Int),l[j]? =some x→∃b2 o2,ad=some ⟨b2,o2,none⟩∧W.cell? ⟨b2,o2+j,none⟩=some (.int .i64 x):=by
  intro k Wn W hJk
  obtain⟨⟨μ,hr⟩,_⟩:=hJ k Wn W hJk
  obtain⟨v1,us,e,hv1,_⟩:=RepL.uncons hr
  cases e
  exact ints_box hv1
 refine(callsIn_wide (n:=1)).1 ?_
 refine callsIn_of_wp Tryz.func283 rfl trivial ?_ rfl
 simp only[Tryz.ntmps283,List.size_toArray,List.length_cons,List.length_nil,Nat.reduceAdd,Nat.reduceSub,Array.replicate_succ,Array.replicate_zero,List.push_toArray,List.append_toArray,List.nil_append,List.cons_append]
 obtain⟨ad,cap,hbx,hcap,hel⟩:=box 0 Wn w h0
 gi_wp2
 gi_loopw [3] (fun i wr=> ∃k:Nat,k≤l.length∧i=.int .i64 ((l.length:Int)-1-k)∧∃Wn,J k Wn wr) (fun i _=>(intOf i+1).toNat)
 case atStart=>exact⟨0,Nat.zero_le _,by simp,Wn,h0⟩
 case round=>
  obtain⟨k,hk,rfl,Wn',hJk⟩:=hrel
  obtain⟨ad',cap',hbx',hcap',hel'⟩:=box k Wn' wr hJk
  by_cases hlt:k<l.length
  ·have hix:l.length-1-k<l.length:=by omega
   obtain⟨b2,o2,rfl,hcx⟩:=hel' (l.length-1-k) l[l.length-1-k] (List.getElem?_eq_getElem hix)
   have hrev:(l.reverse[k]?).getD 0=l[l.length-1-k]:=by
    rw[List.getElem?_eq_getElem (by simpa using hlt)];simp
   obtain⟨fn,tmps,assign,body,hy,hR⟩:=hY k Wn' wr [.int .i64 ((l.length:Int)-1-k),.int .i64 (l[l.length-1-k])] hlt hJk (fun _ _ _=>by rw[hrev];exact .cons .lit (.cons .lit .nil))
   have hz:((l.length:Int)-1-k).toNat=l.length-1-k:=by omega
   gi_wp2
   refine hR.mono ?_
   rintro e W3 (⟨rfl,Wn3,hJ3,_⟩|⟨rfl,hJx3⟩)
   ·gi_wp2
    go_roundw
    case rel=>exact⟨k+1,by omega,by congr 1;omega,Wn3,hJ3⟩
    case measure=>simp[intOf];omega
   ·gi_wp2
    refine bodyPost_ret (results_none rfl _ _ _) rfl ?_
    exact⟨⟨_,rfl⟩,.inr hJx3⟩
  ·obtain rfl:k=l.length:=by omega
   gi_wp2
   go_end0
   exact⟨⟨_,rfl⟩,.inl ⟨_,hJk⟩⟩
end Go.Proofs.Heir
namespace Go.Proofs.Heir
open Go Go.Am Go.RowKit Go.Lib
set_option maxRecDepth 100000
set_option maxHeartbeats 8000000
theorem f259_ok (f:ForM)(n:Int):FnOK Tryz.prog 259 [] [eInt n,.fptr (eFor f) 0] [] (eBool (!thereN f.nodes n)):=by
 obtain⟨l,m⟩:=f
 have hlm:(l.map oNode).length=l.length:=List.length_map ..
 refine FnOK.startC (rvs:=[.tmp 3]) G G_good Tryz.func259 rfl Tryz.ntmps259 rfl rfl ?_;with_reducible refine wD ?_
 repeat' (first
  |refine pK ?_|refine aE ?_ ?_
  | ((first
   |((with_reducible show IfK _ _ _ _);(refine IfK.mk (fun hp=>?_) (fun hp=>?_)<;>(try simp only[castN,decide_eq_true_eq,decide_eq_false_iff_not,Bool.not_eq_true',Bool.not_eq_false',Decidable.not_not,Int.not_lt,Int.not_le] at hp))))<;>with_reducible refine wK ?_)
  |apply trivial)
 ·unfold thereN;rw[decide_eq_false (show ¬0≤n by omega)];rfl
 ·unfold thereN;rw[decide_eq_true hp,hlm,Bool.true_and,←decide_not]
  exact decide_eq_decide.2 Int.not_lt
theorem f235_ok (f:ForM)(hs:SmallN f.nodes)(l:List Int)(hl:l.length≤100000):FnOK Tryz.prog 235 [] [eFor f,eInts l] [] (eBool (rightF f&& !decide (0≤idxI (fun n=> !thereN f.nodes n) l))):=by
 have h48:=f100_ok f hs
 have h106:=f260_ok 259 c259 [.fptr (eFor f) 0] rfl (fun n=> !thereN f.nodes n) l hl (fun a _=>f259_ok f a)
 obtain⟨ns,m⟩:=f
 simp only at h48 h106 ⊢
 refine FnOK.startC (rvs:=[.tmp 4]) G G_good Tryz.func235 rfl Tryz.ntmps235 rfl rfl ?_;with_reducible refine wD ?_
 refine cL h48 c100 ?_;with_reducible refine wK ?_
 cases h0:rightF ⟨ns,m⟩ with
 | false=>
   repeat' (first
  |refine gK ?_|refine aE ?_ ?_
  | apply trivial)
   all_goals rfl
 | true=>
   repeat' (first
  |refine gK ?_|refine aE ?_ ?_
  | apply trivial)
   refine CallK.lit [20] h106 c260 ⟨rfl,⟨rfl,trivial,⟨_,_,_,_,_,rfl,rfl,rfl,rfl,rfl,⟨rfl,rfl,trivial⟩⟩,trivial⟩,trivial⟩ rfl rfl ?_;with_reducible refine wK ?_
   repeat' (first
  |refine gK ?_|refine aE ?_ ?_
  | apply trivial)
   all_goals rfl
theorem f276_ok (l:List Int):FnOK Tryz.prog 276 [] [eInts l] [] (.clo (.func 283) [] [.fptr (eInts l) 0]):=by
 refine FnOK.startC (rvs:=[.tmp 2]) G G_good Tryz.func276 rfl Tryz.ntmps276 rfl rfl ?_;with_reducible refine wD ?_
 refine⟨⟨rfl,rfl⟩,⟨rfl,trivial,⟨_,_,_,_,_,rfl,rfl,rfl,rfl,rfl,rfl⟩,trivial⟩,?_⟩
 exact trivial

end Go.Proofs.Heir
namespace Go.Proofs.Heir
open Go Go.Am Go.RowKit Go.Shelf
set_option maxRecDepth 100000
set_option maxHeartbeats 8000000

theorem FnOK.at {P:Program}{f:FuncId}{args:List AV}{vs:List Value}{res:AV}{w:World}{Wn:Nat→Prop}{μ:Mu}(h:FnOK P f [] args [] res)(ha:noRefL args=true)(hr:noRef res=true)(hv:RepL Wn μ w args vs)(hlt:∀b,Wn b→b<w.heap.size)(ht:Tabs P w fun _=>none):
  Calls P f vs.toArray w fun e w'=> ∃v μ',e=.returned v∧More w w'∧Rep Wn μ' w' res v:=by
 have hW:∀b,Wr Wn (fun _=>none) (objsOf []) b→Wn b:=by
  rintro b (h|⟨t,B,wd,rows,_,h,_⟩)
  ·exact h
  ·cases h
 have hs:Sim P 0 w Wn (fun _=>none) (fun _=>none) (bare []) noAct w:=by
  refine⟨rfl,.nil,rfl,rfl,rfl,Nat.le_refl _,fun _ _ _ h=>h,fun _ _ _=>rfl,hlt,fun _ _ _ h=>h,fun t=>by simp[bare,objsOf],fun _=>.any,fun t wd rows ro h=>?_,fun t t' wd rows wd' rows' ro' B B' _ h=>?_,fun t wd rows ro B h=>?_,ht⟩<;>simp[bare,objsOf] at h
 refine(h w Wn (fun _=>none) vs (fun _ _=>rfl) hs ?_).mono ?_
 ·exact⟨hv.1,fun j c v hc hv'=>(hv.2 j c v hc hv').noRef (fun b _ hb=>hW b hb) (noRefL_iff.1 ha c (List.mem_of_getElem? hc))⟩
 rintro e w' ⟨v,μ',rfl,hs',hv'⟩
 refine⟨v,μ',rfl,⟨hs'.os,hs'.tape,hs'.output,hs'.hsize,fun b hb=>hs'.keep b hb ?_⟩,hv'.noRef (fun b _ hb=>.inl hb) hr⟩
 rintro⟨t,B,h,_⟩
 cases h
theorem sl_val {Wn:Nat→Prop}{μ:Mu}{W:World}{wd:Nat}{rows:List AV}{v:Value}(h:Rep Wn μ W (.sl wd rows) v):∃a n c,v=.slice a n c:=by
 cases h<;>exact⟨_,_,_,rfl⟩
end Go.Proofs.Heir
namespace Go.Proofs.Heir
open Go Go.Am Go.RowKit Go.Lib
set_option maxRecDepth 100000
set_option maxHeartbeats 8000000
structure DefM where
 name:ByteArray
 locl:ByteArray
 cls:Int
 deriving DecidableEq
structure WaitM where
 name:ByteArray
 ticket:Int
 deriving DecidableEq
structure DeskM where
 defs:List DefM
 waits:List WaitM
 next:Int
 busy:Bool
 deriving DecidableEq
def knowS (s:ByteArray):Bool:=hasW knowL s
def localB (x:DefM):Bool:=decide (x.locl=x.name)||knowS x.locl
def goodD (x:DefM):Bool:=customS x.name&&localB x&&decide (0≤x.cls)&&decide (x.cls<12)
def hasN (s:ByteArray)(x:DefM):Bool:=decide (x.name=s)
def hasC (c:Int)(x:DefM):Bool:=decide (x.cls=c)
def ixI {α:Type}(p:α→Bool)(l:List α):Int:=match l.findIdx? p with
 |some k=>(k:Int)
 |none=> -1
def posN (l:List DefM)(s:ByteArray):Int:=ixI (hasN s) l
def posC (l:List DefM)(c:Int):Int:=ixI (hasC c) l
def okW (l:List DefM)(next:Int)(w:WaitM)(last:Int):Bool:=customS w.name&&decide (posN l w.name=-1)&&decide (last<w.ticket)&&decide (w.ticket<next)
def waitsB (l:List DefM)(next:Int):Int→List WaitM→Bool
 |_,[]=>true
 |last,w::r=>okW l next w last&&waitsB l next w.ticket r
def defsB (l:List DefM):Bool:=l.all goodD&&decide ((l.map DefM.name).Nodup)&&decide ((l.map DefM.cls).Nodup)
def rightD (d:DeskM):Bool:=defsB d.defs&&waitsB d.defs d.next (-1) d.waits&&decide (0≤d.next)&&decide (d.next≤100000)
theorem ixI_cases {α:Type}(p:α→Bool)(l:List α):(ixI p l=-1∧∀a∈l,p a=false)∨∃ (k:Nat) (a:α),ixI p l=k∧l[k]? =some a∧p a=true∧∀ (j:Nat) (b:α),j<k→l[j]? =some b→p b=false:=by
 unfold ixI
 cases h:l.findIdx? p with
 |none=>exact .inl ⟨rfl,by simpa using h⟩
 | some k=>
   rw[List.findIdx?_eq_some_iff_getElem] at h
   obtain⟨hk,h1,h2⟩:=h
   refine .inr ⟨k,l[k],rfl,List.getElem?_eq_getElem hk,h1,fun j b hj hb=>?_⟩
   obtain⟨hjl,rfl⟩:=List.getElem?_eq_some_iff.1 hb
   simpa using h2 j hj
theorem ixI_neg {α:Type}{p:α→Bool}{l:List α}(h:ixI p l=-1):∀a∈l,p a=false:=by
 rcases ixI_cases p l with⟨_,h1⟩|⟨j,b,h1,_⟩
 ·exact h1
 ·omega
theorem nodup_ix {α β:Type}[DecidableEq β]{f:α→β}{l:List α}(h:(l.map f).Nodup){i j:Nat}{a b:α}(ha:l[i]? =some a)(hb:l[j]? =some b)(e:f a=f b):i=j:=by
 have h1:(l.map f)[i]? =some (f a):=by rw[List.getElem?_map,ha];rfl
 have h2:(l.map f)[j]? =some (f b):=by rw[List.getElem?_map,hb];rfl
 exact(List.getElem?_inj (List.getElem?_eq_some_iff.1 h1).1 h).1 (by rw[h1,h2,e])
theorem defsB_iff {l:List DefM}:defsB l=true↔ (∀x∈l,goodD x=true)∧(l.map DefM.name).Nodup∧(l.map DefM.cls).Nodup:=by
 unfold defsB;simp[List.all_eq_true,and_assoc]
def fitL (a b:ByteArray)(x:DefM):Bool:=decide (x.locl=a)&&decide (x.name=b)
def findR (l:List DefM)(a b:ByteArray):Int:=if 0≤ixI (fitL a a) l then ixI (fitL a a) l else ixI (fitL a b) l
def findD (d:DeskM)(a b:ByteArray):Int:=if rightD d then findR d.defs a b else-1
def classedD (d:DeskM)(c:Int):Int:=if rightD d then posC d.defs c else-1
theorem rightD_iff {d:DeskM}:rightD d=true↔defsB d.defs=true∧waitsB d.defs d.next (-1) d.waits=true∧0≤d.next∧d.next≤100000:=by
 unfold rightD;simp[and_assoc]
def fitsB (a b:ByteArray)(x:DefM):Bool:=decide (x.locl=a)&&(decide (x.name=a)||decide (x.name=b))
theorem fitsB_iff {a b:ByteArray}{x:DefM}:fitsB a b x=true↔x.locl=a∧(x.name=a∨x.name=b):=by unfold fitsB;simp
theorem goodD_facts {x:DefM}(h:goodD x=true):customS x.name=true∧(x.locl=x.name∨knowS x.locl=true)∧0≤x.cls∧x.cls<12:=by
 unfold goodD localB at h;simp only[Bool.and_eq_true,Bool.or_eq_true,decide_eq_true_eq] at h
 exact⟨h.1.1.1,h.1.1.2,h.1.2,h.2⟩
theorem know_no {s:ByteArray}(h:customS s=true):knowS s=false:=by
 cases hk:knowS s with
 |false=>rfl
 |true=>rw[know_uncustom hk] at h;cases h
theorem fit_uniq {l:List DefM}(h:defsB l=true){i j:Nat}{x y:DefM}{a b:ByteArray}(hx:l[i]? =some x)(hy:l[j]? =some y)(fx:fitsB a b x=true)(fy:fitsB a b y=true):i=j:=by
 obtain⟨h1,h2,h3⟩:=defsB_iff.1 h
 obtain⟨x1,x2,_⟩:=goodD_facts (h1 x (List.mem_of_getElem? hx))
 obtain⟨y1,y2,_⟩:=goodD_facts (h1 y (List.mem_of_getElem? hy))
 obtain⟨p1,p2⟩:=fitsB_iff.1 fx
 obtain⟨q1,q2⟩:=fitsB_iff.1 fy
 by_cases e:x.name=y.name
 ·exact nodup_ix h2 hx hy e
 ·exfalso
  have ka:knowS a=true:=by
   rcases x2 with x2|x2
   ·rcases y2 with y2|y2
    ·exact absurd (by rw[←x2,←y2,p1,q1]) e
    ·rwa [q1] at y2
   ·rwa [p1] at x2
  rcases p2 with p2|p2
  ·rw[p2] at x1;rw[know_no x1] at ka;cases ka
  ·rcases q2 with q2|q2
   ·rw[q2] at y1;rw[know_no y1] at ka;cases ka
   ·exact e (by rw[p2,q2])
theorem findR_cases (l:List DefM)(a b:ByteArray):(findR l a b=-1∧∀x∈l,fitsB a b x=false)∨∃ (k:Nat) (x:DefM),findR l a b=k∧l[k]? =some x∧fitsB a b x=true:=by
 unfold findR
 rcases ixI_cases (fitL a a) l with⟨h1,h2⟩|⟨k,x,h1,h2,h3,_⟩
 ·rw[h1,if_neg (by omega)]
  rcases ixI_cases (fitL a b) l with⟨g1,g2⟩|⟨k,x,g1,g2,g3,_⟩
  ·refine .inl ⟨g1,fun x hx=>?_⟩
   have u1:=h2 x hx
   have u2:=g2 x hx
   unfold fitL at u1 u2
   unfold fitsB
   cases e:decide (x.locl=a) with
   |false=>rfl
   |true=>rw[e] at u1 u2;simp only[Bool.true_and] at u1 u2;rw[u1,u2];rfl
  ·refine .inr ⟨k,x,g1,g2,?_⟩
   unfold fitL at g3;unfold fitsB
   simp only[Bool.and_eq_true] at g3 ⊢
   exact⟨g3.1,by rw[g3.2];simp⟩
 ·rw[h1,if_pos (by omega)]
  refine .inr ⟨k,x,rfl,h2,?_⟩
  unfold fitL at h3;unfold fitsB
  simp only[Bool.and_eq_true] at h3 ⊢
  exact⟨h3.1,by rw[h3.2];rfl⟩
theorem findR_at {l:List DefM}(h:defsB l=true){k:Nat}{x:DefM}{a b:ByteArray}(hx:l[k]? =some x)(hf:fitsB a b x=true):findR l a b=k:=by
 rcases findR_cases l a b with⟨_,h2⟩|⟨j,y,h1,h2,h3⟩
 ·rw[h2 x (List.mem_of_getElem? hx)] at hf;cases hf
 ·rw[h1,fit_uniq h h2 hx h3 hf]
theorem posN_no {l:List DefM}{s:ByteArray}(h:posN l s=-1):∀x∈l,x.name≠s:=fun x hx=>by
 have:=ixI_neg h x hx
 unfold hasN at this
 exact of_decide_eq_false this
def xk (k:Nat):ByteArray:=⟨#[120,45,UInt8.ofNat (97+k)]⟩
structure TellInv (d:DeskM) (i:Nat):Prop where
 right:rightD d=true
 busy:d.busy=false
 names:∀w∈d.waits,∃k<6,w.name=xk k
 next:d.next≤i
theorem TellInv.first:TellInv ⟨[],[],0,false⟩ 0:=⟨by decide,rfl,fun w h=>by simp at h,by decide⟩
section
variable {K : Type} [DecidableEq K] (key : DefM → K)
def ixFrom (i:Nat)(t:List (K×Int)):List DefM→List (K×Int)
 |[]=>t
 |x::r=>ixFrom (i+1) (tput (key x) (i:Int) t) r
def ixT (l:List DefM):List (K×Int):=ixFrom key 0 [] l
theorem ixFrom_snoc (x:DefM):∀ (l:List DefM) (i:Nat) (t:List (K×Int)),ixFrom key i t (l++ [x])=tput (key x) ((i+l.length:Nat):Int) (ixFrom key i t l)
 |[],i,t=>rfl
 | y::r,i,t=>by
   rw[List.cons_append,ixFrom,ixFrom_snoc x r,ixFrom,List.length_cons]
   congr 2
   omega
theorem ixT_snoc {l:List DefM}{k:Nat}{x:DefM}(h:l[k]? =some x):ixT key (l.take (k+1))=tput (key x) (k:Int) (ixT key (l.take k)):=by
 have hk:=(List.getElem?_eq_some_iff.1 h).1
 rw[List.take_succ_eq_append_getElem hk,(List.getElem?_eq_some_iff.1 h).2]
 unfold ixT
 rw[ixFrom_snoc,List.length_take]
 congr 2
 omega
theorem tputI_len (k:K)(x:Int):∀t:List (K×Int),(tput k x t).length=if(tget k t).isSome then t.length else t.length+1
 |[]=>rfl
 | p::r=>by
   simp only[tput,tget]
   split
   ·simp
   ·rw[List.length_cons,tputI_len k x r];split<;>simp
theorem ixFrom_len:∀ (l:List DefM) (i:Nat) (t:List (K×Int)),(ixFrom key i t l).length≤t.length+l.length∧((ixFrom key i t l).length=t.length+l.length↔ (l.map key).Nodup∧∀a∈l,(tget (key a) t).isSome=false)
 |[],i,t=>by simp[ixFrom]
 | a :: r,i,t=>by
   obtain⟨h1,h2⟩:=ixFrom_len r (i+1) (tput (key a) (i:Int) t)
   have hl:=tputI_len (key a) (i:Int) t
   show(ixFrom key (i+1) (tput (key a) (i:Int) t) r).length≤_∧((ixFrom key (i+1) (tput (key a) (i:Int) t) r).length=_↔_)
   cases hg:(tget (key a) t).isSome with
   | true=>
     rw[hg,if_pos rfl] at hl
     refine⟨by simp only[List.length_cons];omega,⟨fun h=>?_,fun h=>?_⟩⟩
     ·simp only[List.length_cons] at h;omega
     ·have:=h.2 a (by simp);rw[hg] at this;cases this
   | false=>
     rw[hg,if_neg (by simp)] at hl
     refine⟨by simp only[List.length_cons];omega,?_⟩
     rw[show(ixFrom key (i+1) (tput (key a) (i:Int) t) r).length=t.length+ (a::r).length↔ (ixFrom key (i+1) (tput (key a) (i:Int) t) r).length=(tput (key a) (i:Int) t).length+r.length from by rw[hl,List.length_cons];omega,h2]
     simp only[List.map_cons,List.nodup_cons,List.mem_cons,forall_eq_or_imp]
     constructor
     ·rintro⟨k1,k2⟩
      refine⟨⟨fun hm=>?_,k1⟩,hg,fun b hb=>?_⟩
      ·obtain⟨b,hb,he⟩:=List.mem_map.1 hm
       have:=k2 b hb
       rw[tget_put,he,if_pos rfl] at this;cases this
      ·have:=k2 b hb
       rw[tget_put] at this
       split at this
       ·cases this
       ·exact this
     ·rintro⟨⟨k1,k2⟩,_,k3⟩
      refine⟨k2,fun b hb=>?_⟩
      rw[tget_put,if_neg (fun e=>k1 (List.mem_map.2 ⟨b,hb,e.symm⟩))]
      exact k3 b hb
theorem ixT_len (l:List DefM):(ixT key l).length=l.length↔ (l.map key).Nodup:=by
 have:=(ixFrom_len key l 0 []).2
 simp only[List.length_nil,Nat.zero_add] at this
 exact this.trans ⟨fun h=>h.1,fun h=>⟨h,fun _ _=>rfl⟩⟩
theorem ixT_le (l:List DefM):(ixT key l).length≤l.length:=by
 have:=(ixFrom_len key l 0 []).1
 simp only[List.length_nil,Nat.zero_add] at this
 exact this
theorem ixFrom_miss {s:K}:∀ (l:List DefM) (i:Nat) (t:List (K×Int)),(∀a∈l,key a≠s)→tget s (ixFrom key i t l)=tget s t
 |[],i,t,_=>rfl
 | a::r,i,t,h=>by
   rw[ixFrom,ixFrom_miss r (i+1) _ fun b hb=>h b (List.mem_cons_of_mem _ hb),tget_put,if_neg (h a (List.mem_cons_self ..))]
theorem ixFrom_hit {s:K}:∀ (l:List DefM) (i:Nat) (t:List (K×Int)) (j:Nat) (a:DefM),(l.map key).Nodup→l[j]? =some a→key a=s→tget s (ixFrom key i t l)=some ((i+j:Nat):Int)
 |[],i,t,j,a,_,h,_=>by simp at h
 | x::r,i,t,0,a,hn,h,he=>by
   simp at h;subst h
   simp only[List.map_cons,List.nodup_cons] at hn
   rw[ixFrom,ixFrom_miss key r (i+1) _ fun b hb e=>hn.1 (List.mem_map.2 ⟨b,hb,e.trans he.symm⟩),tget_put,if_pos he]
   rfl
 | x::r,i,t,j+1,a,hn,h,he=>by
   simp only[List.map_cons,List.nodup_cons] at hn
   rw[ixFrom,ixFrom_hit r (i+1) _ j a hn.2 (by simpa using h) he]
   congr 1;omega
theorem ixT_miss {l:List DefM}{s:K}(h:∀a∈l,key a≠s):tget s (ixT key l)=none:=ixFrom_miss key l 0 [] h
theorem ixT_hit {l:List DefM}{s:K}{j:Nat}{a:DefM}(hn:(l.map key).Nodup)(h:l[j]? =some a)(he:key a=s):tget s (ixT key l)=some (j:Int):=by
 have:=ixFrom_hit key l 0 [] j a hn h he
 simpa[ixT] using this
end
def kN (x:DefM):ByteArray:=x.name
def kC (x:DefM):Int:=x.cls
theorem tgetN {l:List DefM}(h:(l.map DefM.name).Nodup)(s:ByteArray):(tget s (ixT kN l)=none∧posN l s=-1)∨∃ (k:Nat) (x:DefM),tget s (ixT kN l)=some (k:Int)∧posN l s=k∧l[k]? =some x∧x.name=s:=by
 rcases ixI_cases (hasN s) l with⟨h1,h2⟩|⟨k,x,h1,h2,h3,_⟩
 ·exact .inl ⟨ixT_miss kN fun a ha=>of_decide_eq_false (h2 a ha),h1⟩
 ·have he:x.name=s:=of_decide_eq_true h3
  exact .inr ⟨k,x,ixT_hit kN h h2 he,h1,h2,he⟩
theorem tgetC {l:List DefM}(h:(l.map DefM.cls).Nodup)(s:Int):(tget s (ixT kC l)=none∧posC l s=-1)∨∃ (k:Nat) (x:DefM),tget s (ixT kC l)=some (k:Int)∧posC l s=k∧l[k]? =some x∧x.cls=s:=by
 rcases ixI_cases (hasC s) l with⟨h1,h2⟩|⟨k,x,h1,h2,h3,_⟩
 ·exact .inl ⟨ixT_miss kC fun a ha=>of_decide_eq_false (h2 a ha),h1⟩
 ·have he:x.cls=s:=of_decide_eq_true h3
  exact .inr ⟨k,x,ixT_hit kC h h2 he,h1,h2,he⟩
def procL (l:List DefM):List DefM:=l.take ((l.takeWhile goodD).length+1)
theorem takeW_all {l:List DefM}(h:∀x∈l,goodD x=true):l.takeWhile goodD=l:=by
 induction l with
 |nil=>rfl
 |cons x r ih=>rw[List.takeWhile_cons_of_pos (h x (List.mem_cons_self ..)),ih fun y hy=>h y (List.mem_cons_of_mem _ hy)]
theorem procL_all {l:List DefM}(h:∀x∈l,goodD x=true):procL l=l:=by
 unfold procL
 rw[takeW_all h,List.take_of_length_le (by omega)]
theorem procL_bad {l:List DefM}{k:Nat}{x:DefM}(h:∀ (j:Nat) (y:DefM),j<k→l[j]? =some y→goodD y=true)(hx:l[k]? =some x)(hb:goodD x=false):procL l=l.take (k+1):=by
 unfold procL
 have hk:=(List.getElem?_eq_some_iff.1 hx).1
 have e:l=l.take k++x::l.drop (k+1):=by
  rw[←(List.getElem?_eq_some_iff.1 hx).2,List.getElem_cons_drop,List.take_append_drop]
 have hg:∀y∈l.take k,goodD y=true:=fun y hy=>by
  obtain⟨j,hj⟩:=List.getElem?_of_mem hy
  rw[List.getElem?_take] at hj
  split at hj
  ·rename_i hjk;exact h j y hjk hj
  ·cases hj
 have:(l.takeWhile goodD).length=k:=by
  conv=>lhs;rw[e]
  rw[List.takeWhile_append_of_pos hg,List.takeWhile_cons_of_neg (by simp[hb])]
  simp;omega
 rw[this]
@[reducible] def eDef (x : DefM) : AV := .agg [eStr x.name, eStr x.locl, eInt x.cls]
def oDef (x:DefM):AV:=eDef x
@[reducible] def eDefs (l : List DefM) : AV := .sl 3 (l.map oDef)
@[reducible] def eWait (w : WaitM) : AV := .agg [eStr w.name, eInt w.ticket]
def oWait (w:WaitM):AV:=eWait w
@[reducible] def eWaits (l : List WaitM) : AV := .sl 2 (l.map oWait)
@[reducible] def eDesk (d : DeskM) : AV := .agg [eDefs d.defs, eWaits d.waits, eInt d.next, eBool d.busy]
theorem def_get {l:List DefM}{k:Nat}{x:DefM}(h:l[k]? =some x):(l.map oDef)[k]? =some (eDef x):=by rw[List.getElem?_map,h];rfl
theorem wait_get {l:List WaitM}{k:Nat}{x:WaitM}(h:l[k]? =some x):(l.map oWait)[k]? =some (eWait x):=by rw[List.getElem?_map,h];rfl
@[reducible] def rN (l : List DefM) : MS := .live 2 (tRows Value.string oInt (ixT kN l)) false
@[reducible] def rC (l : List DefM) : MS := .live 2 (tRows vInt oInt (ixT kC l)) false
theorem noRef_tab {K:Type}(kv:K→Value)(t:List (K×Int)):noRefL (tRows kv oInt t)=true:=by
 rw[noRefL_iff];intro x hx
 obtain⟨a,_,rfl⟩:=List.mem_map.1 hx
 rfl
theorem map62:MapTy Tryz.prog 183 .string (.int .i64 0):=⟨9,3,by kernel_rfl,by kernel_rfl,fun w=>Tryz.zeroValue3 w⟩
theorem map63:MapTy Tryz.prog 184 (.int .i64) (.int .i64 0):=⟨3,3,by kernel_rfl,by kernel_rfl,fun w=>Tryz.zeroValue3 w⟩
theorem f109_at {s:ByteArray}{b:Bool}(h:customS s=b):FnOK Tryz.prog 109 [] [eStr s] [] (eBool b):=by have:=f109_ok s;rwa [h] at this
theorem f238_at {s:ByteArray}{b:Bool}(h:knowS s=b):FnOK Tryz.prog 238 [] [eStr s] [] (eBool b):=by have:=f238_ok s;unfold knowS at h;rwa [h] at this
theorem f190_ok (d:DeskM)(hl:d.defs.length≤100000):FnOK Tryz.prog 190 [] [eDesk d] [rN (procL d.defs),rC (procL d.defs)] (.tup [.agg [.mapr 0,.mapr 1],eBool (defsB d.defs)]):=by
 obtain⟨l,ws,nx,bz⟩:=d
 have hlm:(l.map oDef).length=l.length:=List.length_map ..
 refine FnOK.startC (rvs:=[.cell 2 186,.tmp 3]) G G_good Tryz.func190 rfl Tryz.ntmps190 rfl rfl ?_;with_reducible refine wD ?_
 have hl':l.length≤100000:=hl
 refine LoopK.use G G_good (fun(k:Nat)=>[(1,.ptr 10 0 0),(2,.ptr 20 0 0),(4,.ptr 40 0 0),(12,eDefs l),(13,eInt l.length),(14,eInt k)])
  (fun k=>[(10,.live 4 [eDesk ⟨l,ws,nx,bz⟩] false),(20,.live 2 [.agg [.lit (.map none),.lit (.map none)]] false),(40,.live 2 [.agg [.mapr 81,.mapr 91]] false),(81,rN (l.take k)),(91,rC (l.take k))])
  (fun k=>k≤l.length∧∀ (j:Nat) (y:DefM),j<k→l[j]? =some y→goodD y=true) (fun k=>l.length-k) 0 ⟨Nat.zero_le _,fun j y h=>by omega⟩
  ⟨⟨rfl,rfl⟩,⟨⟨rfl,rfl⟩,⟨rfl,rfl⟩,⟨rfl,rfl⟩,rfl,by show(l.length:Int)=((l.map oDef).length:Int);rw[hlm],rfl,trivial⟩,⟨⟨rfl,rfl,rfl,rfl,trivial⟩,trivial⟩,⟨⟨⟨rfl,rfl⟩,⟨rfl,rfl⟩,trivial⟩,trivial⟩,⟨⟨trivial,trivial,trivial⟩,trivial⟩,⟨.refl rfl,rfl⟩,⟨.refl rfl,rfl⟩,trivial⟩ ?_
 intro k ⟨hk,hok⟩
 with_reducible refine wK ?_
 refine IfK.mk (fun h1=>?_) (fun h1=>?_)<;>(try simp only[castN] at h1)<;>with_reducible refine wK ?_
 ·simp only[decide_eq_true_eq] at h1
  have hk':k<l.length:=by omega
  obtain⟨⟨n,lo,c⟩,hx⟩:∃a,l[k]? =some a:=⟨_,List.getElem?_eq_getElem hk'⟩
  refine IdxK.mk k (eDef ⟨n,lo,c⟩) rfl (def_get hx) ?_;with_reducible refine wK ?_
  have hle1:(ixT kN (l.take k)).length≤k:=Nat.le_trans (ixT_le _ _) (by simp;omega)
  have hle2:(ixT kC (l.take k)).length≤k:=Nat.le_trans (ixT_le _ _) (by simp;omega)
  refine PutK.tab Value.string oInt (ixT kN (l.take k)) (k:=n) (k:Int) map62 rfl key_str inj_str (by unfold maxLen;omega) rfl ?_;with_reducible refine wK ?_
  refine PutK.tab vInt oInt (ixT kC (l.take k)) (k:=c) (k:Int) map63 rfl key_int inj_int (by unfold maxLen;omega) rfl ?_;with_reducible refine wK ?_
  have e1:tput n (k:Int) (ixT kN (l.take k))=ixT kN (l.take (k+1)):=(ixT_snoc kN hx).symm
  have e2:tput c (k:Int) (ixT kC (l.take k))=ixT kC (l.take (k+1)):=(ixT_snoc kC hx).symm
  rw[e1,e2]
  refine dK ?_;with_reducible refine wK ?_
  cases hg:goodD ⟨n,lo,c⟩ with
  | true=>
    obtain⟨g1,g2,g3,g4⟩:=goodD_facts hg
    simp only at g1 g2 g3 g4
    have hnext:∀ (j:Nat) (y:DefM),j<k+1→l[j]? =some y→goodD y=true:=fun j y hj hy=>by
     by_cases e:j=k
     ·subst e;rw[hx] at hy;cases hy;exact hg
     ·exact hok j y (by omega) hy
    by_cases e:lo=n
    ·(have fct:=And.intro e (And.intro g1 (And.intro g3 (g4)));(repeat' (first
  |refine gF ?_|refine aE ?_ ?_
  | ((first
   |((with_reducible refine kQ 109 ?_);refine cL (f109_at g1) c109 ?_)
   |((with_reducible show NextK _ _);refine NextK.mk (k+1) ⟨by omega,hnext⟩ (by omega) ⟨⟨rfl,rfl⟩,⟨⟨rfl,rfl⟩,⟨rfl,rfl⟩,⟨rfl,rfl⟩,rfl,rfl,by show((k+1:Nat):Int)=(k:Int)+1;omega,trivial⟩,⟨⟨rfl,rfl,rfl,rfl,trivial⟩,trivial⟩,⟨⟨⟨rfl,rfl⟩,⟨rfl,rfl⟩,trivial⟩,trivial⟩,⟨⟨trivial,trivial,trivial⟩,trivial⟩,⟨.refl (noRef_tab _ _),noRef_tab _ _⟩,⟨.refl (noRef_tab _ _),noRef_tab _ _⟩,trivial⟩))<;>with_reducible refine wK ?_)
  | apply trivial));all_goals clear fct)
    ·have g2':=g2.resolve_left e
     (have fct:=And.intro e (And.intro g1 (And.intro g2' (And.intro g3 (g4))));(repeat' (first
  |refine gF ?_|refine aE ?_ ?_
  | ((first
   |((with_reducible refine kQ 109 ?_);refine cL (f109_at g1) c109 ?_)
   |((with_reducible refine kQ 238 ?_);refine cL (f238_at g2') c238 ?_)
   |((with_reducible show NextK _ _);refine NextK.mk (k+1) ⟨by omega,hnext⟩ (by omega) ⟨⟨rfl,rfl⟩,⟨⟨rfl,rfl⟩,⟨rfl,rfl⟩,⟨rfl,rfl⟩,rfl,rfl,by show((k+1:Nat):Int)=(k:Int)+1;omega,trivial⟩,⟨⟨rfl,rfl,rfl,rfl,trivial⟩,trivial⟩,⟨⟨⟨rfl,rfl⟩,⟨rfl,rfl⟩,trivial⟩,trivial⟩,⟨⟨trivial,trivial,trivial⟩,trivial⟩,⟨.refl (noRef_tab _ _),noRef_tab _ _⟩,⟨.refl (noRef_tab _ _),noRef_tab _ _⟩,trivial⟩))<;>with_reducible refine wK ?_)
  |apply trivial));all_goals clear fct)
  | false=>
    have hpr:procL l=l.take (k+1):=procL_bad hok hx hg
    have hdb:defsB l=false:=by
     cases h:defsB l with
     |false=>rfl
     |true=>rw[(defsB_iff.1 h).1 _ (List.mem_of_getElem? hx)] at hg;cases hg
    have hgood:∀ {p:Prop},(customS n=true∧(lo=n∨knowS lo=true)∧0≤c∧c<12)→p:=fun h=>by
     exfalso
     have:goodD ⟨n,lo,c⟩=true:=by
      obtain⟨a1,a2,a3,a4⟩:=h
      unfold goodD localB
      simp only[a1,a3,a4,decide_true,Bool.and_true,Bool.true_and]
      rcases a2 with a2|a2
      ·rw[decide_eq_true a2];rfl
      ·rw[a2];simp
     rw[hg] at this;cases this
    rw[hpr,hdb]
    by_cases e:lo=n
    ·cases hc:customS n with
     |false=>((have fct:=e;(repeat' (first
  |refine gF ?_|refine aE ?_ ?_
  |(((with_reducible refine kQ 109 ?_);refine cL (f109_at hc) c109 ?_)<;>with_reducible refine wK ?_)
  |apply trivial));all_goals clear fct))<;>first|exact MFL_refl (noRef_tab _ _)|exact⟨.refl (noRef_tab _ _),noRef_tab _ _⟩|rfl
     | true=>
       by_cases h3:c<0
       ·((have fct:=And.intro e (h3);(repeat' (first
  |refine gF ?_|refine aE ?_ ?_
  |(((with_reducible refine kQ 109 ?_);refine cL (f109_at hc) c109 ?_)<;>with_reducible refine wK ?_)
  |apply trivial));all_goals clear fct))<;>first|exact MFL_refl (noRef_tab _ _)|exact⟨.refl (noRef_tab _ _),noRef_tab _ _⟩|rfl
       ·by_cases h4:c<12
        ·exact hgood ⟨hc,.inl e,by omega,h4⟩
        ·((have fct:=And.intro e (And.intro h3 (h4));(repeat' (first
  |refine gF ?_|refine aE ?_ ?_
  |(((with_reducible refine kQ 109 ?_);refine cL (f109_at hc) c109 ?_)<;>with_reducible refine wK ?_)
  | apply trivial));all_goals clear fct))<;>first|exact MFL_refl (noRef_tab _ _)|exact⟨.refl (noRef_tab _ _),noRef_tab _ _⟩|rfl
    ·cases hkn:knowS lo with
     |false=>cases hc:customS n<;>((have fct:=e;(repeat' (first
  |refine gF ?_|refine aE ?_ ?_
  | ((first
   |((with_reducible refine kQ 109 ?_);refine cL (f109_at hc) c109 ?_)
   |((with_reducible refine kQ 238 ?_);refine cL (f238_at hkn) c238 ?_))<;>with_reducible refine wK ?_)
  |apply trivial))                          ;all_goals clear fct))<;>first|exact MFL_refl (noRef_tab _ _)|exact⟨.refl (noRef_tab _ _),noRef_tab _ _⟩|rfl
     | true=>
       cases hc:customS n with
       |false=>((have fct:=e;(repeat' (first
  |refine gF ?_|refine aE ?_ ?_
  | ((first
   |((with_reducible refine kQ 109 ?_);refine cL (f109_at hc) c109 ?_)
   |((with_reducible refine kQ 238 ?_);refine cL (f238_at hkn) c238 ?_))<;>with_reducible refine wK ?_)
  |apply  trivial));all_goals clear fct))<;>first|exact MFL_refl (noRef_tab _ _)|exact⟨.refl (noRef_tab _ _),noRef_tab _ _⟩|rfl
       | true=>
         by_cases h3:c<0
         ·((have fct:=And.intro e (h3);(repeat' (first
  |refine gF ?_|refine aE ?_ ?_
  | ((first
   |((with_reducible refine kQ 109 ?_);refine cL (f109_at hc) c109 ?_)
   |((with_reducible refine kQ 238 ?_);refine cL (f238_at hkn) c238 ?_))<;>with_reducible refine wK ?_)
  |apply  trivial));all_goals clear fct))<;>first|exact MFL_refl (noRef_tab _ _)|exact⟨.refl (noRef_tab _ _),noRef_tab _ _⟩|rfl
         ·by_cases h4:c<12
          ·exact hgood ⟨hc,.inr hkn,by omega,h4⟩
          ·((have fct:=And.intro e (And.intro h3 (h4));(repeat' (first
  |refine gF ?_|refine aE ?_ ?_
  | ((first
   |((with_reducible refine kQ 109 ?_);refine cL (f109_at hc) c109 ?_)
   |((with_reducible refine kQ 238 ?_);refine cL (f238_at hkn) c238 ?_))<;>with_reducible refine wK ?_)
  |apply trivial));all_goals clear fct))<;>first|exact MFL_refl (noRef_tab _ _)|exact⟨.refl (noRef_tab _ _),noRef_tab _ _⟩|rfl
 ·have hkl:k=l.length:=by simp only[decide_eq_false_iff_not] at h1;omega
  subst hkl
  have hall:∀x∈l,goodD x=true:=fun x hx=>by
   obtain⟨j,hj⟩:=List.getElem?_of_mem hx
   exact hok j x (List.getElem?_eq_some_iff.1 hj).1 hj
  rw[List.take_length,procL_all hall]
  have en:(tRows Value.string oInt (ixT kN l)).length=(ixT kN l).length:=List.length_map ..
  have ec:(tRows vInt oInt (ixT kC l)).length=(ixT kC l).length:=List.length_map ..
  have hn:=ixT_len kN l
  have hc:=ixT_len kC l
  have hd:defsB l=(decide ((l.map DefM.name).Nodup)&&decide ((l.map DefM.cls).Nodup)):=by
   unfold defsB
   rw[List.all_eq_true.2 hall];rfl
  rw[hd]
  by_cases h2:(l.map DefM.name).Nodup
  ·have h2':(ixT kN l).length=l.length:=hn.2 h2
   by_cases h3:(l.map DefM.cls).Nodup
   ·have h3':(ixT kC l).length=l.length:=hc.2 h3
    ((have fct:=And.intro en (And.intro ec (And.intro h2' (And.intro h3' (hlm))));(repeat' (first
  |refine gF ?_|refine aE ?_ ?_
  | ((first
   |((with_reducible show CountK _ _ 183 _ _ _ _);refine CountK.mk map62 ⟨_,_,rfl⟩ rfl ?_)
   |((with_reducible show CountK _ _ 184 _ _ _ _);refine CountK.mk map63 ⟨_,_,rfl⟩ rfl ?_))<;>with_reducible refine wK ?_)
  | apply trivial));all_goals clear fct))<;>first|exact MFL_refl (noRef_tab _ _)|exact⟨.refl (noRef_tab _ _),noRef_tab _ _⟩|rfl|(simp[h2,h3,en,ec,h2',h3'];done)|(simp[h2,h3,en,ec,h2'];simp only[castN];omega)|(simp[h2,h3,en,ec,h2'];exact fun hh=>h3' (Int.ofNat.inj hh))
   ·have h3':(ixT kC l).length≠l.length:=fun h=>h3 (hc.1 h)
    ((have fct:=And.intro en (And.intro ec (And.intro h2' (And.intro h3' (hlm))));(repeat' (first
  |refine gF ?_|refine aE ?_ ?_
  | ((first
   |((with_reducible show CountK _ _ 183 _ _ _ _);refine CountK.mk map62 ⟨_,_,rfl⟩ rfl ?_)
   |((with_reducible show CountK _ _ 184 _ _ _ _);refine CountK.mk map63 ⟨_,_,rfl⟩ rfl ?_))<;>with_reducible refine wK ?_)
  |apply trivial));all_goals clear fct))<;>first|exact MFL_refl (noRef_tab _ _)|exact⟨.refl (noRef_tab _ _),noRef_tab _ _⟩|rfl|(simp[h2,h3,en,ec,h2',h3'];done)|(simp[h2,h3,en,ec,h2'];simp only[castN];omega)|(simp[h2,h3,en,ec,h2'];exact fun hh=>h3' (Int.ofNat.inj hh))
  ·have h2':(ixT kN l).length≠l.length:=fun h=>h2 (hn.1 h)
   ((have fct:=And.intro en (And.intro ec (And.intro h2' (hlm)));(repeat' (first
  |refine gF ?_|refine aE ?_ ?_
  | ((first
   |((with_reducible show CountK _ _ 183 _ _ _ _);refine CountK.mk map62 ⟨_,_,rfl⟩ rfl ?_)
   |((with_reducible show CountK _ _ 184 _ _ _ _);refine CountK.mk map63 ⟨_,_,rfl⟩ rfl ?_))<;>with_reducible refine wK ?_)
  |apply trivial));all_goals clear fct))<;>first|exact MFL_refl (noRef_tab _ _)|exact⟨.refl (noRef_tab _ _),noRef_tab _ _⟩|rfl|(simp[h2,en,h2'];done)
theorem outs_read (l:List DefM):okOuts [rN l,rC l]:=by
 refine⟨Wide.of_mem fun r hr=>?_,noRef_tab _ _,Wide.of_mem fun r hr=>?_,noRef_tab _ _,trivial⟩
 ·obtain⟨p,_,rfl⟩:=List.mem_map.1 hr
  rfl
 ·obtain⟨p,_,rfl⟩:=List.mem_map.1 hr
  rfl
def openI (d:DeskM)(i:Nat×Bool×Int):Prop:=i.1≤d.waits.length∧(i.2.1&&waitsB d.defs d.next i.2.2 (d.waits.drop i.1))=(defsB d.defs&&waitsB d.defs d.next (-1) d.waits)
theorem openI_next {d:DeskM}{k:Nat}{b:Bool}{last:Int}{w:WaitM}(h:openI d (k,b,last))(hw:d.waits[k]? =some w):openI d (k+1,b&&okW d.defs d.next w last,w.ticket):=by
 obtain⟨h1,h2⟩:=h
 have hk:=(List.getElem?_eq_some_iff.1 hw).1
 refine⟨by show k+1≤_;omega,?_⟩
 rw[←h2]
 simp only
 rw[List.drop_eq_getElem_cons hk,(List.getElem?_eq_some_iff.1 hw).2,waitsB,Bool.and_assoc]
theorem tgetP {l:List DefM}(h:defsB l=true)(s:ByteArray):(tget s (ixT kN (procL l))=none∧posN l s=-1)∨∃ (k:Nat) (x:DefM),tget s (ixT kN (procL l))=some (k:Int)∧posN l s=k∧l[k]? =some x∧x.name=s:=by
 obtain⟨h1,h2,_⟩:=defsB_iff.1 h
 rw[procL_all h1];exact tgetN h2 s
theorem tgetQ {l:List DefM}(h:defsB l=true)(s:Int):(tget s (ixT kC (procL l))=none∧posC l s=-1)∨∃ (k:Nat) (x:DefM),tget s (ixT kC (procL l))=some (k:Int)∧posC l s=k∧l[k]? =some x∧x.cls=s:=by
 obtain⟨h1,_,h2⟩:=defsB_iff.1 h
 rw[procL_all h1];exact tgetC h2 s
theorem f122_ok (d:DeskM)(hl:d.defs.length≤100000)(hw:d.waits.length≤100000):FnOK Tryz.prog 122 [] [eDesk d] [rN (procL d.defs),rC (procL d.defs)] (.tup [.agg [.mapr 0,.mapr 1],eBool (rightD d)]):=by
 have hI0:openI d (0,defsB d.defs,-1):=⟨Nat.zero_le _,rfl⟩
 have hI1:=@openI_next d
 have hI2:∀b last,openI d (d.waits.length,b,last)→b=(defsB d.defs&&waitsB d.defs d.next (-1) d.waits):=fun b last h=>by
  have:=h.2
  simp only[List.drop_length] at this
  rw[←this];simp[waitsB]
 have hI3:∀k b last,openI d (k,b,last)→b=true→defsB d.defs=true∨rightD d=false:=fun k b last h hb=>by
  cases hd:defsB d.defs with
  |true=>exact .inl rfl
  |false=>right;unfold rightD;rw[hd];rfl
 have hr44:=f190_ok d hl
 unfold rightD
 obtain⟨l,ws,nx,bz⟩:=d
 have hlm:(ws.map oWait).length=ws.length:=List.length_map ..
 refine FnOK.startC (rvs:=[.cell 2 186,.tmp 3]) G G_good Tryz.func122 rfl Tryz.ntmps122 rfl rfl ?_;with_reducible refine wD ?_
 refine CallK.new 131 [] hr44 c190 ⟨⟨rfl,rfl,rfl,rfl,trivial⟩,trivial⟩ rfl rfl rfl (outs_read _) rfl ?_;with_reducible refine wK ?_
 have hwl:ws.length≤100000:=hw
 refine LoopK.use G G_good (fun(i:Nat×Bool×Int)=>[(1,.ptr 10 0 0),(2,.ptr 20 0 0),(4,.ptr 40 0 0),(5,eBool i.2.1),(6,eInt i.2.2),(17,eWaits ws),(18,eInt ws.length),(19,eInt i.1)])
  (fun _=>[(10,.live 4 [eDesk ⟨l,ws,nx,bz⟩] false),(20,.live 2 [.agg [.lit (.map none),.lit (.map none)]] false),(40,.live 2 [.agg [.mapr 131,.mapr 132]] false),(131,rN (procL l)),(132,rC (procL l))])
  (fun i=>openI ⟨l,ws,nx,bz⟩ i∧(i.2.1=true→defsB l=true)) (fun i=>ws.length-i.1) (0,defsB l,-1) ⟨hI0,id⟩
  ⟨⟨rfl,rfl⟩,⟨⟨rfl,rfl⟩,⟨rfl,rfl⟩,⟨rfl,rfl⟩,rfl,rfl,rfl,by show(ws.length:Int)=((ws.map oWait).length:Int);rw[hlm],rfl,trivial⟩,⟨⟨rfl,rfl,rfl,rfl,trivial⟩,trivial⟩,⟨⟨⟨rfl,rfl⟩,⟨rfl,rfl⟩,trivial⟩,trivial⟩,⟨⟨trivial,trivial,trivial⟩,trivial⟩,⟨.refl (noRef_tab _ _),noRef_tab _ _⟩,⟨.refl (noRef_tab _ _),noRef_tab _ _⟩,trivial⟩ ?_
 rintro⟨k,b,last⟩ ⟨hI,hbd⟩
 have hkw:k≤ws.length:=hI.1
 simp only at hbd
 with_reducible refine wK ?_
 refine IfK.mk (fun h1=>?_) (fun h1=>?_)<;>(try simp only[castN] at h1)<;>with_reducible refine wK ?_
 ·simp only[decide_eq_true_eq] at h1
  have hk':k<ws.length:=by omega
  obtain⟨⟨n,tk⟩,hx⟩:∃a,ws[k]? =some a:=⟨_,List.getElem?_eq_getElem hk'⟩
  have hst:∀v,(b&&okW l nx ⟨n,tk⟩ last)=v→openI ⟨l,ws,nx,bz⟩ (k+1,v,tk)∧(v=true→defsB l=true):=fun v hv=>by
   have:=hI1 hI hx
   refine⟨by rw[←hv];exact this,fun h=>hbd ?_⟩
   rw[h] at hv
   exact(Bool.and_eq_true_iff.1 hv).1
  refine IdxK.mk k (eWait ⟨n,tk⟩) rfl (wait_get hx) ?_;with_reducible refine wK ?_
  refine LookK.tab Value.string oInt (ixT kN (procL l)) (k:=n) (zv:=eInt 0) map62 ⟨_,_,rfl⟩ key_str inj_str rfl rfl (fun x hxx=>?_) (fun hxx=>?_)
  ·rw [show oInt x=eInt x from rfl]
   with_reducible refine wK ?_
   cases b with
   | false=>
     have hs:=hst false rfl
     (have fct:=hlm;(repeat' (first
  |refine gF ?_|refine aE ?_ ?_
  |(((with_reducible show NextK _ _);refine NextK.mk (k+1,false,tk) hs (by show ws.length- (k+1)<ws.length-k;omega) ⟨⟨rfl,rfl⟩,⟨⟨rfl,rfl⟩,⟨rfl,rfl⟩,⟨rfl,rfl⟩,rfl,rfl,rfl,rfl,by show((k+1:Nat):Int)=(k:Int)+1;omega,trivial⟩,⟨⟨rfl,rfl,rfl,rfl,trivial⟩,trivial⟩,⟨⟨⟨rfl,rfl⟩,⟨rfl,rfl⟩,trivial⟩,trivial⟩,⟨⟨trivial,trivial,trivial⟩,trivial⟩,⟨.refl (noRef_tab _ _),noRef_tab _ _⟩,⟨.refl (noRef_tab _ _),noRef_tab _ _⟩,trivial⟩)<;>with_reducible refine wK ?_)
  | apply trivial));all_goals clear fct)
   | true=>
     have hp:¬posN l n=-1:=by
      rcases tgetP (hbd rfl) n with⟨a1,_⟩|⟨j,y,_,a2,_⟩
      ·rw[hxx] at a1;cases a1
      ·omega
     have hs:=hst false (by unfold okW;simp[hp])
     (have fct:=hlm;(repeat' (first
  |refine gF ?_|refine aE ?_ ?_
  |(((with_reducible show NextK _ _);refine NextK.mk (k+1,false,tk) hs (by show ws.length- (k+1)<ws.length-k;omega) ⟨⟨rfl,rfl⟩,⟨⟨rfl,rfl⟩,⟨rfl,rfl⟩,⟨rfl,rfl⟩,rfl,rfl,rfl,rfl,by show((k+1:Nat):Int)=(k:Int)+1;omega,trivial⟩,⟨⟨rfl,rfl,rfl,rfl,trivial⟩,trivial⟩,⟨⟨⟨rfl,rfl⟩,⟨rfl,rfl⟩,trivial⟩,trivial⟩,⟨⟨trivial,trivial,trivial⟩,trivial⟩,⟨.refl (noRef_tab _ _),noRef_tab _ _⟩,⟨.refl (noRef_tab _ _),noRef_tab _ _⟩,trivial⟩)<;>with_reducible refine wK ?_)
  |apply trivial));all_goals clear fct)
  ·with_reducible refine wK ?_
   cases b with
   | false=>
     have hs:=hst false rfl
     (have fct:=hlm;(repeat' (first
  |refine gF ?_|refine aE ?_ ?_
  |(((with_reducible show NextK _ _);refine NextK.mk (k+1,false,tk) hs (by show ws.length- (k+1)<ws.length-k;omega) ⟨⟨rfl,rfl⟩,⟨⟨rfl,rfl⟩,⟨rfl,rfl⟩,⟨rfl,rfl⟩,rfl,rfl,rfl,rfl,by show((k+1:Nat):Int)=(k:Int)+1;omega,trivial⟩,⟨⟨rfl,rfl,rfl,rfl,trivial⟩,trivial⟩,⟨⟨⟨rfl,rfl⟩,⟨rfl,rfl⟩,trivial⟩,trivial⟩,⟨⟨trivial,trivial,trivial⟩,trivial⟩,⟨.refl (noRef_tab _ _),noRef_tab _ _⟩,⟨.refl (noRef_tab _ _),noRef_tab _ _⟩,trivial⟩)<;>with_reducible refine wK ?_)
  | apply trivial));all_goals clear fct)
   | true=>
     have hp:posN l n=-1:=by
      rcases tgetP (hbd rfl) n with⟨_,a1⟩|⟨j,y,a2,_⟩
      ·exact a1
      ·rw[hxx] at a2;cases a2
     cases hc:customS n with
     | false=>
       have hs:=hst false (by unfold okW;simp[hc])
       (have fct:=hlm;(repeat' (first
  |refine gF ?_|refine aE ?_ ?_
  | ((first
   |((with_reducible refine kQ 109 ?_);refine cL (f109_at hc) c109 ?_)
   |((with_reducible show NextK _ _);refine NextK.mk (k+1,false,tk) hs (by show ws.length- (k+1)<ws.length-k;omega) ⟨⟨rfl,rfl⟩,⟨⟨rfl,rfl⟩,⟨rfl,rfl⟩,⟨rfl,rfl⟩,rfl,rfl,rfl,rfl,by show((k+1:Nat):Int)=(k:Int)+1;omega,trivial⟩,⟨⟨rfl,rfl,rfl,rfl,trivial⟩,trivial⟩,⟨⟨⟨rfl,rfl⟩,⟨rfl,rfl⟩,trivial⟩,trivial⟩,⟨⟨trivial,trivial,trivial⟩,trivial⟩,⟨.refl (noRef_tab _ _),noRef_tab _ _⟩,⟨.refl (noRef_tab _ _),noRef_tab _ _⟩,trivial⟩))<;>with_reducible refine wK ?_)
  |apply trivial));all_goals clear fct)
     | true=>
       by_cases h3:last<tk
       ·have hs:=hst (decide (tk<nx)) (by unfold okW;simp[hc,hp,h3])
        (have fct:=And.intro hlm (h3);(repeat' (first
  |refine gF ?_|refine aE ?_ ?_
  | ((first
   |((with_reducible refine kQ 109 ?_);refine cL (f109_at hc) c109 ?_)
   |((with_reducible show NextK _ _);refine NextK.mk (k+1,decide (tk<nx),tk) hs (by show ws.length- (k+1)<ws.length-k;omega) ⟨⟨rfl,rfl⟩,⟨⟨rfl,rfl⟩,⟨rfl,rfl⟩,⟨rfl,rfl⟩,rfl,rfl,rfl,rfl,by show((k+1:Nat):Int)=(k:Int)+1;omega,trivial⟩,⟨⟨rfl,rfl,rfl,rfl,trivial⟩,trivial⟩,⟨⟨⟨rfl,rfl⟩,⟨rfl,rfl⟩,trivial⟩,trivial⟩,⟨⟨trivial,trivial,trivial⟩,trivial⟩,⟨.refl (noRef_tab _ _),noRef_tab _ _⟩,⟨.refl (noRef_tab _ _),noRef_tab _ _⟩,trivial⟩))<;>with_reducible refine wK ?_)
  |apply trivial));all_goals clear fct)
       ·have hs:=hst false (by unfold okW;simp[hc,hp,h3])
        (have fct:=And.intro hlm (h3);(repeat' (first
  |refine gF ?_|refine aE ?_ ?_
  | ((first
   |((with_reducible refine kQ 109 ?_);refine cL (f109_at hc) c109 ?_)
   |((with_reducible show NextK _ _);refine NextK.mk (k+1,false,tk) hs (by show ws.length- (k+1)<ws.length-k;omega) ⟨⟨rfl,rfl⟩,⟨⟨rfl,rfl⟩,⟨rfl,rfl⟩,⟨rfl,rfl⟩,rfl,rfl,rfl,rfl,by show((k+1:Nat):Int)=(k:Int)+1;omega,trivial⟩,⟨⟨rfl,rfl,rfl,rfl,trivial⟩,trivial⟩,⟨⟨⟨rfl,rfl⟩,⟨rfl,rfl⟩,trivial⟩,trivial⟩,⟨⟨trivial,trivial,trivial⟩,trivial⟩,⟨.refl (noRef_tab _ _),noRef_tab _ _⟩,⟨.refl (noRef_tab _ _),noRef_tab _ _⟩,trivial⟩))<;>with_reducible refine wK ?_)
  |apply trivial));all_goals clear fct)
 ·have hkl:k=ws.length:=by simp only[decide_eq_false_iff_not] at h1;omega
  subst hkl
  have hb:=hI2 b last hI
  simp only at hb ⊢
  rw[←hb]
  cases b with
  |false=>((have fct:=hlm;(repeat' (first
  |refine gF ?_|refine aE ?_ ?_
  |apply trivial));all_goals clear fct))<;>first|exact MFL_refl (noRef_tab _ _)|exact⟨.refl (noRef_tab _ _),noRef_tab _ _⟩|rfl
  | true=>
    by_cases h4:0≤nx
    ·((have fct:=And.intro hlm (h4);(repeat' (first
  |refine gF ?_|refine aE ?_ ?_
  | apply trivial));all_goals clear fct))<;>first|exact MFL_refl (noRef_tab _ _)|exact⟨.refl (noRef_tab _ _),noRef_tab _ _⟩|simp[h4]
    ·((have fct:=And.intro hlm (h4);(repeat' (first
  |refine gF ?_|refine aE ?_ ?_
  |apply trivial));all_goals clear fct))<;>first|exact MFL_refl (noRef_tab _ _)|exact⟨.refl (noRef_tab _ _),noRef_tab _ _⟩|simp[h4]
end Go.Proofs.Heir
