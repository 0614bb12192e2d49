/- Models, plain laws and contracts of functions of the given program; conditions as stated in each theorem. By an AI agent. -/
import Derived.Test.YtpogpigciaajoaaGreatDoorW2
import Derived.Test.YtpogpigciaajoaaGreatDoorW3
import Derived.Test.YtpogpigciaajoaaGreatDoorChecked
import Derived.Test.YtpogpigciaajoaaGreatDoorW1
import Derived.Shelf.GgClosure.StringsIndexFunc
import Derived.Deep.LoopGhost
import Derived.WalkKit
import Derived.Laws.IdiomStrings
import Derived.IntWalk
import Derived.Outline
import Derived.Lib.Hide
import Derived.Lib.MapLaws
import Derived.Shelf.Strings.Search1
import Derived.Shelf.Strings.Search2
import Derived.Shelf.Strings.Search3
import Derived.Shelf.LaysM
import Derived.Shelf.Strings.Shaped
import Derived.Shelf.Strings.Fields
import Derived.Laws.Runes
import Derived.Shelf.Strings.Builder1
import Derived.RangeFuncNested
import Derived.RangeFuncBound
import Derived.RangeFuncCalls
import Derived.Shelf.Abstract
import Derived.Shelf.RegionOpen
import Derived.OwnWalkIn
import Derived.TacticsInMore
import Derived.LoopNIn
import Derived.LoopIn
import Derived.Tactics
set_option linter.unusedSimpArgs false
set_option linter.unusedVariables false
namespace Go.Proofs.Heir
open Go.Am
set_option maxRecDepth 100000
@[reducible] def G : TEnv := [(1, .sc .nilFunc), (2, .sc (.int .i64 0)), (3, .sc (.int .i64 0)), (4, .bl), (5, .sc (.int .u8 0)), (9, .str), (12, .sc (.int .u64 0)), (15, .sc (.pointer none)), (16, .sc (.pointer none)), (17, .sc (.pointer none)), (20, .sc .nilIface), (21, .sc (.int .i32 0)), (22, .sl 42 10 136), (24, .st 2 [(0, 22), (1, 3)] (Array.mk [(.slice none 0 0), (.int .i64 0)]) [1, 1]), (25, .sl 39 3 40), (26, .sl 89 2 24), (28, .st 4 [(0, 25), (1, 26), (2, 3), (3, 4)] (Array.mk [(.slice none 0 0), (.slice none 0 0), (.int .i64 0), (.bool false)]) [1, 1, 1, 1]), (29, .sc .nilFunc), (30, .sc .nilFunc), (31, .sc .nilFunc), (32, .sl 3 1 8), (33, .sc (.int .i64 0)), (35, .sc .nilFunc), (36, .sc .nilFunc), (37, .sc .nilFunc), (39, .st 3 [(0, 9), (1, 9), (2, 3)] (Array.mk [(.string ByteArray.empty), (.string ByteArray.empty), (.int .i64 0)]) [1, 1, 1]), (40, .sl 130 2 32), (42, .st 10 [(0, 3), (1, 9), (2, 9), (3, 9), (4, 40), (5, 3), (6, 32), (7, 3), (8, 3), (9, 3)] (Array.mk [(.int .i64 0), (.string ByteArray.empty), (.string ByteArray.empty), (.string ByteArray.empty), (.slice none 0 0), (.int .i64 0), (.slice none 0 0), (.int .i64 0), (.int .i64 0), (.int .i64 0)]) [1, 1, 1, 1, 1, 1, 1, 1, 1, 1]), (43, .sc .nilFunc), (44, .sc .nilFunc), (45, .sc .nilFunc), (46, .sc .nilFunc), (47, .sl 67 4 32), (48, .sl 63 5 104), (49, .sc .nilFunc), (50, .sl 72 11 104), (52, .sc .nilFunc), (53, .sc .nilFunc), (54, .sc .nilFunc), (55, .sc .nilFunc), (56, .sc .nilFunc), (57, .sc .nilFunc), (58, .sc .nilFunc), (59, .sl 9 1 16), (60, .sl 293 7 72), (61, .sl 101 2 32), (63, .st 5 [(0, 4), (1, 59), (2, 60), (3, 60), (4, 61)] (Array.mk [(.bool false), (.slice none 0 0), (.slice none 0 0), (.slice none 0 0), (.slice none 0 0)]) [1, 1, 1, 1, 1]), (65, .sc .nilFunc), (67, .st 4 [(0, 3), (1, 3), (2, 3), (3, 4)] (Array.mk [(.int .i64 0), (.int .i64 0), (.int .i64 0), (.bool false)]) [1, 1, 1, 1]), (68, .sc .nilFunc), (70, .st 10 [(0, 3), (1, 3), (2, 9), (3, 4), (4, 4), (5, 9), (6, 9), (7, 3), (8, 3), (9, 4)] (Array.mk [(.int .i64 0), (.int .i64 0), (.string ByteArray.empty), (.bool false), (.bool false), (.string ByteArray.empty), (.string ByteArray.empty), (.int .i64 0), (.int .i64 0), (.bool false)]) [1, 1, 1, 1, 1, 1, 1, 1, 1, 1]), (72, .st 11 [(0, 3), (1, 70)] (Array.mk [(.int .i64 0), (.int .i64 0), (.int .i64 0), (.string ByteArray.empty), (.bool false), (.bool false), (.string ByteArray.empty), (.string ByteArray.empty), (.int .i64 0), (.int .i64 0), (.bool false)]) [1, 10]), (73, .sc .nilFunc), (74, .sc .nilFunc), (75, .ar 60 60 3 1 (Array.mk [(.int .i64 0), (.int .i64 0), (.int .i64 0), (.int .i64 0), (.int .i64 0), (.int .i64 0), (.int .i64 0), (.int .i64 0), (.int .i64 0), (.int .i64 0), (.int .i64 0), (.int .i64 0), (.int .i64 0), (.int .i64 0), (.int .i64 0), (.int .i64 0), (.int .i64 0), (.int .i64 0), (.int .i64 0), (.int .i64 0), (.int .i64 0), (.int .i64 0), (.int .i64 0), (.int .i64 0), (.int .i64 0), (.int .i64 0), (.int .i64 0), (.int .i64 0), (.int .i64 0), (.int .i64 0), (.int .i64 0), (.int .i64 0), (.int .i64 0), (.int .i64 0), (.int .i64 0), (.int .i64 0), (.int .i64 0), (.int .i64 0), (.int .i64 0), (.int .i64 0), (.int .i64 0), (.int .i64 0), (.int .i64 0), (.int .i64 0), (.int .i64 0), (.int .i64 0), (.int .i64 0), (.int .i64 0), (.int .i64 0), (.int .i64 0), (.int .i64 0), (.int .i64 0), (.int .i64 0), (.int .i64 0), (.int .i64 0), (.int .i64 0), (.int .i64 0), (.int .i64 0), (.int .i64 0), (.int .i64 0)])), (76, .sc .nilFunc), (77, .sc .nilFunc), (78, .sc .nilFunc), (79, .sc .nilFunc), (81, .sc .nilFunc), (82, .sc .nilFunc), (83, .sc .nilFunc), (85, .sc .nilFunc), (86, .sc .nilFunc), (87, .sc .nilFunc), (89, .st 2 [(0, 9), (1, 3)] (Array.mk [(.string ByteArray.empty), (.int .i64 0)]) [1, 1]), (91, .st 2 [(0, 24)] (Array.mk [(.slice none 0 0), (.int .i64 0)]) [2]), (92, .sc .nilFunc), (93, .sc .nilFunc), (94, .sc .nilFunc), (95, .sc .nilFunc), (96, .sc .nilFunc), (97, .sc .nilFunc), (98, .sc .nilFunc), (99, .sc .nilFunc), (101, .st 2 [(0, 3), (1, 60)] (Array.mk [(.int .i64 0), (.slice none 0 0)]) [1, 1]), (102, .sc (.pointer none)), (104, .sc .nilFunc), (106, .st 9 [(0, 24), (2, 47), (3, 28), (7, 48), (8, 50)] (Array.mk [(.slice none 0 0), (.int .i64 0), (.slice none 0 0), (.slice none 0 0), (.slice none 0 0), (.int .i64 0), (.bool false), (.slice none 0 0), (.slice none 0 0)]) [2, 1, 4, 1, 1]), (107, .sc .nilFunc), (108, .sc (.pointer none)), (109, .sc .nilFunc), (110, .sc .nilFunc), (112, .sc (.map none)), (113, .sc .nilFunc), (114, .sc (.map none)), (116, .st 3 [(0, 24), (2, 114)] (Array.mk [(.slice none 0 0), (.int .i64 0), (.map none)]) [2, 1]), (117, .sc .nilFunc), (118, .sc .nilFunc), (119, .sc .nilFunc), (120, .sl 201 9 88), (122, .sc .nilFunc), (123, .sc .nilFunc), (124, .sc .nilFunc), (125, .sc .nilFunc), (126, .sc .nilFunc), (128, .sc .nilFunc), (130, .st 2 [(0, 9), (1, 9)] (Array.mk [(.string ByteArray.empty), (.string ByteArray.empty)]) [1, 1]), (132, .sc .nilFunc), (133, .sc .nilFunc), (134, .sc (.map none)), (135, .sc (.map none)), (137, .st 2 [(0, 134), (1, 135)] (Array.mk [(.map none), (.map none)]) [1, 1]), (139, .sc .nilFunc), (141, .sc .nilFunc), (142, .sc .nilFunc), (143, .sc .nilFunc), (144, .sc .nilFunc), (145, .sc .nilFunc), (146, .sc .nilFunc), (147, .sc .nilFunc), (148, .sc .nilFunc), (149, .sc .nilFunc), (150, .sc .nilFunc), (151, .sc .nilFunc), (152, .sc .nilFunc), (153, .sc .nilFunc), (154, .sc .nilFunc), (155, .sc .nilFunc), (156, .sc .nilFunc), (157, .sc .nilFunc), (158, .sc .nilIface), (159, .sc .nilIface), (160, .sc .nilFunc), (161, .sc .nilFunc), (162, .sc (.pointer none)), (163, .sc .nilFunc), (164, .sc .nilFunc), (165, .sc .nilFunc), (166, .sc .nilFunc), (167, .sc .nilFunc), (169, .sc .nilFunc), (170, .sc .nilFunc), (171, .sc (.pointer none)), (172, .sc .nilFunc), (174, .st 5 [(0, 24), (2, 3), (3, 9), (4, 4)] (Array.mk [(.slice none 0 0), (.int .i64 0), (.int .i64 0), (.string ByteArray.empty), (.bool false)]) [2, 1, 1, 1]), (175, .sc .nilFunc), (176, .sc .nilFunc), (177, .sc .nilFunc), (178, .sc .nilFunc), (179, .sc .nilFunc), (180, .sc .nilFunc), (181, .sc .nilFunc), (182, .sl 5 1 1), (183, .sc .nilFunc), (185, .sc .nilFunc), (186, .sc .nilFunc), (188, .st 3 [(0, 24), (2, 120)] (Array.mk [(.slice none 0 0), (.int .i64 0), (.slice none 0 0)]) [2, 1]), (190, .st 1 [(0, 33)] (Array.mk [(.int .i64 0)]) [1]), (192, .st 2 [(0, 9), (1, 159)] (Array.mk [(.string ByteArray.empty), .nilIface]) [1, 1]), (194, .st 5 [(0, 24), (2, 3), (3, 3), (4, 3)] (Array.mk [(.slice none 0 0), (.int .i64 0), (.int .i64 0), (.int .i64 0), (.int .i64 0)]) [2, 1, 1, 1]), (195, .sc .nilFunc), (196, .sc .nilFunc), (197, .sc .nilFunc), (198, .sc .nilFunc), (199, .sc .nilFunc), (201, .st 9 [(0, 3), (1, 3), (2, 3), (3, 3), (4, 9), (5, 4), (6, 4), (7, 9), (8, 9)] (Array.mk [(.int .i64 0), (.int .i64 0), (.int .i64 0), (.int .i64 0), (.string ByteArray.empty), (.bool false), (.bool false), (.string ByteArray.empty), (.string ByteArray.empty)]) [1, 1, 1, 1, 1, 1, 1, 1, 1]), (202, .sc .nilFunc), (203, .sc .nilFunc), (204, .sc (.map none)), (205, .sc .nilFunc), (206, .sc .nilFunc), (207, .sc .nilFunc), (208, .sc .nilFunc), (209, .sc .nilFunc), (210, .sc .nilFunc), (211, .sc .nilFunc), (212, .sc .nilFunc), (213, .sc .nilFunc), (214, .sc .nilFunc), (215, .sc (.pointer none)), (216, .sc .nilFunc), (217, .sc .nilFunc), (218, .sc .nilFunc), (219, .sc .nilFunc), (220, .sc .nilFunc), (221, .sc (.pointer none)), (223, .st 2 [(0, 221), (1, 182)] (Array.mk [(.pointer none), (.slice none 0 0)]) [1, 1]), (224, .sc .nilFunc), (225, .sc .nilFunc), (227, .sc .nilFunc), (232, .sc .nilFunc), (233, .sc .nilIface), (235, .sc .nilFunc), (237, .sc .nilFunc), (238, .sc .nilFunc), (239, .sc .nilFunc), (240, .sc (.pointer none)), (241, .sc .nilFunc), (242, .sc (.int .u64 0)), (243, .sl 245 2 16), (245, .st 2 [(0, 3), (1, 3)] (Array.mk [(.int .i64 0), (.int .i64 0)]) [1, 1]), (246, .sc (.int .u32 0)), (247, .sc .nilFunc), (248, .sc (.pointer none)), (251, .sc (.pointer none)), (252, .sc .nilFunc), (253, .sc .nilFunc), (254, .sc .nilFunc), (255, .sc .nilIface), (257, .sc .nilFunc), (258, .sc .nilIface), (259, .sc .nilFunc), (260, .sc .nilIface), (261, .sl 159 1 16), (262, .sc .nilFunc), (263, .sc .nilFunc), (264, .sc .nilFunc), (266, .sc .nilFunc), (267, .sl 273 3 6), (268, .sl 276 3 12), (270, .st 3 [(0, 267), (1, 268), (2, 3)] (Array.mk [(.slice none 0 0), (.slice none 0 0), (.int .i64 0)]) [1, 1, 1]), (271, .sc (.int .u16 0)), (273, .st 3 [(0, 271), (1, 271), (2, 271)] (Array.mk [(.int .u16 0), (.int .u16 0), (.int .u16 0)]) [1, 1, 1]), (274, .sc .nilFunc), (276, .st 3 [(0, 246), (1, 246), (2, 246)] (Array.mk [(.int .u32 0), (.int .u32 0), (.int .u32 0)]) [1, 1, 1]), (277, .sc .nilFunc), (278, .sc (.pointer none)), (279, .sc (.pointer none)), (285, .sc .nilFunc), (287, .sc .nilFunc), (293, .st 7 [(0, 3), (1, 3), (2, 3), (3, 3), (4, 9), (5, 9), (6, 4)] (Array.mk [(.int .i64 0), (.int .i64 0), (.int .i64 0), (.int .i64 0), (.string ByteArray.empty), (.string ByteArray.empty), (.bool false)]) [1, 1, 1, 1, 1, 1, 1]), (294, .sc .nilFunc), (295, .sc .nilFunc), (298, .sc (.pointer none)), (299, .sc .nilFunc), (302, .sl 305 4 16), (306, .sc (.pointer none))]
theorem G_good : G.Good Tryz.prog := fS <| fS <| fS <| fB <| fS <| fG <| fS <| fS <| fS <| fS <| fS <| fS <| fL <| fT Tryz.underlying24 <| fL <| fL <| fT Tryz.underlying28 <| fS <| fS <| fS <| fL <| fS <| fS <| fS <| fS <| fT Tryz.underlying39 <| fL <| fT Tryz.underlying42 <| fS <| fS <| fS <| fS <| fL <| fL <| fS <| fL <| fS <| fS <| fS <| fS <| fS <| fS <| fS <| fL <| fL <| fL <| fT Tryz.underlying63 <| fS <| fT Tryz.underlying67 <| fS <| fT Tryz.underlying70 <| fT Tryz.underlying72 <| fS <| fS <| fA <| fS <| fS <| fS <| fS <| fS <| fS <| fS <| fS <| fS <| fS <| fT Tryz.underlying89 <| fT Tryz.underlying91 <| fS <| fS <| fS <| fS <| fS <| fS <| fS <| fS <| fT Tryz.underlying101 <| fS <| fS <| fT Tryz.underlying106 <| fS <| fS <| fS <| fS <| fS <| fS <| fS <| fT Tryz.underlying116 <| fS <| fS <| fS <| fL <| fS <| fS <| fS <| fS <| fS <| fS <| fT Tryz.underlying130 <| fS <| fS <| fS <| fS <| fT Tryz.underlying137 <| fS <| fS <| fS <| fS <| fS <| fS <| fS <| fS <| fS <| fS <| fS <| fS <| fS <| fS <| fS <| fS <| fS <| fS <| fS <| fS <| fS <| fS <| fS <| fS <| fS <| fS <| fS <| fS <| fS <| fS <| fS <| fS <| fT Tryz.underlying174 <| fS <| fS <| fS <| fS <| fS <| fS <| fS <| fL <| fS <| fS <| fS <| fT Tryz.underlying188 <| fT Tryz.underlying190 <| fT Tryz.underlying192 <| fT Tryz.underlying194 <| fS <| fS <| fS <| fS <| fS <| fT Tryz.underlying201 <| fS <| fS <| fS <| fS <| fS <| fS <| fS <| fS <| fS <| fS <| fS <| fS <| fS <| fS <| fS <| fS <| fS <| fS <| fS <| fS <| fT Tryz.underlying223 <| fS <| fS <| fS <| fS <| fS <| fS <| fS <| fS <| fS <| fS <| fS <| fS <| fL <| fT Tryz.underlying245 <| fS <| fS <| fS <| fS <| fS <| fS <| fS <| fS <| fS <| fS <| fS <| fS <| fL <| fS <| fS <| fS <| fS <| fL <| fL <| fT Tryz.underlying270 <| fS <| fT Tryz.underlying273 <| fS <| fT Tryz.underlying276 <| fS <| fS <| fS <| fS <| fS <| fT Tryz.underlying293 <| fS <| fS <| fS <| fS <| fL <| fS <| fN
theorem c3 : Callable Tryz.prog 3 := fun _ _ => by kernel_rfl
theorem c4 : Callable Tryz.prog 4 := fun _ _ => by kernel_rfl
theorem c5 : Callable Tryz.prog 5 := fun _ _ => by kernel_rfl
theorem c6 : Callable Tryz.prog 6 := fun _ _ => by kernel_rfl
theorem c7 : Callable Tryz.prog 7 := fun _ _ => by kernel_rfl
theorem c8 : Callable Tryz.prog 8 := fun _ _ => by kernel_rfl
theorem c9 : Callable Tryz.prog 9 := fun _ _ => by kernel_rfl
theorem c10 : Callable Tryz.prog 10 := fun _ _ => by kernel_rfl
theorem c12 : Callable Tryz.prog 12 := fun _ _ => by kernel_rfl
theorem c13 : Callable Tryz.prog 13 := fun _ _ => by kernel_rfl
theorem c15 : Callable Tryz.prog 15 := fun _ _ => by kernel_rfl
theorem c20 : Callable Tryz.prog 20 := fun _ _ => by kernel_rfl
theorem c21 : Callable Tryz.prog 21 := fun _ _ => by kernel_rfl
theorem c28 : Callable Tryz.prog 28 := fun _ _ => by kernel_rfl
theorem c33 : Callable Tryz.prog 33 := fun _ _ => by kernel_rfl
theorem c38 : Callable Tryz.prog 38 := fun _ _ => by kernel_rfl
theorem c40 : Callable Tryz.prog 40 := fun _ _ => by kernel_rfl
theorem c41 : Callable Tryz.prog 41 := fun _ _ => by kernel_rfl
theorem c42 : Callable Tryz.prog 42 := fun _ _ => by kernel_rfl
theorem c43 : Callable Tryz.prog 43 := fun _ _ => by kernel_rfl
theorem c44 : Callable Tryz.prog 44 := fun _ _ => by kernel_rfl
theorem c45 : Callable Tryz.prog 45 := fun _ _ => by kernel_rfl
theorem c46 : Callable Tryz.prog 46 := fun _ _ => by kernel_rfl
theorem c47 : Callable Tryz.prog 47 := fun _ _ => by kernel_rfl
theorem c48 : Callable Tryz.prog 48 := fun _ _ => by kernel_rfl
theorem c49 : Callable Tryz.prog 49 := fun _ _ => by kernel_rfl
theorem c50 : Callable Tryz.prog 50 := fun _ _ => by kernel_rfl
theorem c51 : Callable Tryz.prog 51 := fun _ _ => by kernel_rfl
theorem c57 : Callable Tryz.prog 57 := fun _ _ => by kernel_rfl
theorem c63 : Callable Tryz.prog 63 := fun _ _ => by kernel_rfl
theorem c67 : Callable Tryz.prog 67 := fun _ _ => by kernel_rfl
theorem c73 : Callable Tryz.prog 73 := fun _ _ => by kernel_rfl
theorem c76 : Callable Tryz.prog 76 := fun _ _ => by kernel_rfl
theorem c77 : Callable Tryz.prog 77 := fun _ _ => by kernel_rfl
theorem c78 : Callable Tryz.prog 78 := fun _ _ => by kernel_rfl
theorem c79 : Callable Tryz.prog 79 := fun _ _ => by kernel_rfl
theorem c80 : Callable Tryz.prog 80 := fun _ _ => by kernel_rfl
theorem c81 : Callable Tryz.prog 81 := fun _ _ => by kernel_rfl
theorem c82 : Callable Tryz.prog 82 := fun _ _ => by kernel_rfl
theorem c83 : Callable Tryz.prog 83 := fun _ _ => by kernel_rfl
theorem c84 : Callable Tryz.prog 84 := fun _ _ => by kernel_rfl
theorem c85 : Callable Tryz.prog 85 := fun _ _ => by kernel_rfl
theorem c86 : Callable Tryz.prog 86 := fun _ _ => by kernel_rfl
theorem c87 : Callable Tryz.prog 87 := fun _ _ => by kernel_rfl
theorem c88 : Callable Tryz.prog 88 := fun _ _ => by kernel_rfl
theorem c89 : Callable Tryz.prog 89 := fun _ _ => by kernel_rfl
theorem c90 : Callable Tryz.prog 90 := fun _ _ => by kernel_rfl
theorem c91 : Callable Tryz.prog 91 := fun _ _ => by kernel_rfl
theorem c92 : Callable Tryz.prog 92 := fun _ _ => by kernel_rfl
theorem c100 : Callable Tryz.prog 100 := fun _ _ => by kernel_rfl
theorem c101 : Callable Tryz.prog 101 := fun _ _ => by kernel_rfl
theorem c102 : Callable Tryz.prog 102 := fun _ _ => by kernel_rfl
theorem c104 : Callable Tryz.prog 104 := fun _ _ => by kernel_rfl
theorem c106 : Callable Tryz.prog 106 := fun _ _ => by kernel_rfl
theorem c107 : Callable Tryz.prog 107 := fun _ _ => by kernel_rfl
theorem c109 : Callable Tryz.prog 109 := fun _ _ => by kernel_rfl
theorem c120 : Callable Tryz.prog 120 := fun _ _ => by kernel_rfl
theorem c121 : Callable Tryz.prog 121 := fun _ _ => by kernel_rfl
theorem c123 : Callable Tryz.prog 123 := fun _ _ => by kernel_rfl
theorem c124 : Callable Tryz.prog 124 := fun _ _ => by kernel_rfl
theorem c125 : Callable Tryz.prog 125 := fun _ _ => by kernel_rfl
theorem c126 : Callable Tryz.prog 126 := fun _ _ => by kernel_rfl
theorem c127 : Callable Tryz.prog 127 := fun _ _ => by kernel_rfl
theorem c129 : Callable Tryz.prog 129 := fun _ _ => by kernel_rfl
theorem c130 : Callable Tryz.prog 130 := fun _ _ => by kernel_rfl
theorem c131 : Callable Tryz.prog 131 := fun _ _ => by kernel_rfl
theorem c132 : Callable Tryz.prog 132 := fun _ _ => by kernel_rfl
theorem c133 : Callable Tryz.prog 133 := fun _ _ => by kernel_rfl
theorem c134 : Callable Tryz.prog 134 := fun _ _ => by kernel_rfl
theorem c135 : Callable Tryz.prog 135 := fun _ _ => by kernel_rfl
theorem c136 : Callable Tryz.prog 136 := fun _ _ => by kernel_rfl
theorem c137 : Callable Tryz.prog 137 := fun _ _ => by kernel_rfl
theorem c139 : Callable Tryz.prog 139 := fun _ _ => by kernel_rfl
theorem c140 : Callable Tryz.prog 140 := fun _ _ => by kernel_rfl
theorem c141 : Callable Tryz.prog 141 := fun _ _ => by kernel_rfl
theorem c142 : Callable Tryz.prog 142 := fun _ _ => by kernel_rfl
theorem c143 : Callable Tryz.prog 143 := fun _ _ => by kernel_rfl
theorem c144 : Callable Tryz.prog 144 := fun _ _ => by kernel_rfl
theorem c145 : Callable Tryz.prog 145 := fun _ _ => by kernel_rfl
theorem c147 : Callable Tryz.prog 147 := fun _ _ => by kernel_rfl
theorem c148 : Callable Tryz.prog 148 := fun _ _ => by kernel_rfl
theorem c152 : Callable Tryz.prog 152 := fun _ _ => by kernel_rfl
theorem c155 : Callable Tryz.prog 155 := fun _ _ => by kernel_rfl
theorem c156 : Callable Tryz.prog 156 := fun _ _ => by kernel_rfl
theorem c158 : Callable Tryz.prog 158 := fun _ _ => by kernel_rfl
theorem c160 : Callable Tryz.prog 160 := fun _ _ => by kernel_rfl
theorem c163 : Callable Tryz.prog 163 := fun _ _ => by kernel_rfl
theorem c165 : Callable Tryz.prog 165 := fun _ _ => by kernel_rfl
theorem c166 : Callable Tryz.prog 166 := fun _ _ => by kernel_rfl
theorem c167 : Callable Tryz.prog 167 := fun _ _ => by kernel_rfl
theorem c168 : Callable Tryz.prog 168 := fun _ _ => by kernel_rfl
theorem c169 : Callable Tryz.prog 169 := fun _ _ => by kernel_rfl
theorem c170 : Callable Tryz.prog 170 := fun _ _ => by kernel_rfl
theorem c176 : Callable Tryz.prog 176 := fun _ _ => by kernel_rfl
theorem c177 : Callable Tryz.prog 177 := fun _ _ => by kernel_rfl
theorem c178 : Callable Tryz.prog 178 := fun _ _ => by kernel_rfl
theorem c180 : Callable Tryz.prog 180 := fun _ _ => by kernel_rfl
theorem c182 : Callable Tryz.prog 182 := fun _ _ => by kernel_rfl
theorem c184 : Callable Tryz.prog 184 := fun _ _ => by kernel_rfl
theorem c186 : Callable Tryz.prog 186 := fun _ _ => by kernel_rfl
theorem c191 : Callable Tryz.prog 191 := fun _ _ => by kernel_rfl
theorem c192 : Callable Tryz.prog 192 := fun _ _ => by kernel_rfl
theorem c207 : Callable Tryz.prog 207 := fun _ _ => by kernel_rfl
theorem c208 : Callable Tryz.prog 208 := fun _ _ => by kernel_rfl
theorem c220 : Callable Tryz.prog 220 := fun _ _ => by kernel_rfl
theorem c54 : Callable Tryz.prog 54 := fun _ _ => by kernel_rfl
theorem c74 : Callable Tryz.prog 74 := fun _ _ => by kernel_rfl
theorem c93 : Callable Tryz.prog 93 := fun _ _ => by kernel_rfl
theorem c94 : Callable Tryz.prog 94 := fun _ _ => by kernel_rfl
theorem c95 : Callable Tryz.prog 95 := fun _ _ => by kernel_rfl
theorem c96 : Callable Tryz.prog 96 := fun _ _ => by kernel_rfl
theorem c97 : Callable Tryz.prog 97 := fun _ _ => by kernel_rfl
theorem c116 : Callable Tryz.prog 116 := fun _ _ => by kernel_rfl
theorem c117 : Callable Tryz.prog 117 := fun _ _ => by kernel_rfl
theorem c122 : Callable Tryz.prog 122 := fun _ _ => by kernel_rfl
theorem c128 : Callable Tryz.prog 128 := fun _ _ => by kernel_rfl
theorem c138 : Callable Tryz.prog 138 := fun _ _ => by kernel_rfl
theorem c146 : Callable Tryz.prog 146 := fun _ _ => by kernel_rfl
theorem c149 : Callable Tryz.prog 149 := fun _ _ => by kernel_rfl
theorem c159 : Callable Tryz.prog 159 := fun _ _ => by kernel_rfl
theorem c161 : Callable Tryz.prog 161 := fun _ _ => by kernel_rfl
theorem c162 : Callable Tryz.prog 162 := fun _ _ => by kernel_rfl
theorem c164 : Callable Tryz.prog 164 := fun _ _ => by kernel_rfl
theorem c171 : Callable Tryz.prog 171 := fun _ _ => by kernel_rfl
theorem c172 : Callable Tryz.prog 172 := fun _ _ => by kernel_rfl
theorem c173 : Callable Tryz.prog 173 := fun _ _ => by kernel_rfl
theorem c174 : Callable Tryz.prog 174 := fun _ _ => by kernel_rfl
theorem c175 : Callable Tryz.prog 175 := fun _ _ => by kernel_rfl
theorem c185 : Callable Tryz.prog 185 := fun _ _ => by kernel_rfl
theorem c187 : Callable Tryz.prog 187 := fun _ _ => by kernel_rfl
theorem c193 : Callable Tryz.prog 193 := fun _ _ => by kernel_rfl
theorem c194 : Callable Tryz.prog 194 := fun _ _ => by kernel_rfl
theorem c195 : Callable Tryz.prog 195 := fun _ _ => by kernel_rfl
theorem c205 : Callable Tryz.prog 205 := fun _ _ => by kernel_rfl
theorem c209 : Callable Tryz.prog 209 := fun _ _ => by kernel_rfl
theorem mt74 : MapTy Tryz.prog 135 (.int .i64) (.int .i64 0) := ⟨3, 3, by kernel_rfl, by kernel_rfl, fun w => Tryz.zeroValue3 w⟩
end Go.Proofs.Heir
namespace Go.Proofs.Heir
open Go Go.Am Go.RowKit Go.Lib
set_option maxRecDepth 100000
set_option maxHeartbeats 8000000
theorem mt78 : MapTy Tryz.prog 204 .string (.agg #[.string ByteArray.empty, .string ByteArray.empty]) := ⟨9, 130, by kernel_rfl, by kernel_rfl, fun w => Tryz.zeroValue130 w⟩
noncomputable def fnsT : List (Nat × Func) := [(13, Tryz.f13), (45, Tryz.f45), (51, Tryz.f51), (91, Tryz.f91), (15, Tryz.f15), (144, Tryz.f144), (89, Tryz.f89), (90, Tryz.f90), (139, Tryz.f139), (142, Tryz.f142), (145, Tryz.f145), (54, Tryz.f54), (180, Tryz.f180), (136, Tryz.f136), (137, Tryz.f137), (138, Tryz.f138), (177, Tryz.f177), (92, Tryz.f92), (93, Tryz.f93), (94, Tryz.f94), (95, Tryz.f95), (96, Tryz.f96), (97, Tryz.f97), (120, Tryz.f120), (171, Tryz.f171), (172, Tryz.f172), (173, Tryz.f173), (174, Tryz.f174), (175, Tryz.f175), (134, Tryz.f134), (133, Tryz.f133), (146, Tryz.f146), (122, Tryz.f122), (147, Tryz.f147), (148, Tryz.f148), (149, Tryz.f149), (130, Tryz.f130), (192, Tryz.f192), (193, Tryz.f193), (194, Tryz.f194), (168, Tryz.f168), (165, Tryz.f165), (166, Tryz.f166), (167, Tryz.f167), (79, Tryz.f79), (208, Tryz.f208), (209, Tryz.f209), (169, Tryz.f169), (220, Tryz.f220)]
def kindsT : List (Nat × IntKind) := [(3, .i64), (5, .u8), (21, .i32), (33, .i64)]
theorem fnsT_ok : ∀ p ∈ fnsT, Tryz.prog.funcs[p.1]? = some p.2 ∧ Callable Tryz.prog p.1 := List.forall_mem_cons.2 ⟨⟨Tryz.func13, c13⟩, List.forall_mem_cons.2 ⟨⟨Tryz.func45, c45⟩, List.forall_mem_cons.2 ⟨⟨Tryz.func51, c51⟩, List.forall_mem_cons.2 ⟨⟨Tryz.func91, c91⟩, List.forall_mem_cons.2 ⟨⟨Tryz.func15, c15⟩, List.forall_mem_cons.2 ⟨⟨Tryz.func144, c144⟩, List.forall_mem_cons.2 ⟨⟨Tryz.func89, c89⟩, List.forall_mem_cons.2 ⟨⟨Tryz.func90, c90⟩, List.forall_mem_cons.2 ⟨⟨Tryz.func139, c139⟩, List.forall_mem_cons.2 ⟨⟨Tryz.func142, c142⟩, List.forall_mem_cons.2 ⟨⟨Tryz.func145, c145⟩, List.forall_mem_cons.2 ⟨⟨Tryz.func54, c54⟩, List.forall_mem_cons.2 ⟨⟨Tryz.func180, c180⟩, List.forall_mem_cons.2 ⟨⟨Tryz.func136, c136⟩, List.forall_mem_cons.2 ⟨⟨Tryz.func137, c137⟩, List.forall_mem_cons.2 ⟨⟨Tryz.func138, c138⟩, List.forall_mem_cons.2 ⟨⟨Tryz.func177, c177⟩, List.forall_mem_cons.2 ⟨⟨Tryz.func92, c92⟩, List.forall_mem_cons.2 ⟨⟨Tryz.func93, c93⟩, List.forall_mem_cons.2 ⟨⟨Tryz.func94, c94⟩, List.forall_mem_cons.2 ⟨⟨Tryz.func95, c95⟩, List.forall_mem_cons.2 ⟨⟨Tryz.func96, c96⟩, List.forall_mem_cons.2 ⟨⟨Tryz.func97, c97⟩, List.forall_mem_cons.2 ⟨⟨Tryz.func120, c120⟩, List.forall_mem_cons.2 ⟨⟨Tryz.func171, c171⟩, List.forall_mem_cons.2 ⟨⟨Tryz.func172, c172⟩, List.forall_mem_cons.2 ⟨⟨Tryz.func173, c173⟩, List.forall_mem_cons.2 ⟨⟨Tryz.func174, c174⟩, List.forall_mem_cons.2 ⟨⟨Tryz.func175, c175⟩, List.forall_mem_cons.2 ⟨⟨Tryz.func134, c134⟩, List.forall_mem_cons.2 ⟨⟨Tryz.func133, c133⟩, List.forall_mem_cons.2 ⟨⟨Tryz.func146, c146⟩, List.forall_mem_cons.2 ⟨⟨Tryz.func122, c122⟩, List.forall_mem_cons.2 ⟨⟨Tryz.func147, c147⟩, List.forall_mem_cons.2 ⟨⟨Tryz.func148, c148⟩, List.forall_mem_cons.2 ⟨⟨Tryz.func149, c149⟩, List.forall_mem_cons.2 ⟨⟨Tryz.func130, c130⟩, List.forall_mem_cons.2 ⟨⟨Tryz.func192, c192⟩, List.forall_mem_cons.2 ⟨⟨Tryz.func193, c193⟩, List.forall_mem_cons.2 ⟨⟨Tryz.func194, c194⟩, List.forall_mem_cons.2 ⟨⟨Tryz.func168, c168⟩, List.forall_mem_cons.2 ⟨⟨Tryz.func165, c165⟩, List.forall_mem_cons.2 ⟨⟨Tryz.func166, c166⟩, List.forall_mem_cons.2 ⟨⟨Tryz.func167, c167⟩, List.forall_mem_cons.2 ⟨⟨Tryz.func79, c79⟩, List.forall_mem_cons.2 ⟨⟨Tryz.func208, c208⟩, List.forall_mem_cons.2 ⟨⟨Tryz.func209, c209⟩, List.forall_mem_cons.2 ⟨⟨Tryz.func169, c169⟩, List.forall_mem_cons.2 ⟨⟨Tryz.func220, c220⟩, fun _ h => by simp at h⟩⟩⟩⟩⟩⟩⟩⟩⟩⟩⟩⟩⟩⟩⟩⟩⟩⟩⟩⟩⟩⟩⟩⟩⟩⟩⟩⟩⟩⟩⟩⟩⟩⟩⟩⟩⟩⟩⟩⟩⟩⟩⟩⟩⟩⟩⟩⟩⟩
theorem kindsT_ok : ∀ p ∈ kindsT, Tryz.prog.underlying p.1 = some (.int p.2) := List.forall_mem_cons.2 ⟨by kernel_rfl, List.forall_mem_cons.2 ⟨by kernel_rfl, List.forall_mem_cons.2 ⟨by kernel_rfl, List.forall_mem_cons.2 ⟨by kernel_rfl, fun _ h => by simp at h⟩⟩⟩⟩
def mapsT : MEnv := [(135, .int .i64, .int .i64 0), (204, .string, .agg #[.string ByteArray.empty, .string ByteArray.empty])]
theorem mapsT_ok : MEnv.Good Tryz.prog mapsT := List.forall_mem_cons.2 ⟨mt74, List.forall_mem_cons.2 ⟨mt78, fun _ h => by simp at h⟩⟩
end Go.Proofs.Heir
namespace Go.Proofs.Heir
open Go.Am
set_option maxRecDepth 100000
set_option maxHeartbeats 8000000
def smallC (c : Int) : Bool := decide (97 ≤ c) && decide (c ≤ 122)
def capC (c : Int) : Bool := decide (65 ≤ c) && decide (c ≤ 90)
def signC (c : Int) : Bool := smallC c || capC c || (decide (48 ≤ c) && decide (c ≤ 57)) || decide (c = 45) || decide (c = 95) || decide (c = 46)
@[reducible] def eRune (c : Int) : AV := .lit (.int .i32 c)
@[reducible] def eBool (b : Bool) : AV := .lit (.bool b)
@[reducible] def eStr (s : ByteArray) : AV := .lit (.string s)
@[reducible] def eInt (n : Int) : AV := .lit (.int .i64 n)
theorem f140_ok (c : Int) : FnOK Tryz.prog 140 [] [eRune c] [] (eBool (smallC c)) := by
 refine FnOK.startC (rvs := [.tmp 2]) G G_good Tryz.func140 rfl Tryz.ntmps140 rfl rfl ?_; with_reducible refine wD ?_
 refine IfK.mk (fun h => ?_) (fun h => ?_) <;> (try simp only [castN] at h) <;> with_reducible refine wK ?_
 ·(refine eK ?_ ?_ <;> with_reducible repeat' (first | exact trivial | (show _ ∧ _; refine aK ?_ ?_)))
  unfold smallC
  simp at h; simp [h]
 ·(refine eK ?_ ?_ <;> with_reducible repeat' (first | exact trivial | (show _ ∧ _; refine aK ?_ ?_)))
  unfold smallC
  simp at h; simp; omega
theorem f142_ok (c : Int) : FnOK Tryz.prog 142 [] [eRune c] [] (eBool (capC c)) := by
 refine FnOK.startC (rvs := [.tmp 2]) G G_good Tryz.func142 rfl Tryz.ntmps142 rfl rfl ?_; with_reducible refine wD ?_
 refine IfK.mk (fun h => ?_) (fun h => ?_) <;> (try simp only [castN] at h) <;> with_reducible refine wK ?_
 ·(refine eK ?_ ?_ <;> with_reducible repeat' (first | exact trivial | (show _ ∧ _; refine aK ?_ ?_)))
  unfold capC
  simp at h; simp [h]
 ·(refine eK ?_ ?_ <;> with_reducible repeat' (first | exact trivial | (show _ ∧ _; refine aK ?_ ?_)))
  unfold capC
  simp at h; simp; omega
theorem f177_ok (c : Int) : FnOK Tryz.prog 177 [] [eRune c] [] (eBool (signC c)) := by
 refine FnOK.startC (rvs := [.tmp 2]) G G_good Tryz.func177 rfl Tryz.ntmps177 rfl rfl ?_; with_reducible refine wD ?_
 refine cL (f140_ok c) c140 ?_; with_reducible refine wK ?_
 repeat' (first
  | refine aE ?_ ?_
  | ((with_reducible show IfK _ _ _ _); first | refine iK ?_ | (refine IfK.mk (fun _ => ?_) (fun _ => ?_) <;> with_reducible refine wK ?_))
  | ((with_reducible refine kQ 142 ?_); refine cL (f142_ok c) c142 ?_; with_reducible refine wK ?_)
  | apply trivial)
 all_goals (simp_all [signC, smallC, capC] <;> omega)
theorem f176_ok (c : Int) : FnOK Tryz.prog 176 [] [eRune c] [] (eBool (!signC c)) := by
 refine FnOK.startC (rvs := [.tmp 2]) G G_good Tryz.func176 rfl Tryz.ntmps176 rfl rfl ?_; with_reducible refine wD ?_
 refine cL (f177_ok c) c177 ?_; with_reducible refine wK ?_
 (refine eK ?_ ?_ <;> with_reducible repeat' (first | exact trivial | (show _ ∧ _; refine aK ?_ ?_)))
open Go.RowKit Go.Lib in
theorem f197_calls (g : Nat) (eg : ∀ args w, (callFunc g args).run Tryz.prog w = .ok (.enter g args) w) (p : Nat → Bool) (s : ByteArray) (w : World) (ht : Tabs Tryz.prog w fun _ => none) (hp : ∀ (W : World) (x : Nat), (Tabs Tryz.prog W fun _ => none) → x ≤ 1114111 → Calls Tryz.prog g #[.int .i32 (x : Int)] W fun e w' => e = .returned (.bool (p x)) ∧ Below W.heap.size W w') :
  Calls Tryz.prog 197 #[.string s, .func (.func g) #[] #[], .bool true] w fun e w' => e = .returned (.int .i64 (Lib.idxFunc p true s)) ∧ Below w.heap.size w w' := by
 go_enter Tryz.func197, Tryz.ntmps197
 go_wp2
 go_loopg [] s.size (fun gf wx => ∃ pos : Nat, wx.heap[w.heap.size]? = some (.stringIter s pos) ∧ Below w.heap.size w wx ∧ Lib.idxFuncFrom p true s gf pos = Lib.idxFunc p true s ∧ s.size ≤ pos + gf)
 case atStart => exact ⟨0, World.iter_heap w s 0, (Below.refl _ w).alloc (Nat.le_refl _) _, rfl, by omega⟩
 case round =>
  obtain ⟨pos, hit, hbw, hleft, hfu⟩ := hrel
  by_cases hps : pos < s.size
  ·obtain ⟨g', rfl⟩ : ∃ g', gk = g' + 1 := ⟨gk - 1, by omega⟩
   have hnx : ∀ ty, (Instr.next (.pointer (some ⟨w.heap.size, 0, none⟩)) true ty).run Tryz.prog wr = _ := fun ty => Lib.run_next_any_at wr w.heap.size s pos ty hit hps
   have hwd := Lib.width_pos s pos
   obtain ⟨R, hR⟩ : ∃ R, (Utf8.decode s pos).1 = R := ⟨_, rfl⟩
   obtain ⟨K, hK⟩ : ∃ K, (Utf8.decode s pos).2 = K := ⟨_, rfl⟩
   simp only [Lib.idxFuncFrom, hps, if_true, hR, hK] at hleft
   rw [hR, hK] at hnx
   rw [hK] at hwd
   have hit2 := Lib.iterAt_heap wr w.heap.size s pos (pos + K) hit
   have hbw2 := Lib.below_iterAt hbw (k := w.heap.size) (Nat.le_refl _) s (pos + K)
   obtain ⟨W, hWd⟩ : ∃ W, wr.iterAt w.heap.size s (pos + K) = W := ⟨_, rfl⟩
   rw [hWd] at hnx hit2 hbw2
   have hltW : w.heap.size < W.heap.size := (Array.getElem?_eq_some_iff.1 hit2).1
   have cS : Calls Tryz.prog g #[.int .i32 (R : Int)] W _   := hp W R (ht.below hbw2) (by rw [← hR]; exact Lib.rune_le s pos)
   clear hp
   cases hsp : p R <;> rw [hsp] at cS <;> simp only [hsp, if_true, Bool.false_eq_true, Bool.true_eq_false, if_false] at hleft
   ·go_wp2_with (go_at_fn g; refine cS.mono ?_; rintro e W' ⟨rfl, hbc⟩)
    go_roundg g'
    case measure => omega
    case rel => exact ⟨pos + K, (hbc.block _ hltW).trans hit2, (hbw2.trans (hbc.mono hbw2.size)), hleft, by omega⟩
   ·go_wp2_with (go_at_fn g; refine cS.mono ?_; rintro e W' ⟨rfl, hbc⟩)
    go_ret
    exact ⟨by rw [← hleft] <;> rfl, (hbw2.trans (hbc.mono hbw2.size))⟩
  ·have hnx : ∀ ty, (Instr.next (.pointer (some ⟨w.heap.size, 0, none⟩)) true ty).run Tryz.prog wr = _ := fun ty => Lib.run_next_end_at wr w.heap.size s pos ty hit hps
   rw [Lib.idxFuncFrom_end p true s gk pos hps] at hleft
   go_wp2
   go_ret
   exact ⟨by rw [← hleft] <;> rfl, hbw⟩
end Go.Proofs.Heir
namespace Go.Proofs.Heir
open Go Go.Am Go.RowKit Go.Lib
set_option maxRecDepth 100000
set_option maxHeartbeats 8000000
def lowB (c : UInt8) : UInt8 := if capC (c.toNat : Int) then c + 32 else c
def lowL (l : List UInt8) : List UInt8 := l.map lowB
def lowS (s : ByteArray) : ByteArray := ⟨(lowL s.data.toList).toArray⟩
def midL (l : List UInt8) (k : Nat) : List UInt8 := (l.take k).map lowB ++ l.drop k
theorem midL_len (l : List UInt8) (k : Nat) : (midL l k).length = l.length := by simp [midL]; omega
theorem midL_get (l : List UInt8) (k : Nat) (h : k < l.length) : (midL l k)[k]? = some l[k] := by
 simp [midL, List.getElem?_append, List.getElem?_drop, Nat.min_eq_left (Nat.le_of_lt h), h]
theorem midL_set (l : List UInt8) (k : Nat) (h : k < l.length) : (midL l k).set k (lowB l[k]) = midL l (k + 1) := by
 unfold midL
 have h1 : ((l.take k).map lowB).length = k := by simp; omega
 rw [List.set_append_right _ _ (by omega), h1, Nat.sub_self, List.take_succ_eq_append_getElem h, List.drop_eq_getElem_cons h]
 simp only [List.set_cons_zero, List.map_append, List.map_cons, List.map_nil, List.append_assoc, List.cons_append, List.nil_append]
theorem midL_skip (l : List UInt8) (k : Nat) (h : k < l.length) (hc : capC (l[k].toNat : Int) = false) : midL l k = midL l (k + 1) := by
 rw [← midL_set l k h]
 have h2 := midL_get l k h
 apply List.ext_getElem?
 intro j
 rw [List.getElem?_set]
 by_cases hj : k = j
 ·subst hj
  rw [if_pos rfl, if_pos (by rw [midL_len]; exact h), h2]
  simp [lowB, hc]
 ·rw [if_neg hj]
def rowOf (l : List UInt8) (z : List Value) : Array Value := (l.map (fun b => Value.int .u8 b.toNat) ++ z).toArray
theorem rowOf_get (l : List UInt8) (z : List Value) (k : Nat) (b : UInt8) (h : l[k]? = some b) : (rowOf l z)[k]? = some (.int .u8 b.toNat) := by
 have hk := (List.getElem?_eq_some_iff.1 h).1
 simp only [rowOf, List.getElem?_toArray]
 rw [List.getElem?_append_left (by simpa using hk), List.getElem?_map, h]; rfl
theorem rowOf_set (l : List UInt8) (z : List Value) (k : Nat) (b : UInt8) (h : k < l.length) : (rowOf l z).setIfInBounds k (.int .u8 b.toNat) = rowOf (l.set k b) z := by
 apply Array.ext'
 simp only [rowOf, Array.toList_setIfInBounds, List.map_set]
 rw [List.set_append_left _ _ (by simpa using h)]
theorem cap_step (c : UInt8) (h : capC (c.toNat : Int) = true) : IntKind.u8.wrap (IntKind.u8.wrap ((c.toNat : Int) - 65) + 97) = ((c + 32 : UInt8).toNat : Int) := by
 simp only [capC, Bool.and_eq_true, decide_eq_true_eq] at h
 have h1 : IntKind.u8.wrap ((c.toNat : Int) - 65) = (c.toNat : Int) - 65 := by simp [IntKind.wrap_u8]; omega
 rw [h1]
 have h2 : IntKind.u8.wrap ((c.toNat : Int) - 65 + 97) = (c.toNat : Int) + 32 := by simp [IntKind.wrap_u8]; omega
 rw [h2]
 have : (c + 32 : UInt8).toNat = c.toNat + 32 := by
  rw [UInt8.toNat_add]; simp; omega
 rw [this]; rfl
theorem f168_calls (s : ByteArray) (w : World) (ht : Tabs Tryz.prog w fun _ => none) (hs : s.size ≤ 100000) : Calls Tryz.prog 168 #[.string s] w fun e w' => e = .returned (.string (lowS s)) ∧ Below w.heap.size w w' := by
 obtain ⟨l, rfl⟩ : ∃ l : List UInt8, s = ⟨l.toArray⟩ := ⟨s.data.toList, by obtain ⟨⟨l⟩⟩ := s; rfl⟩
 have hsz : (ByteArray.mk l.toArray).size = l.length := by simp [ByteArray.size]
 have hconv := run_bytes_of_string (P := Tryz.prog) w 9 182 5 ⟨l.toArray⟩ Tryz.underlying9 Tryz.underlying182 Tryz.underlying5
 rw [hsz] at hconv hs
 obtain ⟨cap, hcap⟩ : ∃ cap, grownCap w l.length 0 5 = cap := ⟨_, rfl⟩
 rw [hcap] at hconv
 obtain ⟨z, hz⟩ : ∃ z : List Value, bytesRow ⟨l.toArray⟩ cap = rowOf l z := ⟨List.replicate (cap - l.length) (.int .u8 0), by
  apply Array.ext'; simp [bytesRow, rowOf, ByteArray.size]⟩
 rw [hz] at hconv
 obtain ⟨n, hn⟩ : ∃ n, (rowOf l z).size = n := ⟨_, rfl⟩
 rw [hn] at hconv
 clear hcap hz
 go_enter Tryz.func168, Tryz.ntmps168
 go_wp2
 go_loopw [10] (fun i wr => ∃ k : Nat, k ≤ l.length ∧ i = .int .i64 k ∧ wr.heap[w.heap.size]? = some (.cells (rowOf (midL l k) z) 5 (n, n + 1)) ∧ Below w.heap.size w wr) (fun i _ => l.length - (intOf i).toNat)
 case atStart => exact ⟨0, Nat.zero_le _, rfl, (heap_alloc_new w (Obj.cells (rowOf l z) 5 (n, n + 1))), ((Below.refl _ w).alloc (Nat.le_refl _) _).drew⟩
 case round =>
  obtain ⟨k, hk, rfl, hh, hb⟩ := hrel
  by_cases hlt : k < l.length
  ·have hcell : wr.cell? ⟨w.heap.size, k, none⟩ = some (.int .u8 (l[k].toNat : Int)) := by
    simp only [World.cell?, hh]
    exact rowOf_get _ z k _ (midL_get l k hlt)
   have hn2 : k < n := by rw [← hn]; simp [rowOf]; omega
   have hfz : wr.frozen? ⟨w.heap.size, k, none⟩ = false := by
    simp [World.frozen?, hh]; omega
   have hbs : w.heap.size < wr.heap.size := (Array.getElem?_eq_some_iff.1 hh).1
   have hb1 : 0 ≤ (l[k].toNat : Int) := Int.natCast_nonneg _
   have hb2 : (l[k].toNat : Int) ≤ 255 := by have := UInt8.toNat_lt l[k]; omega
   cases hc : capC (l[k].toNat : Int) with
   | false =>
     go_wp2_with (go_at_call 142; refine ((f142_ok (l[k].toNat : Int)).below (vs := [.int .i32 (l[k].toNat : Int)]) _ (ht.below hb)).mono ?_; rw [hc]; rintro e w1 ⟨rfl, hb3⟩)
     go_roundw
     case rel => exact ⟨k + 1, by omega, by go_num, by rw [hb3.block _ hbs, hh, midL_skip l k hlt hc], hb.trans (hb3.mono hb.size)⟩
     case measure => simp [intOf]; omega
   | true =>
     have hst : IntKind.u8.wrap (IntKind.u8.wrap ((l[k].toNat : Int) - 65) + 97) = ((lowB l[k]).toNat : Int) := by
      rw [cap_step _ hc]; unfold lowB; rw [hc]; rfl
     simp only [IntKind.wrap_u8] at hst
     have H := hid hst
     clear hst
     go_wp2_with (go_at_call 142; refine ((f142_ok (l[k].toNat : Int)).below (vs := [.int .i32 (l[k].toNat : Int)]) _ (ht.below hb)).mono ?_; rw [hc]; rintro e w1 ⟨rfl, hb3⟩; have hc1 := (hb3.cell (p := ⟨w.heap.size, k, none⟩) hbs).trans hcell; have hf1 := (hb3.frozen (p := ⟨w.heap.size, k, none⟩) hbs).trans hfz)
     go_roundw
     case rel =>
      refine ⟨k + 1, by omega, by go_num, ?_, hb.trans ((hb3.mono hb.size).setCell (Nat.le_refl _) _)⟩
      have hm : ((l[k].toNat : Int) - 65 + 97) % 256 = ((lowB l[k]).toNat : Int) := by
       rw [← H.out]; omega
      rw [hm]
      have hq : w1.heap[w.heap.size]? = some (.cells (rowOf (midL l k) z) 5 (n, n + 1)) := (hb3.block _ hbs).trans hh
      have hs2 : w.heap.size < w1.heap.size := (Array.getElem?_eq_some_iff.1 hq).1
      unfold World.setCell
      simp only [Array.getElem?_modify, hq, if_true, Option.map_some]
      have hrs := rowOf_set (midL l k) z k (lowB l[k]) (by rw [midL_len]; exact hlt)
      rw [midL_set l k hlt] at hrs
      simp only [hrs]; rfl
     case measure => simp [intOf]; omega
  ·have : k = l.length := by omega
   subst this
   have hrw : rowOf (midL l l.length) z = rowOf (lowL l) z := by simp [midL, lowL]
   rw [hrw] at hh
   have hcv := run_convert_bytes_back (P := Tryz.prog) wr 182 9 5 ⟨w.heap.size, 0, none⟩ cap (lowL l) Tryz.underlying182 Tryz.underlying5 Tryz.underlying9 (fun j hj => by
    have := rowOf_get (lowL l) z j ((lowL l)[j]) (List.getElem?_eq_getElem hj)
    have ha : (⟨w.heap.size, 0, none⟩ : Addr).add j = ⟨w.heap.size, j, none⟩ := by
     unfold Addr.add; split <;> simp_all
    rw [ha]; simp only [World.cell?, hh, this]; rfl)
   rw [show (lowL l).length = l.length from by simp [lowL]] at hcv
   go_wp2
   go_ret
   exact ⟨rfl, hb⟩
theorem f168_ok (s : ByteArray) (hs : s.size ≤ 100000) : FnOK Tryz.prog 168 [] [eStr s] [] (eStr (lowS s)) :=
 FnOK.of_calls (vs := [.string s]) (v := .string (lowS s)) fun w ht => f168_calls s w ht hs
def signB (b : UInt8) : Bool := signC (b.toNat : Int)
def firstB : List UInt8 → Bool
 | [] => false
 | b :: _ => smallC (b.toNat : Int) || capC (b.toNat : Int) || decide ((b.toNat : Int) = 95)
def rightL (l : List UInt8) : Bool := decide (1 ≤ l.length) && decide (l.length ≤ 40) && l.all signB && firstB l
def rightS (s : ByteArray) : Bool := rightL s.data.toList
theorem idx_bad (s : ByteArray) : ∀ (f pos : Nat), s.size ≤ pos + f → (0 ≤ idxFuncFrom (fun r => !signC (r : Int)) true s f pos ↔ ∃ i, pos ≤ i ∧ ∃ b, s.data.toList[i]? = some b ∧ signB b = false)
 | 0, pos, h => by
   have : ¬ (0 : Int) ≤ idxFuncFrom (fun r => !signC (r : Int)) true s 0 pos := by simp [idxFuncFrom]
   refine ⟨fun h' => absurd h' this, ?_⟩
   rintro ⟨i, h1, b, h2, _⟩
   have := (List.getElem?_eq_some_iff.1 h2).1
   have : i < s.size := this
   omega
 | f + 1, pos, h => by
   by_cases hp : pos < s.size
   ·have ih := idx_bad s f
    have hb : ∃ b, s.data.toList[pos]? = some b ∧ s.get! pos = b := ⟨_, List.getElem?_eq_getElem hp, by show s.data[pos]! = _; rw [getElem!_pos s.data pos hp]; rfl⟩
    obtain ⟨b, hb1, hb2⟩ := hb
    unfold idxFuncFrom
    rw [if_pos hp, decode_at, hb2]
    have hbn : b.toNat < 256 := UInt8.toNat_lt b
    have big : ∀ r : Nat, 128 ≤ r → signC (r : Int) = false := by
     intro r hr
     have : (128 : Int) ≤ r := by omega
     simp only [signC, smallC, capC, Bool.or_eq_false_iff, Bool.and_eq_false_iff, decide_eq_false_iff_not]
     omega
    have bad : ∀ r w : Nat, 128 ≤ r → 128 ≤ b.toNat → ((0 : Int) ≤ (if (!signC (r : Int)) = true then (pos : Int) else idxFuncFrom (fun r => !signC (r : Int)) true s f (pos + w)) ↔ ∃ i, pos ≤ i ∧ ∃ b, s.data.toList[i]? = some b ∧ signB b = false) := by
     intro r w hr hbr
     rw [big r hr]
     exact ⟨fun _ => ⟨pos, Nat.le_refl _, b, hb1, big _ hbr⟩, fun _ => by simp⟩
    rcases decodeN_shape (s.size - pos) b.toNat (s.get! (pos + 1)).toNat (s.get! (pos + 2)).toNat (s.get! (pos + 3)).toNat with ⟨h1, h2⟩ | ⟨h1, h3, h4, h5, h2⟩ | ⟨h1, h3, h4, h5, h6, h7, h2⟩ | ⟨h1, h3, h4, h5, h6, h7, h8, h2⟩ | h2
    ·rw [h2]
     show (0 : Int) ≤ (if (!signC (b.toNat : Int)) = true then (pos : Int) else idxFuncFrom _ true s f (pos + 1)) ↔ _
     cases hs : signC (b.toNat : Int) with
     | false => exact ⟨fun _ => ⟨pos, Nat.le_refl _, b, hb1, hs⟩, fun _ => by simp⟩
     | true =>
       rw [if_neg (by simp), ih (pos + 1) (by omega)]
       constructor
       ·rintro ⟨i, h3, h4⟩; exact ⟨i, by omega, h4⟩
       ·rintro ⟨i, h3, b', h4, h5⟩
        rcases Nat.lt_or_ge pos i with h6 | h6
        ·exact ⟨i, h6, b', h4, h5⟩
        ·have : i = pos := by omega
         subst this
         rw [hb1] at h4; cases h4
         rw [signB, hs] at h5; cases h5
    ·rw [h2]; exact bad _ _ (by omega) (by omega)
    ·rw [h2]; exact bad _ _ (by omega) (by omega)
    ·rw [h2]; exact bad _ _ (by omega) (by omega)
    ·rw [h2]
     refine bad _ _ (by omega) ?_
     rcases Nat.lt_or_ge b.toNat 128 with h3 | h3
     ·rw [decodeN, if_pos h3] at h2; simp only [Prod.mk.injEq] at h2; omega
     ·exact h3
   ·rw [idxFuncFrom_end _ _ _ _ _ hp]
    refine ⟨fun h' => by omega, ?_⟩
    rintro ⟨i, h1, b, h2, _⟩
    have := (List.getElem?_eq_some_iff.1 h2).1
    have : i < s.size := this
    omega
theorem idx_all (s : ByteArray) : decide (0 ≤ idxFunc (fun r => !signC (r : Int)) true s) = !s.data.toList.all signB := by
 have h := idx_bad s s.size 0 (by omega)
 cases ha : s.data.toList.all signB with
 | true =>
   simp only [Bool.not_true, decide_eq_false_iff_not]
   intro h'
   obtain ⟨i, _, b, h1, h2⟩ := h.1 h'
   have := List.all_eq_true.1 ha b (List.mem_of_getElem? h1)
   rw [this] at h2; cases h2
 | false =>
   simp only [Bool.not_false, decide_eq_true_eq]
   refine h.2 ?_
   obtain ⟨b, h1, h2⟩ := List.all_eq_false.1 ha
   obtain ⟨i, h3⟩ := List.getElem?_of_mem h1
   exact ⟨i, Nat.zero_le _, b, h3, by simpa using h2⟩
theorem f178_calls (g : Nat) (eg : ∀ args w, (callFunc g args).run Tryz.prog w = .ok (.enter g args) w) (p : Nat → Bool) (s : ByteArray) (w : World) (ht : Tabs Tryz.prog w fun _ => none) (hp : ∀ (W : World) (x : Nat), (Tabs Tryz.prog W fun _ => none) → x ≤ 1114111 → Calls Tryz.prog g #[.int .i32 (x : Int)] W fun e w' => e = .returned (.bool (p x)) ∧ Below W.heap.size W w') :
  Calls Tryz.prog 178 #[.string s, .func (.func g) #[] #[]] w fun e w' => e = .returned (.int .i64 (Lib.idxFunc p true s)) ∧ Below w.heap.size w w' := by
 have h44 := f197_calls g eg p s w ht hp
 clear hp
 go_enter Tryz.func178, Tryz.ntmps178
 go_wp2_with (go_at_call 197; refine h44.mono ?_; rintro e w1 ⟨rfl, hb⟩)
 go_ret
 exact ⟨rfl, hb⟩
theorem f141_calls (g : Nat) (eg : ∀ args w, (callFunc g args).run Tryz.prog w = .ok (.enter g args) w) (p : Nat → Bool) (s : ByteArray) (w : World) (ht : Tabs Tryz.prog w fun _ => none) (hp : ∀ (W : World) (x : Nat), (Tabs Tryz.prog W fun _ => none) → x ≤ 1114111 → Calls Tryz.prog g #[.int .i32 (x : Int)] W fun e w' => e = .returned (.bool (p x)) ∧ Below W.heap.size W w') :
  Calls Tryz.prog 141 #[.string s, .func (.func g) #[] #[]] w fun e w' => e = .returned (.bool (decide (0 ≤ Lib.idxFunc p true s))) ∧ Below w.heap.size w w' := by
 have h43 := f178_calls g eg p s w ht hp
 clear hp
 go_enter Tryz.func141, Tryz.ntmps141
 go_wp2_with (go_at_call 178; refine h43.mono ?_; rintro e w1 ⟨rfl, hb⟩)
 go_ret
 exact ⟨rfl, hb⟩
theorem f141_ok (s : ByteArray) : FnOK Tryz.prog 141 [] [eStr s, .lit (.func (.func 176) #[] #[])] [] (eBool (!s.data.toList.all signB)) := by
 rw [← idx_all]
 exact FnOK.of_calls (vs := [.string s, .func (.func 176) #[] #[]]) fun w ht => f141_calls 176 c176 (fun r => !signC (r : Int)) s w ht fun W x ht _ => (f176_ok (x : Int)).below (vs := [.int .i32 (x : Int)]) W ht
theorem size_len (s : ByteArray) : s.size = s.data.toList.length := (Array.length_toList (xs := s.data)).symm
theorem first_get {l : List UInt8} (h : 1 ≤ l.length) : ∃ b r, l = b :: r ∧ l[0]? = some b := by
 cases l with
 | nil => simp at h
 | cons b r => exact ⟨b, r, rfl, rfl⟩
theorem u8_i32 (b : UInt8) : IntKind.i32.wrap (b.toNat : Int) = (b.toNat : Int) := by
 have h : b.toNat < 256 := UInt8.toNat_lt b
 rw [IntKind.wrap_i32]; omega
theorem f139_ok (s : ByteArray) : FnOK Tryz.prog 139 [] [eStr s] [] (eBool (rightS s)) := by
 have hsz : s.size = s.data.toList.length := size_len s
 have hb0 : 1 ≤ s.data.toList.length → ∃ b r, s.data.toList = b :: r ∧ s.data.toList[0]? = some b := first_get
 refine FnOK.startC (rvs := [.tmp 2]) G G_good Tryz.func139 rfl Tryz.ntmps139 rfl rfl ?_; with_reducible refine wD ?_
 repeat' (first
  | refine aE ?_ ?_
  | ((with_reducible show IfK _ _ _ _); first | refine iK ?_ | (refine IfK.mk (fun _ => ?_) (fun _ => ?_) <;> with_reducible refine wK ?_))
  | ((with_reducible refine kQ 141 ?_); refine CallK.lit [] (f141_ok _) c141 ⟨rfl, MF_refl 12 _ rfl, trivial⟩ rfl rfl ?_; with_reducible refine wK ?_)
  | ((with_reducible refine kQ 142 ?_); refine cL (f142_ok _) c142 ?_; with_reducible refine wK ?_)
  | ((with_reducible refine kQ 140 ?_); refine cL (f140_ok _) c140 ?_; with_reducible refine wK ?_)
  | ((with_reducible show IdxSK _ _ _ _ _); obtain ⟨b, r, hl, hb⟩ := hb0 (by simp only [decide_eq_false_iff_not] at *; omega); refine IdxSK.mk 0 b rfl hb ?_; with_reducible refine wK ?_)
  | ((with_reducible show ConvK _ _ _ _ _ _ _); refine ConvK.int (by kernel_rfl) (by kernel_rfl) (u8_i32 _) ?_; with_reducible refine wK ?_)
  | apply trivial)
 all_goals (simp only [decide_eq_true_eq, decide_eq_false_iff_not, hsz] at *; unfold rightS rightL)
 ·rw [show decide (1 ≤ s.data.toList.length) = false from decide_eq_false (by omega)]; rfl
 ·rw [show decide (s.data.toList.length ≤ 40) = false from decide_eq_false (by omega)]; simp
 ·rw [show s.data.toList.all signB = false from by simp_all]; simp
 all_goals rw [show decide (1 ≤ s.data.toList.length) = true from decide_eq_true (by omega), show decide (s.data.toList.length ≤ 40) = true from decide_eq_true (by omega), show s.data.toList.all signB = true from by simp_all, hl]; simp_all [firstB]
theorem right_size {s : ByteArray} (h : rightS s = true) : s.size ≤ 40 := by
 unfold rightS rightL at h
 simp only [Bool.and_eq_true, decide_eq_true_eq] at h
 rw [size_len]; exact h.1.1.2
theorem right_small {s : ByteArray} (h : (!rightS s) = false) : s.size ≤ 100000 := by
 have := right_size (s := s) (by simpa using h)
 omega
theorem f134_ok (s : ByteArray) : FnOK Tryz.prog 134 [] [eStr s] [] (.tup [eStr (if rightS s then lowS s else ⟨#[]⟩), eInt (if rightS s then 0 else 4)]) := by
 refine FnOK.startC (rvs := [.tmp 2, .tmp 3]) G G_good Tryz.func134 rfl Tryz.ntmps134 rfl rfl ?_; with_reducible refine wD ?_
 repeat' (first
  | refine aE ?_ ?_
  | ((with_reducible show IfK _ _ _ _); first | refine iK ?_ | (refine IfK.mk (fun _ => ?_) (fun _ => ?_) <;> with_reducible refine wK ?_))
  | ((with_reducible refine kQ 139 ?_); refine cL (f139_ok _) c139 ?_; with_reducible refine wK ?_)
  | ((with_reducible refine kQ 168 ?_); refine CallK.lit [] (f168_ok _ (right_small (by assumption))) c168 ⟨rfl, trivial⟩ rfl rfl ?_; with_reducible refine wK ?_)
  | apply trivial)
 all_goals simp_all
def okAt (i : Nat) (b : UInt8) : Bool := (smallC (b.toNat : Int) || capC (b.toNat : Int)) || decide ((b.toNat : Int) = 95) || (decide (0 < i) && signB b)
theorem rightL_at {l : List UInt8} (h1 : 1 ≤ l.length) (h2 : l.length ≤ 40) : rightL l = true ↔ ∀ i b, l[i]? = some b → okAt i b = true := by
 unfold rightL
 rw [decide_eq_true h1, decide_eq_true h2]
 simp only [Bool.true_and, Bool.and_eq_true, List.all_eq_true]
 constructor
 ·rintro ⟨ha, hf⟩ i b hb
  cases l with
  | nil => simp at h1
  | cons c r =>
    cases i with
    | zero =>
      simp at hb; subst hb
      simp only [firstB] at hf
      simp [okAt, hf]
    | succ i =>
      have := ha b (List.mem_of_getElem? hb)
      simp [okAt, this]
 ·intro h
  refine ⟨fun b hb => ?_, ?_⟩
  ·obtain ⟨i, hi⟩ := List.getElem?_of_mem hb
   have := h i b hi
   simp only [okAt, signB, signC, smallC, capC, Bool.or_eq_true, Bool.and_eq_true, decide_eq_true_eq] at this ⊢
   omega
  ·cases l with
   | nil => simp at h1
   | cons c r =>
     have := h 0 c rfl
     simpa [okAt, firstB] using this
def strOf (l : List UInt8) : ByteArray := ⟨l.toArray⟩
theorem strOf_size (l : List UInt8) : (strOf l).size = l.length := by simp [strOf, ByteArray.size]
theorem strOf_app (a b : List UInt8) : strOf a ++ strOf b = strOf (a ++ b) := by
 apply ByteArray.ext
 simp [strOf]
theorem lowS_strOf (s : ByteArray) : lowS s = strOf (lowL s.data.toList) := rfl
theorem lowL_len (l : List UInt8) : (lowL l).length = l.length := by simp [lowL]
theorem cut_one {s : ByteArray} {k : Nat} {b : UInt8} (h : s.data.toList[k]? = some b) : s.extract k (k + 1) = strOf [b] := by
 obtain ⟨l, rfl⟩ : ∃ l : List UInt8, s = ⟨l.toArray⟩ := ⟨s.data.toList, by obtain ⟨⟨l⟩⟩ := s; rfl⟩
 rw [ByteArray.extract_mk]
 simp only at h
 have hk := (List.getElem?_eq_some_iff.1 h).1
 have : (l.drop k).take (k + 1 - k) = [b] := by
  rw [List.drop_eq_getElem_cons hk, show k + 1 - k = 1 from by omega]
  simp [(List.getElem?_eq_some_iff.1 h).2]
 rw [this]; rfl
theorem low_take {l : List UInt8} {k : Nat} {b : UInt8} (h : l[k]? = some b) : lowL (l.take (k + 1)) = lowL (l.take k) ++ [lowB b] := by
 have hk := (List.getElem?_eq_some_iff.1 h).1
 rw [List.take_succ_eq_append_getElem hk, lowL, List.map_append, (List.getElem?_eq_some_iff.1 h).2]; rfl
theorem cap_add {b : UInt8} (h : capC (b.toNat : Int) = true) : IntKind.u8.wrap ((b.toNat : Int) + 32) = ((b + 32 : UInt8).toNat : Int) := by
 rw [← cap_step b h]
 simp only [capC, Bool.and_eq_true, decide_eq_true_eq] at h
 rw [IntKind.wrap_u8, IntKind.wrap_u8, IntKind.wrap_u8]
 omega
theorem cap_of {c : Int} (h1 : decide (65 ≤ c) = true) (h2 : decide (c ≤ 90) = true) : capC c = true := by unfold capC; rw [h1, h2]; rfl
theorem bytes_cap {b : UInt8} (h1 : decide (65 ≤ (b.toNat : Int)) = true) (h2 : decide ((b.toNat : Int) ≤ 90) = true) : ∀ (i : Nat) (c : UInt8), [b + 32][i]? = some c → (flat [AV.lit (Value.int IntKind.u8 (IntKind.u8.wrap ((b.toNat : Int) + 32)))])[0 + i]? = some (.lit (.int .u8 c.toNat)) := by
 intro i c hc
 rw [cap_add (cap_of h1 h2)]
 cases i with
 | zero => cases hc; rfl
 | succ i => simp at hc
theorem f101_ok (s : ByteArray) (hs : s.size ≤ 100000) : FnOK Tryz.prog 101 [] [eStr s] [] (eStr (lowS s)) := by
 have hsz : s.size = s.data.toList.length := size_len s
 rw [lowS_strOf]
 obtain ⟨l, hl⟩ : ∃ l, s.data.toList = l := ⟨_, rfl⟩
 rw [hl] at hsz ⊢
 refine FnOK.startC (rvs := [.tmp 2]) G G_good Tryz.func101 rfl Tryz.ntmps101 rfl rfl ?_; with_reducible refine wD ?_
 refine LoopK.use G G_good (fun (k : Nat) => [(0, eStr s), (3, eStr (strOf (lowL (l.take k)))), (4, eInt k)]) (fun _ => []) (fun k => k ≤ l.length) (fun k => l.length - k) 0 (Nat.zero_le _) ⟨⟨rfl, rfl⟩, ⟨rfl, rfl, rfl, trivial⟩, trivial⟩ ?_
 intro k hk
 with_reducible refine wK ?_
 refine IfK.mk (fun h1 => ?_) (fun h1 => ?_) <;> (try simp only [castN] at h1) <;> with_reducible refine wK ?_
 ·simp only [decide_eq_true_eq] at h1
  have hk' : k < l.length := by omega
  obtain ⟨b, hb0⟩ : ∃ b, l[k]? = some b := ⟨_, List.getElem?_eq_getElem hk'⟩
  have hb : s.data.toList[k]? = some b := by rw [hl]; exact hb0
  refine IdxSK.mk k b rfl hb ?_; with_reducible refine wK ?_
  have hln : (strOf (lowL (l.take k))).size ≤ 100000 := by rw [strOf_size, lowL_len]; simp; omega
  have hc1 : (s.extract k (k + 1)).size = 1 := by rw [cut_one hb, strOf_size]; rfl
  have n1 : (strOf (lowL (l.take k))).size + (s.extract k (k + 1)).size ≤ 9223372036854775807 := by omega
  have n2 : (strOf (lowL (l.take k))).size + (ByteArray.mk [b + 32].toArray).size ≤ 9223372036854775807 := by rw [show (ByteArray.mk [b + 32].toArray).size = 1 from rfl]; omega
  have no : capC (b.toNat : Int) = false → strOf (lowL (l.take (k + 1))) = strOf (lowL (l.take k)) ++ s.extract k (k + 1) := by
   intro hc
   rw [cut_one hb, strOf_app, low_take hb0, show lowB b = b from by simp [lowB, hc]]
  have yes : capC (b.toNat : Int) = true → strOf (lowL (l.take (k + 1))) = strOf (lowL (l.take k)) ++ ByteArray.mk [b + 32].toArray := by
   intro hc
   rw [show ByteArray.mk [b + 32].toArray = strOf [b + 32] from rfl, strOf_app, low_take hb0, show lowB b = b + 32 from by simp [lowB, hc]]
  have no1 : decide (65 ≤ (b.toNat : Int)) = false → capC (b.toNat : Int) = false := by intro h; unfold capC; rw [h]; rfl
  have no2 : decide ((b.toNat : Int) ≤ 90) = false → capC (b.toNat : Int) = false := by intro h; unfold capC; rw [h]; simp
  repeat' (first
  | refine aE ?_ ?_
  | ((with_reducible show IfK _ _ _ _); first | refine iK ?_ | (refine IfK.mk (fun _ => ?_) (fun _ => ?_) <;> with_reducible refine wK ?_))
  | ((with_reducible show IdxSK _ _ _ _ _); refine IdxSK.mk k b rfl hb ?_; with_reducible refine wK ?_)
  | ((with_reducible show BytesK _ _ _ _ _ _ _ _ _); refine BytesK.mk (e := 5) [b + 32] (by kernel_rfl) (by kernel_rfl) (by kernel_rfl) rfl (by simp) (bytes_cap (by assumption) (by assumption)) ?_; with_reducible refine wK ?_)
  | ((with_reducible show CutSK _ _ _ _ _ _); refine CutSK.mk k (k + 1) rfl (by simp only [castN]; omega) (by omega) (by omega) ?_; with_reducible refine wK ?_)
  | ((with_reducible show NeedK _ _ _ _); refine NeedK.mk n1 ?_; with_reducible refine wK ?_)
  | ((with_reducible show NeedK _ _ _ _); refine NeedK.mk n2 ?_; with_reducible refine wK ?_)
  | ((with_reducible show NeedK _ _ _ _); refine nK ?_; with_reducible refine wK ?_)
  | ((with_reducible show NextK _ _); refine NextK.mk (k + 1) (by omega) (by omega) ⟨⟨rfl, rfl⟩, ⟨rfl, ?_, by show ((k + 1 : Nat) : Int) = (k : Int) + 1; omega, trivial⟩, trivial⟩)
  | apply trivial)
  ·exact yes (cap_of (by assumption) (by assumption))
  ·exact no (no2 (by assumption))
  ·exact no (no1 (by assumption))
 ·(refine eK ?_ ?_ <;> with_reducible repeat' (first | exact trivial | (show _ ∧ _; refine aK ?_ ?_)))
  have : k = l.length := by simp only [decide_eq_false_iff_not] at h1; omega
  rw [this, List.take_length]
structure AttrM where
 name : ByteArray
 value : ByteArray
 deriving DecidableEq
@[reducible] def eAttr (a : AttrM) : AV := .agg [eStr a.name, eStr a.value]
def oAttr (a : AttrM) : AV := eAttr a
@[reducible] def eAttrs (l : List AttrM) : AV := .sl 2 (l.map oAttr)
theorem MFL_refl {tab : List (Nat × Nat)} {fz : Nat → Bool} {m : ML} {n : Nat} : ∀ {cs : List AV}, noRefL cs = true → MFL (MF tab fz m n) cs cs
 | [], _ => trivial
 | c :: cs, h => by
   simp only [noRefL, Bool.and_eq_true] at h
   exact ⟨MF_refl n c h.1, MFL_refl h.2⟩
theorem f170_ok (a : AttrM) (n : ByteArray) : FnOK Tryz.prog 170 [] [eAttr a, .fptr (eStr n) 0] [] (eBool (decide (a.name = n))) := by
 refine FnOK.startC (rvs := [.tmp 3]) G G_good Tryz.func170 rfl Tryz.ntmps170 rfl rfl ?_; with_reducible refine wD ?_
 (refine eK ?_ ?_ <;> with_reducible repeat' (first | exact trivial | (show _ ∧ _; refine aK ?_ ?_)))
def badA (a : AttrM) : Bool := !(rightS a.name && decide (lowS a.name = a.name) && decide (a.value.size ≤ 200))
theorem f165_ok (a : AttrM) : FnOK Tryz.prog 165 [] [eAttr a] [] (eBool (badA a)) := by
 obtain ⟨n, v⟩ := a
 refine FnOK.startC (rvs := [.tmp 2]) G G_good Tryz.func165 rfl Tryz.ntmps165 rfl rfl ?_; with_reducible refine wD ?_
 refine cL (f134_ok _) c134 ?_; with_reducible refine wK ?_
 repeat' (first
  | refine aE ?_ ?_
  | ((with_reducible show IfK _ _ _ _); first | refine iK ?_ | (refine IfK.mk (fun _ => ?_) (fun _ => ?_) <;> with_reducible refine wK ?_))
  | apply trivial)
 all_goals (unfold badA; cases hr : rightS n <;> simp_all)
 by_cases h2 : v.size ≤ 200
 ·rw [decide_eq_true h2, decide_eq_false (by (try simp only [castN]); omega)]; rfl
 ·rw [decide_eq_false h2, decide_eq_true (by (try simp only [castN]); omega)]; rfl
def idxI {α : Type} (p : α → Bool) (l : List α) : Int := match l.findIdx? p with | some i => (i : Int) | none => -1
theorem idxI_hit {α : Type} {p : α → Bool} {l : List α} {k : Nat} {a : α} (h : l[k]? = some a) (hp : p a = true) (hno : ∀ (j : Nat) (x : α), j < k → l[j]? = some x → p x = false) : idxI p l = k := by
 have : l.findIdx? p = some k := by
  rw [List.findIdx?_eq_some_iff_getElem]
  obtain ⟨hk, hx⟩ := List.getElem?_eq_some_iff.1 h
  exact ⟨hk, by rw [hx]; exact hp, fun j hj => by simpa using hno j _ hj (List.getElem?_eq_getElem (by omega))⟩
 rw [idxI, this]
theorem idxI_none {α : Type} {p : α → Bool} {l : List α} (hno : ∀ (j : Nat) (x : α), l[j]? = some x → p x = false) : idxI p l = -1 := by
 have : l.findIdx? p = none := by
  rw [List.findIdx?_eq_none_iff]
  intro x hx
  obtain ⟨j, hj⟩ := List.getElem?_of_mem hx
  exact hno j x hj
 rw [idxI, this]
theorem attr_get {l : List AttrM} {k : Nat} {a : AttrM} (h : l[k]? = some a) : (l.map oAttr)[k]? = some (eAttr a) := by rw [List.getElem?_map, h]; rfl
theorem f169_ok (g : Nat) (cg : Callable Tryz.prog g) (caps : List AV) (hcaps : noRefL caps = true) (p : AttrM → Bool) (l : List AttrM) (hl : l.length ≤ 100000) (hf : ∀ a, a ∈ l → FnOK Tryz.prog g [] (eAttr a :: caps) [] (eBool (p a))) :
  FnOK Tryz.prog 169 [] [eAttrs l, .clo (.func g) [] caps] [] (eInt (idxI p l)) := by
 have hlm : (l.map oAttr).length = l.length := List.length_map ..
 refine FnOK.startC (rvs := [.tmp 4]) G G_good Tryz.func169 rfl Tryz.ntmps169 rfl rfl ?_; with_reducible refine wD ?_
 refine LoopK.use G G_good (fun (k : Nat) => [(0, eAttrs l), (1, .clo (.func g) [] caps), (7, eInt l.length), (8, eInt k)]) (fun _ => []) (fun k => k ≤ l.length ∧ ∀ j x, j < k → l[j]? = some x → p x = false) (fun k => l.length - k) 0 ⟨Nat.zero_le _, fun j x h => by omega⟩
  ⟨⟨rfl, rfl⟩, ⟨rfl, ⟨rfl, trivial, MFL_refl hcaps⟩, by show (l.length : Int) = ((l.map oAttr).length : Int); rw [hlm], rfl, trivial⟩, trivial⟩ ?_
 rintro k ⟨hk, hno⟩
 with_reducible refine wK ?_
 refine IfK.mk (fun h1 => ?_) (fun h1 => ?_) <;> (try simp only [castN] at h1) <;> with_reducible refine wK ?_
 ·simp only [decide_eq_true_eq] at h1
  have hk' : k < l.length := by omega
  obtain ⟨a, ha⟩ : ∃ a, l[k]? = some a := ⟨_, List.getElem?_eq_getElem hk'⟩
  refine IdxK.mk k (eAttr a) rfl (attr_get ha) ?_; with_reducible refine wK ?_
  refine CallK.lit [] (hf a (List.mem_of_getElem? ha)) cg ⟨⟨rfl, rfl, trivial⟩, MFL_refl hcaps⟩ rfl rfl ?_; with_reducible refine wK ?_
  refine IfK.mk (fun h2 => ?_) (fun h2 => ?_) <;> (try simp only [castN] at h2) <;> with_reducible refine wK ?_
  ·(refine eK ?_ ?_ <;> with_reducible repeat' (first | exact trivial | (show _ ∧ _; refine aK ?_ ?_)))
   exact idxI_hit ha h2 hno
  ·refine nK ?_; with_reducible refine wK ?_
   refine NextK.mk (k + 1) ⟨by omega, fun j x hj hx => ?_⟩ (by omega) ⟨⟨rfl, rfl⟩, ⟨rfl, ⟨rfl, trivial, MFL_refl hcaps⟩, rfl, by show ((k + 1 : Nat) : Int) = (k : Int) + 1; omega, trivial⟩, trivial⟩
   rcases Nat.lt_or_ge j k with h6 | h6
   ·exact hno j x h6 hx
   ·have : j = k := by omega
    subst this
    rw [ha] at hx; cases hx; exact h2
 ·(refine eK ?_ ?_ <;> with_reducible repeat' (first | exact trivial | (show _ ∧ _; refine aK ?_ ?_)))
  have : k = l.length := by simp only [decide_eq_false_iff_not] at h1; omega
  exact idxI_none fun j x hx => hno j x (by have := (List.getElem?_eq_some_iff.1 hx).1; omega) hx
theorem f166_ok (g : Nat) (cg : Callable Tryz.prog g) (caps : List AV) (hcaps : noRefL caps = true) (p : AttrM → Bool) (l : List AttrM) (hl : l.length ≤ 100000) (hf : ∀ a, a ∈ l → FnOK Tryz.prog g [] (eAttr a :: caps) [] (eBool (p a))) :
  FnOK Tryz.prog 166 [] [eAttrs l, .clo (.func g) [] caps] [] (eBool (l.any p)) := by
 refine FnOK.startC (rvs := [.tmp 4]) G G_good Tryz.func166 rfl Tryz.ntmps166 rfl rfl ?_; with_reducible refine wD ?_
 refine CallK.lit [] (f169_ok g cg caps hcaps p l hl hf) c169 ⟨rfl, ⟨rfl, trivial, MFL_refl hcaps⟩, trivial⟩ rfl rfl ?_; with_reducible refine wK ?_
 (refine eK ?_ ?_ <;> with_reducible repeat' (first | exact trivial | (show _ ∧ _; refine aK ?_ ?_)))
 unfold idxI
 cases h : l.findIdx? p with
 | none =>
   rw [List.findIdx?_eq_none_iff] at h
   have : l.any p = false := by rw [List.any_eq_false]; intro x hx; rw [h x hx]; simp
   rw [this]; rfl
 | some i =>
   rw [List.findIdx?_eq_some_iff_getElem] at h
   obtain ⟨hi, h1, _⟩ := h
   have : l.any p = true := List.any_eq_true.2 ⟨_, List.getElem_mem hi, h1⟩
   rw [this]; exact (decide_eq_true (Int.natCast_nonneg i)).symm
theorem f135_ok (l : List AttrM) (hl : l.length ≤ 100000) (n : ByteArray) : FnOK Tryz.prog 135 [] [eAttrs l, eStr n] [] (eInt (idxI (fun a => decide (a.name = n)) l)) := by
 refine FnOK.startC (rvs := [.tmp 4]) G G_good Tryz.func135 rfl Tryz.ntmps135 rfl rfl ?_; with_reducible refine wD ?_
 refine CallK.lit [30] (f169_ok 170 c170 [.fptr (eStr n) 0] rfl (fun a => decide (a.name = n)) l hl fun a _ => f170_ok a n) c169 ⟨rfl, ⟨rfl, trivial, ⟨_, _, _, _, _, rfl, rfl, rfl, rfl, rfl, rfl⟩, trivial⟩, trivial⟩ rfl rfl ?_; with_reducible refine wK ?_
 (refine eK ?_ ?_ <;> with_reducible repeat' (first | exact trivial | (show _ ∧ _; refine aK ?_ ?_)))
def okA (a : AttrM) : Bool := rightS a.name && decide (lowS a.name = a.name) && decide (a.value.size ≤ 200)
theorem badA_eq (a : AttrM) : badA a = !okA a := rfl
def hasName (n : ByteArray) (a : AttrM) : Bool := decide (a.name = n)
def posA (l : List AttrM) (n : ByteArray) : Int := idxI (hasName n) l
def rightA (l : List AttrM) : Bool := decide (l.length ≤ 40) && l.all okA && decide ((l.map AttrM.name).Nodup)
def tabFrom (t : List (ByteArray × AttrM)) (l : List AttrM) : List (ByteArray × AttrM) := l.foldl (fun t a => tput a.name a t) t
def tabL (l : List AttrM) : List (ByteArray × AttrM) := tabFrom [] l
theorem tput_len {K α : Type} [DecidableEq K] (k : K) (x : α) : ∀ t : List (K × α), (tput k x t).length = if (tget k t).isSome then t.length else t.length + 1
 | [] => rfl
 | p :: r => by
   simp only [tput, tget]
   split
   ·simp
   ·rw [List.length_cons, tput_len k x r]; split <;> simp
theorem tabFrom_len : ∀ (l : List AttrM) (t : List (ByteArray × AttrM)), (tabFrom t l).length ≤ t.length + l.length ∧ ((tabFrom t l).length = t.length + l.length ↔ (l.map AttrM.name).Nodup ∧ ∀ a ∈ l, (tget a.name t).isSome = false)
 | [], t => by simp [tabFrom]
 | a :: r, t => by
   obtain ⟨h1, h2⟩ := tabFrom_len r (tput a.name a t)
   have hl := tput_len a.name a t
   show (tabFrom (tput a.name a t) r).length ≤ _ ∧ ((tabFrom (tput a.name a t) r).length = _ ↔ _)
   cases hg : (tget a.name t).isSome with
   | true =>
     rw [hg, if_pos rfl] at hl
     refine ⟨by simp only [List.length_cons]; omega, ⟨fun h => ?_, fun h => ?_⟩⟩
     ·simp only [List.length_cons] at h; omega
     ·have := h.2 a (by simp); rw [hg] at this; cases this
   | false =>
     rw [hg, if_neg (by simp)] at hl
     refine ⟨by simp only [List.length_cons]; omega, ?_⟩
     rw [show (tabFrom (tput a.name a t) r).length = t.length + (a :: r).length ↔ (tabFrom (tput a.name a t) r).length = (tput a.name a t).length + r.length from by rw [hl, List.length_cons]; omega, h2]
     simp only [List.map_cons, List.nodup_cons, List.mem_cons, forall_eq_or_imp]
     constructor
     ·rintro ⟨k1, k2⟩
      refine ⟨⟨fun hm => ?_, k1⟩, hg, fun b hb => ?_⟩
      ·obtain ⟨b, hb, he⟩ := List.mem_map.1 hm
       have := k2 b hb
       rw [tget_put, he, if_pos rfl] at this; cases this
      ·have := k2 b hb
       rw [tget_put] at this
       split at this
       ·cases this
       ·exact this
     ·rintro ⟨⟨k1, k2⟩, _, k3⟩
      refine ⟨k2, fun b hb => ?_⟩
      rw [tget_put, if_neg (fun e => k1 (List.mem_map.2 ⟨b, hb, e.symm⟩))]
      exact k3 b hb
theorem tabL_len (l : List AttrM) : (tabL l).length = l.length ↔ (l.map AttrM.name).Nodup := by
 have := (tabFrom_len l []).2
 simp only [List.length_nil, Nat.zero_add] at this
 exact this.trans ⟨fun h => h.1, fun h => ⟨h, fun _ _ => rfl⟩⟩
theorem tabL_le (l : List AttrM) : (tabL l).length ≤ l.length := by
 have := (tabFrom_len l []).1
 simp only [List.length_nil, Nat.zero_add] at this
 exact this
theorem tabL_snoc {l : List AttrM} {k : Nat} {a : AttrM} (h : l[k]? = some a) : tabL (l.take (k + 1)) = tput a.name a (tabL (l.take k)) := by
 have hk := (List.getElem?_eq_some_iff.1 h).1
 rw [List.take_succ_eq_append_getElem hk, (List.getElem?_eq_some_iff.1 h).2]
 simp [tabL, tabFrom, List.foldl_append]
@[reducible] def rTab (l : List AttrM) : MS := .live 2 (tRows Value.string oAttr (tabL l)) false
theorem noRef_tabA (t : List (ByteArray × AttrM)) : noRefL (tRows Value.string oAttr t) = true := by
 rw [noRefL_iff]; intro x hx
 obtain ⟨a, _, rfl⟩ := List.mem_map.1 hx
 rfl
theorem map64 : MapTy Tryz.prog 204 .string (.agg #[.string ByteArray.empty, .string ByteArray.empty]) := ⟨9, 130, by kernel_rfl, by kernel_rfl, fun w => Tryz.zeroValue130 w⟩
theorem f167_ok (l : List AttrM) (hl : l.length ≤ 100000) : FnOK Tryz.prog 167 [] [eAttrs l] [rTab l] (.mapr 0) := by
 have hlm : (l.map oAttr).length = l.length := List.length_map ..
 refine FnOK.startC (rvs := [.tmp 2]) G G_good Tryz.func167 rfl Tryz.ntmps167 rfl rfl ?_; with_reducible refine wD ?_
 refine LoopK.use G G_good (fun (k : Nat) => [(3, .mapr 61), (7, eAttrs l), (8, eInt l.length), (9, eInt k)]) (fun k => [(61, .live 2 (tRows Value.string oAttr (tabL (l.take k))) false)]) (fun k => k ≤ l.length) (fun k => l.length - k) 0 (Nat.zero_le _)
  ⟨⟨rfl, rfl⟩, ⟨trivial, rfl, by show (l.length : Int) = ((l.map oAttr).length : Int); rw [hlm], rfl, trivial⟩, ⟨.refl rfl, rfl⟩, trivial⟩ ?_
 intro k hk
 with_reducible refine wK ?_
 refine IfK.mk (fun h1 => ?_) (fun h1 => ?_) <;> (try simp only [castN] at h1) <;> with_reducible refine wK ?_
 ·simp only [decide_eq_true_eq] at h1
  have hk' : k < l.length := by omega
  obtain ⟨a, ha⟩ : ∃ a, l[k]? = some a := ⟨_, List.getElem?_eq_getElem hk'⟩
  obtain ⟨n, v⟩ := a
  refine IdxK.mk k (eAttr ⟨n, v⟩) rfl (attr_get ha) ?_; with_reducible refine wK ?_
  have hle : (tabL (l.take k)).length ≤ k := Nat.le_trans (tabL_le _) (by simp; omega)
  refine PutK.tab Value.string oAttr (tabL (l.take k)) (k := n) ⟨n, v⟩ map64 rfl key_str inj_str (by unfold maxLen; omega) rfl ?_; with_reducible refine wK ?_
  refine nK ?_; with_reducible refine wK ?_
  refine NextK.mk (k + 1) (by omega) (by omega) ⟨⟨rfl, rfl⟩, ⟨trivial, rfl, rfl, by show ((k + 1 : Nat) : Int) = (k : Int) + 1; omega, trivial⟩, ⟨?_, ?_⟩, trivial⟩
  ·rw [tabL_snoc ha]; exact .refl (noRef_tabA _)
  ·exact noRef_tabA _
 ·(refine eK ?_ ?_ <;> with_reducible repeat' (first | exact trivial | (show _ ∧ _; refine aK ?_ ?_)))
  have : k = l.length := by simp only [decide_eq_false_iff_not] at h1; omega
  rw [this, List.take_length]
  exact MFL_refl (noRef_tabA _)
theorem FnOK.fn1 {P : Program} {f g : FuncId} {a : AV} {outs : List MS} {res : AV} (h : FnOK P f [] [a, .clo (.func g) [] []] outs res) : FnOK P f [] [a, .lit (.func (.func g) #[] #[])] outs res := by
 intro w W0 L vs hL hs hr
 refine h w W0 L vs hL hs ⟨hr.1, fun j c v h1 h2 => ?_⟩
 match j with
 | 0 => exact hr.2 0 c v h1 h2
 | 1 =>
   have := hr.2 1 _ v rfl h2
   cases this
   simp at h1
   subst h1
   exact Rep.clo (va := []) (vb := []) rfl rfl (fun j c v h => by simp at h) (fun j c v h => by simp at h)
 | j + 2 => simp at h1
theorem right_bad (l : List AttrM) : l.any badA = !l.all okA := by
 induction l with
 | nil => rfl
 | cons a r ih => simp [List.any_cons, List.all_cons, ih, badA_eq]
theorem tab_outs (l : List AttrM) : okOuts [rTab l] := by
 refine ⟨Wide.of_mem fun r hr => ?_, noRef_tabA _, trivial⟩
 obtain ⟨p, _, rfl⟩ := List.mem_map.1 hr
 rfl
theorem f133_ok (l : List AttrM) (hl : l.length ≤ 100000) : FnOK Tryz.prog 133 [] [eAttrs l] [] (eBool (rightA l)) := by
 have hlm : (l.map oAttr).length = l.length := List.length_map ..
 refine FnOK.startC (rvs := [.tmp 2]) G G_good Tryz.func133 rfl Tryz.ntmps133 rfl rfl ?_; with_reducible refine wD ?_
 repeat' (first
  | refine aE ?_ ?_
  | ((with_reducible show IfK _ _ _ _); first | refine iK ?_ | (refine IfK.mk (fun _ => ?_) (fun _ => ?_) <;> with_reducible refine wK ?_))
  | ((with_reducible refine kQ 166 ?_); refine CallK.lit [] (FnOK.fn1 (f166_ok 165 c165 [] rfl badA l hl fun a _ => f165_ok a)) c166 ⟨rfl, MF_refl 12 _ rfl, trivial⟩ rfl rfl ?_; with_reducible refine wK ?_)
  | ((with_reducible refine kQ 167 ?_); refine CallK.new 151 [] (f167_ok l hl) c167 ⟨rfl, trivial⟩ rfl rfl rfl (tab_outs l) rfl ?_; with_reducible refine wK ?_)
  | ((with_reducible show CountK _ _ _ _ _ _ _); refine CountK.mk map64 ⟨_, _, rfl⟩ rfl ?_; with_reducible refine wK ?_)
  | apply trivial)
 ·have h2 : l.all okA = true := by have := right_bad l; simp_all
  have e : (tRows Value.string oAttr (tabL l)).length = (tabL l).length := List.length_map ..
  have h3 : l.length ≤ 40 := by simp only [hlm, decide_eq_true_eq] at *; omega
  have h4 := tabL_len l
  unfold rightA
  rw [h2, decide_eq_true h3, e, hlm]
  by_cases hn : (l.map AttrM.name).Nodup
  ·rw [decide_eq_true hn, h4.2 hn]; simp
  ·rw [decide_eq_false hn]
   have : ¬ (tabL l).length = l.length := fun h => hn (h4.1 h)
   rw [decide_eq_false (by (try simp only [castN]); omega)]; rfl
 ·have h2 : l.all okA = false := by have := right_bad l; simp_all
  unfold rightA; rw [h2]; simp
 ·have h2 : decide (l.length ≤ 40) = false := by simp only [hlm, decide_eq_false_iff_not] at *; omega
  unfold rightA; rw [h2]; simp
def noS : ByteArray := ⟨#[]⟩
def findE (l : List AttrM) (n : ByteArray) : Int := if rightA l then (if rightS n then 0 else 4) else 1
def findS (l : List AttrM) (n : ByteArray) : ByteArray := if rightA l && rightS n then lowS n else noS
def findP (l : List AttrM) (n : ByteArray) : Int := if rightA l && rightS n then posA l (lowS n) else -1
theorem f88_ok (l : List AttrM) (hl : l.length ≤ 100000) (n : ByteArray) : FnOK Tryz.prog 88 [] [eAttrs l, eStr n] [] (.tup [eStr (findS l n), eInt (findP l n), eInt (findE l n)]) := by
 refine FnOK.startC (rvs := [.tmp 4, .tmp 5, .tmp 6]) G G_good Tryz.func88 rfl Tryz.ntmps88 rfl rfl ?_; with_reducible refine wD ?_
 repeat' (first
  | refine aE ?_ ?_
  | ((with_reducible show IfK _ _ _ _); first | refine iK ?_ | (refine IfK.mk (fun _ => ?_) (fun _ => ?_) <;> with_reducible refine wK ?_))
  | ((with_reducible refine kQ 133 ?_); refine cL (f133_ok l hl) c133 ?_; with_reducible refine wK ?_)
  | ((with_reducible refine kQ 134 ?_); refine cL (f134_ok _) c134 ?_; with_reducible refine wK ?_)
  | ((with_reducible refine kQ 135 ?_); refine cL (f135_ok l hl _) c135 ?_; with_reducible refine wK ?_)
  | apply trivial)
 all_goals (cases h1 : rightA l <;> cases h2 : rightS n <;> simp_all [findE, findS, findP, noS])
 rfl
def getS (l : List AttrM) (n : ByteArray) : ByteArray := if 0 ≤ findP l n then ((l[(findP l n).toNat]?).map AttrM.value).getD noS else noS
theorem idxI_cases {α : Type} (p : α → Bool) (l : List α) : idxI p l = -1 ∨ ∃ (k : Nat) (a : α), idxI p l = k ∧ l[k]? = some a ∧ p a = true := by
 unfold idxI
 cases h : l.findIdx? p with
 | none => exact .inl rfl
 | some k =>
   rw [List.findIdx?_eq_some_iff_getElem] at h
   obtain ⟨hk, h1, _⟩ := h
   exact .inr ⟨k, _, rfl, List.getElem?_eq_getElem hk, h1⟩
theorem findP_cases (l : List AttrM) (n : ByteArray) : findP l n = -1 ∨ ∃ (k : Nat) (a : AttrM), findP l n = k ∧ l[k]? = some a ∧ a.name = lowS n := by
 unfold findP
 split
 ·rcases idxI_cases (hasName (lowS n)) l with h | ⟨k, a, h1, h2, h3⟩
  ·exact .inl h
  ·exact .inr ⟨k, a, h1, h2, by simpa [hasName] using h3⟩
 ·exact .inl rfl
theorem f47_ok (l : List AttrM) (hl : l.length ≤ 100000) (n : ByteArray) : FnOK Tryz.prog 47 [] [eAttrs l, eStr n] [] (.tup [eStr (getS l n), eBool (decide (0 ≤ findP l n))]) := by
 refine FnOK.startC (rvs := [.tmp 4, .tmp 5]) G G_good Tryz.func47 rfl Tryz.ntmps47 rfl rfl ?_; with_reducible refine wD ?_
 refine cL (f88_ok l hl n) c88 ?_; with_reducible refine wK ?_
 rcases findP_cases l n with h | ⟨k, a, h, ha, hn⟩
 ·simp only [h]
  refine IfK.yes rfl ?_; with_reducible refine wK ?_
  (refine eK ?_ ?_ <;> with_reducible repeat' (first | exact trivial | (show _ ∧ _; refine aK ?_ ?_)))
  ·unfold getS; rw [h]; rfl
  ·rfl
 ·simp only [h]
  refine IfK.no (decide_eq_false (by (try simp only [castN]); omega)) ?_; with_reducible refine wK ?_
  refine IdxK.mk k (eAttr a) rfl (attr_get ha) ?_; with_reducible refine wK ?_
  (refine eK ?_ ?_ <;> with_reducible repeat' (first | exact trivial | (show _ ∧ _; refine aK ?_ ?_)))
  ·unfold getS; rw [h, if_pos (by omega), Int.toNat_natCast, ha]; rfl
  ·exact decide_eq_true (by omega)
theorem f100_ok (s : ByteArray) : FnOK Tryz.prog 100 [] [eStr s] [] (eBool (rightS s)) := by
 have hsz : s.size = s.data.toList.length := size_len s
 refine FnOK.startC (rvs := [.tmp 2]) G G_good Tryz.func100 rfl Tryz.ntmps100 rfl rfl ?_; with_reducible refine wD ?_
 repeat' (first
  | refine aE ?_ ?_
  | ((with_reducible show IfK _ _ _ _); first | refine iK ?_ | (refine IfK.mk (fun _ => ?_) (fun _ => ?_) <;> with_reducible refine wK ?_))
  | apply trivial)
 all_goals (simp only [decide_eq_true_eq, decide_eq_false_iff_not, hsz] at *)
 ·unfold rightS rightL
  rw [show decide (1 ≤ s.data.toList.length) = false from decide_eq_false (by omega)]; rfl
 ·unfold rightS rightL
  rw [show decide (s.data.toList.length ≤ 40) = false from decide_eq_false (by omega)]; simp
 ·have hr := rightL_at (l := s.data.toList) (by omega) (by omega)
  refine LoopK.use G G_good (fun (k : Nat) => [(0, eStr s), (3, eInt k)]) (fun _ => []) (fun k => k ≤ s.data.toList.length ∧ ∀ i b, i < k → s.data.toList[i]? = some b → okAt i b = true) (fun k => s.data.toList.length - k) 0 ⟨Nat.zero_le _, fun i _ h => by omega⟩ ⟨⟨rfl, rfl⟩, ⟨rfl, rfl, trivial⟩, trivial⟩ ?_
  rintro k ⟨hk, hok⟩
  with_reducible refine wK ?_
  refine IfK.mk (fun h1 => ?_) (fun h1 => ?_) <;> (try simp only [castN] at h1) <;> with_reducible refine wK ?_
  ·simp only [decide_eq_true_eq] at h1
   have hk' : k < s.data.toList.length := by rw [← size_len s]; omega
   obtain ⟨b, hb⟩ : ∃ b, s.data.toList[k]? = some b := ⟨_, List.getElem?_eq_getElem hk'⟩
   refine IdxSK.mk k b rfl hb ?_; with_reducible refine wK ?_
   have next : okAt k b = true → ∀ i c, i < k + 1 → s.data.toList[i]? = some c → okAt i c = true := by
    intro h i c hi hc
    rcases Nat.lt_or_ge i k with h6 | h6
    ·exact hok i c h6 hc
    ·have : i = k := by omega
     subst this
     rw [hb] at hc; cases hc; exact h
   have no : okAt k b = false → rightS s = false := by
    intro h
    cases h' : rightS s with
    | false => rfl
    | true => rw [hr.1 h' k b hb] at h; cases h
   have hb256 : b.toNat < 256 := UInt8.toNat_lt b
   obtain ⟨c, hcb⟩ : ∃ c : Int, (b.toNat : Int) = c := ⟨_, rfl⟩
   have hc : (0 ≤ c ∧ c ≤ 44) ∨ (45 ≤ c ∧ c ≤ 45) ∨ (46 ≤ c ∧ c ≤ 46) ∨ (47 ≤ c ∧ c ≤ 47) ∨ (48 ≤ c ∧ c ≤ 57) ∨ (58 ≤ c ∧ c ≤ 64) ∨ (65 ≤ c ∧ c ≤ 90) ∨ (91 ≤ c ∧ c ≤ 94) ∨ (95 ≤ c ∧ c ≤ 95) ∨ (96 ≤ c ∧ c ≤ 96) ∨ (97 ≤ c ∧ c ≤ 122) ∨ (123 ≤ c ∧ c ≤ 255) := by omega
   have hok' : okAt k b = ((decide (97 ≤ c) && decide (c ≤ 122) || decide (65 ≤ c) && decide (c ≤ 90)) || decide (c = 95) || (decide (0 < k) && ((decide (97 ≤ c) && decide (c ≤ 122)) || (decide (65 ≤ c) && decide (c ≤ 90)) || (decide (48 ≤ c) && decide (c ≤ 57)) || decide (c = 45) || decide (c = 95) || decide (c = 46)))) := by
    simp only [okAt, signB, signC, smallC, capC, hcb]
   simp only [hcb]
   have n1 : (!false) = true := rfl
   have n2 : (!true) = false := rfl
   obtain ⟨K0, hK0⟩ : ∃ K0, decide ((k : Int) = 0) = K0 := ⟨_, rfl⟩
   have hk0 : decide (0 < k) = !K0 := by
    rw [← hK0]
    rcases Nat.eq_zero_or_pos k with h | h
    ·subst h; rfl
    ·rw [decide_eq_true h, decide_eq_false (by omega)]; rfl
   rw [hk0] at hok'
   rcases hc with ⟨u1, u2⟩ | ⟨u1, u2⟩ | ⟨u1, u2⟩ | ⟨u1, u2⟩ | ⟨u1, u2⟩ | ⟨u1, u2⟩ | ⟨u1, u2⟩ | ⟨u1, u2⟩ | ⟨u1, u2⟩ | ⟨u1, u2⟩ | ⟨u1, u2⟩ | ⟨u1, u2⟩
   ·have e0 : decide (97 ≤ c) = false := decide_eq_false (by omega)
    have e1 : decide (c ≤ 122) = true := decide_eq_true (by omega)
    have e2 : decide (65 ≤ c) = false := decide_eq_false (by omega)
    have e3 : decide (c ≤ 90) = true := decide_eq_true (by omega)
    have e4 : decide (48 ≤ c) = false := decide_eq_false (by omega)
    have e5 : decide (c ≤ 57) = true := decide_eq_true (by omega)
    have e6 : decide (c = 45) = false := decide_eq_false (by omega)
    have e7 : decide (c = 46) = false := decide_eq_false (by omega)
    have e8 : decide (c = 95) = false := decide_eq_false (by omega)
    have e9 : (!decide (c = 95)) = true := by rw [e8]; rfl
    have f5 : (!decide (c ≤ 57)) = !(decide (c ≤ 57)) := rfl
    rw [e5] at f5
    have f6 : (!decide (c = 45)) = !(decide (c = 45)) := rfl
    rw [e6] at f6
    have f7 : (!decide (c = 46)) = !(decide (c = 46)) := rfl
    rw [e7] at f7
    simp only [Bool.not_true, Bool.not_false] at f5
    simp only [Bool.not_true, Bool.not_false] at f6
    simp only [Bool.not_true, Bool.not_false] at f7
    simp only [e0, e1, e2, e3, e4, e5, e6, e7, e8, Bool.and_true, Bool.true_and, Bool.and_false, Bool.false_and, Bool.or_true, Bool.true_or, Bool.or_false, Bool.false_or] at hok'
    cases K0
    all_goals (try simp only [Bool.not_true, Bool.not_false] at hok')
    repeat' (first
  | refine aE ?_ ?_
  | ((with_reducible show IfK _ _ _ _); first | refine iK ?_ | (refine IfK.mk (fun _ => ?_) (fun _ => ?_) <;> with_reducible refine wK ?_))
  | ((with_reducible show NeedK _ _ _ _); refine nK ?_; with_reducible refine wK ?_)
  | ((with_reducible show NextK _ _); refine NextK.mk (k + 1) ⟨by omega, next ?_⟩ (by omega) ⟨⟨rfl, rfl⟩, ⟨rfl, by show ((k + 1 : Nat) : Int) = (k : Int) + 1; omega, trivial⟩, trivial⟩)
  | apply trivial)
    all_goals first
     | exact no hok'
     | exact hok'
   ·have e0 : decide (97 ≤ c) = false := decide_eq_false (by omega)
    have e1 : decide (c ≤ 122) = true := decide_eq_true (by omega)
    have e2 : decide (65 ≤ c) = false := decide_eq_false (by omega)
    have e3 : decide (c ≤ 90) = true := decide_eq_true (by omega)
    have e4 : decide (48 ≤ c) = false := decide_eq_false (by omega)
    have e5 : decide (c ≤ 57) = true := decide_eq_true (by omega)
    have e6 : decide (c = 45) = true := decide_eq_true (by omega)
    have e7 : decide (c = 46) = false := decide_eq_false (by omega)
    have e8 : decide (c = 95) = false := decide_eq_false (by omega)
    have e9 : (!decide (c = 95)) = true := by rw [e8]; rfl
    have f5 : (!decide (c ≤ 57)) = !(decide (c ≤ 57)) := rfl
    rw [e5] at f5
    have f6 : (!decide (c = 45)) = !(decide (c = 45)) := rfl
    rw [e6] at f6
    have f7 : (!decide (c = 46)) = !(decide (c = 46)) := rfl
    rw [e7] at f7
    simp only [Bool.not_true, Bool.not_false] at f5
    simp only [Bool.not_true, Bool.not_false] at f6
    simp only [Bool.not_true, Bool.not_false] at f7
    simp only [e0, e1, e2, e3, e4, e5, e6, e7, e8, Bool.and_true, Bool.true_and, Bool.and_false, Bool.false_and, Bool.or_true, Bool.true_or, Bool.or_false, Bool.false_or] at hok'
    cases K0
    all_goals (try simp only [Bool.not_true, Bool.not_false] at hok')
    repeat' (first
  | refine aE ?_ ?_
  | ((with_reducible show IfK _ _ _ _); first | refine iK ?_ | (refine IfK.mk (fun _ => ?_) (fun _ => ?_) <;> with_reducible refine wK ?_))
  | ((with_reducible show NeedK _ _ _ _); refine nK ?_; with_reducible refine wK ?_)
  | ((with_reducible show NextK _ _); refine NextK.mk (k + 1) ⟨by omega, next ?_⟩ (by omega) ⟨⟨rfl, rfl⟩, ⟨rfl, by show ((k + 1 : Nat) : Int) = (k : Int) + 1; omega, trivial⟩, trivial⟩)
  | apply trivial)
    all_goals first
     | exact no hok'
     | exact hok'
   ·have e0 : decide (97 ≤ c) = false := decide_eq_false (by omega)
    have e1 : decide (c ≤ 122) = true := decide_eq_true (by omega)
    have e2 : decide (65 ≤ c) = false := decide_eq_false (by omega)
    have e3 : decide (c ≤ 90) = true := decide_eq_true (by omega)
    have e4 : decide (48 ≤ c) = false := decide_eq_false (by omega)
    have e5 : decide (c ≤ 57) = true := decide_eq_true (by omega)
    have e6 : decide (c = 45) = false := decide_eq_false (by omega)
    have e7 : decide (c = 46) = true := decide_eq_true (by omega)
    have e8 : decide (c = 95) = false := decide_eq_false (by omega)
    have e9 : (!decide (c = 95)) = true := by rw [e8]; rfl
    have f5 : (!decide (c ≤ 57)) = !(decide (c ≤ 57)) := rfl
    rw [e5] at f5
    have f6 : (!decide (c = 45)) = !(decide (c = 45)) := rfl
    rw [e6] at f6
    have f7 : (!decide (c = 46)) = !(decide (c = 46)) := rfl
    rw [e7] at f7
    simp only [Bool.not_true, Bool.not_false] at f5
    simp only [Bool.not_true, Bool.not_false] at f6
    simp only [Bool.not_true, Bool.not_false] at f7
    simp only [e0, e1, e2, e3, e4, e5, e6, e7, e8, Bool.and_true, Bool.true_and, Bool.and_false, Bool.false_and, Bool.or_true, Bool.true_or, Bool.or_false, Bool.false_or] at hok'
    cases K0
    all_goals (try simp only [Bool.not_true, Bool.not_false] at hok')
    repeat' (first
  | refine aE ?_ ?_
  | ((with_reducible show IfK _ _ _ _); first | refine iK ?_ | (refine IfK.mk (fun _ => ?_) (fun _ => ?_) <;> with_reducible refine wK ?_))
  | ((with_reducible show NeedK _ _ _ _); refine nK ?_; with_reducible refine wK ?_)
  | ((with_reducible show NextK _ _); refine NextK.mk (k + 1) ⟨by omega, next ?_⟩ (by omega) ⟨⟨rfl, rfl⟩, ⟨rfl, by show ((k + 1 : Nat) : Int) = (k : Int) + 1; omega, trivial⟩, trivial⟩)
  | apply trivial)
    all_goals first
     | exact no hok'
     | exact hok'
   ·have e0 : decide (97 ≤ c) = false := decide_eq_false (by omega)
    have e1 : decide (c ≤ 122) = true := decide_eq_true (by omega)
    have e2 : decide (65 ≤ c) = false := decide_eq_false (by omega)
    have e3 : decide (c ≤ 90) = true := decide_eq_true (by omega)
    have e4 : decide (48 ≤ c) = false := decide_eq_false (by omega)
    have e5 : decide (c ≤ 57) = true := decide_eq_true (by omega)
    have e6 : decide (c = 45) = false := decide_eq_false (by omega)
    have e7 : decide (c = 46) = false := decide_eq_false (by omega)
    have e8 : decide (c = 95) = false := decide_eq_false (by omega)
    have e9 : (!decide (c = 95)) = true := by rw [e8]; rfl
    have f5 : (!decide (c ≤ 57)) = !(decide (c ≤ 57)) := rfl
    rw [e5] at f5
    have f6 : (!decide (c = 45)) = !(decide (c = 45)) := rfl
    rw [e6] at f6
    have f7 : (!decide (c = 46)) = !(decide (c = 46)) := rfl
    rw [e7] at f7
    simp only [Bool.not_true, Bool.not_false] at f5
    simp only [Bool.not_true, Bool.not_false] at f6
    simp only [Bool.not_true, Bool.not_false] at f7
    simp only [e0, e1, e2, e3, e4, e5, e6, e7, e8, Bool.and_true, Bool.true_and, Bool.and_false, Bool.false_and, Bool.or_true, Bool.true_or, Bool.or_false, Bool.false_or] at hok'
    cases K0
    all_goals (try simp only [Bool.not_true, Bool.not_false] at hok')
    repeat' (first
  | refine aE ?_ ?_
  | ((with_reducible show IfK _ _ _ _); first | refine iK ?_ | (refine IfK.mk (fun _ => ?_) (fun _ => ?_) <;> with_reducible refine wK ?_))
  | ((with_reducible show NeedK _ _ _ _); refine nK ?_; with_reducible refine wK ?_)
  | ((with_reducible show NextK _ _); refine NextK.mk (k + 1) ⟨by omega, next ?_⟩ (by omega) ⟨⟨rfl, rfl⟩, ⟨rfl, by show ((k + 1 : Nat) : Int) = (k : Int) + 1; omega, trivial⟩, trivial⟩)
  | apply trivial)
    all_goals first
     | exact no hok'
     | exact hok'
   ·have e0 : decide (97 ≤ c) = false := decide_eq_false (by omega)
    have e1 : decide (c ≤ 122) = true := decide_eq_true (by omega)
    have e2 : decide (65 ≤ c) = false := decide_eq_false (by omega)
    have e3 : decide (c ≤ 90) = true := decide_eq_true (by omega)
    have e4 : decide (48 ≤ c) = true := decide_eq_true (by omega)
    have e5 : decide (c ≤ 57) = true := decide_eq_true (by omega)
    have e6 : decide (c = 45) = false := decide_eq_false (by omega)
    have e7 : decide (c = 46) = false := decide_eq_false (by omega)
    have e8 : decide (c = 95) = false := decide_eq_false (by omega)
    have e9 : (!decide (c = 95)) = true := by rw [e8]; rfl
    have f5 : (!decide (c ≤ 57)) = !(decide (c ≤ 57)) := rfl
    rw [e5] at f5
    have f6 : (!decide (c = 45)) = !(decide (c = 45)) := rfl
    rw [e6] at f6
    have f7 : (!decide (c = 46)) = !(decide (c = 46)) := rfl
    rw [e7] at f7
    simp only [Bool.not_true, Bool.not_false] at f5
    simp only [Bool.not_true, Bool.not_false] at f6
    simp only [Bool.not_true, Bool.not_false] at f7
    simp only [e0, e1, e2, e3, e4, e5, e6, e7, e8, Bool.and_true, Bool.true_and, Bool.and_false, Bool.false_and, Bool.or_true, Bool.true_or, Bool.or_false, Bool.false_or] at hok'
    cases K0
    all_goals (try simp only [Bool.not_true, Bool.not_false] at hok')
    repeat' (first
  | refine aE ?_ ?_
  | ((with_reducible show IfK _ _ _ _); first | refine iK ?_ | (refine IfK.mk (fun _ => ?_) (fun _ => ?_) <;> with_reducible refine wK ?_))
  | ((with_reducible show NeedK _ _ _ _); refine nK ?_; with_reducible refine wK ?_)
  | ((with_reducible show NextK _ _); refine NextK.mk (k + 1) ⟨by omega, next ?_⟩ (by omega) ⟨⟨rfl, rfl⟩, ⟨rfl, by show ((k + 1 : Nat) : Int) = (k : Int) + 1; omega, trivial⟩, trivial⟩)
  | apply trivial)
    all_goals first
     | exact no hok'
     | exact hok'
   ·have e0 : decide (97 ≤ c) = false := decide_eq_false (by omega)
    have e1 : decide (c ≤ 122) = true := decide_eq_true (by omega)
    have e2 : decide (65 ≤ c) = false := decide_eq_false (by omega)
    have e3 : decide (c ≤ 90) = true := decide_eq_true (by omega)
    have e4 : decide (48 ≤ c) = true := decide_eq_true (by omega)
    have e5 : decide (c ≤ 57) = false := decide_eq_false (by omega)
    have e6 : decide (c = 45) = false := decide_eq_false (by omega)
    have e7 : decide (c = 46) = false := decide_eq_false (by omega)
    have e8 : decide (c = 95) = false := decide_eq_false (by omega)
    have e9 : (!decide (c = 95)) = true := by rw [e8]; rfl
    have f5 : (!decide (c ≤ 57)) = !(decide (c ≤ 57)) := rfl
    rw [e5] at f5
    have f6 : (!decide (c = 45)) = !(decide (c = 45)) := rfl
    rw [e6] at f6
    have f7 : (!decide (c = 46)) = !(decide (c = 46)) := rfl
    rw [e7] at f7
    simp only [Bool.not_true, Bool.not_false] at f5
    simp only [Bool.not_true, Bool.not_false] at f6
    simp only [Bool.not_true, Bool.not_false] at f7
    simp only [e0, e1, e2, e3, e4, e5, e6, e7, e8, Bool.and_true, Bool.true_and, Bool.and_false, Bool.false_and, Bool.or_true, Bool.true_or, Bool.or_false, Bool.false_or] at hok'
    cases K0
    all_goals (try simp only [Bool.not_true, Bool.not_false] at hok')
    repeat' (first
  | refine aE ?_ ?_
  | ((with_reducible show IfK _ _ _ _); first | refine iK ?_ | (refine IfK.mk (fun _ => ?_) (fun _ => ?_) <;> with_reducible refine wK ?_))
  | ((with_reducible show NeedK _ _ _ _); refine nK ?_; with_reducible refine wK ?_)
  | ((with_reducible show NextK _ _); refine NextK.mk (k + 1) ⟨by omega, next ?_⟩ (by omega) ⟨⟨rfl, rfl⟩, ⟨rfl, by show ((k + 1 : Nat) : Int) = (k : Int) + 1; omega, trivial⟩, trivial⟩)
  | apply trivial)
    all_goals first
     | exact no hok'
     | exact hok'
   ·have e0 : decide (97 ≤ c) = false := decide_eq_false (by omega)
    have e1 : decide (c ≤ 122) = true := decide_eq_true (by omega)
    have e2 : decide (65 ≤ c) = true := decide_eq_true (by omega)
    have e3 : decide (c ≤ 90) = true := decide_eq_true (by omega)
    have e4 : decide (48 ≤ c) = true := decide_eq_true (by omega)
    have e5 : decide (c ≤ 57) = false := decide_eq_false (by omega)
    have e6 : decide (c = 45) = false := decide_eq_false (by omega)
    have e7 : decide (c = 46) = false := decide_eq_false (by omega)
    have e8 : decide (c = 95) = false := decide_eq_false (by omega)
    have e9 : (!decide (c = 95)) = true := by rw [e8]; rfl
    have f5 : (!decide (c ≤ 57)) = !(decide (c ≤ 57)) := rfl
    rw [e5] at f5
    have f6 : (!decide (c = 45)) = !(decide (c = 45)) := rfl
    rw [e6] at f6
    have f7 : (!decide (c = 46)) = !(decide (c = 46)) := rfl
    rw [e7] at f7
    simp only [Bool.not_true, Bool.not_false] at f5
    simp only [Bool.not_true, Bool.not_false] at f6
    simp only [Bool.not_true, Bool.not_false] at f7
    simp only [e0, e1, e2, e3, e4, e5, e6, e7, e8, Bool.and_true, Bool.true_and, Bool.and_false, Bool.false_and, Bool.or_true, Bool.true_or, Bool.or_false, Bool.false_or] at hok'
    cases K0
    all_goals (try simp only [Bool.not_true, Bool.not_false] at hok')
    repeat' (first
  | refine aE ?_ ?_
  | ((with_reducible show IfK _ _ _ _); first | refine iK ?_ | (refine IfK.mk (fun _ => ?_) (fun _ => ?_) <;> with_reducible refine wK ?_))
  | ((with_reducible show NeedK _ _ _ _); refine nK ?_; with_reducible refine wK ?_)
  | ((with_reducible show NextK _ _); refine NextK.mk (k + 1) ⟨by omega, next ?_⟩ (by omega) ⟨⟨rfl, rfl⟩, ⟨rfl, by show ((k + 1 : Nat) : Int) = (k : Int) + 1; omega, trivial⟩, trivial⟩)
  | apply trivial)
    all_goals first
     | exact no hok'
     | exact hok'
   ·have e0 : decide (97 ≤ c) = false := decide_eq_false (by omega)
    have e1 : decide (c ≤ 122) = true := decide_eq_true (by omega)
    have e2 : decide (65 ≤ c) = true := decide_eq_true (by omega)
    have e3 : decide (c ≤ 90) = false := decide_eq_false (by omega)
    have e4 : decide (48 ≤ c) = true := decide_eq_true (by omega)
    have e5 : decide (c ≤ 57) = false := decide_eq_false (by omega)
    have e6 : decide (c = 45) = false := decide_eq_false (by omega)
    have e7 : decide (c = 46) = false := decide_eq_false (by omega)
    have e8 : decide (c = 95) = false := decide_eq_false (by omega)
    have e9 : (!decide (c = 95)) = true := by rw [e8]; rfl
    have f5 : (!decide (c ≤ 57)) = !(decide (c ≤ 57)) := rfl
    rw [e5] at f5
    have f6 : (!decide (c = 45)) = !(decide (c = 45)) := rfl
    rw [e6] at f6
    have f7 : (!decide (c = 46)) = !(decide (c = 46)) := rfl
    rw [e7] at f7
    simp only [Bool.not_true, Bool.not_false] at f5
    simp only [Bool.not_true, Bool.not_false] at f6
    simp only [Bool.not_true, Bool.not_false] at f7
    simp only [e0, e1, e2, e3, e4, e5, e6, e7, e8, Bool.and_true, Bool.true_and, Bool.and_false, Bool.false_and, Bool.or_true, Bool.true_or, Bool.or_false, Bool.false_or] at hok'
    cases K0
    all_goals (try simp only [Bool.not_true, Bool.not_false] at hok')
    repeat' (first
  | refine aE ?_ ?_
  | ((with_reducible show IfK _ _ _ _); first | refine iK ?_ | (refine IfK.mk (fun _ => ?_) (fun _ => ?_) <;> with_reducible refine wK ?_))
  | ((with_reducible show NeedK _ _ _ _); refine nK ?_; with_reducible refine wK ?_)
  | ((with_reducible show NextK _ _); refine NextK.mk (k + 1) ⟨by omega, next ?_⟩ (by omega) ⟨⟨rfl, rfl⟩, ⟨rfl, by show ((k + 1 : Nat) : Int) = (k : Int) + 1; omega, trivial⟩, trivial⟩)
  | apply trivial)
    all_goals first
     | exact no hok'
     | exact hok'
   ·have e0 : decide (97 ≤ c) = false := decide_eq_false (by omega)
    have e1 : decide (c ≤ 122) = true := decide_eq_true (by omega)
    have e2 : decide (65 ≤ c) = true := decide_eq_true (by omega)
    have e3 : decide (c ≤ 90) = false := decide_eq_false (by omega)
    have e4 : decide (48 ≤ c) = true := decide_eq_true (by omega)
    have e5 : decide (c ≤ 57) = false := decide_eq_false (by omega)
    have e6 : decide (c = 45) = false := decide_eq_false (by omega)
    have e7 : decide (c = 46) = false := decide_eq_false (by omega)
    have e8 : decide (c = 95) = true := decide_eq_true (by omega)
    have e9 : (!decide (c = 95)) = false := by rw [e8]; rfl
    have f5 : (!decide (c ≤ 57)) = !(decide (c ≤ 57)) := rfl
    rw [e5] at f5
    have f6 : (!decide (c = 45)) = !(decide (c = 45)) := rfl
    rw [e6] at f6
    have f7 : (!decide (c = 46)) = !(decide (c = 46)) := rfl
    rw [e7] at f7
    simp only [Bool.not_true, Bool.not_false] at f5
    simp only [Bool.not_true, Bool.not_false] at f6
    simp only [Bool.not_true, Bool.not_false] at f7
    simp only [e0, e1, e2, e3, e4, e5, e6, e7, e8, Bool.and_true, Bool.true_and, Bool.and_false, Bool.false_and, Bool.or_true, Bool.true_or, Bool.or_false, Bool.false_or] at hok'
    cases K0
    all_goals (try simp only [Bool.not_true, Bool.not_false] at hok')
    repeat' (first
  | refine aE ?_ ?_
  | ((with_reducible show IfK _ _ _ _); first | refine iK ?_ | (refine IfK.mk (fun _ => ?_) (fun _ => ?_) <;> with_reducible refine wK ?_))
  | ((with_reducible show NeedK _ _ _ _); refine nK ?_; with_reducible refine wK ?_)
  | ((with_reducible show NextK _ _); refine NextK.mk (k + 1) ⟨by omega, next ?_⟩ (by omega) ⟨⟨rfl, rfl⟩, ⟨rfl, by show ((k + 1 : Nat) : Int) = (k : Int) + 1; omega, trivial⟩, trivial⟩)
  | apply trivial)
    all_goals first
     | exact no hok'
     | exact hok'
   ·have e0 : decide (97 ≤ c) = false := decide_eq_false (by omega)
    have e1 : decide (c ≤ 122) = true := decide_eq_true (by omega)
    have e2 : decide (65 ≤ c) = true := decide_eq_true (by omega)
    have e3 : decide (c ≤ 90) = false := decide_eq_false (by omega)
    have e4 : decide (48 ≤ c) = true := decide_eq_true (by omega)
    have e5 : decide (c ≤ 57) = false := decide_eq_false (by omega)
    have e6 : decide (c = 45) = false := decide_eq_false (by omega)
    have e7 : decide (c = 46) = false := decide_eq_false (by omega)
    have e8 : decide (c = 95) = false := decide_eq_false (by omega)
    have e9 : (!decide (c = 95)) = true := by rw [e8]; rfl
    have f5 : (!decide (c ≤ 57)) = !(decide (c ≤ 57)) := rfl
    rw [e5] at f5
    have f6 : (!decide (c = 45)) = !(decide (c = 45)) := rfl
    rw [e6] at f6
    have f7 : (!decide (c = 46)) = !(decide (c = 46)) := rfl
    rw [e7] at f7
    simp only [Bool.not_true, Bool.not_false] at f5
    simp only [Bool.not_true, Bool.not_false] at f6
    simp only [Bool.not_true, Bool.not_false] at f7
    simp only [e0, e1, e2, e3, e4, e5, e6, e7, e8, Bool.and_true, Bool.true_and, Bool.and_false, Bool.false_and, Bool.or_true, Bool.true_or, Bool.or_false, Bool.false_or] at hok'
    cases K0
    all_goals (try simp only [Bool.not_true, Bool.not_false] at hok')
    repeat' (first
  | refine aE ?_ ?_
  | ((with_reducible show IfK _ _ _ _); first | refine iK ?_ | (refine IfK.mk (fun _ => ?_) (fun _ => ?_) <;> with_reducible refine wK ?_))
  | ((with_reducible show NeedK _ _ _ _); refine nK ?_; with_reducible refine wK ?_)
  | ((with_reducible show NextK _ _); refine NextK.mk (k + 1) ⟨by omega, next ?_⟩ (by omega) ⟨⟨rfl, rfl⟩, ⟨rfl, by show ((k + 1 : Nat) : Int) = (k : Int) + 1; omega, trivial⟩, trivial⟩)
  | apply trivial)
    all_goals first
     | exact no hok'
     | exact hok'
   ·have e0 : decide (97 ≤ c) = true := decide_eq_true (by omega)
    have e1 : decide (c ≤ 122) = true := decide_eq_true (by omega)
    have e2 : decide (65 ≤ c) = true := decide_eq_true (by omega)
    have e3 : decide (c ≤ 90) = false := decide_eq_false (by omega)
    have e4 : decide (48 ≤ c) = true := decide_eq_true (by omega)
    have e5 : decide (c ≤ 57) = false := decide_eq_false (by omega)
    have e6 : decide (c = 45) = false := decide_eq_false (by omega)
    have e7 : decide (c = 46) = false := decide_eq_false (by omega)
    have e8 : decide (c = 95) = false := decide_eq_false (by omega)
    have e9 : (!decide (c = 95)) = true := by rw [e8]; rfl
    have f5 : (!decide (c ≤ 57)) = !(decide (c ≤ 57)) := rfl
    rw [e5] at f5
    have f6 : (!decide (c = 45)) = !(decide (c = 45)) := rfl
    rw [e6] at f6
    have f7 : (!decide (c = 46)) = !(decide (c = 46)) := rfl
    rw [e7] at f7
    simp only [Bool.not_true, Bool.not_false] at f5
    simp only [Bool.not_true, Bool.not_false] at f6
    simp only [Bool.not_true, Bool.not_false] at f7
    simp only [e0, e1, e2, e3, e4, e5, e6, e7, e8, Bool.and_true, Bool.true_and, Bool.and_false, Bool.false_and, Bool.or_true, Bool.true_or, Bool.or_false, Bool.false_or] at hok'
    cases K0
    all_goals (try simp only [Bool.not_true, Bool.not_false] at hok')
    repeat' (first
  | refine aE ?_ ?_
  | ((with_reducible show IfK _ _ _ _); first | refine iK ?_ | (refine IfK.mk (fun _ => ?_) (fun _ => ?_) <;> with_reducible refine wK ?_))
  | ((with_reducible show NeedK _ _ _ _); refine nK ?_; with_reducible refine wK ?_)
  | ((with_reducible show NextK _ _); refine NextK.mk (k + 1) ⟨by omega, next ?_⟩ (by omega) ⟨⟨rfl, rfl⟩, ⟨rfl, by show ((k + 1 : Nat) : Int) = (k : Int) + 1; omega, trivial⟩, trivial⟩)
  | apply trivial)
    all_goals first
     | exact no hok'
     | exact hok'
   ·have e0 : decide (97 ≤ c) = true := decide_eq_true (by omega)
    have e1 : decide (c ≤ 122) = false := decide_eq_false (by omega)
    have e2 : decide (65 ≤ c) = true := decide_eq_true (by omega)
    have e3 : decide (c ≤ 90) = false := decide_eq_false (by omega)
    have e4 : decide (48 ≤ c) = true := decide_eq_true (by omega)
    have e5 : decide (c ≤ 57) = false := decide_eq_false (by omega)
    have e6 : decide (c = 45) = false := decide_eq_false (by omega)
    have e7 : decide (c = 46) = false := decide_eq_false (by omega)
    have e8 : decide (c = 95) = false := decide_eq_false (by omega)
    have e9 : (!decide (c = 95)) = true := by rw [e8]; rfl
    have f5 : (!decide (c ≤ 57)) = !(decide (c ≤ 57)) := rfl
    rw [e5] at f5
    have f6 : (!decide (c = 45)) = !(decide (c = 45)) := rfl
    rw [e6] at f6
    have f7 : (!decide (c = 46)) = !(decide (c = 46)) := rfl
    rw [e7] at f7
    simp only [Bool.not_true, Bool.not_false] at f5
    simp only [Bool.not_true, Bool.not_false] at f6
    simp only [Bool.not_true, Bool.not_false] at f7
    simp only [e0, e1, e2, e3, e4, e5, e6, e7, e8, Bool.and_true, Bool.true_and, Bool.and_false, Bool.false_and, Bool.or_true, Bool.true_or, Bool.or_false, Bool.false_or] at hok'
    cases K0
    all_goals (try simp only [Bool.not_true, Bool.not_false] at hok')
    repeat' (first
  | refine aE ?_ ?_
  | ((with_reducible show IfK _ _ _ _); first | refine iK ?_ | (refine IfK.mk (fun _ => ?_) (fun _ => ?_) <;> with_reducible refine wK ?_))
  | ((with_reducible show NeedK _ _ _ _); refine nK ?_; with_reducible refine wK ?_)
  | ((with_reducible show NextK _ _); refine NextK.mk (k + 1) ⟨by omega, next ?_⟩ (by omega) ⟨⟨rfl, rfl⟩, ⟨rfl, by show ((k + 1 : Nat) : Int) = (k : Int) + 1; omega, trivial⟩, trivial⟩)
  | apply trivial)
    all_goals first
     | exact no hok'
     | exact hok'
  ·(refine eK ?_ ?_ <;> with_reducible repeat' (first | exact trivial | (show _ ∧ _; refine aK ?_ ?_)))
   exact hr.2 fun i b hb => hok i b (by have := (List.getElem?_eq_some_iff.1 hb).1; simp only [decide_eq_false_iff_not] at h1; have := size_len s; omega) hb
theorem f131_ok (l : List AttrM) (hl : l.length ≤ 100000) (n : ByteArray) : FnOK Tryz.prog 131 [] [eAttrs l, eStr n] [] (eInt (posA l n)) := by
 have hlm : (l.map oAttr).length = l.length := List.length_map ..
 refine FnOK.startC (rvs := [.tmp 4]) G G_good Tryz.func131 rfl Tryz.ntmps131 rfl rfl ?_; with_reducible refine wD ?_
 refine LoopK.use G G_good (fun (k : Nat) => [(0, eAttrs l), (1, eStr n), (5, eInt k)]) (fun _ => []) (fun k => k ≤ l.length ∧ ∀ j x, j < k → l[j]? = some x → hasName n x = false) (fun k => l.length - k) 0 ⟨Nat.zero_le _, fun j x h => by omega⟩
  ⟨⟨rfl, rfl⟩, ⟨rfl, rfl, rfl, trivial⟩, trivial⟩ ?_
 rintro k ⟨hk, hno⟩
 with_reducible refine wK ?_
 refine IfK.mk (fun h1 => ?_) (fun h1 => ?_) <;> (try simp only [castN] at h1) <;> with_reducible refine wK ?_
 ·simp only [decide_eq_true_eq] at h1
  have hk' : k < l.length := by omega
  obtain ⟨⟨an, av⟩, ha⟩ : ∃ a, l[k]? = some a := ⟨_, List.getElem?_eq_getElem hk'⟩
  refine IdxK.mk k (eAttr ⟨an, av⟩) rfl (attr_get ha) ?_; with_reducible refine wK ?_
  refine IfK.mk (fun h2 => ?_) (fun h2 => ?_) <;> (try simp only [castN] at h2) <;> with_reducible refine wK ?_
  ·(refine eK ?_ ?_ <;> with_reducible repeat' (first | exact trivial | (show _ ∧ _; refine aK ?_ ?_)))
   exact idxI_hit (p := hasName n) ha h2 hno
  ·refine nK ?_; with_reducible refine wK ?_
   refine NextK.mk (k + 1) ⟨by omega, fun j x hj hx => ?_⟩ (by omega) ⟨⟨rfl, rfl⟩, ⟨rfl, rfl, by show ((k + 1 : Nat) : Int) = (k : Int) + 1; omega, trivial⟩, trivial⟩
   rcases Nat.lt_or_ge j k with h6 | h6
   ·exact hno j x h6 hx
   ·have : j = k := by omega
    subst this
    rw [ha] at hx; cases hx; exact h2
 ·(refine eK ?_ ?_ <;> with_reducible repeat' (first | exact trivial | (show _ ∧ _; refine aK ?_ ?_)))
  have : k = l.length := by simp only [decide_eq_false_iff_not] at h1; omega
  exact idxI_none fun j x hx => hno j x (by have := (List.getElem?_eq_some_iff.1 hx).1; omega) hx
def goodAt (l : List AttrM) (i : Nat) (a : AttrM) : Bool := okA a && decide (posA l a.name = (i : Int))
theorem nodup_pos (l : List AttrM) : (l.map AttrM.name).Nodup ↔ ∀ (i : Nat) (a : AttrM), l[i]? = some a → posA l a.name = (i : Int) := by
 constructor
 ·intro hn i a ha
  refine idxI_hit ha (by simp [hasName]) fun j x hj hx => ?_
  simp only [hasName, decide_eq_false_iff_not]
  intro e
  have h1 : (l.map AttrM.name)[j]? = some x.name := by rw [List.getElem?_map, hx]; rfl
  have h2 : (l.map AttrM.name)[i]? = some a.name := by rw [List.getElem?_map, ha]; rfl
  have hjl := (List.getElem?_eq_some_iff.1 h1).1
  have := (List.getElem?_inj hjl hn (j := i)).1 (h1.trans ((congrArg some e).trans h2.symm))
  omega
 ·intro h
  rw [List.nodup_iff_pairwise_ne, List.pairwise_iff_getElem]
  intro i j hi hj hij e
  rw [List.length_map] at hi hj
  have h1 := h i _ (List.getElem?_eq_getElem hi)
  have h2 := h j _ (List.getElem?_eq_getElem hj)
  rw [List.getElem_map, List.getElem_map] at e
  rw [e, h2] at h1
  omega
theorem rightA_iff (l : List AttrM) (h : l.length ≤ 40) : rightA l = true ↔ ∀ (i : Nat) (a : AttrM), l[i]? = some a → goodAt l i a = true := by
 unfold rightA goodAt
 rw [decide_eq_true h]
 simp only [Bool.true_and, Bool.and_eq_true, List.all_eq_true, decide_eq_true_eq]
 rw [nodup_pos]
 constructor
 ·rintro ⟨h1, h2⟩ i a ha
  exact ⟨h1 a (List.mem_of_getElem? ha), h2 i a ha⟩
 ·intro h
  refine ⟨fun a ha => ?_, fun i a ha => (h i a ha).2⟩
  obtain ⟨i, hi⟩ := List.getElem?_of_mem ha
  exact (h i a hi).1
theorem f109_ok (l : List AttrM) (hl : l.length ≤ 100000) : FnOK Tryz.prog 109 [] [eAttrs l] [] (eBool (rightA l)) := by
 have hlm : (l.map oAttr).length = l.length := List.length_map ..
 refine FnOK.startC (rvs := [.tmp 2]) G G_good Tryz.func109 rfl Tryz.ntmps109 rfl rfl ?_; with_reducible refine wD ?_
 refine IfK.mk (fun h0 => ?_) (fun h0 => ?_) <;> (try simp only [castN] at h0) <;> with_reducible refine wK ?_
 ·(refine eK ?_ ?_ <;> with_reducible repeat' (first | exact trivial | (show _ ∧ _; refine aK ?_ ?_)))
  simp only [hlm, decide_eq_true_eq] at h0
  unfold rightA; rw [decide_eq_false (by omega)]; rfl
 ·simp only [hlm, decide_eq_false_iff_not] at h0
  have hr := rightA_iff l (by omega)
  refine LoopK.use G G_good (fun (k : Nat) => [(0, eAttrs l), (3, eInt k)]) (fun _ => []) (fun k => k ≤ l.length ∧ ∀ j x, j < k → l[j]? = some x → goodAt l j x = true) (fun k => l.length - k) 0 ⟨Nat.zero_le _, fun j x h => by omega⟩
   ⟨⟨rfl, rfl⟩, ⟨rfl, rfl, trivial⟩, trivial⟩ ?_
  rintro k ⟨hk, hok⟩
  with_reducible refine wK ?_
  refine IfK.mk (fun h1 => ?_) (fun h1 => ?_) <;> (try simp only [castN] at h1) <;> with_reducible refine wK ?_
  ·simp only [decide_eq_true_eq] at h1
   have hk' : k < l.length := by omega
   obtain ⟨⟨an, av⟩, ha⟩ : ∃ a, l[k]? = some a := ⟨_, List.getElem?_eq_getElem hk'⟩
   have next : goodAt l k ⟨an, av⟩ = true → ∀ j x, j < k + 1 → l[j]? = some x → goodAt l j x = true := by
    intro h j x hj hx
    rcases Nat.lt_or_ge j k with h6 | h6
    ·exact hok j x h6 hx
    ·have : j = k := by omega
     subst this
     rw [ha] at hx; cases hx; exact h
   have no : goodAt l k ⟨an, av⟩ = false → rightA l = false := by
    intro h
    cases h' : rightA l with
    | false => rfl
    | true => rw [hr.1 h' k _ ha] at h; cases h
   repeat' (first
  | refine aE ?_ ?_
  | ((with_reducible show IfK _ _ _ _); first | refine iK ?_ | (refine IfK.mk (fun _ => ?_) (fun _ => ?_) <;> with_reducible refine wK ?_))
  | ((with_reducible show IdxK _ _ _ _ _); refine IdxK.mk k (eAttr ⟨an, av⟩) rfl (attr_get ha) ?_; with_reducible refine wK ?_)
  | ((with_reducible refine kQ 100 ?_); refine cL (f100_ok _) c100 ?_; with_reducible refine wK ?_)
  | ((with_reducible refine kQ 101 ?_); refine CallK.lit [] (f101_ok _ (right_small (by assumption))) c101 ⟨rfl, trivial⟩ rfl rfl ?_; with_reducible refine wK ?_)
  | ((with_reducible refine kQ 131 ?_); refine cL (f131_ok l hl _) c131 ?_; with_reducible refine wK ?_)
  | ((with_reducible show DrawK _ _ _ _); refine dK ?_; with_reducible refine wK ?_)
  | ((with_reducible show NeedK _ _ _ _); refine nK ?_; with_reducible refine wK ?_)
  | ((with_reducible show NextK _ _); refine NextK.mk (k + 1) ⟨by omega, next ?_⟩ (by omega) ⟨⟨rfl, rfl⟩, ⟨rfl, by show ((k + 1 : Nat) : Int) = (k : Int) + 1; omega, trivial⟩, trivial⟩)
  | apply trivial)
   all_goals first
    | (refine no ?_; unfold goodAt okA; (try simp only [castN] at *); simp_all <;> omega)
    | (unfold goodAt okA; (try simp only [castN] at *); simp_all <;> omega)
  ·(refine eK ?_ ?_ <;> with_reducible repeat' (first | exact trivial | (show _ ∧ _; refine aK ?_ ?_)))
   refine hr.2 fun j x hx => hok j x ?_ hx
   have := (List.getElem?_eq_some_iff.1 hx).1
   simp only [decide_eq_false_iff_not] at h1; omega
end Go.Proofs.Heir
namespace Go.Proofs
open Go.Shelf
def Tryz.lays144_ren : Go.Shelf.Ren := ⟨fun | 144 => 143 | 143 => 179 | 219 => 198 | 217 => 211 | 225 => 212 | 224 => 213 | 267 => 214 | 266 => 222 | 314 => 223 | n => n, fun | 9 => 9 | 4 => 4 | 3 => 3 | 5 => 5 | 46 => 242 | 146 => 265 | 51 => 246 | n => n, fun | 1 => 2 | n => n⟩
theorem Tryz.lays144 : Go.Proofs.Lays.n144 Tryz.prog Tryz.lays144_ren := {
 mixed := by kernel_rfl
 f143 := Tryz.func179.trans (congrArg some (by kernel_rfl))
 f144 := Tryz.func143.trans (congrArg some (by kernel_rfl))
 f217 := Tryz.func211.trans (congrArg some (by kernel_rfl))
 f219 := Tryz.func198.trans (congrArg some (by kernel_rfl))
 f224 := Tryz.func213.trans (congrArg some (by kernel_rfl))
 f225 := Tryz.func212.trans (congrArg some (by kernel_rfl))
 f266 := Tryz.func222.trans (congrArg some (by kernel_rfl))
 f267 := Tryz.func214.trans (congrArg some (by kernel_rfl))
 f314 := Tryz.func223.trans (congrArg some (by kernel_rfl))
 t3 := Tryz.underlying3
 a3 := Tryz.isAgg3
 z3 := Tryz.sizeOf3
 v3 := Tryz.zeroValue3
 t4 := Tryz.underlying4
 a4 := Tryz.isAgg4
 z4 := Tryz.sizeOf4
 v4 := Tryz.zeroValue4
 t5 := Tryz.underlying5
 a5 := Tryz.isAgg5
 z5 := Tryz.sizeOf5
 v5 := Tryz.zeroValue5
 t9 := Tryz.underlying9
 a9 := Tryz.isAgg9
 z9 := Tryz.sizeOf9
 v9 := Tryz.zeroValue9
 t46 := Tryz.underlying242
 a46 := Tryz.isAgg242
 z46 := Tryz.sizeOf242
 v46 := Tryz.zeroValue242
 t51 := Tryz.underlying246
 a51 := Tryz.isAgg246
 z51 := Tryz.sizeOf246
 v51 := Tryz.zeroValue246
 t146 := Tryz.underlying265
 a146 := Tryz.isAgg265
 z146 := Tryz.sizeOf265
 v146 := Tryz.zeroValue265
 g1 := by kernel_rfl }
open Go.RowKit Go.Lib in
theorem Tryz.strings_Contains_one (s : ByteArray) (c : UInt8) (w : World) :
  Calls Tryz.prog 143 #[.string s, .string ⟨#[c]⟩] w fun e w' => e = .returned (.bool (decide (0 ≤ Lib.indexByte s.data.toList c))) ∧ w' = w := Any.strings_Contains_one Tryz.lays144 s c w
end Go.Proofs
namespace Go.Proofs.Heir
open Go Go.Am Go.RowKit Go.Lib
set_option maxRecDepth 100000
set_option maxHeartbeats 8000000
def oStr (s : ByteArray) : AV := eStr s
@[reducible] def eStrs (l : List ByteArray) : AV := .sl 1 (l.map oStr)
@[reducible] def rStrs (l : List ByteArray) : MS := .live 1 (l.map oStr) false
theorem noRef_strs (l : List ByteArray) : noRefL (l.map oStr) = true := by
 rw [noRefL_iff]; intro x hx
 obtain ⟨a, _, rfl⟩ := List.mem_map.1 hx
 rfl
theorem strs_get {l : List ByteArray} {k : Nat} {a : ByteArray} (h : l[k]? = some a) : (l.map oStr)[k]? = some (eStr a) := by rw [List.getElem?_map, h]; rfl
theorem strs_outs (l : List ByteArray) : okOuts [rStrs l] := ⟨Wide.of_mem fun r hr => by obtain ⟨a, _, rfl⟩ := List.mem_map.1 hr; rfl, noRef_strs l, trivial⟩
theorem frz_strs {m : ML} {fz : Nat → Bool} {tab : List (Nat × Nat)} {n t len : Nat} {ro : Bool} {rows : List AV} {l : List ByteArray} (h1 : lkM m t = .live 1 rows ro) (h2 : fz t = true) (h3 : rows = l.map oStr) (h4 : len = l.length) : FrzK m fz (MF tab fz m n) (eStrs l) t 0 len := by
 subst h3; subst h4
 have e : (l.map oStr).length = l.length := List.length_map ..
 exact .cut h1 h2 (by omega) (by rw [List.drop_zero, List.take_of_length_le (by omega)]) (noRef_strs l)
theorem f180_ok (l : List ByteArray) (hl : l.length ≤ 100000) (s : ByteArray) : FnOK Tryz.prog 180 [] [eStrs l, eStr s] [] (eInt (idxI (fun x => decide (x = s)) l)) := by
 have hlm : (l.map oStr).length = l.length := List.length_map ..
 refine FnOK.startC (rvs := [.tmp 4]) G G_good Tryz.func180 rfl Tryz.ntmps180 rfl rfl ?_; with_reducible refine wD ?_
 refine LoopK.use G G_good (fun (k : Nat) => [(0, eStrs l), (1, eStr s), (7, eInt l.length), (8, eInt k)]) (fun _ => []) (fun k => k ≤ l.length ∧ ∀ j x, j < k → l[j]? = some x → decide (x = s) = false) (fun k => l.length - k) 0 ⟨Nat.zero_le _, fun j x h => by omega⟩
  ⟨⟨rfl, rfl⟩, ⟨rfl, rfl, by show (l.length : Int) = ((l.map oStr).length : Int); rw [hlm], rfl, trivial⟩, trivial⟩ ?_
 rintro k ⟨hk, hno⟩
 with_reducible refine wK ?_
 refine IfK.mk (fun h1 => ?_) (fun h1 => ?_) <;> (try simp only [castN] at h1) <;> with_reducible refine wK ?_
 ·simp only [decide_eq_true_eq] at h1
  have hk' : k < l.length := by omega
  obtain ⟨a, ha⟩ : ∃ a, l[k]? = some a := ⟨_, List.getElem?_eq_getElem hk'⟩
  refine IdxK.mk k (eStr a) rfl (strs_get ha) ?_; with_reducible refine wK ?_
  refine IfK.mk (fun h2 => ?_) (fun h2 => ?_) <;> (try simp only [castN] at h2) <;> with_reducible refine wK ?_
  ·(refine eK ?_ ?_ <;> with_reducible repeat' (first | exact trivial | (show _ ∧ _; refine aK ?_ ?_)))
   refine idxI_hit (p := fun x => decide (x = s)) ha ?_ hno
   simp only [decide_eq_true_eq] at h2 ⊢; exact h2.symm
  ·refine nK ?_; with_reducible refine wK ?_
   refine NextK.mk (k + 1) ⟨by omega, fun j x hj hx => ?_⟩ (by omega) ⟨⟨rfl, rfl⟩, ⟨rfl, rfl, rfl, by show ((k + 1 : Nat) : Int) = (k : Int) + 1; omega, trivial⟩, trivial⟩
   rcases Nat.lt_or_ge j k with h3 | h3
   ·exact hno j x h3 hx
   ·have : j = k := by omega
    subst this
    rw [ha] at hx; cases hx
    simp only [decide_eq_false_iff_not] at h2 ⊢; exact fun e => h2 e.symm
 ·(refine eK ?_ ?_ <;> with_reducible repeat' (first | exact trivial | (show _ ∧ _; refine aK ?_ ?_)))
  exact idxI_none fun j x hx => hno j x (by have := (List.getElem?_eq_some_iff.1 hx).1; simp only [decide_eq_false_iff_not] at h1; omega) hx
def hasW (l : List ByteArray) (s : ByteArray) : Bool := l.any fun x => decide (x = s)
theorem hasW_iff {l : List ByteArray} {s : ByteArray} : hasW l s = true ↔ s ∈ l := by
 unfold hasW; rw [List.any_eq_true]
 exact ⟨fun ⟨x, hx, e⟩ => by rw [← of_decide_eq_true e]; exact hx, fun h => ⟨s, h, decide_eq_true rfl⟩⟩
theorem idxI_mem {l : List ByteArray} {s : ByteArray} : decide (0 ≤ idxI (fun x => decide (x = s)) l) = hasW l s := by
 rw [Bool.eq_iff_iff, decide_eq_true_eq, hasW_iff]
 unfold idxI
 cases h : l.findIdx? (fun x => decide (x = s)) with
 | none =>
   rw [List.findIdx?_eq_none_iff] at h
   simp only
   refine ⟨fun h' => by omega, fun hs => ?_⟩
   have := h s hs
   simp at this
 | some k =>
   rw [List.findIdx?_eq_some_iff_getElem] at h
   obtain ⟨hk, h2, _⟩ := h
   simp only
   exact ⟨fun _ => by rw [← of_decide_eq_true h2]; exact List.getElem_mem hk, fun _ => by omega⟩
theorem f144_ok (l : List ByteArray) (hl : l.length ≤ 100000) (s : ByteArray) : FnOK Tryz.prog 144 [] [eStrs l, eStr s] [] (eBool (hasW l s)) := by
 rw [← idxI_mem]
 refine FnOK.startC (rvs := [.tmp 4]) G G_good Tryz.func144 rfl Tryz.ntmps144 rfl rfl ?_; with_reducible refine wD ?_
 refine cL (f180_ok l hl s) c180 ?_; with_reducible refine wK ?_
 (refine eK ?_ ?_ <;> with_reducible repeat' (first | exact trivial | (show _ ∧ _; refine aK ?_ ?_)))
def strB (l : List UInt8) : ByteArray := ⟨l.toArray⟩
def resL : List ByteArray := [strB [97, 110, 110, 111, 116, 97, 116, 105, 111, 110, 45, 120, 109, 108], strB [99, 111, 108, 111, 114, 45, 112, 114, 111, 102, 105, 108, 101], strB [102, 111, 110, 116, 45, 102, 97, 99, 101], strB [102, 111, 110, 116, 45, 102, 97, 99, 101, 45, 115, 114, 99],
 strB [102, 111, 110, 116, 45, 102, 97, 99, 101, 45, 117, 114, 105], strB [102, 111, 110, 116, 45, 102, 97, 99, 101, 45, 102, 111, 114, 109, 97, 116], strB [102, 111, 110, 116, 45, 102, 97, 99, 101, 45, 110, 97, 109, 101], strB [109, 105, 115, 115, 105, 110, 103, 45, 103, 108, 121, 112, 104]]
theorem f145_ok : FnOK Tryz.prog 145 [] [] [rStrs resL] (.own 0 0 8) := by
 refine FnOK.startC (rvs := [.tmp 0]) G G_good Tryz.func145 rfl Tryz.ntmps145 rfl rfl ?_; with_reducible refine wD ?_
 (refine eK ?_ ?_ <;> with_reducible repeat' (first | exact trivial | (show _ ∧ _; refine aK ?_ ?_)))
 all_goals first | rfl | exact MFL_refl (noRef_strs resL)
theorem f143_ok (s : ByteArray) (c : UInt8) : FnOK Tryz.prog 143 [] [eStr s, eStr ⟨#[c]⟩] [] (eBool (decide (0 ≤ Lib.indexByte s.data.toList c))) :=
 FnOK.of_calls (vs := [.string s, .string ⟨#[c]⟩]) (v := .bool _) fun w _ => (Go.Proofs.Tryz.strings_Contains_one s c w).mono fun e w' ⟨h1, h2⟩ => ⟨h1, by rw [h2]; exact Below.refl _ w⟩
def segsGo (cur : List UInt8) : List UInt8 → List (List UInt8)
 | [] => [cur]
 | c :: r => if c = 32 then cur :: segsGo [] r else segsGo (cur ++ [c]) r
def isW (s : ByteArray) (g : List UInt8) : Bool := decide (strOf g = s)
def oneW (s : ByteArray) (ws : List UInt8) : Bool := (segsGo [] ws).any (isW s)
theorem cut_strOf (s : ByteArray) (a b : Nat) : s.extract a b = strOf ((s.data.toList.take b).drop a) := by
 obtain ⟨l, rfl⟩ : ∃ l : List UInt8, s = ⟨l.toArray⟩ := ⟨s.data.toList, by obtain ⟨⟨l⟩⟩ := s; rfl⟩
 rw [ByteArray.extract_mk]
 unfold strOf
 rw [List.drop_take]
theorem seg_next {l : List UInt8} {i : Nat} {c : UInt8} (h : l[i]? = some c) (cur : List UInt8) : segsGo cur (l.drop i) = if c = 32 then cur :: segsGo [] (l.drop (i + 1)) else segsGo (cur ++ [c]) (l.drop (i + 1)) := by
 have hk := (List.getElem?_eq_some_iff.1 h).1
 rw [List.drop_eq_getElem_cons hk, (List.getElem?_eq_some_iff.1 h).2]; rfl
theorem cur_next {l : List UInt8} {i a : Nat} {c : UInt8} (h : l[i]? = some c) (ha : a ≤ i) : (l.take (i + 1)).drop a = (l.take i).drop a ++ [c] := by
 have hk := (List.getElem?_eq_some_iff.1 h).1
 rw [List.take_succ_eq_append_getElem hk, (List.getElem?_eq_some_iff.1 h).2, List.drop_append_of_le_length (by simp; omega)]
structure OneI (s : ByteArray) (l : List UInt8) (i a : Nat) : Prop where
 le : a ≤ i
 hi : i ≤ l.length + 1
 mid : i ≤ l.length → oneW s l = (segsGo ((l.take i).drop a) (l.drop i)).any (isW s)
 fin : l.length < i → oneW s l = false
theorem is_32 {c : UInt8} : decide ((c.toNat : Int) = 32) = decide (c = 32) := by
 rw [decide_eq_decide]
 constructor
 ·intro h
  have : c.toNat = (32 : UInt8).toNat := by have : (32 : UInt8).toNat = 32 := rfl
                                            omega
  exact UInt8.toNat_inj.1 this
 ·rintro rfl; rfl
theorem f102_ok (s w : ByteArray) (hw : w.size ≤ 100000) : FnOK Tryz.prog 102 [] [eStr s, eStr w] [] (eBool (oneW s w.data.toList)) := by
 have hsz : w.size = w.data.toList.length := size_len w
 have hcut := cut_strOf w
 obtain ⟨l, hl⟩ : ∃ l, w.data.toList = l := ⟨_, rfl⟩
 rw [hl] at hsz hcut ⊢
 refine FnOK.startC (rvs := [.tmp 4]) G G_good Tryz.func102 rfl Tryz.ntmps102 rfl rfl ?_; with_reducible refine wD ?_
 refine LoopK.use G G_good (fun (p : Nat × Nat) => [(0, eStr s), (1, eStr w), (5, eInt p.2), (6, eInt p.1)]) (fun _ => []) (fun p => OneI s l p.1 p.2) (fun p => l.length + 1 - p.1) (0, 0) ⟨Nat.le_refl _, Nat.zero_le _, fun _ => rfl, fun h => by omega⟩
  ⟨⟨rfl, rfl⟩, ⟨rfl, rfl, rfl, rfl, trivial⟩, trivial⟩ ?_
 rintro ⟨i, a⟩ hI
 have h1 := hI.le
 have h2 := hI.hi
 simp only at h1 h2
 with_reducible refine wK ?_
 refine IfK.mk (fun g1 => ?_) (fun g1 => ?_) <;> (try simp only [castN] at g1) <;> with_reducible refine wK ?_
 ·simp only [decide_eq_true_eq] at g1
  have hil : i ≤ l.length := by omega
  have hm := hI.mid hil
  simp only at hm
  refine IfK.mk (fun g2 => ?_) (fun g2 => ?_) <;> (try simp only [castN] at g2) <;> with_reducible refine wK ?_
  ·simp only [decide_eq_true_eq] at g2
   have hie : i = l.length := by omega
   have hd : l.drop i = [] := by rw [hie]; exact List.drop_length
   rw [hd] at hm
   refine IfK.tt ?_; with_reducible refine wK ?_
   refine CutSK.mk a i rfl rfl h1 (by show i ≤ w.size; omega) ?_; with_reducible refine wK ?_
   rw [hcut]
   refine IfK.mk (fun g3 => ?_) (fun g3 => ?_) <;> (try simp only [castN] at g3) <;> with_reducible refine wK ?_
   ·(refine eK ?_ ?_ <;> with_reducible repeat' (first | exact trivial | (show _ ∧ _; refine aK ?_ ?_)))
    rw [hm]
    simp only [segsGo, List.any_cons, List.any_nil, Bool.or_false, isW]
    simpa using g3
   ·refine nK ?_; with_reducible refine wK ?_
    refine nK ?_; with_reducible refine wK ?_
    refine NextK.mk (i + 1, i + 1) ⟨Nat.le_refl _, by show i + 1 ≤ l.length + 1; omega, fun h => ?_, fun _ => ?_⟩ (by show l.length + 1 - (i + 1) < l.length + 1 - i; omega) ⟨⟨rfl, rfl⟩, ⟨rfl, rfl, by show ((i + 1 : Nat) : Int) = (i : Int) + 1; omega, by show ((i + 1 : Nat) : Int) = (i : Int) + 1; omega, trivial⟩, trivial⟩
    ·simp only at h; omega
    ·rw [hm]
     simp only [segsGo, List.any_cons, List.any_nil, Bool.or_false, isW]
     simpa using g3
  ·have hi2 : i < l.length := by simp only [decide_eq_false_iff_not] at g2; omega
   obtain ⟨c, hc⟩ : ∃ c, l[i]? = some c := ⟨_, List.getElem?_eq_getElem hi2⟩
   refine IdxSK.mk i c rfl (by rw [hl]; exact hc) ?_; with_reducible refine wK ?_
   rw [is_32]
   have hsg := seg_next hc ((l.take i).drop a)
   rw [hsg] at hm
   by_cases hb : c = 32
   ·rw [if_pos hb] at hm
    refine IfK.yes (by simp [hb]) ?_; with_reducible refine wK ?_
    refine CutSK.mk a i rfl rfl h1 (by show i ≤ w.size; omega) ?_; with_reducible refine wK ?_
    rw [hcut]
    refine IfK.mk (fun g3 => ?_) (fun g3 => ?_) <;> (try simp only [castN] at g3) <;> with_reducible refine wK ?_
    ·(refine eK ?_ ?_ <;> with_reducible repeat' (first | exact trivial | (show _ ∧ _; refine aK ?_ ?_)))
     rw [hm]
     simp only [List.any_cons, isW]
     simp at g3
     simp [g3]
    ·refine nK ?_; with_reducible refine wK ?_
     refine nK ?_; with_reducible refine wK ?_
     refine NextK.mk (i + 1, i + 1) ⟨Nat.le_refl _, by show i + 1 ≤ l.length + 1; omega, fun h => ?_, fun h => ?_⟩ (by show l.length + 1 - (i + 1) < l.length + 1 - i; omega) ⟨⟨rfl, rfl⟩, ⟨rfl, rfl, by show ((i + 1 : Nat) : Int) = (i : Int) + 1; omega, by show ((i + 1 : Nat) : Int) = (i : Int) + 1; omega, trivial⟩, trivial⟩
     ·rw [hm]
      simp only [List.any_cons]
      have : isW s ((l.take i).drop a) = false := by unfold isW; simpa using g3
      rw [this, Bool.false_or, show (l.take (i + 1)).drop (i + 1) = [] from List.drop_eq_nil_of_le (by simp; omega)]
     ·simp only at h; omega
   ·rw [if_neg hb] at hm
    refine IfK.no (by simp [hb]) ?_; with_reducible refine wK ?_
    refine nK ?_; with_reducible refine wK ?_
    refine NextK.mk (i + 1, a) ⟨by show a ≤ i + 1; omega, by show i + 1 ≤ l.length + 1; omega, fun h => ?_, fun h => ?_⟩ (by show l.length + 1 - (i + 1) < l.length + 1 - i; omega) ⟨⟨rfl, rfl⟩, ⟨rfl, rfl, rfl, by show ((i + 1 : Nat) : Int) = (i : Int) + 1; omega, trivial⟩, trivial⟩
    ·rw [hm, cur_next hc h1]
    ·simp only at h; omega
 ·(refine eK ?_ ?_ <;> with_reducible repeat' (first | exact trivial | (show _ ∧ _; refine aK ?_ ?_)))
  exact hI.fin (by simp only [decide_eq_false_iff_not] at g1; show l.length < i; omega)
@[reducible] def knowB : List UInt8 := [97, 32, 98, 32, 98, 117, 116, 116, 111, 110, 32, 100, 105, 118, 32, 102, 105, 101, 108, 100, 115, 101, 116, 32, 102, 111, 114, 109, 32, 105, 32, 105, 110, 112, 117, 116, 32, 108, 97, 98, 101, 108, 32, 108, 101, 103, 101, 110, 100, 32, 108, 105, 32, 111, 112, 116, 105, 111, 110, 32, 111, 117, 116, 112, 117, 116, 32, 112, 32, 115, 101, 108, 101, 99, 116, 32, 115, 112, 97, 110, 32, 116, 101, 109, 112, 108, 97, 116, 101, 32, 116, 101, 120, 116, 97, 114, 101, 97, 32, 117, 108]
def knowL : List ByteArray := (Lib.fields knowB).map strB
@[reducible] def resB : List UInt8 := [97, 110, 110, 111, 116, 97, 116, 105, 111, 110, 45, 120, 109, 108, 32, 99, 111, 108, 111, 114, 45, 112, 114, 111, 102, 105, 108, 101, 32, 102, 111, 110, 116, 45, 102, 97, 99, 101, 32, 102, 111, 110, 116, 45, 102, 97, 99, 101, 45, 115, 114, 99, 32, 102, 111, 110, 116, 45, 102, 97, 99, 101, 45, 117, 114, 105, 32, 102, 111, 110, 116, 45, 102, 97, 99, 101, 45, 102, 111, 114, 109, 97, 116, 32, 102, 111, 110, 116, 45, 102, 97, 99, 101, 45, 110, 97, 109, 101, 32, 109, 105, 115, 115, 105, 110, 103, 45, 103, 108, 121, 112, 104]
def dashB (l : List UInt8) : Bool := l.any (fun b => decide (b = 45))
def capsB (l : List UInt8) : Bool := l.any (fun b => capC (b.toNat : Int))
def lowFirst : List UInt8 → Bool
 | [] => false
 | b :: _ => smallC (b.toNat : Int)
def customS (s : ByteArray) : Bool := rightS s && (lowFirst s.data.toList && (!capsB s.data.toList && (dashB s.data.toList && !hasW resL s)))
theorem res_words (s : ByteArray) : oneW s resB = hasW resL s := by
 have e : (segsGo [] resB).map strOf = resL := by decide +kernel
 unfold oneW hasW
 rw [← e, List.any_map]
 rfl
theorem dash_index (l : List UInt8) : decide (0 ≤ Lib.indexByte l 45) = dashB l := by
 rw [Bool.eq_iff_iff, decide_eq_true_eq]
 unfold dashB
 rw [List.any_eq_true]
 constructor
 ·intro h
  obtain ⟨o, ho⟩ : ∃ o : Nat, Lib.indexByte l 45 = o := ⟨(Lib.indexByte l 45).toNat, by omega⟩
  obtain ⟨h1, _⟩ := Lib.indexByte_some ho
  exact ⟨45, List.mem_of_getElem? h1, rfl⟩
 ·rintro ⟨b, hb, e⟩
  have := of_decide_eq_true e; subst this
  rcases Int.lt_or_le (Lib.indexByte l 45) 0 with h | h
  ·have : Lib.indexByte l 45 = -1 := by have := Lib.indexByte_ge l 45; omega
   obtain ⟨k, hk⟩ := List.getElem?_of_mem hb
   exact absurd hk (Lib.indexByte_none this k)
  ·exact h
theorem idx_plain (p : Nat → Bool) (s : ByteArray) (hs : ∀ b ∈ s.data.toList, b.toNat < 128) : ∀ (f pos : Nat), s.size ≤ pos + f → (0 ≤ idxFuncFrom p true s f pos ↔ ∃ i, pos ≤ i ∧ ∃ b, s.data.toList[i]? = some b ∧ p b.toNat = true)
 | 0, pos, h => by
   have : ¬ (0 : Int) ≤ idxFuncFrom p true s 0 pos := by simp [idxFuncFrom]
   refine ⟨fun h' => absurd h' this, ?_⟩
   rintro ⟨i, h1, b, h2, _⟩
   have := (List.getElem?_eq_some_iff.1 h2).1
   have : i < s.size := this
   omega
 | f + 1, pos, h => by
   by_cases hp : pos < s.size
   ·have ih := idx_plain p s hs f
    obtain ⟨b, hb1, hb2⟩ : ∃ b, s.data.toList[pos]? = some b ∧ s.get! pos = b := ⟨_, List.getElem?_eq_getElem hp, by show s.data[pos]! = _; rw [getElem!_pos s.data pos hp]; rfl⟩
    have hb3 := hs b (List.mem_of_getElem? hb1)
    unfold idxFuncFrom
    rw [if_pos hp, decode_at, hb2]
    have hd : ∀ n b1 b2 b3, decodeN n b.toNat b1 b2 b3 = (b.toNat, 1) := fun n b1 b2 b3 => by rw [decodeN, if_pos hb3]
    rw [hd]
    show (0 : Int) ≤ (if p b.toNat = true then (pos : Int) else idxFuncFrom p true s f (pos + 1)) ↔ _
    cases hpb : p b.toNat with
    | true => exact ⟨fun _ => ⟨pos, Nat.le_refl _, b, hb1, hpb⟩, fun _ => by simp⟩
    | false =>
      rw [if_neg (by simp), ih (pos + 1) (by omega)]
      constructor
      ·rintro ⟨i, h3, h4⟩; exact ⟨i, by omega, h4⟩
      ·rintro ⟨i, h3, b', h4, h5⟩
       rcases Nat.lt_or_ge pos i with h6 | h6
       ·exact ⟨i, h6, b', h4, h5⟩
       ·have : i = pos := by omega
        subst this
        rw [hb1] at h4; cases h4
        rw [hpb] at h5; cases h5
   ·rw [idxFuncFrom_end _ _ _ _ _ hp]
    refine ⟨fun h' => by omega, ?_⟩
    rintro ⟨i, h1, b, h2, _⟩
    have := (List.getElem?_eq_some_iff.1 h2).1
    have : i < s.size := this
    omega
theorem right_plain {s : ByteArray} (h : rightS s = true) : ∀ b ∈ s.data.toList, b.toNat < 128 := by
 intro b hb
 unfold rightS rightL at h
 simp only [Bool.and_eq_true, List.all_eq_true] at h
 have := h.1.2 b hb
 unfold signB signC smallC capC at this
 simp only [Bool.or_eq_true, Bool.and_eq_true, decide_eq_true_eq] at this
 omega
theorem caps_index {s : ByteArray} (h : rightS s = true) : decide (0 ≤ idxFunc (fun r => capC (r : Int)) true s) = capsB s.data.toList := by
 rw [Bool.eq_iff_iff, decide_eq_true_eq]
 unfold capsB
 rw [List.any_eq_true]
 have := idx_plain (fun r => capC (r : Int)) s (right_plain h) s.size 0 (by omega)
 refine Iff.trans this ⟨?_, ?_⟩
 ·rintro ⟨i, _, b, h1, h2⟩; exact ⟨b, List.mem_of_getElem? h1, h2⟩
 ·rintro ⟨b, h1, h2⟩
  obtain ⟨i, hi⟩ := List.getElem?_of_mem h1
  exact ⟨i, Nat.zero_le _, b, hi, h2⟩
theorem f20c_ok (s : ByteArray) (h : rightS s = true) : FnOK Tryz.prog 141 [] [eStr s, .lit (.func (.func 142) #[] #[])] [] (eBool (capsB s.data.toList)) := by
 rw [← caps_index h]
 exact FnOK.of_calls (vs := [.string s, .func (.func 142) #[] #[]]) fun w ht => f141_calls 142 c142 (fun r => capC (r : Int)) s w ht fun W x ht _ => (f142_ok (x : Int)).below (vs := [.int .i32 (x : Int)]) W ht
theorem right_first {s : ByteArray} (h : rightS s = true) : ∃ b r, s.data.toList = b :: r := by
 unfold rightS rightL at h
 simp only [Bool.and_eq_true, decide_eq_true_eq] at h
 obtain ⟨b, r, e, _⟩ := first_get h.1.1.1
 exact ⟨b, r, e⟩
theorem f91_ok (s : ByteArray) : FnOK Tryz.prog 91 [] [eStr s] [] (eBool (customS s)) := by
 refine FnOK.startC (rvs := [.tmp 2]) G G_good Tryz.func91 rfl Tryz.ntmps91 rfl rfl ?_; with_reducible refine wD ?_
 refine cL (f139_ok s) c139 ?_; with_reducible refine wK ?_
 unfold customS
 cases hr : rightS s with
 | false =>
   repeat' (first
  | refine aE ?_ ?_
  | ((with_reducible show IfK _ _ _ _); first | refine iK ?_ | (refine IfK.mk (fun _ => ?_) (fun _ => ?_) <;> with_reducible refine wK ?_))
  | apply trivial)
   all_goals rfl
 | true =>
   obtain ⟨b, r, hb⟩ := right_first hr
   have hb0 : s.data.toList[0]? = some b := by rw [hb]; rfl
   have hlf : lowFirst s.data.toList = smallC (b.toNat : Int) := by rw [hb]; rfl
   have hda := dash_index s.data.toList
   have f25 := f143_ok s 45
   rw [hda] at f25
   refine IfK.tt ?_; with_reducible refine wK ?_
   refine IdxSK.mk 0 b rfl hb0 ?_; with_reducible refine wK ?_
   refine ConvK.int (by kernel_rfl) (by kernel_rfl) (u8_i32 _) ?_; with_reducible refine wK ?_
   refine cL (f140_ok _) c140 ?_; with_reducible refine wK ?_
   repeat' (first
  | refine aE ?_ ?_
  | ((with_reducible show IfK _ _ _ _); first | refine iK ?_ | (refine IfK.mk (fun _ => ?_) (fun _ => ?_) <;> with_reducible refine wK ?_))
  | ((with_reducible refine kQ 141 ?_); refine cL (f20c_ok s hr) c141 ?_; with_reducible refine wK ?_)
  | ((with_reducible refine kQ 143 ?_); refine cL f25 c143 ?_; with_reducible refine wK ?_)
  | ((with_reducible refine kQ 145 ?_); refine CallK.new 211 [] f145_ok c145 trivial rfl rfl rfl (strs_outs resL) rfl ?_; with_reducible refine wK ?_)
  | ((with_reducible refine kQ 144 ?_); refine CallK.lit [211] (f144_ok resL (by decide) s) c144 ⟨frz_strs rfl rfl rfl rfl, rfl, trivial⟩ rfl rfl ?_; with_reducible refine wK ?_)
  | apply trivial)
   all_goals (rw [hlf]; clear hb hb0 hda f25 hlf; rw [show s.data.toList = s.1.1 from rfl]; simp_all)
theorem lowL_id (l : List UInt8) : lowL l = l ↔ capsB l = false := by
 unfold capsB
 induction l with
 | nil => simp [lowL]
 | cons c r ih =>
   have hc : lowB c = c ↔ capC (c.toNat : Int) = false := by
    unfold lowB
    cases h : capC (c.toNat : Int) with
    | false => simp
    | true =>
      simp only [if_true, Bool.true_eq_false, iff_false]
      intro e
      have : (c + 32).toNat = c.toNat := by rw [e]
      rw [UInt8.toNat_add] at this
      have h3 := UInt8.toNat_lt c
      have : (32 : UInt8).toNat = 32 := rfl
      omega
   simp only [lowL, List.map_cons, List.cons.injEq, List.any_cons, Bool.or_eq_false_iff]
   rw [hc]
   exact and_congr_right fun _ => ih
theorem lowS_id (s : ByteArray) : lowS s = s ↔ capsB s.data.toList = false := by
 rw [← lowL_id]
 constructor
 ·intro h
  have : (lowS s).data.toList = s.data.toList := by rw [h]
  exact this
 ·intro h
  unfold lowS
  rw [h]
theorem first_kind {s : ByteArray} {b : UInt8} {r : List UInt8} (hr : rightS s = true) (hb : s.data.toList = b :: r) (hc : capsB s.data.toList = false) : smallC (b.toNat : Int) = !decide (b = 95) := by
 unfold rightS rightL at hr
 rw [hb] at hr hc
 unfold capsB at hc
 simp only [List.any_cons, Bool.or_eq_false_iff] at hc
 simp only [Bool.and_eq_true, firstB, hc.1, Bool.or_false, Bool.or_eq_true, decide_eq_true_eq] at hr
 rcases hr.2 with h | h
 ·rw [h]
  symm
  rw [Bool.not_eq_true', decide_eq_false_iff_not]
  rintro rfl
  revert h; decide
 ·have : b = 95 := by
   have e : b.toNat = (95 : UInt8).toNat := by
    have : (95 : UInt8).toNat = 95 := rfl
    omega
   exact UInt8.toNat_inj.1 e
  subst this; decide
theorem is_n {c d : UInt8} : decide ((c.toNat : Int) = (d.toNat : Int)) = decide (c = d) := by
 rw [decide_eq_decide]
 exact ⟨fun h => UInt8.toNat_inj.1 (by omega), fun h => by rw [h]⟩
theorem f28r_ok (s : ByteArray) : FnOK Tryz.prog 102 [] [eStr s, eStr ⟨resB.toArray⟩] [] (eBool (hasW resL s)) := by
 rw [← res_words]; exact f102_ok s ⟨resB.toArray⟩ (by decide)
theorem f57_ok (s : ByteArray) (hs : s.size ≤ 100000) : FnOK Tryz.prog 57 [] [eStr s] [] (eBool (customS s)) := by
 have hsz : s.size = s.data.toList.length := size_len s
 refine FnOK.startC (rvs := [.tmp 2]) G G_good Tryz.func57 rfl Tryz.ntmps57 rfl rfl ?_; with_reducible refine wD ?_
 refine cL (f100_ok s) c100 ?_; with_reducible refine wK ?_
 cases hr : rightS s with
 | false =>
   have e : customS s = false := by unfold customS; rw [hr]; rfl
   rw [e]
   repeat' (first
  | refine aE ?_ ?_
  | ((with_reducible show IfK _ _ _ _); first | refine iK ?_ | (refine IfK.mk (fun _ => ?_) (fun _ => ?_) <;> with_reducible refine wK ?_))
  | apply trivial)
 | true =>
   obtain ⟨b, r, hb⟩ := right_first hr
   have hb0 : s.data.toList[0]? = some b := by rw [hb]; rfl
   refine IfK.ff ?_; with_reducible refine wK ?_
   refine cL (f101_ok s hs) c101 ?_; with_reducible refine wK ?_
   have hlf : lowFirst s.data.toList = smallC (b.toNat : Int) := by rw [hb]; rfl
   cases hc : capsB s.data.toList with
   | true =>
     have e : customS s = false := by unfold customS; rw [hc]; simp
     have hne : ¬ s = lowS s := fun h => by rw [(lowS_id s).1 h.symm] at hc; cases hc
     rw [e]
     refine IfK.yes (by simp [hne]) ?_; with_reducible refine wK ?_
     repeat' (first
  | refine aE ?_ ?_
  | ((with_reducible show IfK _ _ _ _); first | refine iK ?_ | (refine IfK.mk (fun _ => ?_) (fun _ => ?_) <;> with_reducible refine wK ?_))
  | apply trivial)
   | false =>
     have hfk := first_kind hr hb hc
     have heq : s = lowS s := ((lowS_id s).2 hc).symm
     refine IfK.no (by simp [← heq]) ?_; with_reducible refine wK ?_
     refine IdxSK.mk 0 b rfl hb0 ?_; with_reducible refine wK ?_
     rw [show decide ((b.toNat : Int) = 95) = decide (b = 95) from is_n (d := 95)]
     cases h9 : decide (b = 95) with
     | true =>
       have e : customS s = false := by unfold customS; rw [hlf, hfk, h9]; simp
       rw [e]
       repeat' (first
  | refine aE ?_ ?_
  | ((with_reducible show IfK _ _ _ _); first | refine iK ?_ | (refine IfK.mk (fun _ => ?_) (fun _ => ?_) <;> with_reducible refine wK ?_))
  | apply trivial)
     | false =>
       refine IfK.ff ?_; with_reducible refine wK ?_
       refine cL (f28r_ok s) c102 ?_; with_reducible refine wK ?_
       cases hw : hasW resL s with
       | true =>
         have e : customS s = false := by unfold customS; rw [hw]; simp
         rw [e]
         repeat' (first
  | refine aE ?_ ?_
  | ((with_reducible show IfK _ _ _ _); first | refine iK ?_ | (refine IfK.mk (fun _ => ?_) (fun _ => ?_) <;> with_reducible refine wK ?_))
  | apply trivial)
       | false =>
         have e : customS s = dashB s.data.toList := by unfold customS; rw [hw, hr, hlf, hfk, h9, hc]; simp
         rw [e]
         obtain ⟨l, hl⟩ : ∃ l, s.data.toList = l := ⟨_, rfl⟩
         rw [hl] at hsz ⊢
         refine IfK.ff ?_; with_reducible refine wK ?_
         refine LoopK.use G G_good (fun (k : Nat) => [(0, eStr s), (3, eInt k)]) (fun _ => []) (fun k => k ≤ l.length ∧ ∀ j x, j < k → l[j]? = some x → decide (x = 45) = false) (fun k => l.length - k) 0 ⟨Nat.zero_le _, fun j x h => by omega⟩
          ⟨⟨rfl, rfl⟩, ⟨rfl, rfl, trivial⟩, trivial⟩ ?_
         rintro k ⟨hk, hno⟩
         with_reducible refine wK ?_
         refine IfK.mk (fun g1 => ?_) (fun g1 => ?_) <;> (try simp only [castN] at g1) <;> with_reducible refine wK ?_
         ·simp only [decide_eq_true_eq] at g1
          have hk' : k < l.length := by omega
          obtain ⟨c, hcc⟩ : ∃ c, l[k]? = some c := ⟨_, List.getElem?_eq_getElem hk'⟩
          refine IdxSK.mk k c rfl (by rw [hl]; exact hcc) ?_; with_reducible refine wK ?_
          rw [show decide ((c.toNat : Int) = 45) = decide (c = 45) from is_n (d := 45)]
          cases h4 : decide (c = 45) with
          | true =>
            refine IfK.tt ?_; with_reducible refine wK ?_
            (refine eK ?_ ?_ <;> with_reducible repeat' (first | exact trivial | (show _ ∧ _; refine aK ?_ ?_)))
            unfold dashB
            rw [List.any_eq_true]
            exact ⟨c, List.mem_of_getElem? hcc, h4⟩
          | false =>
            refine IfK.ff ?_; with_reducible refine wK ?_
            refine nK ?_; with_reducible refine wK ?_
            refine NextK.mk (k + 1) ⟨by omega, fun j x hj hx => ?_⟩ (by omega) ⟨⟨rfl, rfl⟩, ⟨rfl, by show ((k + 1 : Nat) : Int) = (k : Int) + 1; omega, trivial⟩, trivial⟩
            rcases Nat.lt_or_ge j k with h3 | h3
            ·exact hno j x h3 hx
            ·have : j = k := by omega
             subst this
             rw [hcc] at hx; cases hx; exact h4
         ·(refine eK ?_ ?_ <;> with_reducible repeat' (first | exact trivial | (show _ ∧ _; refine aK ?_ ?_)))
          unfold dashB
          rw [List.any_eq_false]
          intro x hx
          obtain ⟨j, hj⟩ := List.getElem?_of_mem hx
          have := hno j x (by have := (List.getElem?_eq_some_iff.1 hj).1; simp only [decide_eq_false_iff_not] at g1; omega) hj
          simp [this]

theorem i32_run (s t : TypeId) (c : Int) (h1 : Tryz.prog.underlying s = some (.int .i32)) (h2 : Tryz.prog.underlying t = some .string) : ∀ w, (convert s t (.int .i32 c)).run Tryz.prog w = .ok (.string (Utf8.encode c)) w :=
 fun w => run_convert_int_string w s t .i32 c (by rw [h1]; rfl) h2
theorem enc_size (c : Int) : (Utf8.encode c).size ≤ 4 := by
 unfold Utf8.encode
 simp only
 repeat' split
 all_goals exact Nat.le_of_ble_eq_true rfl
@[reducible] def aB : ByteArray := ⟨#[97]⟩
def wordB (r : Nat) : Bool := !rightS (aB ++ Utf8.encode (r : Int))
theorem f209_ok (c : Int) : FnOK Tryz.prog 209 [] [eRune c] [] (eBool (!rightS (aB ++ Utf8.encode c))) := by
 have hsz := enc_size c
 have ha : aB.size = 1 := rfl
 refine FnOK.startC (rvs := [.tmp 2]) G G_good Tryz.func209 rfl Tryz.ntmps209 rfl rfl ?_; with_reducible refine wD ?_
 refine ConvK.mk _ (i32_run 21 9 c (by kernel_rfl) (by kernel_rfl)) ?_; with_reducible refine wK ?_
 refine NeedK.mk (by have := enc_size c; have h1 : (⟨⟨[97]⟩⟩ : ByteArray).size = 1 := rfl; omega) ?_; with_reducible refine wK ?_
 refine cL (f139_ok _) c139 ?_; with_reducible refine wK ?_
 (refine eK ?_ ?_ <;> with_reducible repeat' (first | exact trivial | (show _ ∧ _; refine aK ?_ ?_)))
 all_goals first | rfl
theorem f178_word (s : ByteArray) : FnOK Tryz.prog 178 [] [eStr s, .lit (.func (.func 209) #[] #[])] [] (eInt (Lib.idxFunc wordB true s)) :=
 FnOK.of_calls (vs := [.string s, .func (.func 209) #[] #[]]) fun w ht => f178_calls 209 c209 wordB s w ht fun W x ht _ => (f209_ok (x : Int)).below (vs := [.int .i32 (x : Int)]) W ht
theorem f195_nil : FnOK Tryz.prog 195 [.live 2 [.agg [.lit (.pointer none), .lit (.slice none 0 0)]] false] [.ptr 0 0 0] [.live 2 [.agg [.lit (.pointer none), .lit (.slice none 0 0)]] false] (eStr ⟨#[]⟩) := by
 refine FnOK.startC (rvs := [.tmp 2]) G G_good Tryz.func195 rfl Tryz.ntmps195 rfl rfl ?_; with_reducible refine wD ?_
 refine ⟨[], .lit (.pointer none), [], EffOK.lits (ρ := fun _ => .slice none 0 0) (r := .pointer none) (by simp) (fun y hy => ?_) (fun w => ?_) (dst_ok rfl), ?_⟩
 ·simp [Op.operands, Call.operands] at hy
  subst hy
  rfl
 ·kernel_rfl
 with_reducible refine wK ?_
 refine ⟨[], .lit (.string ⟨#[]⟩), [], EffOK.lits (ρ := fun y => match y with | .tmp 7 => .pointer none | _ => .int .i64 0) (r := .string ⟨#[]⟩) (by simp) (fun y hy => ?_) (fun w => ?_) (dst_ok rfl), ?_⟩
 ·simp [Op.operands, Call.operands] at hy
  rcases hy with rfl | rfl <;> rfl
 ·kernel_rfl
 with_reducible refine wK ?_
 refine dK ?_; with_reducible refine wK ?_
 (refine eK ?_ ?_ <;> with_reducible repeat' (first | exact trivial | (show _ ∧ _; refine aK ?_ ?_)))
 all_goals first | rfl | exact .inl rfl | exact ⟨rfl, rfl⟩
def orcA : CallT := fun g ins args => match g with
 | 91 => match ins, args with
   | [], [.lit (.string s)] => some ([], eBool (customS s))
   | _, _ => none
 | 139 => match ins, args with
   | [], [.lit (.string s)] => some ([], eBool (rightS s))
   | _, _ => none
 | 134 => match ins, args with
   | [], [.lit (.string s)] => some ([], .tup [eStr (if rightS s then lowS s else ⟨#[]⟩), eInt (if rightS s then 0 else 4)])
   | _, _ => none
 | 178 => match ins, args with
   | [], [.lit (.string s), .lit (.func (.func 209) a b)] => match a.toList, b.toList with
     | [], [] => some ([], eInt (Lib.idxFunc wordB true s))
     | _, _ => none
   | _, _ => none
 | 195 => match ins, args with
   | [.live 2 [.agg [.lit (.pointer none), .lit (.slice none 0 0)]] false], [.ptr 0 0 0] => some ([.live 2 [.agg [.lit (.pointer none), .lit (.slice none 0 0)]] false], eStr ⟨#[]⟩)
   | _, _ => none
 | _ => none
theorem orcA_ok : ∀ g ins args outs res, orcA g ins args = some (outs, res) → FnOK Tryz.prog g ins args outs res ∧ Callable Tryz.prog g := by
 intro g ins args outs res h
 unfold orcA at h
 split at h
 ·split at h
  ·cases h; exact ⟨f91_ok _, c91⟩
  ·cases h
 ·split at h
  ·cases h; exact ⟨f139_ok _, c139⟩
  ·cases h
 ·split at h
  ·cases h; exact ⟨f134_ok _, c134⟩
  ·cases h
 ·split at h
  ·split at h
   ·rename_i ha hb
    cases h
    rename_i a b _ _
    obtain rfl := (Array.ext' ha : _ = #[])
    obtain rfl := (Array.ext' hb : _ = #[])
    exact ⟨f178_word _, c178⟩
   ·cases h
  ·cases h
 ·split at h
  ·cases h; exact ⟨f195_nil, c195⟩
  ·cases h
 ·cases h
noncomputable def envA : EEnv := ⟨G, mapsT, fnsT, kindsT, orcA, []⟩
theorem envA_good : envA.Good Tryz.prog := ⟨G_good, mapsT_ok, fnsT_ok, kindsT_ok, orcA_ok, by kernel_rfl, fun _ h => by cases h⟩
end Go.Proofs.Heir
namespace Go.Proofs
open Go.Shelf
def Tryz.lays169_ren : Go.Shelf.Ren := ⟨fun | 169 => 195 | n => n, fun | 70 => 221 | 9 => 9 | 0 => 0 | 72 => 223 | 37 => 182 | 127 => 240 | 3 => 3 | 5 => 5 | n => n, fun | n => n⟩
theorem Tryz.lays169 : Go.Proofs.Lays.n169 Tryz.prog Tryz.lays169_ren := {
 mixed := by kernel_rfl
 f169 := Tryz.func195.trans (congrArg some (by kernel_rfl))
 t0 := Tryz.underlying0
 a0 := Tryz.isAgg0
 z0 := Tryz.sizeOf0
 v0 := Tryz.zeroValue0
 t3 := Tryz.underlying3
 a3 := Tryz.isAgg3
 z3 := Tryz.sizeOf3
 v3 := Tryz.zeroValue3
 t9 := Tryz.underlying9
 a9 := Tryz.isAgg9
 z9 := Tryz.sizeOf9
 v9 := Tryz.zeroValue9
 t37 := Tryz.underlying182
 a37 := Tryz.isAgg182
 z37 := Tryz.sizeOf182
 v37 := Tryz.zeroValue182
 t70 := Tryz.underlying221
 a70 := Tryz.isAgg221
 z70 := Tryz.sizeOf221
 v70 := Tryz.zeroValue221
 t72 := Tryz.underlying223
 a72 := Tryz.isAgg223
 z72 := Tryz.sizeOf223
 v72 := Tryz.zeroValue223
 t127 := Tryz.underlying240
 a127 := Tryz.isAgg240
 z127 := Tryz.sizeOf240
 v127 := Tryz.zeroValue240 }
theorem Tryz.Builder_Extra_169 : Builder.Extra Tryz.prog Tryz.lays169_ren := {
 sizeBuilder := by kernel_rfl
 liesBuilder := by kernel_rfl
 t5 := Tryz.underlying5
 a5 := Tryz.isAgg5
 z5 := Tryz.sizeOf5
 v5 := Tryz.zeroValue5
 infoByte := by kernel_rfl
 cellsByte := by kernel_rfl
 sizeByte := by kernel_rfl
 neB5 := by decide }
open Go.RowKit in
theorem Tryz.Builder_String_any (B b : Nat) (l : List UInt8) (w : World) (h : Lib.IsBuilder 223 5 B b (Lib.byteCells l) w) (hBw : B ≤ w.heap.size) :
  Calls Tryz.prog 195 #[.pointer (some ⟨b, 0, none⟩)] w fun e w' => e = .returned (.string ⟨l.toArray⟩) ∧ Below B w w' := Any.Builder_String_any Tryz.lays169 Tryz.Builder_Extra_169 B b l w h hBw
def Tryz.lays167_ren : Go.Shelf.Ren := ⟨fun | 167 => 196 | 240 => 210 | 276 => 221 | n => n, fun | 0 => 0 | 4 => 4 | 5 => 5 | 9 => 9 | 20 => 20 | 37 => 182 | 70 => 221 | 72 => 223 | 75 => 159 | 80 => 209 | 164 => 228 | n => n, fun | n => n⟩
theorem Tryz.lays167 : Go.Proofs.Lays.n167 Tryz.prog Tryz.lays167_ren := {
 mixed := by kernel_rfl
 f167 := Tryz.func196.trans (congrArg some (by kernel_rfl))
 f240 := Tryz.func210.trans (congrArg some (by kernel_rfl))
 f276 := Tryz.func221.trans (congrArg some (by kernel_rfl))
 t0 := Tryz.underlying0
 a0 := Tryz.isAgg0
 z0 := Tryz.sizeOf0
 v0 := Tryz.zeroValue0
 t4 := Tryz.underlying4
 a4 := Tryz.isAgg4
 z4 := Tryz.sizeOf4
 v4 := Tryz.zeroValue4
 t5 := Tryz.underlying5
 a5 := Tryz.isAgg5
 z5 := Tryz.sizeOf5
 v5 := Tryz.zeroValue5
 t9 := Tryz.underlying9
 a9 := Tryz.isAgg9
 z9 := Tryz.sizeOf9
 v9 := Tryz.zeroValue9
 t20 := Tryz.underlying20
 a20 := Tryz.isAgg20
 z20 := Tryz.sizeOf20
 v20 := Tryz.zeroValue20
 t37 := Tryz.underlying182
 a37 := Tryz.isAgg182
 z37 := Tryz.sizeOf182
 v37 := Tryz.zeroValue182
 t70 := Tryz.underlying221
 a70 := Tryz.isAgg221
 z70 := Tryz.sizeOf221
 v70 := Tryz.zeroValue221
 t72 := Tryz.underlying223
 a72 := Tryz.isAgg223
 z72 := Tryz.sizeOf223
 v72 := Tryz.zeroValue223
 t75 := Tryz.underlying159
 a75 := Tryz.isAgg159
 z75 := Tryz.sizeOf159
 v75 := Tryz.zeroValue159
 t164 := Tryz.underlying228
 a164 := Tryz.isAgg228
 z164 := Tryz.sizeOf228
 v164 := Tryz.zeroValue228 }
theorem Tryz.Builder_Extra_167 : Builder.Extra Tryz.prog Tryz.lays167_ren := {
 sizeBuilder := by kernel_rfl
 liesBuilder := by kernel_rfl
 t5 := Tryz.underlying5
 a5 := Tryz.isAgg5
 z5 := Tryz.sizeOf5
 v5 := Tryz.zeroValue5
 infoByte := by kernel_rfl
 cellsByte := by kernel_rfl
 sizeByte := by kernel_rfl
 neB5 := by decide }
open Go.RowKit in
theorem Tryz.Builder_WriteByte (B b : Nat) (bs : List Value) (c : Int) (w : World) (h : Lib.IsBuilder 223 5 B b bs w) (hlen : bs.length + 1 ≤ 140737488355328) (hBw : B ≤ w.heap.size) :
  Calls Tryz.prog 196 #[.pointer (some ⟨b, 0, none⟩), .int .u8 c] w fun e w' => e = .returned .nilIface ∧ (Lib.BuilderAt 223 5 B b (.pointer (some ⟨b, 0, none⟩)) (bs ++ [.int .u8 c]) w' ∧ Below B w w') := Any.Builder_WriteByte Tryz.lays167 Tryz.Builder_Extra_167 B b bs c w h hlen hBw
end Go.Proofs
namespace Go.Proofs.Heir
open Go Go.Am Go.RowKit Go.Lib
set_option maxRecDepth 100000
set_option maxHeartbeats 8000000
def oInt (n : Int) : AV := eInt n
def vInt (n : Int) : Value := .int .i64 n
@[reducible] def eInts (l : List Int) : AV := .sl 1 (l.map oInt)
theorem int_get {l : List Int} {k : Nat} {x : Int} (h : l[k]? = some x) : (l.map oInt)[k]? = some (eInt x) := by rw [List.getElem?_map, h]; rfl
end Go.Proofs.Heir
namespace Go.Proofs.Heir
open Go Go.Am Go.RowKit Go.Shelf
set_option maxRecDepth 100000
set_option maxHeartbeats 8000000
theorem ints_box {Wn : Nat → Prop} {μ : Mu} {W : World} {l : List Int} {b o : Nat} (h : Rep Wn μ W (.fptr (.sl 1 (l.map oInt)) 0) (.pointer (some ⟨b, o, none⟩))) :
  ∃ ad cap, W.cell? ⟨b, o, none⟩ = some (.slice ad l.length cap) ∧ l.length ≤ cap ∧ ∀ (j : Nat) (x : Int), l[j]? = some x → ∃ b2 o2, ad = some ⟨b2, o2, none⟩ ∧ W.cell? ⟨b2, o2 + j, none⟩ = some (.int .i64 x) := by
 generalize hv : Value.pointer (some ⟨b, o, none⟩) = v at h
 cases h with
 | @fptr _ _ b' o' f h1 h2 h3 h4 h5 =>
   cases hv
   have k3 := h3 0 _ rfl
   have k4 := h4 0 _ rfl
   rw [Nat.add_zero] at k3
   rw [Nat.add_zero, k3]
   generalize f 0 = s at k4
   cases hl : l with
   | nil =>
     subst hl
     cases k4 with
     | slNil => exact ⟨_, _, rfl, Nat.zero_le _, fun j x h => by simp at h⟩
     | sl a1 a2 a3 a4 a5 a6 a7 a8 => subst a3; exact ⟨_, _, rfl, Nat.zero_le _, fun j x h => by simp at h⟩
   | cons y r =>
     rw [← hl]
     generalize hrows : l.map oInt = rows at k4
     have hne : rows ≠ [] := by rw [← hrows, hl]; simp
     cases k4 with
     | slNil => exact absurd rfl hne
     | sl a1 a2 a3 a4 a5 a6 a7 a8 =>
       subst a3
       have hlen : rows.length = l.length := by rw [← hrows]; simp
       refine ⟨_, _, by rw [hlen], by rw [← hlen]; exact a4, fun j x hx => ⟨_, _, rfl, ?_⟩⟩
       have hr : rows[j]? = some (oInt x) := by rw [← hrows, List.getElem?_map, hx]; rfl
       have hq := flat_get (wd := 1) (fun i r hr => a5 i r hr) hr (show (cells (oInt x))[0]? = some (oInt x) from rfl)
       rw [Nat.mul_one, Nat.add_zero] at hq
       have c1 := a6 j _ hq
       have c2 := a7 j _ hq
       have one : ∀ v, Rep Wn μ W (oInt x) v → v = .int .i64 x := by intro v hv; unfold oInt at hv; cases hv; rfl
       rw [c1, one _ c2]
theorem back_it (l : List Int) (hl : l.length ≤ 100000) : ItOK Tryz.prog 155 [.fptr (.sl 1 (l.map oInt)) 0] l.length (fun k => [oInt ((l.length : Int) - 1 - k), oInt ((l.reverse[k]?).getD 0)]) := by
 intro vals y J Jx hJ hJm hJxm _ hY Wn w h0
 obtain ⟨⟨μ, hr⟩, _⟩ := hJ 0 Wn w h0
 obtain ⟨vb, us, rfl, hvb, hus⟩ := RepL.uncons hr
 obtain rfl := RepL.unnil hus
 obtain ⟨b, o, rfl⟩ : ∃ b o, vb = .pointer (some ⟨b, o, none⟩) := by cases hvb; exact ⟨_, _, rfl⟩
 have box : ∀ k Wn W, J k Wn W → ∃ ad cap, W.cell? ⟨b, o, none⟩ = some (.slice ad l.length cap) ∧ l.length ≤ cap ∧ ∀ (j : Nat) (x : Int), l[j]? = some x → ∃ b2 o2, ad = some ⟨b2, o2, none⟩ ∧ W.cell? ⟨b2, o2 + j, none⟩ = some (.int .i64 x) := by
  intro k Wn W hJk
  obtain ⟨⟨μ, hr⟩, _⟩ := hJ k Wn W hJk
  obtain ⟨v1, us, e, hv1, _⟩ := RepL.uncons hr
  cases e
  exact ints_box hv1
 refine (callsIn_wide (n := 1)).1 ?_
 refine callsIn_of_wp Tryz.func155 rfl trivial ?_ rfl
 simp only [Tryz.ntmps155, List.size_toArray, List.length_cons, List.length_nil, Nat.reduceAdd, Nat.reduceSub, Array.replicate_succ, Array.replicate_zero, List.push_toArray, List.append_toArray, List.nil_append, List.cons_append]
 obtain ⟨ad, cap, hbx, hcap, hel⟩ := box 0 Wn w h0
 gi_wp2
 gi_loopw [3] (fun i wr => ∃ k : Nat, k ≤ l.length ∧ i = .int .i64 ((l.length : Int) - 1 - k) ∧ ∃ Wn, J k Wn wr) (fun i _ => (intOf i + 1).toNat)
 case atStart => exact ⟨0, Nat.zero_le _, by simp, Wn, h0⟩
 case round =>
  obtain ⟨k, hk, rfl, Wn', hJk⟩ := hrel
  obtain ⟨ad', cap', hbx', hcap', hel'⟩ := box k Wn' wr hJk
  by_cases hlt : k < l.length
  ·have hix : l.length - 1 - k < l.length := by omega
   obtain ⟨b2, o2, rfl, hcx⟩ := hel' (l.length - 1 - k) l[l.length - 1 - k] (List.getElem?_eq_getElem hix)
   have hrev : (l.reverse[k]?).getD 0 = l[l.length - 1 - k] := by
    rw [List.getElem?_eq_getElem (by simpa using hlt)]; simp
   obtain ⟨fn, tmps, assign, body, hy, hR⟩ := hY k Wn' wr [.int .i64 ((l.length : Int) - 1 - k), .int .i64 (l[l.length - 1 - k])] hlt hJk (fun _ _ _ => by rw [hrev]; exact .cons .lit (.cons .lit .nil))
   have hz : ((l.length : Int) - 1 - k).toNat = l.length - 1 - k := by omega
   gi_wp2
   refine hR.mono ?_
   rintro e W3 (⟨rfl, Wn3, hJ3, _⟩ | ⟨rfl, hJx3⟩)
   ·gi_wp2
    go_roundw
    case rel => exact ⟨k + 1, by omega, by congr 1; omega, Wn3, hJ3⟩
    case measure => simp [intOf]; omega
   ·gi_wp2
    refine bodyPost_ret (results_none rfl _ _ _) rfl ?_
    exact ⟨⟨_, rfl⟩, .inr hJx3⟩
  ·obtain rfl : k = l.length := by omega
   gi_wp2
   go_end0
   exact ⟨⟨_, rfl⟩, .inl ⟨_, hJk⟩⟩
end Go.Proofs.Heir
namespace Go.Proofs.Heir
open Go Go.Am Go.RowKit Go.Lib
set_option maxRecDepth 100000
set_option maxHeartbeats 8000000
structure NodeM where
 kind : Int
 name : ByteArray
 is : ByteArray
 data : ByteArray
 attrs : List AttrM
 parent : Int
 kids : List Int
 host : Int
 under : Int
 doc : Int
structure ForM where
 nodes : List NodeM
 most : Int
def noNode : NodeM := ⟨0, ⟨#[]⟩, ⟨#[]⟩, ⟨#[]⟩, [], 0, [], 0, 0, 0⟩
def nd (l : List NodeM) (n : Int) : NodeM := (l[n.toNat]?).getD noNode
def thereN (l : List NodeM) (n : Int) : Bool := decide (0 ≤ n) && decide (n < (l.length : Int))
def isN (l : List NodeM) (n k : Int) : Bool := thereN l n && decide ((nd l n).kind = k)
def holdK (k : Int) : Bool := decide (k = 0) || decide (k = 1) || decide (k = 3) || decide (k = 4)
def hasI (l : List Int) (n : Int) : Bool := decide (n ∈ l)
def upN (x : NodeM) : Int := if x.parent = -1 then x.host else x.parent
def ownedN (l : List NodeM) (n : Int) (x : NodeM) : Bool := isN l x.doc 0 && (decide (x.kind ≠ 0) || decide (x.doc = n))
def hungN (l : List NodeM) (n : Int) (x : NodeM) : Bool := decide (x.parent = -1) || ((decide (x.kind = 1) || decide (x.kind = 2)) && thereN l x.parent && holdK (nd l x.parent).kind && hasI (nd l x.parent).kids n)
def kidOK (l : List NodeM) (n : Int) (x : NodeM) (pre : List Int) (c : Int) : Bool :=
 thereN l c && !hasI pre c && decide ((nd l c).parent = n) && decide ((nd l c).doc = x.doc) && (decide ((nd l c).kind = 1) || (decide ((nd l c).kind = 2) && decide (x.kind ≠ 0)))
def kidsOK (l : List NodeM) (n : Int) (x : NodeM) : List Int → List Int → Bool
 | _, [] => true
 | pre, c :: r => kidOK l n x pre c && kidsOK l n x (pre ++ [c]) r
def elemsN (l : List NodeM) (cs : List Int) : Nat := cs.countP (fun c => decide ((nd l c).kind = 1))
def bearsN (l : List NodeM) (n : Int) (x : NodeM) : Bool :=
 kidsOK l n x [] x.kids && ((holdK x.kind || decide (x.kids = [])) && (decide (x.kind ≠ 0) || decide (elemsN l x.kids ≤ 1)))
def shadedN (l : List NodeM) (n : Int) (x : NodeM) : Bool :=
 (if x.kind = 4 then isN l x.host 1 && decide ((nd l x.host).under = n) && decide ((nd l x.host).doc = x.doc) else decide (x.host = -1)) &&
 (decide (x.under = -1) || (decide (x.kind = 1) && isN l x.under 4 && decide ((nd l x.under).host = n)))
def endsN (l : List NodeM) : Nat → Int → Bool
 | 0, _ => false
 | m + 1, n => if upN (nd l n) = -1 then true else endsN l m (upN (nd l n))
def namedN (x : NodeM) : Bool :=
 if x.kind = 1 then rightS x.name && decide (lowS x.name = x.name) && (decide (x.is = ⟨#[]⟩) || customS x.is) && decide (x.data = ⟨#[]⟩) && rightA x.attrs
 else if x.kind = 2 then decide (x.data.size ≤ 200) && decide (x.name = ⟨#[]⟩) && decide (x.is = ⟨#[]⟩) && decide (x.attrs = [])
 else if x.kind = 0 ∨ x.kind = 3 ∨ x.kind = 4 then decide (x.name = ⟨#[]⟩) && decide (x.is = ⟨#[]⟩) && decide (x.data = ⟨#[]⟩) && decide (x.attrs = [])
 else false
def nodeOK (l : List NodeM) (n : Int) (x : NodeM) : Bool := namedN x && (ownedN l n x && (hungN l n x && (bearsN l n x && shadedN l n x)))
def headOK (f : ForM) : Bool := decide (1 ≤ f.most) && decide (f.most ≤ 400) && decide (1 ≤ f.nodes.length) && decide ((f.nodes.length : Int) ≤ f.most) && decide ((nd f.nodes 0).kind = 0)
def allIx {α : Type} (p : Nat → α → Bool) : Nat → List α → Bool
 | _, [] => true
 | i, x :: r => p i x && allIx p (i + 1) r
def rightF (f : ForM) : Bool := headOK f && (allIx (fun k x => nodeOK f.nodes k x) 0 f.nodes && allIx (fun k _ => endsN f.nodes f.nodes.length k) 0 f.nodes)
def shortF (f : ForM) : Bool := decide (f.nodes.length ≤ 60) && f.nodes.all (fun x => decide (x.kids.length ≤ 60) && decide (x.attrs.length ≤ 60) && decide (x.name.size ≤ 300))
structure SmallN (l : List NodeM) : Prop where
 len : l.length ≤ 60
 kids : ∀ x ∈ l, x.kids.length ≤ 60
 attrs : ∀ x ∈ l, x.attrs.length ≤ 60
 name : ∀ x ∈ l, x.name.size ≤ 300
theorem shortF_iff {f : ForM} : shortF f = true ↔ SmallN f.nodes := by
 unfold shortF
 simp only [Bool.and_eq_true, decide_eq_true_eq, List.all_eq_true]
 constructor
 ·rintro ⟨h1, h2⟩
  exact ⟨h1, fun x hx => (h2 x hx).1.1, fun x hx => (h2 x hx).1.2, fun x hx => (h2 x hx).2⟩
 ·rintro ⟨h1, h2, h3, h4⟩
  exact ⟨h1, fun x hx => ⟨⟨h2 x hx, h3 x hx⟩, h4 x hx⟩⟩
theorem nd_get {l : List NodeM} {k : Nat} {x : NodeM} (h : l[k]? = some x) : nd l (k : Int) = x := by unfold nd; rw [Int.toNat_natCast, h]; rfl
theorem there_get {l : List NodeM} {k : Nat} {x : NodeM} (h : l[k]? = some x) : thereN l (k : Int) = true := by
 unfold thereN
 have := (List.getElem?_eq_some_iff.1 h).1
 simp; omega
theorem there_iff {l : List NodeM} {n : Int} : thereN l n = true ↔ ∃ (k : Nat) (x : NodeM), n = (k : Int) ∧ l[k]? = some x ∧ nd l n = x := by
 constructor
 ·intro h
  unfold thereN at h
  simp only [Bool.and_eq_true, decide_eq_true_eq] at h
  have hk : n.toNat < l.length := by omega
  have hn : n = (n.toNat : Int) := by omega
  refine ⟨n.toNat, l[n.toNat], hn, List.getElem?_eq_getElem hk, ?_⟩
  unfold nd; rw [List.getElem?_eq_getElem hk]; rfl
 ·rintro ⟨k, x, rfl, h, _⟩
  exact there_get h
theorem allIx_iff {α : Type} {p : Nat → α → Bool} : ∀ {i : Nat} {l : List α}, allIx p i l = true ↔ ∀ k x, l[k]? = some x → p (i + k) x = true
 | i, [] => by simp [allIx]
 | i, a :: r => by
   simp only [allIx, Bool.and_eq_true, allIx_iff (i := i + 1) (l := r)]
   constructor
   ·rintro ⟨h1, h2⟩ k x hx
    cases k with
    | zero => simp at hx; subst hx; exact h1
    | succ k => have := h2 k x (by simpa using hx); rw [show i + (k + 1) = i + 1 + k from by omega]; exact this
   ·intro h
    refine ⟨h 0 a rfl, fun k x hx => ?_⟩
    have := h (k + 1) x (by simpa using hx)
    rw [show i + 1 + k = i + (k + 1) from by omega]; exact this
@[reducible] def eNode (x : NodeM) : AV := .agg [eInt x.kind, eStr x.name, eStr x.is, eStr x.data, eAttrs x.attrs, eInt x.parent, eInts x.kids, eInt x.host, eInt x.under, eInt x.doc]
def oNode (x : NodeM) : AV := eNode x
@[reducible] def eNodes (l : List NodeM) : AV := .sl 10 (l.map oNode)
@[reducible] def eFor (f : ForM) : AV := .agg [eNodes f.nodes, eInt f.most]
theorem node_get {l : List NodeM} {k : Nat} {x : NodeM} (h : l[k]? = some x) : (l.map oNode)[k]? = some (eNode x) := by rw [List.getElem?_map, h]; rfl
end Go.Proofs.Heir
namespace Go.Proofs.Heir
open Go Go.Am Go.RowKit Go.Shelf
set_option maxRecDepth 100000
set_option maxHeartbeats 8000000

theorem setCell_heap (w : World) (a : Addr) (u : Value) (k : Nat) : (w.setCell a u).heap[k]? = if k = a.block then (w.heap[k]?).map (fun o => match (w.setCell a u).heap[k]? with | some o' => o' | none => o) else w.heap[k]? := by
 by_cases h : k = a.block
 ·subst h
  rw [if_pos rfl]
  unfold World.setCell
  simp only [Array.getElem?_modify, if_true]
  cases w.heap[a.block]? <;> rfl
 ·rw [if_neg h]
  unfold World.setCell
  simp only [Array.getElem?_modify]
  rw [if_neg (fun e => h e.symm)]
theorem setCell_ne (w : World) (a : Addr) (u : Value) {k : Nat} (h : k ≠ a.block) : (w.setCell a u).heap[k]? = w.heap[k]? := by rw [setCell_heap, if_neg h]
theorem setCell_same {w w' : World} (a : Addr) (u : Value) (h : w'.heap[a.block]? = w.heap[a.block]?) : (w'.setCell a u).heap[a.block]? = (w.setCell a u).heap[a.block]? := by
 unfold World.setCell
 simp only [Array.getElem?_modify, if_true, h]
theorem below_both {B : Nat} {w w' : World} (h : Below B w w') (a : Addr) (u : Value) (ha : a.block < B) : Below B (w.setCell a u) (w'.setCell a u) where
 os := h.os
 tape := h.tape
 output := h.output
 size := by have := h.size; simpa [World.setCell] using this
 block k hk := by
  by_cases e : k = a.block
  ·subst e; exact setCell_same a u (h.block _ hk)
  ·rw [setCell_ne _ _ _ e, setCell_ne _ _ _ e]; exact h.block k hk
theorem builder_setCell {T e : TypeId} {B b : Nat} {bs : List Value} {w : World} (h : Lib.IsBuilder T e B b bs w) (a : Addr) (ha : a.block < B) (u : Value) : Lib.IsBuilder T e B b bs (w.setCell a u) := by
 rcases h with ⟨hB, v, hb, hown, hne⟩ | ⟨hB, v, hb, hown, hne⟩
 ·exact .inl ⟨hB, v, (setCell_ne w a u (by omega)).trans hb, ownsRow_setCell_below hown ha u, hne⟩
 ·exact .inr ⟨hB, v, (setCell_ne w a u (by omega)).trans hb, ownsRow_setCell_below hown ha u, hne⟩
theorem quoted_calls (w : World) (b o : Nat) (body tail : List UInt8) (hb : ∀ c ∈ body, c ≠ 34 ∧ c ≠ 92) (hsz : body.length + tail.length ≤ 100000) (Q : World → Prop)
  (hm : Calls Tryz.prog 194 #[.pointer (some ⟨b, o, none⟩), .string ⟨#[34]⟩] w fun e w1 => e = .returned (.tuple #[]) ∧ Q w1)
  (hQ : ∀ w1, Q w1 → w1.cell? ⟨b, o + 3, none⟩ = some (.string ⟨(body ++ 34 :: tail).toArray⟩) ∧ w1.frozen? ⟨b, o + 3, none⟩ = false) :
  Calls Tryz.prog 175 #[.pointer (some ⟨b, o, none⟩)] w fun e w' => e = .returned (.string ⟨body.toArray⟩) ∧ ∃ w1, Q w1 ∧ Below w1.heap.size (w1.setCell ⟨b, o + 3, none⟩ (.string ⟨tail.toArray⟩)) w' := by
 go_enter Tryz.func175, Tryz.ntmps175
 go_wp2_with (go_at_call 194; refine hm.mono ?_; rintro e w1 ⟨rfl, hq⟩)
 obtain ⟨c1, f1⟩ := hQ w1 hq
 have hlt := World.block_lt_of_cell? _ _ c1
 have hsl : (ByteArray.mk (body ++ 34 :: tail).toArray).size = body.length + (tail.length + 1) := by simp [ByteArray.size]
 go_loopw [4] (fun i wr => ∃ k : Nat, k ≤ body.length ∧ i = .int .i64 k ∧ Lib.IsBuilder 223 5 w1.heap.size w1.heap.size (Lib.byteCells (body.take k)) wr ∧ Below w1.heap.size w1 wr ∧ w1.heap.size ≤ wr.heap.size) (fun i _ => body.length + 1 - (intOf i).toNat)
 case atStart => exact ⟨0, Nat.zero_le _, rfl, Lib.fresh_isBuilder 223 5 w1, (Below.refl _ w1).alloc (Nat.le_refl _) _, by simp⟩
 case round =>
  obtain ⟨k, hk, rfl, hbd, hbl, hsz2⟩ := hrel
  have c2 : wr.cell? ⟨b, o + 3, none⟩ = some (.string ⟨(body ++ 34 :: tail).toArray⟩) := (hbl.cell (p := ⟨b, o + 3, none⟩) hlt).trans c1
  have f2 : wr.frozen? ⟨b, o + 3, none⟩ = false := (hbl.frozen (p := ⟨b, o + 3, none⟩) hlt).trans f1
  have hklt : k < body.length + (tail.length + 1) := by omega
  by_cases hkb : k < body.length
  ·have hkS : k < (ByteArray.mk (body ++ 34 :: tail).toArray).size := by rw [hsl]; omega
   have hgk : (ByteArray.mk (body ++ 34 :: tail).toArray)[k]'hkS = body[k] := by
    show (body ++ 34 :: tail).toArray[k] = _
    rw [List.getElem_toArray, List.getElem_append_left hkb]
   obtain ⟨m, hm⟩ : ∃ m : UInt8, body[k] = m := ⟨_, rfl⟩
   have hmm := hb m (by rw [← hm]; exact List.getElem_mem hkb)
   have q1 : ((m.toNat : Int) == 34) = false := by
    rw [beq_eq_false_iff_ne]; intro h; exact hmm.1 (UInt8.toNat_inj.1 (by show m.toNat = 34; omega))
   have q2 : ((m.toNat : Int) == 92) = false := by
    rw [beq_eq_false_iff_ne]; intro h; exact hmm.2 (UInt8.toNat_inj.1 (by show m.toNat = 92; omega))
   have q3 : ¬ (m.toNat : Int) = 34 := by simpa using q1
   have q4 : ¬ (m.toNat : Int) = 92 := by simpa using q2
   rw [hm] at hgk
   have hwb := Tryz.Builder_WriteByte w1.heap.size w1.heap.size (Lib.byteCells (body.take k)) m.toNat wr hbd (by rw [show (Lib.byteCells (body.take k)).length = (body.take k).length from List.length_map .., List.length_take]; omega) hsz2
   have htk : Lib.byteCells (body.take k) ++ [.int .u8 (m.toNat : Int)] = Lib.byteCells (body.take (k + 1)) := by
    rw [List.take_add_one, List.getElem?_eq_getElem hkb, hm]
    simp [Lib.byteCells]
   rw [htk] at hwb
   clear hb hmm hsl
   go_wp2_with (go_at_call 196; refine hwb.mono ?_; rintro e w2 ⟨rfl, h2, h3⟩)
   exact ⟨⟨k + 1, hkb, by congr 1, .inr h2, hbl.trans h3, by have := h3.size; omega⟩, by simp [intOf]; omega⟩
  ·obtain rfl : k = body.length := by omega
   have hkS : body.length < (ByteArray.mk (body ++ 34 :: tail).toArray).size := by rw [hsl]; omega
   have hgk : (ByteArray.mk (body ++ 34 :: tail).toArray)[body.length]'hkS = 34 := by
    show (body ++ 34 :: tail).toArray[body.length] = _
    rw [List.getElem_toArray, List.getElem_append_right (Nat.le_refl _)]
    simp
   have hex : (ByteArray.mk (body ++ 34 :: tail).toArray).extract (body.length + 1) (body.length + (tail.length + 1)) = ⟨tail.toArray⟩ := by
    rw [cut_strOf]
    show strOf (((body ++ 34 :: tail).take (body.length + (tail.length + 1))).drop (body.length + 1)) = strOf tail
    rw [List.take_of_length_le (by simp), show body ++ 34 :: tail = (body ++ [34]) ++ tail by simp, List.drop_left' (by simp)]
   rw [List.take_length] at hbd
   have hst := Tryz.Builder_String_any w1.heap.size w1.heap.size body (wr.setCell ⟨b, o + 3, none⟩ (.string ⟨tail.toArray⟩)) (builder_setCell hbd ⟨b, o + 3, none⟩ hlt _) (by simpa [World.setCell] using hsz2)
   have h34 : ((34 : UInt8).toNat : Int) = 34 := rfl
   clear hb
   go_wp2_with (go_at_call 195; refine hst.mono ?_; rintro e w2 ⟨rfl, h3⟩)
   go_ret
   exact ⟨rfl, w1, hq, (below_both hbl _ _ hlt).trans h3⟩
theorem setCell_row {w : World} {b j : Nat} {C : Array Value} {e : TypeId} {fz : Nat × Nat} (hC : w.heap[b]? = some (.cells C e fz)) (u : Value) : w.setCell ⟨b, j, none⟩ u = w.setRow b (C.setIfInBounds j u) := by
 unfold World.setCell World.setRow
 congr 1
 apply Array.ext_getElem?
 intro k
 simp only [Array.getElem?_modify]
 by_cases e : b = k
 ·subst e; simp [hC]
 ·simp [e]
theorem f175_ok (x0 x1 x2 : AV) (s0 : ByteArray) (body tail : List UInt8) (rest : List MS) (hb : ∀ c ∈ body, c ≠ 34 ∧ c ≠ 92) (hsz : body.length + tail.length ≤ 100000)
  (h126 : FnOK Tryz.prog 194 (.live 5 [.agg [x0, x1, x2, .lit (.string s0), .lit (.bool false)]] false :: rest) [.ptr 0 0 0, .lit (.string ⟨#[34]⟩)] (.live 5 [.agg [x0, x1, x2, .lit (.string ⟨(body ++ 34 :: tail).toArray⟩), .lit (.bool false)]] false :: rest) (.tup [])) :
  FnOK Tryz.prog 175 (.live 5 [.agg [x0, x1, x2, .lit (.string s0), .lit (.bool false)]] false :: rest) [.ptr 0 0 0] (.live 5 [.agg [x0, x1, x2, .lit (.string ⟨tail.toArray⟩), .lit (.bool false)]] false :: rest) (.lit (.string ⟨body.toArray⟩)) := by
 intro w W0 L vs hL hs hr
 obtain ⟨v, us, rfl, hv, hus⟩ := RepL.uncons hr
 obtain rfl := RepL.unnil hus
 obtain ⟨B, hB, hmp, rfl⟩ : ∃ B, L 0 = some B ∧ B.mp = false ∧ v = .pointer (some ⟨B.b, B.o + (0 * B.wd + 0), none⟩) := by cases hv with | ptr h1 h2 => exact ⟨_, h1, h2, rfl⟩
 rw [Nat.zero_mul, Nat.zero_add, Nat.add_zero] at hv
 rw [Nat.zero_mul, Nat.zero_add, Nat.add_zero]
 have look : ∀ (s1 : ByteArray) (μ' : Mu) (w1 : World), Sim Tryz.prog 0 w W0 L μ' (bare (.live 5 [.agg [x0, x1, x2, .lit (.string s1), .lit (.bool false)]] false :: rest)) noAct w1 → μ' 0 = some B ∧ ObjAt (Wr W0 μ' (objsOf (.live 5 [.agg [x0, x1, x2, .lit (.string s1), .lit (.bool false)]] false :: rest))) μ' w1 B 5 [.agg [x0, x1, x2, .lit (.string s1), .lit (.bool false)]] false := by
  intro s1 μ' w1 hs1
  obtain ⟨B', hB', ho⟩ := hs1.objs 0 5 _ false rfl
  have h := hs1.lentμ 0 B (by decide) hB
  rw [h] at hB'
  cases hB'
  exact ⟨h, ho⟩
 refine (quoted_calls w B.b B.o body tail hb hsz (fun w1 => ∃ μ', Sim Tryz.prog 0 w W0 L μ' (bare (.live 5 [.agg [x0, x1, x2, .lit (.string ⟨(body ++ 34 :: tail).toArray⟩), .lit (.bool false)]] false :: rest)) noAct w1) ?_ ?_).mono ?_
 ·refine (h126 w W0 L [.pointer (some ⟨B.b, B.o, none⟩), .string ⟨#[34]⟩] hL hs (.cons hv (.cons .lit .nil))).mono ?_
  rintro e w1 ⟨u, μ', rfl, hs1, hu⟩
  cases hu with
  | tup h1 h2 =>
    rename_i vs
    obtain rfl : vs = [] := List.eq_nil_of_length_eq_zero h1
    exact ⟨rfl, μ', hs1⟩
 ·rintro w1 ⟨μ', hs1⟩
  obtain ⟨h1, ho⟩ := look _ μ' w1 hs1
  obtain ⟨u, hu1, hu2⟩ := ho.cell hmp 3 (.lit (.string ⟨(body ++ 34 :: tail).toArray⟩)) rfl
  have hvirt := ho.real (i := 0) rfl
  obtain ⟨C, e, fz, c1, c2, _⟩ := ho.blk hvirt hmp
  rw [c2 rfl] at c1
  refine ⟨?_, Lib.frozen_of_heap c1 _⟩
  rw [hu1]; cases hu2; rfl
 ·rintro e w' ⟨rfl, w1, ⟨μ', hs1⟩, hbel⟩
  obtain ⟨h1, ho⟩ := look _ μ' w1 hs1
  have hvirt := ho.real (i := 0) rfl
  obtain ⟨C, e, fz, c1, c2, c3⟩ := ho.blk hvirt hmp
  rw [c2 rfl] at c1
  have hset := hs1.setObj (t := 0) (rows' := [.agg [x0, x1, x2, .lit (.string ⟨tail.toArray⟩), .lit (.bool false)]]) (C' := C.setIfInBounds (B.o + 3) (.string ⟨tail.toArray⟩)) rfl h1 hvirt hmp c1 (by simp) rfl (Wide.of_mem fun r hr => by rw [List.mem_singleton] at hr; subst hr; rfl) (fun q c hc => ?_)
  ·rw [← setCell_row c1] at hset
   refine ⟨_, μ', rfl, ?_, .lit⟩
   have hm := hset.more (w' := w') ⟨hbel.os, hbel.tape, hbel.output, hbel.size, fun k hk => hbel.block k (by simpa [World.setCell] using hk)⟩
   have e : (⟨(bare (.live 5 [.agg [x0, x1, x2, .lit (.string ⟨(body ++ 34 :: tail).toArray⟩), .lit (.bool false)]] false :: rest)).slots, updM (bare (.live 5 [.agg [x0, x1, x2, .lit (.string ⟨(body ++ 34 :: tail).toArray⟩), .lit (.bool false)]] false :: rest)).mem [(0, .live 5 [.agg [x0, x1, x2, .lit (.string ⟨tail.toArray⟩), .lit (.bool false)]] false)]⟩ : AState) = bare (.live 5 [.agg [x0, x1, x2, .lit (.string ⟨tail.toArray⟩), .lit (.bool false)]] false :: rest) := by
    unfold bare
    congr 1
    funext t
    cases t with
    | zero => rfl
    | succ t => rfl
   rw [e] at hm
   exact hm
  ·have hq5 : q < 5 := by
    have := (List.getElem?_eq_some_iff.1 hc).1
    simpa [flat, cells] using this
   by_cases h3 : q = 3
   ·subst h3
    obtain rfl : AV.lit (.string ⟨tail.toArray⟩) = c := Option.some.inj hc
    refine ⟨_, ?_, .lit⟩
    rw [Array.getElem?_setIfInBounds_self_of_lt]
    have : [AV.agg [x0, x1, x2, .lit (.string ⟨(body ++ 34 :: tail).toArray⟩), .lit (.bool false)]].length * 5 = 5 := rfl
    omega
   ·have hc' : (flat [AV.agg [x0, x1, x2, .lit (.string ⟨(body ++ 34 :: tail).toArray⟩), .lit (.bool false)]])[q]? = some c := by
     rw [← hc]
     match q, hq5, h3 with
     | 0, _, _ => rfl
     | 1, _, _ => rfl
     | 2, _, _ => rfl
     | 4, _, _ => rfl
    obtain ⟨u, hu1, hu2⟩ := ho.cell hmp q c hc'
    rw [Lib.cell_of_heap c1] at hu1
    exact ⟨u, by rw [Array.getElem?_setIfInBounds_ne (by omega)]; exact hu1, hu2⟩
end Go.Proofs.Heir
namespace Go.Proofs.Heir
open Go Go.Am Go.RowKit Go.Lib
set_option maxRecDepth 100000
set_option maxHeartbeats 8000000
theorem f122_ok (f : ForM) (n : Int) : FnOK Tryz.prog 122 [] [eFor f, eInt n] [] (eBool (thereN f.nodes n)) := by
 obtain ⟨l, m⟩ := f
 have hlm : (l.map oNode).length = l.length := List.length_map ..
 refine FnOK.startC (rvs := [.tmp 4]) G G_good Tryz.func122 rfl Tryz.ntmps122 rfl rfl ?_; with_reducible refine wD ?_
 by_cases h : (0 : Int) ≤ n
 ·(have fct := h; (repeat' (first
  | refine gF ?_ | refine aE ?_ ?_
  | apply trivial)); all_goals clear fct)
  all_goals simp [thereN, h]
 ·(have fct := (eq_false h); (repeat' (first
  | refine gF ?_ | refine aE ?_ ?_
  | apply trivial)); all_goals clear fct)
  all_goals simp [thereN, h]
theorem f147_ok (k : Int) : FnOK Tryz.prog 147 [] [eInt k] [] (eBool (holdK k)) := by
 refine FnOK.startC (rvs := [.tmp 2]) G G_good Tryz.func147 rfl Tryz.ntmps147 rfl rfl ?_; with_reducible refine wD ?_
 by_cases e0 : k = 0
 ·(have fct := e0; (repeat' (first
  | refine gF ?_ | refine aE ?_ ?_
  | apply trivial)); all_goals clear fct)
  all_goals simp [holdK, e0]
 ·by_cases e1 : k = 1
  ·(have fct := e1; (repeat' (first
  | refine gF ?_ | refine aE ?_ ?_
  | apply trivial)); all_goals clear fct)
   all_goals simp [holdK, e1]
  ·by_cases e3 : k = 3
   ·(have fct := e3; (repeat' (first
  | refine gF ?_ | refine aE ?_ ?_
  | apply trivial)); all_goals clear fct)
    all_goals simp [holdK, e3]
   ·by_cases e4 : k = 4
    ·(have fct := e4; (repeat' (first
  | refine gF ?_ | refine aE ?_ ?_
  | apply trivial)); all_goals clear fct)
     all_goals simp [holdK, e4]
    ·(have fct := And.intro e0 (And.intro e1 (And.intro e3 (e4))); (repeat' (first
  | refine gF ?_ | refine aE ?_ ?_
  | apply trivial)); all_goals clear fct)
     all_goals simp [holdK, e0, e1, e3, e4]
theorem f146_ok (f : ForM) (n k : Int) : FnOK Tryz.prog 146 [] [eFor f, eInt n, eInt k] [] (eBool (isN f.nodes n k)) := by
 have h49 := f122_ok f n
 obtain ⟨l, m⟩ := f
 refine FnOK.startC (rvs := [.tmp 6]) G G_good Tryz.func146 rfl Tryz.ntmps146 rfl rfl ?_; with_reducible refine wD ?_
 refine cL h49 c122 ?_; with_reducible refine wK ?_
 cases ht : thereN l n with
 | false =>
   (have fct := ht; (repeat' (first
  | refine gF ?_ | refine aE ?_ ?_
  | apply trivial)); all_goals clear fct)
   all_goals simp [isN, ht]
 | true =>
   obtain ⟨i, x, rfl, hx, hnd⟩ := there_iff.1 ht
   obtain ⟨a1, a2, a3, a4, a5, a6, a7, a8, a9, a10⟩ := x
   (have fct := ht; (repeat' (first
  | refine gF ?_ | refine aE ?_ ?_
  | ((refine IdxK.mk i (eNode _) rfl (node_get hx) ?_) <;> with_reducible refine wK ?_)
  | apply trivial)); all_goals clear fct)
   all_goals simp [isN, ht, hnd]
theorem f79_ok (l : List Int) (hl : l.length ≤ 100000) (n : Int) : FnOK Tryz.prog 79 [] [eInts l, eInt n] [] (eInt (idxI (fun x => decide (x = n)) l)) := by
 have hlm : (l.map oInt).length = l.length := List.length_map ..
 refine FnOK.startC (rvs := [.tmp 4]) G G_good Tryz.func79 rfl Tryz.ntmps79 rfl rfl ?_; with_reducible refine wD ?_
 refine LoopK.use G G_good (fun (k : Nat) => [(0, eInts l), (1, eInt n), (7, eInt l.length), (8, eInt k)]) (fun _ => []) (fun k => k ≤ l.length ∧ ∀ j x, j < k → l[j]? = some x → decide (x = n) = false) (fun k => l.length - k) 0 ⟨Nat.zero_le _, fun j x h => by omega⟩
  ⟨⟨rfl, rfl⟩, ⟨rfl, rfl, by show (l.length : Int) = ((l.map oInt).length : Int); rw [hlm], rfl, trivial⟩, trivial⟩ ?_
 rintro k ⟨hk, hno⟩
 with_reducible refine wK ?_
 refine IfK.mk (fun h1 => ?_) (fun h1 => ?_) <;> (try simp only [castN] at h1) <;> with_reducible refine wK ?_
 ·have hk' : k < l.length := by simp only [decide_eq_true_eq] at h1; omega
  obtain ⟨a, ha⟩ : ∃ a, l[k]? = some a := ⟨_, List.getElem?_eq_getElem hk'⟩
  refine IdxK.mk k (eInt a) rfl (int_get ha) ?_; with_reducible refine wK ?_
  refine IfK.mk (fun h2 => ?_) (fun h2 => ?_) <;> (try simp only [castN] at h2) <;> with_reducible refine wK ?_
  ·(refine eK ?_ ?_ <;> with_reducible repeat' (first | exact trivial | (show _ ∧ _; refine aK ?_ ?_)))
   refine idxI_hit (p := fun x => decide (x = n)) ha ?_ hno
   simp only [decide_eq_true_eq] at h2 ⊢; exact h2.symm
  ·refine nK ?_; with_reducible refine wK ?_
   refine NextK.mk (k + 1) ⟨by omega, fun j x hj hx => ?_⟩ (by omega) ⟨⟨rfl, rfl⟩, ⟨rfl, rfl, rfl, by show ((k + 1 : Nat) : Int) = (k : Int) + 1; omega, trivial⟩, trivial⟩
   rcases Nat.lt_or_ge j k with h3 | h3
   ·exact hno j x h3 hx
   ·have : j = k := by omega
    subst this
    rw [ha] at hx; cases hx
    simp only [decide_eq_false_iff_not] at h2 ⊢; exact fun e => h2 e.symm
 ·(refine eK ?_ ?_ <;> with_reducible repeat' (first | exact trivial | (show _ ∧ _; refine aK ?_ ?_)))
  exact idxI_none fun j x hx => hno j x (by have := (List.getElem?_eq_some_iff.1 hx).1; simp only [decide_eq_false_iff_not] at h1; omega) hx
theorem idxI_has {l : List Int} {n : Int} : decide (0 ≤ idxI (fun x => decide (x = n)) l) = hasI l n := by
 rw [Bool.eq_iff_iff, decide_eq_true_eq]
 unfold hasI
 rw [decide_eq_true_eq]
 unfold idxI
 cases h : l.findIdx? (fun x => decide (x = n)) with
 | none =>
   rw [List.findIdx?_eq_none_iff] at h
   simp only
   refine ⟨fun h' => by omega, fun hs => ?_⟩
   have := h n hs
   simp at this
 | some k =>
   rw [List.findIdx?_eq_some_iff_getElem] at h
   obtain ⟨hk, h2, _⟩ := h
   simp only
   exact ⟨fun _ => by rw [← of_decide_eq_true h2]; exact List.getElem_mem hk, fun _ => by omega⟩
theorem f148_ok (l : List Int) (hl : l.length ≤ 100000) (n : Int) : FnOK Tryz.prog 148 [] [eInts l, eInt n] [] (eBool (hasI l n)) := by
 rw [← idxI_has]
 refine FnOK.startC (rvs := [.tmp 4]) G G_good Tryz.func148 rfl Tryz.ntmps148 rfl rfl ?_; with_reducible refine wD ?_
 refine cL (f79_ok l hl n) c79 ?_; with_reducible refine wK ?_
 (refine eK ?_ ?_ <;> with_reducible repeat' (first | exact trivial | (show _ ∧ _; refine aK ?_ ?_)))
theorem f149_ok (f : ForM) (k : Nat) (x : NodeM) (hx : f.nodes[k]? = some x) : FnOK Tryz.prog 149 [] [eFor f, eInt k] [] (eInt (upN x)) := by
 obtain ⟨l, m⟩ := f
 obtain ⟨a1, a2, a3, a4, a5, a6, a7, a8, a9, a10⟩ := x
 refine FnOK.startC (rvs := [.tmp 4]) G G_good Tryz.func149 rfl Tryz.ntmps149 rfl rfl ?_; with_reducible refine wD ?_
 refine IdxK.mk k (eNode _) rfl (node_get hx) ?_; with_reducible refine wK ?_
 unfold upN
 by_cases e : a6 = -1
 ·(have fct := e; (repeat' (first
  | refine gF ?_ | refine aE ?_ ?_
  | ((refine IdxK.mk k (eNode _) rfl (node_get hx) ?_) <;> with_reducible refine wK ?_)
  | apply trivial)); all_goals clear fct)
  all_goals simp [e]
 ·(have fct := (eq_false e); (repeat' (first
  | refine gF ?_ | refine aE ?_ ?_
  | ((refine IdxK.mk k (eNode _) rfl (node_get hx) ?_) <;> with_reducible refine wK ?_)
  | apply trivial)); all_goals clear fct)
  all_goals simp [e]
theorem f93_ok (f : ForM) (k : Nat) (x : NodeM) (hx : f.nodes[k]? = some x) : FnOK Tryz.prog 93 [] [eFor f, eInt k] [] (eBool (ownedN f.nodes k x)) := by
 have h55 := f146_ok f x.doc 0
 obtain ⟨l, m⟩ := f
 obtain ⟨a1, a2, a3, a4, a5, a6, a7, a8, a9, a10⟩ := x
 unfold ownedN
 simp only at h55 hx ⊢
 refine FnOK.startC (rvs := [.tmp 4]) G G_good Tryz.func93 rfl Tryz.ntmps93 rfl rfl ?_; with_reducible refine wD ?_
 refine IdxK.mk k (eNode _) rfl (node_get hx) ?_; with_reducible refine wK ?_
 refine cL h55 c146 ?_; with_reducible refine wK ?_
 cases hi : isN l a10 0 with
 | false =>
   (have fct := hi; (repeat' (first
  | refine gF ?_ | refine aE ?_ ?_
  | apply trivial)); all_goals clear fct)
   all_goals simp [hi]
 | true =>
   by_cases e : a1 = 0
   ·(have fct := And.intro hi (e); (repeat' (first
  | refine gF ?_ | refine aE ?_ ?_
  | apply trivial)); all_goals clear fct)
    all_goals simp [hi, e]
   ·(have fct := And.intro hi ((eq_false e)); (repeat' (first
  | refine gF ?_ | refine aE ?_ ?_
  | apply trivial)); all_goals clear fct)
    all_goals simp [hi, e]
theorem f94_ok (f : ForM) (hs : SmallN f.nodes) (k : Nat) (x : NodeM) (hx : f.nodes[k]? = some x) : FnOK Tryz.prog 94 [] [eFor f, eInt k] [] (eBool (hungN f.nodes k x)) := by
 have h49 := f122_ok f x.parent
 have h56 := f147_ok (nd f.nodes x.parent).kind
 have h57 : thereN f.nodes x.parent = true → FnOK Tryz.prog 148 [] [eInts (nd f.nodes x.parent).kids, eInt k] [] (eBool (hasI (nd f.nodes x.parent).kids k)) := fun ht => by
  obtain ⟨i, y, _, hy, hnd⟩ := there_iff.1 ht
  rw [hnd]
  exact f148_ok y.kids (by have := hs.kids y (List.mem_of_getElem? hy); omega) k
 obtain ⟨l, m⟩ := f
 obtain ⟨a1, a2, a3, a4, a5, a6, a7, a8, a9, a10⟩ := x
 unfold hungN
 simp only at h49 h56 h57 hx ⊢
 refine FnOK.startC (rvs := [.tmp 4]) G G_good Tryz.func94 rfl Tryz.ntmps94 rfl rfl ?_; with_reducible refine wD ?_
 refine IdxK.mk k (eNode _) rfl (node_get hx) ?_; with_reducible refine wK ?_
 by_cases e6 : a6 = -1
 ·(have fct := e6; (repeat' (first
  | refine gF ?_ | refine aE ?_ ?_
  | apply trivial)); all_goals clear fct)
  all_goals simp [e6]
 ·refine IfK.no (by simp [e6]) ?_; with_reducible refine wK ?_
  have rest : ∀ b : Bool, (decide (a1 = 1) || decide (a1 = 2)) = b → (b = false ∨ b = true) := fun b _ => by cases b <;> simp
  cases ht : thereN l a6 with
  | false =>
    by_cases e1 : a1 = 1
    ·(have fct := And.intro e1 (And.intro ht ((eq_false e6))); (repeat' (first
  | refine gF ?_ | refine aE ?_ ?_
  | (((with_reducible refine kQ 122 ?_); refine cL h49 c122 ?_) <;> with_reducible refine wK ?_)
  | apply trivial)); all_goals clear fct)
     all_goals simp [e1, ht, e6]
    ·by_cases e2 : a1 = 2
     ·(have fct := And.intro e2 (And.intro ht ((eq_false e6))); (repeat' (first
  | refine gF ?_ | refine aE ?_ ?_
  | (((with_reducible refine kQ 122 ?_); refine cL h49 c122 ?_) <;> with_reducible refine wK ?_)
  | apply trivial)); all_goals clear fct)
      all_goals simp [e2, ht, e6]
     ·(have fct := And.intro (eq_false e1) (And.intro (eq_false e2) (And.intro ht ((eq_false e6)))); (repeat' (first
  | refine gF ?_ | refine aE ?_ ?_
  | apply trivial)); all_goals clear fct)
      all_goals simp [e1, e2, ht, e6]
  | true =>
    obtain ⟨i, y, rfl, hy, hnd⟩ := there_iff.1 ht
    have h57' := h57 ht
    rw [hnd] at h56 h57' ⊢
    obtain ⟨b1, b2, b3, b4, b5, b6, b7, b8, b9, b10⟩ := y
    simp only at h56 h57'
    cases hh : holdK b1 with
    | false =>
      by_cases e1 : a1 = 1
      ·(have fct := And.intro e1 (And.intro ht (And.intro hh ((eq_false e6)))); (repeat' (first
  | refine gF ?_ | refine aE ?_ ?_
  | ((first
   | ((with_reducible refine kQ 122 ?_); refine cL h49 c122 ?_)
   | ((with_reducible refine kQ 147 ?_); refine cL h56 c147 ?_)
   | (refine IdxK.mk i (eNode _) rfl (node_get hy) ?_)) <;> with_reducible refine wK ?_)
  | apply trivial)); all_goals clear fct)
       all_goals simp [e1, ht, e6, hh]
      ·by_cases e2 : a1 = 2
       ·(have fct := And.intro e2 (And.intro ht (And.intro hh ((eq_false e6)))); (repeat' (first
  | refine gF ?_ | refine aE ?_ ?_
  | ((first
   | ((with_reducible refine kQ 122 ?_); refine cL h49 c122 ?_)
   | ((with_reducible refine kQ 147 ?_); refine cL h56 c147 ?_)
   | (refine IdxK.mk i (eNode _) rfl (node_get hy) ?_)) <;> with_reducible refine wK ?_)
  | apply trivial)); all_goals clear fct)
        all_goals simp [e2, ht, e6, hh]
       ·(have fct := And.intro (eq_false e1) (And.intro (eq_false e2) (And.intro ht (And.intro hh ((eq_false e6))))); (repeat' (first
  | refine gF ?_ | refine aE ?_ ?_
  | apply trivial)); all_goals clear fct)
        all_goals simp [e1, e2, ht, e6]
    | true =>
      by_cases e1 : a1 = 1
      ·(have fct := And.intro e1 (And.intro ht (And.intro hh ((eq_false e6)))); (repeat' (first
  | refine gF ?_ | refine aE ?_ ?_
  | ((first
   | ((with_reducible refine kQ 122 ?_); refine cL h49 c122 ?_)
   | ((with_reducible refine kQ 147 ?_); refine cL h56 c147 ?_)
   | ((with_reducible refine kQ 148 ?_); refine cL h57' c148 ?_)
   | (refine IdxK.mk i (eNode _) rfl (node_get hy) ?_)) <;> with_reducible refine wK ?_)
  | apply trivial)); all_goals clear fct)
       all_goals simp [e1, ht, e6, hh]
      ·by_cases e2 : a1 = 2
       ·(have fct := And.intro e2 (And.intro ht (And.intro hh ((eq_false e6)))); (repeat' (first
  | refine gF ?_ | refine aE ?_ ?_
  | ((first
   | ((with_reducible refine kQ 122 ?_); refine cL h49 c122 ?_)
   | ((with_reducible refine kQ 147 ?_); refine cL h56 c147 ?_)
   | ((with_reducible refine kQ 148 ?_); refine cL h57' c148 ?_)
   | (refine IdxK.mk i (eNode _) rfl (node_get hy) ?_)) <;> with_reducible refine wK ?_)
  | apply trivial)); all_goals clear fct)
        all_goals simp [e2, ht, e6, hh]
       ·(have fct := And.intro (eq_false e1) (And.intro (eq_false e2) (And.intro ht (And.intro hh ((eq_false e6))))); (repeat' (first
  | refine gF ?_ | refine aE ?_ ?_
  | apply trivial)); all_goals clear fct)
        all_goals simp [e1, e2, ht, e6]
theorem endsN_succ (l : List NodeM) (m : Nat) (n : Int) : endsN l (m + 1) n = if upN (nd l n) = -1 then true else endsN l m (upN (nd l n)) := rfl
theorem f97_ok (f : ForM) (hl : f.nodes.length ≤ 100000) (hup : ∀ (k : Nat) (x : NodeM), f.nodes[k]? = some x → upN x = -1 ∨ thereN f.nodes (upN x) = true) (k : Nat) (hk : k < f.nodes.length) : FnOK Tryz.prog 97 [] [eFor f, eInt k] [] (eBool (endsN f.nodes f.nodes.length k)) := by
 have h58 := f149_ok f
 obtain ⟨l, m⟩ := f
 simp only at h58 hup hk hl ⊢
 have hlm : (l.map oNode).length = l.length := List.length_map ..
 refine FnOK.startC (rvs := [.tmp 4]) G G_good Tryz.func97 rfl Tryz.ntmps97 rfl rfl ?_; with_reducible refine wD ?_
 refine LoopK.use G G_good (fun (i : Nat × Nat) => [(1, eInt i.2), (2, .ptr 20 0 0), (8, eInt l.length), (9, eInt i.1)]) (fun _ => [(20, .live 2 [eFor ⟨l, m⟩] false)]) (fun i => i.1 ≤ l.length ∧ i.2 < l.length ∧ endsN l l.length k = endsN l (l.length - i.1) i.2) (fun i => l.length - i.1) (0, k) ⟨Nat.zero_le _, hk, rfl⟩
  ⟨⟨rfl, rfl⟩, ⟨rfl, ⟨rfl, rfl⟩, by show (l.length : Int) = ((l.map oNode).length : Int); rw [hlm], rfl, trivial⟩, ⟨⟨rfl, rfl, trivial⟩, trivial⟩, trivial⟩ ?_
 rintro ⟨i, j⟩ ⟨hi, hj, he⟩
 simp only at hi hj he
 with_reducible refine wK ?_
 refine IfK.mk (fun h1 => ?_) (fun h1 => ?_) <;> (try simp only [castN] at h1) <;> with_reducible refine wK ?_
 ·have hi' : i < l.length := by simp only [decide_eq_true_eq] at h1; omega
  obtain ⟨x, hx⟩ : ∃ x, l[j]? = some x := ⟨_, List.getElem?_eq_getElem hj⟩
  have h58' := h58 j x hx
  refine cL h58' c149 ?_; with_reducible refine wK ?_
  rw [show l.length - i = (l.length - (i + 1)) + 1 from by omega] at he
  rw [endsN_succ, nd_get hx] at he
  by_cases e : upN x = -1
  ·rw [if_pos e] at he
   (have fct := e; (repeat' (first
  | refine gF ?_ | refine aE ?_ ?_
  | apply trivial)); all_goals clear fct)
   all_goals rw [he]
  ·rw [if_neg e] at he
   rcases hup j x hx with h | h
   ·exact absurd h e
   obtain ⟨j', y, hj1, hj2, _⟩ := there_iff.1 h
   rw [hj1] at he
   have hlt := (List.getElem?_eq_some_iff.1 hj2).1
   refine IfK.no (decide_eq_false e) ?_; with_reducible refine wK ?_
   refine nK ?_; with_reducible refine wK ?_
   refine NextK.mk (i + 1, j') ⟨by show i + 1 ≤ l.length; omega, hlt, he⟩ (by show l.length - (i + 1) < l.length - i; omega) ⟨⟨rfl, rfl⟩, ⟨hj1.symm, ⟨rfl, rfl⟩, rfl, by show ((i + 1 : Nat) : Int) = (i : Int) + 1; omega, trivial⟩, ⟨⟨rfl, rfl, trivial⟩, trivial⟩, trivial⟩
 ·(refine eK ?_ ?_ <;> with_reducible repeat' (first | exact trivial | (show _ ∧ _; refine aK ?_ ?_)))
  have : i = l.length := by simp only [decide_eq_false_iff_not] at h1; omega
  rw [he, this, Nat.sub_self]; rfl
theorem is_there {l : List NodeM} {n k : Int} (h : isN l n k = true) : ∃ (i : Nat) (x : NodeM), n = (i : Int) ∧ l[i]? = some x ∧ nd l n = x := by
 unfold isN at h
 simp only [Bool.and_eq_true] at h
 exact there_iff.1 h.1
theorem f96_ok (f : ForM) (k : Nat) (x : NodeM) (hx : f.nodes[k]? = some x) : FnOK Tryz.prog 96 [] [eFor f, eInt k] [] (eBool (shadedN f.nodes k x)) := by
 have h1 := f146_ok f x.host 1
 have h4 := f146_ok f x.under 4
 obtain ⟨l, m⟩ := f
 obtain ⟨a1, a2, a3, a4, a5, a6, a7, a8, a9, a10⟩ := x
 unfold shadedN
 simp only at h1 h4 hx ⊢
 refine FnOK.startC (rvs := [.tmp 4]) G G_good Tryz.func96 rfl Tryz.ntmps96 rfl rfl ?_; with_reducible refine wD ?_
 refine IdxK.mk k (eNode _) rfl (node_get hx) ?_; with_reducible refine wK ?_
 by_cases e4 : a1 = 4
 ·have e1 : ¬ a1 = 1 := by omega
  refine IfK.yes (by simp [e4]) ?_; with_reducible refine wK ?_
  rw [if_pos e4]
  cases hi : isN l a8 1 with
  | false =>
    rw [hi] at h1
    by_cases e9 : a9 = -1
    ·(have fct := And.intro e4 (e9); (repeat' (first
  | refine gF ?_ | refine aE ?_ ?_
  | (((with_reducible refine kQ 146 ?_); refine cL h1 c146 ?_) <;> with_reducible refine wK ?_)
  | apply trivial)); all_goals clear fct)
     all_goals simp [e9]
    ·(have fct := And.intro e4 (And.intro (eq_false e9) ((eq_false e1))); (repeat' (first
  | refine gF ?_ | refine aE ?_ ?_
  | (((with_reducible refine kQ 146 ?_); refine cL h1 c146 ?_) <;> with_reducible refine wK ?_)
  | apply trivial)); all_goals clear fct)
     all_goals simp [e9, e1]
  | true =>
    rw [hi] at h1
    obtain ⟨i, y, rfl, hy, hnd⟩ := is_there hi
    rw [hnd]
    obtain ⟨b1, b2, b3, b4, b5, b6, b7, b8, b9, b10⟩ := y
    by_cases e9 : a9 = -1
    ·by_cases u9 : b9 = k
     ·by_cases u10 : b10 = a10
      ·(have fct := And.intro e4 (And.intro e9 (And.intro u9 (u10))); (repeat' (first
  | refine gF ?_ | refine aE ?_ ?_
  | ((first
   | ((with_reducible refine kQ 146 ?_); refine cL h1 c146 ?_)
   | (refine IdxK.mk i (eNode _) rfl (node_get hy) ?_)) <;> with_reducible refine wK ?_)
  | apply trivial)); all_goals clear fct)
       all_goals simp [e9, u9, u10]
      ·(have fct := And.intro e4 (And.intro e9 (And.intro u9 ((eq_false u10)))); (repeat' (first
  | refine gF ?_ | refine aE ?_ ?_
  | ((first
   | ((with_reducible refine kQ 146 ?_); refine cL h1 c146 ?_)
   | (refine IdxK.mk i (eNode _) rfl (node_get hy) ?_)) <;> with_reducible refine wK ?_)
  | apply trivial)); all_goals clear fct)
       all_goals simp [e9, u9, u10]
     ·(have fct := And.intro e4 (And.intro e9 ((eq_false u9))); (repeat' (first
  | refine gF ?_ | refine aE ?_ ?_
  | ((first
   | ((with_reducible refine kQ 146 ?_); refine cL h1 c146 ?_)
   | (refine IdxK.mk i (eNode _) rfl (node_get hy) ?_)) <;> with_reducible refine wK ?_)
  | apply trivial)); all_goals clear fct)
      all_goals simp [e9, u9]
    ·by_cases u9 : b9 = k
     ·by_cases u10 : b10 = a10
      ·(have fct := And.intro e4 (And.intro (eq_false e9) (And.intro (eq_false e1) (And.intro u9 (u10)))); (repeat' (first
  | refine gF ?_ | refine aE ?_ ?_
  | ((first
   | ((with_reducible refine kQ 146 ?_); refine cL h1 c146 ?_)
   | (refine IdxK.mk i (eNode _) rfl (node_get hy) ?_)) <;> with_reducible refine wK ?_)
  | apply trivial)); all_goals clear fct)
       all_goals simp [e9, e1, u9, u10]
      ·(have fct := And.intro e4 (And.intro (eq_false e9) (And.intro (eq_false e1) (And.intro u9 ((eq_false u10))))); (repeat' (first
  | refine gF ?_ | refine aE ?_ ?_
  | ((first
   | ((with_reducible refine kQ 146 ?_); refine cL h1 c146 ?_)
   | (refine IdxK.mk i (eNode _) rfl (node_get hy) ?_)) <;> with_reducible refine wK ?_)
  | apply trivial)); all_goals clear fct)
       all_goals simp [e9, e1, u9, u10]
     ·(have fct := And.intro e4 (And.intro (eq_false e9) (And.intro (eq_false e1) ((eq_false u9)))); (repeat' (first
  | refine gF ?_ | refine aE ?_ ?_
  | ((first
   | ((with_reducible refine kQ 146 ?_); refine cL h1 c146 ?_)
   | (refine IdxK.mk i (eNode _) rfl (node_get hy) ?_)) <;> with_reducible refine wK ?_)
  | apply trivial)); all_goals clear fct)
      all_goals simp [e9, e1, u9]
 ·refine IfK.no (by simp [e4]) ?_; with_reducible refine wK ?_
  rw [if_neg e4]
  by_cases e8 : a8 = -1
  ·by_cases e9 : a9 = -1
   ·(have fct := And.intro (eq_false e4) (And.intro e8 (e9)); (repeat' (first
  | refine gF ?_ | refine aE ?_ ?_
  | apply trivial)); all_goals clear fct)
    all_goals simp [e9, e8]
   ·by_cases e1 : a1 = 1
    ·cases hu : isN l a9 4 with
     | false =>
       rw [hu] at h4
       (have fct := And.intro (eq_false e4) (And.intro e8 (And.intro (eq_false e9) (e1))); (repeat' (first
  | refine gF ?_ | refine aE ?_ ?_
  | (((with_reducible refine kQ 146 ?_); refine cL h4 c146 ?_) <;> with_reducible refine wK ?_)
  | apply trivial)); all_goals clear fct)
       all_goals simp [e9, e8, e1]
     | true =>
       rw [hu] at h4
       obtain ⟨j, z, rfl, hz, hnd⟩ := is_there hu
       rw [hnd]
       obtain ⟨d1, d2, d3, d4, d5, d6, d7, d8, d9, d10⟩ := z
       (have fct := And.intro (eq_false e4) (And.intro e8 (And.intro (eq_false e9) (e1))); (repeat' (first
  | refine gF ?_ | refine aE ?_ ?_
  | ((first
   | ((with_reducible refine kQ 146 ?_); refine cL h4 c146 ?_)
   | (refine IdxK.mk j (eNode ⟨d1, d2, d3, d4, d5, d6, d7, d8, d9, d10⟩) rfl (node_get hz) ?_)) <;> with_reducible refine wK ?_)
  | apply trivial)); all_goals clear fct)
       all_goals simp [e9, e8, e1]
    ·(have fct := And.intro (eq_false e4) (And.intro e8 (And.intro (eq_false e9) ((eq_false e1)))); (repeat' (first
  | refine gF ?_ | refine aE ?_ ?_
  | apply trivial)); all_goals clear fct)
     all_goals simp [e9, e8, e1]
  ·by_cases e9 : a9 = -1
   ·(have fct := And.intro (eq_false e4) (And.intro (eq_false e8) (e9)); (repeat' (first
  | refine gF ?_ | refine aE ?_ ?_
  | apply trivial)); all_goals clear fct)
    all_goals simp [e9, e8]
   ·by_cases e1 : a1 = 1
    ·cases hu : isN l a9 4 with
     | false =>
       rw [hu] at h4
       (have fct := And.intro (eq_false e4) (And.intro (eq_false e8) (And.intro (eq_false e9) (e1))); (repeat' (first
  | refine gF ?_ | refine aE ?_ ?_
  | (((with_reducible refine kQ 146 ?_); refine cL h4 c146 ?_) <;> with_reducible refine wK ?_)
  | apply trivial)); all_goals clear fct)
       all_goals simp [e9, e8, e1]
     | true =>
       rw [hu] at h4
       obtain ⟨j, z, rfl, hz, hnd⟩ := is_there hu
       rw [hnd]
       obtain ⟨d1, d2, d3, d4, d5, d6, d7, d8, d9, d10⟩ := z
       (have fct := And.intro (eq_false e4) (And.intro (eq_false e8) (And.intro (eq_false e9) (e1))); (repeat' (first
  | refine gF ?_ | refine aE ?_ ?_
  | ((first
   | ((with_reducible refine kQ 146 ?_); refine cL h4 c146 ?_)
   | (refine IdxK.mk j (eNode ⟨d1, d2, d3, d4, d5, d6, d7, d8, d9, d10⟩) rfl (node_get hz) ?_)) <;> with_reducible refine wK ?_)
  | apply trivial)); all_goals clear fct)
       all_goals simp [e9, e8, e1]
    ·(have fct := And.intro (eq_false e4) (And.intro (eq_false e8) (And.intro (eq_false e9) ((eq_false e1)))); (repeat' (first
  | refine gF ?_ | refine aE ?_ ?_
  | apply trivial)); all_goals clear fct)
     all_goals simp [e9, e8, e1]
theorem f92_ok (x : NodeM) (hx : x.attrs.length ≤ 100000) : FnOK Tryz.prog 92 [] [eNode x] [] (eBool (namedN x)) := by
 have h45 := f134_ok x.name
 have h54 := f91_ok x.is
 have h44 := f133_ok x.attrs hx
 obtain ⟨a1, a2, a3, a4, a5, a6, a7, a8, a9, a10⟩ := x
 have hlm : (a5.map oAttr).length = a5.length := List.length_map ..
 unfold namedN
 simp only at h45 h54 h44 hx ⊢
 refine FnOK.startC (rvs := [.tmp 2]) G G_good Tryz.func92 rfl Tryz.ntmps92 rfl rfl ?_; with_reducible refine wD ?_
 by_cases e1 : a1 = 1
 ·rw [if_pos e1]
  cases hr : rightS a2 with
  | false =>
    rw [hr] at h45
    simp only [Bool.false_eq_true, if_false] at h45
    (have fct := And.intro e1 (hr); (repeat' (first
  | refine gF ?_ | refine aE ?_ ?_
  | (((with_reducible refine kQ 134 ?_); refine cL h45 c134 ?_) <;> with_reducible refine wK ?_)
  | apply trivial)); all_goals clear fct)
    all_goals simp [hr]
  | true =>
    rw [hr] at h45
    simp only [if_true] at h45
    by_cases hl : lowS a2 = a2
    ·by_cases h3 : a3 = ⟨#[]⟩
     ·by_cases h4 : a4 = ⟨#[]⟩
      ·(have fct := And.intro e1 (And.intro hr (And.intro hl (And.intro h3 (h4)))); (repeat' (first
  | refine gF ?_ | refine aE ?_ ?_
  | ((first
   | ((with_reducible refine kQ 134 ?_); refine cL h45 c134 ?_)
   | ((with_reducible refine kQ 133 ?_); refine cL h44 c133 ?_)) <;> with_reducible refine wK ?_)
  | apply trivial)); all_goals clear fct)
       all_goals simp [hr, hl, h3, h4]
      ·(have fct := And.intro e1 (And.intro hr (And.intro hl (And.intro h3 ((eq_false h4))))); (repeat' (first
  | refine gF ?_ | refine aE ?_ ?_
  | (((with_reducible refine kQ 134 ?_); refine cL h45 c134 ?_) <;> with_reducible refine wK ?_)
  | apply trivial)); all_goals clear fct)
       all_goals simp [hr, hl, h3, h4]
     ·cases hc : customS a3 with
      | false =>
        rw [hc] at h54
        (have fct := And.intro e1 (And.intro hr (And.intro hl (And.intro (eq_false h3) (hc)))); (repeat' (first
  | refine gF ?_ | refine aE ?_ ?_
  | ((first
   | ((with_reducible refine kQ 134 ?_); refine cL h45 c134 ?_)
   | ((with_reducible refine kQ 91 ?_); refine cL h54 c91 ?_)) <;> with_reducible refine wK ?_)
  | apply trivial)); all_goals clear fct)
        all_goals simp [hr, hl, h3, hc]
      | true =>
        rw [hc] at h54
        by_cases h4 : a4 = ⟨#[]⟩
        ·(have fct := And.intro e1 (And.intro hr (And.intro hl (And.intro (eq_false h3) (And.intro hc (h4))))); (repeat' (first
  | refine gF ?_ | refine aE ?_ ?_
  | ((first
   | ((with_reducible refine kQ 134 ?_); refine cL h45 c134 ?_)
   | ((with_reducible refine kQ 91 ?_); refine cL h54 c91 ?_)
   | ((with_reducible refine kQ 133 ?_); refine cL h44 c133 ?_)) <;> with_reducible refine wK ?_)
  | apply trivial)); all_goals clear fct)
         all_goals simp [hr, hl, h3, hc, h4]
        ·(have fct := And.intro e1 (And.intro hr (And.intro hl (And.intro (eq_false h3) (And.intro hc ((eq_false h4)))))); (repeat' (first
  | refine gF ?_ | refine aE ?_ ?_
  | ((first
   | ((with_reducible refine kQ 134 ?_); refine cL h45 c134 ?_)
   | ((with_reducible refine kQ 91 ?_); refine cL h54 c91 ?_)) <;> with_reducible refine wK ?_)
  | apply trivial)); all_goals clear fct)
         all_goals simp [hr, hl, h3, hc, h4]
    ·(have fct := And.intro e1 (And.intro hr ((eq_false hl))); (repeat' (first
  | refine gF ?_ | refine aE ?_ ?_
  | (((with_reducible refine kQ 134 ?_); refine cL h45 c134 ?_) <;> with_reducible refine wK ?_)
  | apply trivial)); all_goals clear fct)
     all_goals simp [hr, hl]
 ·rw [if_neg e1]
  by_cases e2 : a1 = 2
  ·rw [if_pos e2]
   by_cases hd : a4.size ≤ 200
   ·by_cases h2 : a2 = ⟨#[]⟩
    ·by_cases h3 : a3 = ⟨#[]⟩
     ·(have fct := And.intro e2 (And.intro hd (And.intro h2 (h3))); (repeat' (first
  | refine gF ?_ | refine aE ?_ ?_
  | apply trivial)); all_goals clear fct)
      all_goals simp [hd, h2, h3]
     ·(have fct := And.intro e2 (And.intro hd (And.intro h2 ((eq_false h3)))); (repeat' (first
  | refine gF ?_ | refine aE ?_ ?_
  | apply trivial)); all_goals clear fct)
      all_goals simp [hd, h2, h3]
    ·(have fct := And.intro e2 (And.intro hd ((eq_false h2))); (repeat' (first
  | refine gF ?_ | refine aE ?_ ?_
  | apply trivial)); all_goals clear fct)
     all_goals simp [hd, h2]
   ·(have fct := And.intro e2 ((eq_false hd)); (repeat' (first
  | refine gF ?_ | refine aE ?_ ?_
  | apply trivial)); all_goals clear fct)
    all_goals simp [hd]
  ·rw [if_neg e2]
   by_cases ho : a1 = 0 ∨ a1 = 3 ∨ a1 = 4
   ·rw [if_pos ho]
    by_cases h2 : a2 = ⟨#[]⟩
    ·by_cases h3 : a3 = ⟨#[]⟩
     ·by_cases h4 : a4 = ⟨#[]⟩
      ·rcases ho with e | e | e
       ·(have fct := And.intro e (And.intro h2 (And.intro h3 (h4))); (repeat' (first
  | refine gF ?_ | refine aE ?_ ?_
  | apply trivial)); all_goals clear fct)
        all_goals simp [h2, h3, h4]
       ·(have fct := And.intro e (And.intro h2 (And.intro h3 (h4))); (repeat' (first
  | refine gF ?_ | refine aE ?_ ?_
  | apply trivial)); all_goals clear fct)
        all_goals simp [h2, h3, h4]
       ·(have fct := And.intro e (And.intro h2 (And.intro h3 (h4))); (repeat' (first
  | refine gF ?_ | refine aE ?_ ?_
  | apply trivial)); all_goals clear fct)
        all_goals simp [h2, h3, h4]
      ·rcases ho with e | e | e
       ·(have fct := And.intro e (And.intro h2 (And.intro h3 ((eq_false h4)))); (repeat' (first
  | refine gF ?_ | refine aE ?_ ?_
  | apply trivial)); all_goals clear fct)
        all_goals simp [h2, h3, h4]
       ·(have fct := And.intro e (And.intro h2 (And.intro h3 ((eq_false h4)))); (repeat' (first
  | refine gF ?_ | refine aE ?_ ?_
  | apply trivial)); all_goals clear fct)
        all_goals simp [h2, h3, h4]
       ·(have fct := And.intro e (And.intro h2 (And.intro h3 ((eq_false h4)))); (repeat' (first
  | refine gF ?_ | refine aE ?_ ?_
  | apply trivial)); all_goals clear fct)
        all_goals simp [h2, h3, h4]
     ·rcases ho with e | e | e
      ·(have fct := And.intro e (And.intro h2 ((eq_false h3))); (repeat' (first
  | refine gF ?_ | refine aE ?_ ?_
  | apply trivial)); all_goals clear fct)
       all_goals simp [h2, h3]
      ·(have fct := And.intro e (And.intro h2 ((eq_false h3))); (repeat' (first
  | refine gF ?_ | refine aE ?_ ?_
  | apply trivial)); all_goals clear fct)
       all_goals simp [h2, h3]
      ·(have fct := And.intro e (And.intro h2 ((eq_false h3))); (repeat' (first
  | refine gF ?_ | refine aE ?_ ?_
  | apply trivial)); all_goals clear fct)
       all_goals simp [h2, h3]
    ·rcases ho with e | e | e
     ·(have fct := And.intro e ((eq_false h2)); (repeat' (first
  | refine gF ?_ | refine aE ?_ ?_
  | apply trivial)); all_goals clear fct)
      all_goals simp [h2]
     ·(have fct := And.intro e ((eq_false h2)); (repeat' (first
  | refine gF ?_ | refine aE ?_ ?_
  | apply trivial)); all_goals clear fct)
      all_goals simp [h2]
     ·(have fct := And.intro e ((eq_false h2)); (repeat' (first
  | refine gF ?_ | refine aE ?_ ?_
  | apply trivial)); all_goals clear fct)
      all_goals simp [h2]
   ·rw [if_neg ho]
    have e0 : ¬ a1 = 0 := fun h => ho (.inl h)
    have e3 : ¬ a1 = 3 := fun h => ho (.inr (.inl h))
    have e4 : ¬ a1 = 4 := fun h => ho (.inr (.inr h))
    (have fct := And.intro e0 (And.intro e1 (And.intro e2 (And.intro e3 (e4)))); (repeat' (first
  | refine gF ?_ | refine aE ?_ ?_
  | apply trivial)); all_goals clear fct)
def seenT (l : List Int) : List (Int × Int) := l.map fun c => (c, 1)
theorem tget_seen (c : Int) : ∀ l : List Int, tget c (seenT l) = if c ∈ l then some 1 else none
 | [] => rfl
 | a :: r => by
   show (if a = c then some 1 else tget c (seenT r)) = _
   rw [tget_seen c r]
   by_cases e : a = c
   ·rw [if_pos e, if_pos (by simp [e])]
   ·rw [if_neg e]
    by_cases h : c ∈ r
    ·rw [if_pos h, if_pos (List.mem_cons_of_mem _ h)]
    ·rw [if_neg h, if_neg (by simp [h]; exact fun e' => e e'.symm)]
theorem seen_snoc {l : List Int} {c : Int} (h : c ∉ l) : tput c 1 (seenT l) = seenT (l ++ [c]) := by
 rw [tput_new (by rw [tget_seen, if_neg h])]
 simp [seenT]
theorem take_snocI {α : Type} {l : List α} {k : Nat} {x : α} (h : l[k]? = some x) : l.take (k + 1) = l.take k ++ [x] := by
 obtain ⟨hk, rfl⟩ := List.getElem?_eq_some_iff.1 h
 rw [List.take_add_one, List.getElem?_eq_getElem hk]; rfl
theorem kids_step {l : List NodeM} {n : Int} {x : NodeM} {cs : List Int} {j : Nat} {c : Int} (h : cs[j]? = some c) : kidsOK l n x (cs.take j) (cs.drop j) = (kidOK l n x (cs.take j) c && kidsOK l n x (cs.take (j + 1)) (cs.drop (j + 1))) := by
 obtain ⟨hk, rfl⟩ := List.getElem?_eq_some_iff.1 h
 rw [List.drop_eq_getElem_cons hk, take_snocI h]
 rfl
theorem elems_step {l : List NodeM} {cs : List Int} {j : Nat} {c : Int} (h : cs[j]? = some c) : elemsN l (cs.take (j + 1)) = elemsN l (cs.take j) + if (nd l c).kind = 1 then 1 else 0 := by
 rw [take_snocI h]
 unfold elemsN
 rw [List.countP_append, List.countP_cons]; simp
theorem elems_le (l : List NodeM) (cs : List Int) (j : Nat) : elemsN l (cs.take j) ≤ j := by
 unfold elemsN
 refine Nat.le_trans List.countP_le_length ?_
 simp; omega
@[reducible] def rSeen (t : List (Int × Int)) : MS := .live 2 (tRows vInt oInt t) false
theorem noRef_seen (t : List (Int × Int)) : noRefL (tRows vInt oInt t) = true := by
 rw [noRefL_iff]; intro x hx
 obtain ⟨a, _, rfl⟩ := List.mem_map.1 hx
 rfl
theorem f95_ok (f : ForM) (hs : SmallN f.nodes) (k : Nat) (x : NodeM) (hx : f.nodes[k]? = some x) : FnOK Tryz.prog 95 [] [eFor f, eInt k] [] (eBool (bearsN f.nodes k x)) := by
 have h49 := f122_ok f
 have h56 := f147_ok x.kind
 have h7 := hs.kids x (List.mem_of_getElem? hx)
 have hl := hs.len
 obtain ⟨l, m⟩ := f
 have hst := fun j c => @kids_step l k x x.kids j c
 have hse := fun j c => @elems_step l x.kids j c
 unfold bearsN
 simp only at h49 h56 hx h7 hl ⊢
 obtain ⟨⟨a1, a2, a3, a4, a5, a6, a7, a8, a9, a10⟩, hx0⟩ : ∃ y, y = x := ⟨x, rfl⟩
 rw [← hx0] at hx h56 h7 hst hse ⊢
 simp only at h56 h7 hst hse ⊢
 have hlm : (a7.map oInt).length = a7.length := List.length_map ..
 refine FnOK.startC (rvs := [.tmp 4]) G G_good Tryz.func95 rfl Tryz.ntmps95 rfl rfl ?_; with_reducible refine wD ?_
 refine IdxK.mk k (eNode _) rfl (node_get hx) ?_; with_reducible refine wK ?_
 refine LoopK.use G G_good (fun (j : Nat) => [(1, eInt k), (2, .ptr 20 0 0), (5, .ptr 50 0 0), (6, .mapr 161), (7, eInt (elemsN l (a7.take j))), (18, eInts a7), (19, eInt a7.length), (20, eInt j)])
  (fun j => [(20, .live 2 [eFor ⟨l, m⟩] false), (50, .live 10 [eNode ⟨a1, a2, a3, a4, a5, a6, a7, a8, a9, a10⟩] false), (161, rSeen (seenT (a7.take j)))])
  (fun j => j ≤ a7.length ∧ kidsOK l k ⟨a1, a2, a3, a4, a5, a6, a7, a8, a9, a10⟩ [] a7 = kidsOK l k ⟨a1, a2, a3, a4, a5, a6, a7, a8, a9, a10⟩ (a7.take j) (a7.drop j)) (fun j => a7.length - j) 0 ⟨Nat.zero_le _, rfl⟩
  ⟨⟨rfl, rfl⟩, ⟨rfl, ⟨rfl, rfl⟩, ⟨rfl, rfl⟩, trivial, rfl, rfl, by show (a7.length : Int) = ((a7.map oInt).length : Int); rw [hlm], rfl, trivial⟩, ⟨⟨rfl, rfl, trivial⟩, trivial⟩, ⟨⟨rfl, rfl, rfl, rfl, rfl, rfl, rfl, rfl, rfl, rfl, trivial⟩, trivial⟩, ⟨.refl rfl, rfl⟩, trivial⟩ ?_
 rintro j ⟨hj, hok⟩
 with_reducible refine wK ?_
 refine IfK.mk (fun h1 => ?_) (fun h1 => ?_) <;> (try simp only [castN] at h1) <;> with_reducible refine wK ?_
 ·have hj' : j < a7.length := by simp only [decide_eq_true_eq] at h1; omega
  obtain ⟨c, hc⟩ : ∃ c, a7[j]? = some c := ⟨_, List.getElem?_eq_getElem hj'⟩
  rw [hst j c hc] at hok
  have hse' := hse j c hc
  have hel := elems_le l a7 j
  have h49' := h49 c
  unfold kidOK at hok
  refine IdxK.mk j (eInt c) rfl (int_get hc) ?_; with_reducible refine wK ?_
  refine cL h49' c122 ?_; with_reducible refine wK ?_
  cases ht : thereN l c with
  | false =>
    rw [ht] at hok
    simp only [Bool.false_and] at hok
    rw [hok, Bool.false_and]
    (have fct := ht; (repeat' (first
  | refine gF ?_ | refine aE ?_ ?_
  | apply trivial)); all_goals clear fct)
  | true =>
    obtain ⟨i, y, rfl, hy, hnd⟩ := there_iff.1 ht
    rw [ht, hnd] at hok
    rw [hnd] at hse'
    obtain ⟨b1, b2, b3, b4, b5, b6, b7, b8, b9, b10⟩ := y
    simp only [Bool.true_and] at hok hse'
    refine IfK.ff ?_; with_reducible refine wK ?_
    have hts := tget_seen (i : Int) (a7.take j)
    refine LookK.tab vInt oInt (seenT (a7.take j)) (k := (i : Int)) (zv := eInt 0) mt74 ⟨_, _, rfl⟩ key_int inj_int rfl rfl (fun z hxx => ?_) (fun hxx => ?_)
    ·rw [hxx] at hts
     have hin : (i : Int) ∈ a7.take j := by by_cases h : (i : Int) ∈ a7.take j; exact h; rw [if_neg h] at hts; cases hts
     rw [if_pos hin] at hts
     cases hts
     rw [show hasI (a7.take j) (i : Int) = true from decide_eq_true hin] at hok
     simp only [Bool.not_true, Bool.false_and] at hok
     rw [hok, Bool.false_and]
     rw [show oInt 1 = eInt 1 from rfl]
     with_reducible refine wK ?_
     (have fct := ht; (repeat' (first
  | refine gF ?_ | refine aE ?_ ?_
  | apply trivial)); all_goals clear fct)
    ·rw [hxx] at hts
     have hin : (i : Int) ∉ a7.take j := by intro h; rw [if_pos h] at hts; cases hts
     rw [show hasI (a7.take j) (i : Int) = false from decide_eq_false hin] at hok
     simp only [Bool.not_false, Bool.true_and] at hok
     with_reducible refine wK ?_
     by_cases e6 : b6 = k
     ·by_cases e10 : b10 = a10
      ·simp only [e6, e10, decide_true, Bool.true_and] at hok
       (have fct := And.intro e6 (e10); (repeat' (first
  | refine gF ?_ | refine aE ?_ ?_
  | ((refine IdxK.mk i (eNode _) rfl (node_get hy) ?_) <;> with_reducible refine wK ?_)
  | apply trivial)); all_goals clear fct)
       refine LookK.tab vInt oInt (seenT (a7.take j)) (k := (i : Int)) (zv := eInt 0) mt74 ⟨_, _, rfl⟩ key_int inj_int rfl rfl (fun z hyy => ?_) (fun hyy => ?_)
       ·rw [hxx] at hyy; cases hyy
       with_reducible refine wK ?_
       have hln : (seenT (a7.take j)).length ≤ j := by unfold seenT; simp; omega
       have hsn := seen_snoc hin
       rw [← take_snocI hc] at hsn
       refine nK ?_; with_reducible refine wK ?_
       refine PutK.tab vInt oInt (seenT (a7.take j)) (k := (i : Int)) (1 : Int) mt74 rfl key_int inj_int (by unfold maxLen; omega) rfl ?_; with_reducible refine wK ?_
       rw [hsn]
       refine IdxK.mk i (eNode _) rfl (node_get hy) ?_; with_reducible refine wK ?_
       by_cases f1 : b1 = 1
       ·have hs1 : (elemsN l (a7.take (j + 1)) : Int) = elemsN l (a7.take j) + 1 := by rw [hse', if_pos f1]; rfl
        simp only [f1, decide_true, Bool.true_or, Bool.true_and] at hok
        (have fct := f1; (repeat' (first
  | refine gF ?_ | refine aE ?_ ?_
  | (((with_reducible show NextK _ _); refine NextK.mk (j + 1) ⟨by omega, hok⟩ (by omega) ⟨⟨rfl, rfl⟩, ⟨rfl, ⟨rfl, rfl⟩, ⟨rfl, rfl⟩, trivial, hs1, rfl, rfl, by show ((j + 1 : Nat) : Int) = (j : Int) + 1; omega, trivial⟩, ⟨⟨rfl, rfl, trivial⟩, trivial⟩, ⟨⟨rfl, rfl, rfl, rfl, rfl, rfl, rfl, rfl, rfl, rfl, trivial⟩, trivial⟩, ⟨.refl (noRef_seen _), noRef_seen _⟩, trivial⟩) <;> with_reducible refine wK ?_)
  | apply trivial)); all_goals clear fct)
       ·have hs1 : (elemsN l (a7.take (j + 1)) : Int) = elemsN l (a7.take j) := by rw [hse', if_neg f1]; rfl
        by_cases f2 : b1 = 2
        ·by_cases e0 : a1 = 0
         ·have hkk : (decide (b1 = 1) || decide (b1 = 2) && decide (a1 ≠ 0)) = false := by simp [f2, e0]
          rw [hkk, Bool.false_and] at hok
          rw [hok, Bool.false_and]
          (have fct := And.intro (eq_false f1) (And.intro f2 (e0)); (repeat' (first
  | refine gF ?_ | refine aE ?_ ?_
  | apply trivial)); all_goals clear fct)
         ·have hkk : (decide (b1 = 1) || decide (b1 = 2) && decide (a1 ≠ 0)) = true := by simp [f2, e0]
          rw [hkk, Bool.true_and] at hok
          (have fct := And.intro (eq_false f1) (And.intro f2 ((eq_false e0))); (repeat' (first
  | refine gF ?_ | refine aE ?_ ?_
  | (((with_reducible show NextK _ _); refine NextK.mk (j + 1) ⟨by omega, hok⟩ (by omega) ⟨⟨rfl, rfl⟩, ⟨rfl, ⟨rfl, rfl⟩, ⟨rfl, rfl⟩, trivial, hs1, rfl, rfl, by show ((j + 1 : Nat) : Int) = (j : Int) + 1; omega, trivial⟩, ⟨⟨rfl, rfl, trivial⟩, trivial⟩, ⟨⟨rfl, rfl, rfl, rfl, rfl, rfl, rfl, rfl, rfl, rfl, trivial⟩, trivial⟩, ⟨.refl (noRef_seen _), noRef_seen _⟩, trivial⟩) <;> with_reducible refine wK ?_)
  | apply trivial)); all_goals clear fct)
        ·simp only [eq_false f1, eq_false f2, decide_false, Bool.false_and, Bool.or_false] at hok
         rw [hok, Bool.false_and]
         (have fct := And.intro f1 (f2); (repeat' (first
  | refine gF ?_ | refine aE ?_ ?_
  | apply trivial)); all_goals clear fct)
      ·simp only [e6, eq_false e10, decide_true, decide_false, Bool.true_and, Bool.false_and] at hok
       rw [hok, Bool.false_and]
       (have fct := And.intro e6 ((eq_false e10)); (repeat' (first
  | refine gF ?_ | refine aE ?_ ?_
  | ((refine IdxK.mk i (eNode _) rfl (node_get hy) ?_) <;> with_reducible refine wK ?_)
  | apply trivial)); all_goals clear fct)
     ·simp only [eq_false e6, decide_false, Bool.false_and] at hok
      rw [hok, Bool.false_and]
      (have fct := (eq_false e6); (repeat' (first
  | refine gF ?_ | refine aE ?_ ?_
  | ((refine IdxK.mk i (eNode _) rfl (node_get hy) ?_) <;> with_reducible refine wK ?_)
  | apply trivial)); all_goals clear fct)
 ·have hjl : j = a7.length := by simp only [decide_eq_false_iff_not] at h1; omega
  rw [hjl, List.take_length, List.drop_length] at hok
  rw [hjl, List.take_length]
  rw [hok]
  simp only [kidsOK, Bool.true_and]
  refine cL h56 c147 ?_; with_reducible refine wK ?_
  by_cases e7 : a7.length = 0
  ·have e7' : a7 = [] := List.eq_nil_of_length_eq_zero e7
   cases hh : holdK a1 with
   | false =>
     by_cases e0 : a1 = 0
     ·(have fct := And.intro hh (And.intro e0 (And.intro e7 (hlm))); (repeat' (first
  | refine gF ?_ | refine aE ?_ ?_
  | apply trivial)); all_goals clear fct)
      all_goals first | (simp [hh, e0, e7']; done) | ((try simp only [castN]); simp [hh, e0, e7']; omega)
     ·(have fct := And.intro hh (And.intro (eq_false e0) (And.intro e7 (hlm))); (repeat' (first
  | refine gF ?_ | refine aE ?_ ?_
  | apply trivial)); all_goals clear fct)
      all_goals first | (simp [hh, e0, e7']; done) | ((try simp only [castN]); simp [hh, e0, e7']; omega)
   | true =>
     by_cases e0 : a1 = 0
     ·(have fct := And.intro hh (And.intro e0 (And.intro e7 (hlm))); (repeat' (first
  | refine gF ?_ | refine aE ?_ ?_
  | apply trivial)); all_goals clear fct)
      all_goals first | (simp [hh, e0, e7']; done) | ((try simp only [castN]); simp [hh, e0, e7']; omega)
     ·(have fct := And.intro hh (And.intro (eq_false e0) (And.intro e7 (hlm))); (repeat' (first
  | refine gF ?_ | refine aE ?_ ?_
  | apply trivial)); all_goals clear fct)
      all_goals first | (simp [hh, e0, e7']; done) | ((try simp only [castN]); simp [hh, e0, e7']; omega)
  ·have e7' : ¬ a7 = [] := fun h => e7 (by rw [h]; rfl)
   cases hh : holdK a1 with
   | false =>
     by_cases e0 : a1 = 0
     ·(have fct := And.intro hh (And.intro e0 (And.intro e7 (hlm))); (repeat' (first
  | refine gF ?_ | refine aE ?_ ?_
  | apply trivial)); all_goals clear fct)
      all_goals first | (simp [hh, e0, e7']; done) | ((try simp only [castN]); simp [hh, e0, e7']; omega)
     ·(have fct := And.intro hh (And.intro (eq_false e0) (And.intro e7 (hlm))); (repeat' (first
  | refine gF ?_ | refine aE ?_ ?_
  | apply trivial)); all_goals clear fct)
      all_goals first | (simp [hh, e0, e7']; done) | ((try simp only [castN]); simp [hh, e0, e7']; omega)
   | true =>
     by_cases e0 : a1 = 0
     ·(have fct := And.intro hh (And.intro e0 (And.intro e7 (hlm))); (repeat' (first
  | refine gF ?_ | refine aE ?_ ?_
  | apply trivial)); all_goals clear fct)
      all_goals first | (simp [hh, e0, e7']; done) | ((try simp only [castN]); simp [hh, e0, e7']; omega)
     ·(have fct := And.intro hh (And.intro (eq_false e0) (And.intro e7 (hlm))); (repeat' (first
  | refine gF ?_ | refine aE ?_ ?_
  | apply trivial)); all_goals clear fct)
      all_goals first | (simp [hh, e0, e7']; done) | ((try simp only [castN]); simp [hh, e0, e7']; omega)
end Go.Proofs.Heir
section
namespace Go.Proofs.Heir
open Go Go.Am Go.RowKit Go.Lib
set_option maxRecDepth 100000
set_option maxHeartbeats 8000000
def finN (l : List NodeM) : Nat → Int → Bool
 | 0, _ => false
 | m + 1, n => if (nd l n).parent = -1 then true else finN l m (nd l n).parent
def chN (l : List NodeM) : Nat → Int → List Int
 | 0, _ => []
 | m + 1, n => n :: if (nd l n).parent = -1 then [] else chN l m (nd l n).parent
def ordN (l : List NodeM) : Nat → Int → List Int
 | 0, _ => []
 | m + 1, n => n :: (nd l n).kids.flatMap (ordN l m)
def wayN (l : List NodeM) (n : Int) : List Int := chN l l.length n
theorem fin_of_ends {l : List NodeM} : ∀ {m : Nat} {n : Int}, endsN l m n = true → finN l m n = true
 | 0, n, h => by simp [endsN] at h
 | m + 1, n, h => by
   unfold finN
   by_cases hp : (nd l n).parent = -1
   ·rw [if_pos hp]
   ·rw [if_neg hp]
    have hu : upN (nd l n) = (nd l n).parent := if_neg hp
    unfold endsN at h
    rw [hu, if_neg hp] at h
    exact fin_of_ends h
theorem ch_len (l : List NodeM) : ∀ (m : Nat) (n : Int), (chN l m n).length ≤ m
 | 0, _ => Nat.le_refl _
 | m + 1, n => by
   unfold chN
   split
   ·simp
   ·have := ch_len l m (nd l n).parent
    simp; omega
theorem ch_more {l : List NodeM} : ∀ {m k : Nat} {n : Int}, finN l m n = true → m ≤ k → chN l k n = chN l m n
 | 0, k, n, h, _ => by simp [finN] at h
 | m + 1, k, n, h, hk => by
   obtain ⟨k, rfl⟩ : ∃ j, k = j + 1 := ⟨k - 1, by omega⟩
   unfold finN at h
   unfold chN
   by_cases hp : (nd l n).parent = -1
   ·rw [if_pos hp, if_pos hp]
   ·rw [if_neg hp] at h
    rw [if_neg hp, if_neg hp, ch_more h (by omega)]
structure Tree (l : List NodeM) : Prop where
 par : ∀ n, thereN l n = true → (nd l n).parent ≠ -1 → thereN l (nd l n).parent = true ∧ n ∈ (nd l (nd l n).parent).kids
 kid : ∀ n, thereN l n = true → ∀ k ∈ (nd l n).kids, thereN l k = true ∧ (nd l k).parent = n
 dup : ∀ n, thereN l n = true → (nd l n).kids.Nodup
 fin : ∀ n, thereN l n = true → finN l l.length n = true
 nam : ∀ n, thereN l n = true → namedN (nd l n) = true
theorem there_pos {l : List NodeM} {n : Int} (h : thereN l n = true) : 0 ≤ n ∧ n < (l.length : Int) := by
 unfold thereN at h; simpa using h
variable {l : List NodeM}
theorem up_ind (T : Tree l) {P : Int → Prop} (h0 : ∀ n, thereN l n = true → (nd l n).parent = -1 → P n) (h1 : ∀ n, thereN l n = true → (nd l n).parent ≠ -1 → thereN l (nd l n).parent = true → P (nd l n).parent → P n) : ∀ n, thereN l n = true → P n := by
 have H : ∀ (m : Nat) (n : Int), thereN l n = true → finN l m n = true → P n := by
  intro m
  induction m with
  | zero => intro n _ h; simp [finN] at h
  | succ m ih =>
    intro n hn h
    unfold finN at h
    by_cases hp : (nd l n).parent = -1
    ·exact h0 n hn hp
    ·rw [if_neg hp] at h
     have hq := (T.par n hn hp).1
     exact h1 n hn hp hq (ih _ hq h)
 exact fun n hn => H _ n hn (T.fin n hn)
theorem way_top (T : Tree l) {n : Int} (hn : thereN l n = true) (hp : (nd l n).parent = -1) : wayN l n = [n] := by
 have := there_pos hn
 obtain ⟨m, hm⟩ : ∃ m, l.length = m + 1 := ⟨l.length - 1, by omega⟩
 unfold wayN; rw [hm]; unfold chN; rw [if_pos hp]
theorem way_step (T : Tree l) {n : Int} (hn : thereN l n = true) (hp : (nd l n).parent ≠ -1) : wayN l n = n :: wayN l (nd l n).parent := by
 have := there_pos hn
 obtain ⟨m, hm⟩ : ∃ m, l.length = m + 1 := ⟨l.length - 1, by omega⟩
 have hf := T.fin n hn
 unfold wayN; rw [hm] at hf ⊢
 unfold finN at hf
 rw [if_neg hp] at hf
 rw [chN, if_neg hp, ch_more hf (Nat.le_succ m)]
theorem way_kid (T : Tree l) {n k : Int} (hn : thereN l n = true) (hk : k ∈ (nd l n).kids) : wayN l k = k :: wayN l n := by
 have h := T.kid n hn k hk
 have h0 := there_pos hn
 have hp : (nd l k).parent ≠ -1 := by rw [h.2]; omega
 rw [way_step T h.1 hp, h.2]
theorem way_head (T : Tree l) {n : Int} (hn : thereN l n = true) : ∃ r, wayN l n = n :: r := by
 by_cases hp : (nd l n).parent = -1
 ·exact ⟨[], way_top T hn hp⟩
 ·exact ⟨_, way_step T hn hp⟩
theorem way_self (T : Tree l) {n : Int} (hn : thereN l n = true) : n ∈ wayN l n := by
 obtain ⟨r, hr⟩ := way_head T hn; rw [hr]; exact List.mem_cons_self
theorem way_len (n : Int) : (wayN l n).length ≤ l.length := ch_len l _ n
theorem way_there (T : Tree l) : ∀ n, thereN l n = true → ∀ a ∈ wayN l n, thereN l a = true := by
 refine up_ind T (fun n hn hp a ha => ?_) (fun n hn hp hq ih a ha => ?_)
 ·rw [way_top T hn hp] at ha; rw [List.mem_singleton.1 ha]; exact hn
 ·rw [way_step T hn hp] at ha
  rcases List.mem_cons.1 ha with rfl | h
  ·exact hn
  ·exact ih a h
theorem way_cut (T : Tree l) : ∀ n, thereN l n = true → ∀ a ∈ wayN l n, ∃ t, wayN l n = t ++ wayN l a := by
 refine up_ind T (fun n hn hp a ha => ?_) (fun n hn hp hq ih a ha => ?_)
 ·have h := ha; rw [way_top T hn hp] at h; rw [List.mem_singleton.1 h]; exact ⟨[], rfl⟩
 ·have h := ha
  rw [way_step T hn hp] at h
  rcases List.mem_cons.1 h with rfl | h
  ·exact ⟨[], rfl⟩
  ·obtain ⟨t, ht⟩ := ih a h
   exact ⟨n :: t, by rw [way_step T hn hp, ht]; rfl⟩
theorem way_trans (T : Tree l) {a b c : Int} (hc : thereN l c = true) (h1 : a ∈ wayN l b) (h2 : b ∈ wayN l c) : a ∈ wayN l c := by
 obtain ⟨t, ht⟩ := way_cut T c hc b h2
 rw [ht]; exact List.mem_append_right _ h1
theorem way_eq (T : Tree l) {n a b : Int} (hn : thereN l n = true) (ha : a ∈ wayN l n) (hb : b ∈ wayN l n) (he : (wayN l a).length = (wayN l b).length) : a = b := by
 obtain ⟨t, ht⟩ := way_cut T n hn a ha
 obtain ⟨s, hs⟩ := way_cut T n hn b hb
 rw [ht] at hs
 have h := (List.append_inj' hs he).2
 obtain ⟨r, hr⟩ := way_head T (way_there T n hn a ha)
 obtain ⟨q, hq⟩ := way_head T (way_there T n hn b hb)
 rw [hr, hq] at h
 exact (List.cons.inj h).1
theorem ord_way (T : Tree l) : ∀ (m : Nat) (n : Int), thereN l n = true → ∀ b ∈ ordN l m n, thereN l b = true ∧ n ∈ wayN l b
 | 0, n, _, b, hb => by simp [ordN] at hb
 | m + 1, n, hn, b, hb => by
   unfold ordN at hb
   rcases List.mem_cons.1 hb with rfl | h
   ·exact ⟨hn, way_self T hn⟩
   ·obtain ⟨k, hk, hbk⟩ := List.mem_flatMap.1 h
    have hkk := T.kid n hn k hk
    obtain ⟨h1, h2⟩ := ord_way T m k hkk.1 b hbk
    refine ⟨h1, way_trans T h1 ?_ h2⟩
    rw [way_kid T hn hk]
    exact List.mem_cons_of_mem _ (way_self T hn)
theorem ord_kid (T : Tree l) : ∀ (m : Nat) (n : Int), thereN l n = true → l.length + 1 ≤ m + (wayN l n).length → ∀ x ∈ ordN l m n, ∀ k ∈ (nd l x).kids, k ∈ ordN l m n
 | 0, n, _, _, x, hx, _, _ => by simp [ordN] at hx
 | m + 1, n, hn, hm, x, hx, k, hk => by
   unfold ordN at hx ⊢
   refine List.mem_cons_of_mem _ (List.mem_flatMap.2 ?_)
   rcases List.mem_cons.1 hx with rfl | h
   ·have hkk := T.kid x hn k hk
    have h1 := way_len (l := l) k
    rw [way_kid T hn hk] at h1
    have h2 : (wayN l x).length + 1 ≤ l.length := h1
    obtain ⟨j, hj⟩ : ∃ j, m = j + 1 := ⟨m - 1, by omega⟩
    refine ⟨k, hk, ?_⟩
    rw [hj]; unfold ordN; exact List.mem_cons_self
   ·obtain ⟨c, hc, hxc⟩ := List.mem_flatMap.1 h
    have hcc := T.kid n hn c hc
    refine ⟨c, hc, ord_kid T m c hcc.1 ?_ x hxc k hk⟩
    rw [way_kid T hn hc]; simp; omega
theorem way_ord (T : Tree l) {m : Nat} {n : Int} (hn : thereN l n = true) (hm : l.length + 1 ≤ m + (wayN l n).length) : ∀ b, thereN l b = true → n ∈ wayN l b → b ∈ ordN l m n := by
 have hself : n ∈ ordN l m n := by
  have := way_len (l := l) n
  obtain ⟨j, hj⟩ : ∃ j, m = j + 1 := ⟨m - 1, by omega⟩
  rw [hj]; unfold ordN; exact List.mem_cons_self
 refine up_ind T (fun b hb hp h => ?_) (fun b hb hp hq ih h => ?_)
 ·rw [way_top T hb hp] at h; rw [← List.mem_singleton.1 h]; exact hself
 ·rw [way_step T hb hp] at h
  rcases List.mem_cons.1 h with rfl | h
  ·exact hself
  ·exact ord_kid T m n hn hm _ (ih h) _ (T.par b hb hp).2
theorem ord_fuel (T : Tree l) {n : Int} (hn : thereN l n = true) : l.length + 1 ≤ l.length + (wayN l n).length := by
 obtain ⟨r, hr⟩ := way_head T hn
 rw [hr]; simp
theorem ord_iff (T : Tree l) {a b : Int} (ha : thereN l a = true) (hb : thereN l b = true) : b ∈ ordN l l.length a ↔ a ∈ wayN l b :=
 ⟨fun h => (ord_way T _ a ha b h).2, fun h => way_ord T ha (ord_fuel T ha) b hb h⟩
theorem ord_nodup (T : Tree l) : ∀ (m : Nat) (n : Int), thereN l n = true → (ordN l m n).Nodup
 | 0, _, _ => List.nodup_nil
 | m + 1, n, hn => by
   unfold ordN
   refine List.nodup_cons.2 ⟨fun h => ?_, ?_⟩
   ·obtain ⟨k, hk, hnk⟩ := List.mem_flatMap.1 h
    have hkk := T.kid n hn k hk
    have h1 := (ord_way T m k hkk.1 n hnk).2
    obtain ⟨t, ht⟩ := way_cut T n hn k h1
    have h2 := congrArg List.length ht
    rw [way_kid T hn hk] at h2
    simp at h2
    omega
   ·refine List.pairwise_flatMap.2 ⟨fun k hk => ord_nodup T m k (T.kid n hn k hk).1, ?_⟩
    refine List.Pairwise.imp_of_mem (fun {a b} ha hb hab x hx y hy e => ?_) (T.dup n hn)
    subst e
    have h1 := ord_way T m a (T.kid n hn a ha).1 x hx
    have h2 := ord_way T m b (T.kid n hn b hb).1 x hy
    refine hab (way_eq T h1.1 h1.2 h2.2 ?_)
    rw [way_kid T hn ha, way_kid T hn hb]; rfl
theorem nodup_len : ∀ (s t : List Int), t.Nodup → (∀ x ∈ t, x ∈ s) → t.length ≤ s.length
 | [], t, _, h => by
   cases t with
   | nil => exact Nat.le_refl _
   | cons a r => exact absurd (h a List.mem_cons_self) (by simp)
 | a :: s, t, hd, h => by
   have h1 := nodup_len s (t.erase a) (hd.erase a) (fun x hx => by
   have h2 := (hd.mem_erase_iff).1 hx
   rcases List.mem_cons.1 (h x h2.2) with e | e
   ·exact absurd e h2.1
   ·exact e)
   have h3 : t.length ≤ (t.erase a).length + 1 := by rw [List.length_erase]; split <;> omega
   simp; omega
theorem ints_len {t : List Int} {n : Nat} (hd : t.Nodup) (h : ∀ x ∈ t, 0 ≤ x ∧ x < (n : Int)) : t.length ≤ n := by
 have := nodup_len ((List.range n).map (fun k : Nat => (k : Int))) t hd (fun x hx => by
  have := h x hx
  exact List.mem_map.2 ⟨x.toNat, List.mem_range.2 (by omega), by omega⟩)
 simpa using this
theorem ord_len (T : Tree l) (m : Nat) {n : Int} (hn : thereN l n = true) : (ordN l m n).length ≤ l.length :=
 ints_len (ord_nodup T m n hn) fun x hx => there_pos (ord_way T m n hn x hx).1
def kidP (l : List NodeM) (n : Int) (x : NodeM) (c : Int) : Bool :=
 thereN l c && (decide ((nd l c).parent = n) && (decide ((nd l c).doc = x.doc) && (decide ((nd l c).kind = 1) || (decide ((nd l c).kind = 2) && decide (x.kind ≠ 0)))))
theorem kidsOK_iff {n : Int} {x : NodeM} : ∀ {cs pre : List Int}, kidsOK l n x pre cs = true ↔ (∀ c ∈ cs, kidP l n x c = true) ∧ cs.Nodup ∧ (∀ c ∈ cs, c ∉ pre)
 | [], pre => by simp [kidsOK]
 | a :: r, pre => by
   have hk : kidOK l n x pre a = true ↔ kidP l n x a = true ∧ a ∉ pre := by
    unfold kidOK kidP hasI
    simp only [Bool.and_eq_true, Bool.or_eq_true, decide_eq_true_eq, Bool.not_eq_true', decide_eq_false_iff_not]
    constructor
    ·rintro ⟨⟨⟨⟨h1, h2⟩, h3⟩, h4⟩, h5⟩; exact ⟨⟨h1, h3, h4, h5⟩, h2⟩
    ·rintro ⟨⟨h1, h3, h4, h5⟩, h2⟩; exact ⟨⟨⟨⟨h1, h2⟩, h3⟩, h4⟩, h5⟩
   unfold kidsOK
   rw [Bool.and_eq_true, hk, kidsOK_iff, List.nodup_cons]
   constructor
   ·rintro ⟨⟨h1, h2⟩, h3, h4, h5⟩
    refine ⟨fun c hc => ?_, ⟨fun h => ?_, h4⟩, fun c hc => ?_⟩
    ·rcases List.mem_cons.1 hc with rfl | h
     ·exact h1
     ·exact h3 c h
    ·exact h5 a h (by simp)
    ·rcases List.mem_cons.1 hc with rfl | h
     ·exact h2
     ·exact fun h6 => h5 c h (List.mem_append_left _ h6)
   ·rintro ⟨h1, ⟨h2, h3⟩, h4⟩
    refine ⟨⟨h1 a List.mem_cons_self, h4 a List.mem_cons_self⟩, fun c hc => h1 c (List.mem_cons_of_mem _ hc), h3, fun c hc h => ?_⟩
    rcases List.mem_append.1 h with h | h
    ·exact h4 c (List.mem_cons_of_mem _ hc) h
    ·rw [List.mem_singleton] at h; subst h; exact h2 hc
theorem right_nodes {f : ForM} (h : rightF f = true) : ∀ n, thereN f.nodes n = true → nodeOK f.nodes n (nd f.nodes n) = true := by
 intro n hn
 obtain ⟨k, x, rfl, hk, hx⟩ := there_iff.1 hn
 unfold rightF at h
 simp only [Bool.and_eq_true] at h
 have := allIx_iff.1 h.2.1 k x hk
 rw [hx]; simpa using this
theorem right_ends {f : ForM} (h : rightF f = true) : ∀ n, thereN f.nodes n = true → endsN f.nodes f.nodes.length n = true := by
 intro n hn
 obtain ⟨k, x, rfl, hk, hx⟩ := there_iff.1 hn
 unfold rightF at h
 simp only [Bool.and_eq_true] at h
 simpa using allIx_iff.1 h.2.2 k x hk
theorem tree_of {f : ForM} (h : rightF f = true) : Tree f.nodes := by
 have hN := right_nodes h
 have hB : ∀ n, thereN f.nodes n = true → (∀ c ∈ (nd f.nodes n).kids, kidP f.nodes n (nd f.nodes n) c = true) ∧ (nd f.nodes n).kids.Nodup := by
  intro n hn
  have h1 := hN n hn
  unfold nodeOK bearsN at h1
  simp only [Bool.and_eq_true] at h1
  have := kidsOK_iff.1 h1.2.2.2.1.1
  exact ⟨this.1, this.2.1⟩
 refine ⟨fun n hn hp => ?_, fun n hn k hk => ?_, fun n hn => (hB n hn).2, fun n hn => fin_of_ends (right_ends h n hn), fun n hn => ?_⟩
 ·have h1 := hN n hn
  unfold nodeOK hungN at h1
  simp only [Bool.and_eq_true, Bool.or_eq_true, decide_eq_true_eq] at h1
  rcases h1.2.2.1 with h2 | h2
  ·exact absurd h2 hp
  ·refine ⟨h2.1.1.2, ?_⟩
   have := h2.2
   unfold hasI at this; simpa using this
 ·have h1 := (hB n hn).1 k hk
  unfold kidP at h1
  simp only [Bool.and_eq_true, decide_eq_true_eq] at h1
  exact ⟨h1.1, h1.2.1⟩
 ·have h1 := hN n hn
  unfold nodeOK at h1
  simp only [Bool.and_eq_true] at h1
  exact h1.1
end Go.Proofs.Heir
end
section
namespace Go.Proofs.Heir
open Go Go.Am Go.RowKit Go.Lib
set_option maxRecDepth 100000
set_option maxHeartbeats 8000000
def holdsN (l : List NodeM) (a b : Int) : Bool := decide (a ∈ wayN l b)
variable {l : List NodeM}
theorem nam_kind (T : Tree l) {n : Int} (hn : thereN l n = true) : (nd l n).kind = 1 ∨ ((nd l n).kind ≠ 1 ∧ (nd l n).name = ⟨#[]⟩ ∧ (nd l n).attrs = []) := by
 have h := T.nam n hn
 unfold namedN at h
 by_cases e1 : (nd l n).kind = 1
 ·exact .inl e1
 ·right
  rw [if_neg e1] at h
  refine ⟨e1, ?_⟩
  split at h
  ·simp only [Bool.and_eq_true, decide_eq_true_eq] at h
   exact ⟨h.1.1.2, h.2⟩
  ·split at h
   ·simp only [Bool.and_eq_true, decide_eq_true_eq] at h
    exact ⟨h.1.1.1, h.2⟩
   ·cases h
end Go.Proofs.Heir
end
