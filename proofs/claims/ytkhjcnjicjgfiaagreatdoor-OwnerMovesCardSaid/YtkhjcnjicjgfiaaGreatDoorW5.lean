/- Models, plain laws and contracts of functions of the given program; conditions as stated in each theorem. By an AI agent. -/
import Derived.Test.YtkhjcnjicjgfiaaGreatDoorW4
import Derived.Test.YtkhjcnjicjgfiaaGreatDoorChecked
import Derived.Test.YtkhjcnjicjgfiaaGreatDoorW2
import Derived.Shelf.GgClosure.StringsIndexFunc
import Derived.Deep.LoopGhost
import Derived.WalkKit
import Derived.Laws.IdiomStrings
import Derived.IntWalk
import Derived.Outline
import Derived.Lib.Hide
import Derived.Lib.MapLaws
import Derived.Shelf.Strings.Search1
import Derived.Shelf.Strings.Search2
import Derived.Shelf.Strings.Search3
import Derived.Shelf.LaysM
import Derived.Shelf.Strings.Shaped
import Derived.Shelf.Strings.Fields
import Derived.RangeFuncNested
import Derived.RangeFuncBound
import Derived.RangeFuncCalls
import Derived.Shelf.Abstract
import Derived.Shelf.RegionOpen
import Derived.OwnWalkIn
import Derived.TacticsInMore
import Derived.LoopNIn
import Derived.LoopIn
import Derived.Laws.StructEq
import Derived.Tactics
set_option linter.unusedSimpArgs false
set_option linter.unusedVariables false
namespace Go.Proofs.Heir
open Go.Am
set_option maxRecDepth 100000
@[reducible] def G : TEnv := [(1, .sc .nilFunc), (2, .sc (.int .i64 0)), (3, .sc (.int .i64 0)), (4, .bl), (5, .sc (.int .u8 0)), (9, .str), (12, .sc (.int .u64 0)), (15, .sc (.pointer none)), (16, .sc (.pointer none)), (17, .sc (.pointer none)), (20, .sc .nilIface), (21, .sc (.int .i32 0)), (22, .sl 35 10 136), (24, .st 2 [(0, 22), (1, 3)] (Array.mk [(.slice none 0 0), (.int .i64 0)]) [1, 1]), (25, .sc .nilFunc), (26, .sc .nilFunc), (27, .sl 53 9 88), (28, .sc (.int .i64 0)), (30, .sc .nilFunc), (31, .sc .nilFunc), (32, .sl 90 2 32), (33, .sl 3 1 8), (35, .st 10 [(0, 3), (1, 9), (2, 9), (3, 9), (4, 32), (5, 3), (6, 33), (7, 3), (8, 3), (9, 3)] (Array.mk [(.int .i64 0), (.string ByteArray.empty), (.string ByteArray.empty), (.string ByteArray.empty), (.slice none 0 0), (.int .i64 0), (.slice none 0 0), (.int .i64 0), (.int .i64 0), (.int .i64 0)]) [1, 1, 1, 1, 1, 1, 1, 1, 1, 1]), (36, .sc .nilFunc), (37, .sc .nilFunc), (38, .sc .nilFunc), (39, .sc .nilFunc), (41, .sc .nilFunc), (42, .sc .nilFunc), (43, .sc .nilFunc), (44, .sc .nilFunc), (45, .sc .nilFunc), (46, .sc .nilFunc), (47, .sc .nilFunc), (48, .sc .nilFunc), (49, .sc .nilFunc), (50, .sc .nilFunc), (51, .sc .nilFunc), (53, .st 9 [(0, 3), (1, 3), (2, 3), (3, 3), (4, 9), (5, 4), (6, 4), (7, 9), (8, 9)] (Array.mk [(.int .i64 0), (.int .i64 0), (.int .i64 0), (.int .i64 0), (.string ByteArray.empty), (.bool false), (.bool false), (.string ByteArray.empty), (.string ByteArray.empty)]) [1, 1, 1, 1, 1, 1, 1, 1, 1]), (54, .sc .nilFunc), (56, .st 3 [(0, 24), (2, 27)] (Array.mk [(.slice none 0 0), (.int .i64 0), (.slice none 0 0)]) [2, 1]), (58, .sc .nilFunc), (59, .sc .nilFunc), (60, .sc .nilFunc), (61, .sc .nilFunc), (62, .sc .nilFunc), (63, .sc .nilFunc), (64, .sc .nilFunc), (65, .sc .nilFunc), (66, .sc .nilFunc), (67, .sc .nilFunc), (68, .sl 70 6 6), (70, .st 6 [(0, 5), (1, 5), (2, 5), (3, 5), (4, 5), (5, 5)] (Array.mk [(.int .u8 0), (.int .u8 0), (.int .u8 0), (.int .u8 0), (.int .u8 0), (.int .u8 0)]) [1, 1, 1, 1, 1, 1]), (71, .sl 5 1 1), (72, .sc .nilFunc), (73, .sc .nilFunc), (74, .sc .nilFunc), (75, .sl 156 4 32), (76, .sl 147 3 40), (77, .sl 205 2 24), (79, .st 4 [(0, 76), (1, 77), (2, 3), (3, 4)] (Array.mk [(.slice none 0 0), (.slice none 0 0), (.int .i64 0), (.bool false)]) [1, 1, 1, 1]), (80, .sl 154 5 104), (81, .sc .nilFunc), (82, .sl 88 11 104), (84, .sc .nilFunc), (86, .st 10 [(0, 3), (1, 3), (2, 9), (3, 4), (4, 4), (5, 9), (6, 9), (7, 3), (8, 3), (9, 4)] (Array.mk [(.int .i64 0), (.int .i64 0), (.string ByteArray.empty), (.bool false), (.bool false), (.string ByteArray.empty), (.string ByteArray.empty), (.int .i64 0), (.int .i64 0), (.bool false)]) [1, 1, 1, 1, 1, 1, 1, 1, 1, 1]), (88, .st 11 [(0, 3), (1, 86)] (Array.mk [(.int .i64 0), (.int .i64 0), (.int .i64 0), (.string ByteArray.empty), (.bool false), (.bool false), (.string ByteArray.empty), (.string ByteArray.empty), (.int .i64 0), (.int .i64 0), (.bool false)]) [1, 10]), (90, .st 2 [(0, 9), (1, 9)] (Array.mk [(.string ByteArray.empty), (.string ByteArray.empty)]) [1, 1]), (91, .sc .nilFunc), (93, .sc .nilFunc), (95, .st 2 [(0, 24)] (Array.mk [(.slice none 0 0), (.int .i64 0)]) [2]), (96, .sc .nilFunc), (97, .sc .nilIface), (98, .sc .nilIface), (99, .sc .nilFunc), (100, .sc (.pointer none)), (102, .sc .nilFunc), (104, .st 3 [(0, 24), (2, 27)] (Array.mk [(.slice none 0 0), (.int .i64 0), (.slice none 0 0)]) [2, 1]), (105, .sc .nilFunc), (106, .sc .nilFunc), (107, .sc .nilFunc), (108, .sc .nilFunc), (110, .sc .nilFunc), (112, .sc .nilFunc), (114, .sc .nilFunc), (116, .sc .nilFunc), (117, .sc .nilFunc), (118, .sc .nilFunc), (119, .sc .nilFunc), (121, .st 5 [(0, 24), (2, 3), (3, 3), (4, 3)] (Array.mk [(.slice none 0 0), (.int .i64 0), (.int .i64 0), (.int .i64 0), (.int .i64 0)]) [2, 1, 1, 1]), (122, .sc .nilFunc), (123, .sc .nilFunc), (124, .sc .nilFunc), (125, .sc .nilFunc), (126, .sc .nilFunc), (127, .sc .nilFunc), (128, .sc .nilFunc), (129, .sc .nilFunc), (130, .sc .nilFunc), (131, .sc .nilFunc), (133, .sc .nilFunc), (135, .sc .nilFunc), (136, .sc .nilFunc), (137, .sc .nilFunc), (139, .sc .nilFunc), (140, .sc .nilFunc), (141, .sc (.map none)), (143, .st 3 [(0, 24), (2, 141)] (Array.mk [(.slice none 0 0), (.int .i64 0), (.map none)]) [2, 1]), (144, .sc .nilFunc), (145, .sc .nilFunc), (147, .st 3 [(0, 9), (1, 9), (2, 3)] (Array.mk [(.string ByteArray.empty), (.string ByteArray.empty), (.int .i64 0)]) [1, 1, 1]), (148, .sl 321 7 72), (150, .st 2 [(0, 3), (1, 148)] (Array.mk [(.int .i64 0), (.slice none 0 0)]) [1, 1]), (151, .sl 150 2 32), (152, .sl 9 1 16), (154, .st 5 [(0, 4), (1, 152), (2, 148), (3, 148), (4, 151)] (Array.mk [(.bool false), (.slice none 0 0), (.slice none 0 0), (.slice none 0 0), (.slice none 0 0)]) [1, 1, 1, 1, 1]), (156, .st 4 [(0, 3), (1, 3), (2, 3), (3, 4)] (Array.mk [(.int .i64 0), (.int .i64 0), (.int .i64 0), (.bool false)]) [1, 1, 1, 1]), (157, .sc .nilFunc), (158, .sc .nilFunc), (159, .sc .nilFunc), (160, .sc .nilFunc), (161, .sc (.pointer none)), (163, .sc .nilFunc), (165, .st 9 [(0, 24), (2, 75), (3, 79), (7, 80), (8, 82)] (Array.mk [(.slice none 0 0), (.int .i64 0), (.slice none 0 0), (.slice none 0 0), (.slice none 0 0), (.int .i64 0), (.bool false), (.slice none 0 0), (.slice none 0 0)]) [2, 1, 4, 1, 1]), (167, .sc .nilFunc), (168, .sc (.pointer none)), (169, .sc .nilFunc), (170, .sc .nilFunc), (171, .sc .nilFunc), (172, .sc .nilFunc), (173, .sc .nilFunc), (174, .sc .nilFunc), (176, .st 1 [(0, 28)] (Array.mk [(.int .i64 0)]) [1]), (178, .st 2 [(0, 9), (1, 98)] (Array.mk [(.string ByteArray.empty), .nilIface]) [1, 1]), (179, .sc .nilFunc), (180, .sc .nilFunc), (181, .sc .nilFunc), (182, .sc .nilFunc), (183, .sc .nilFunc), (184, .sc .nilFunc), (185, .sc .nilFunc), (186, .sc .nilFunc), (187, .sc .nilFunc), (188, .sc .nilFunc), (189, .sc .nilFunc), (190, .sc .nilFunc), (191, .sc .nilFunc), (192, .sc .nilFunc), (193, .sc .nilFunc), (194, .sc .nilFunc), (195, .sc .nilFunc), (196, .sc .nilFunc), (197, .sc .nilFunc), (198, .sc .nilFunc), (199, .sc .nilFunc), (200, .sc .nilFunc), (202, .sc (.map none)), (203, .sc .nilFunc), (205, .st 2 [(0, 9), (1, 3)] (Array.mk [(.string ByteArray.empty), (.int .i64 0)]) [1, 1]), (206, .sc (.map none)), (208, .st 2 [(0, 202), (1, 206)] (Array.mk [(.map none), (.map none)]) [1, 1]), (210, .sc .nilFunc), (211, .sc .nilFunc), (212, .sc .nilFunc), (213, .sc .nilFunc), (214, .sc (.pointer none)), (216, .st 5 [(0, 24), (2, 3), (3, 9), (4, 4)] (Array.mk [(.slice none 0 0), (.int .i64 0), (.int .i64 0), (.string ByteArray.empty), (.bool false)]) [2, 1, 1, 1]), (217, .sc .nilFunc), (218, .sc .nilFunc), (219, .sc .nilFunc), (220, .sc (.pointer none)), (221, .sc .nilFunc), (222, .sc .nilFunc), (223, .sc .nilFunc), (224, .sc (.map none)), (225, .sc .nilFunc), (226, .sc .nilFunc), (227, .sc .nilFunc), (228, .sc .nilFunc), (229, .sc .nilFunc), (232, .sc (.map none)), (233, .sc .nilFunc), (234, .sc .nilFunc), (235, .sc .nilFunc), (236, .sc .nilFunc), (237, .sc .nilFunc), (238, .sc .nilFunc), (243, .sc .nilFunc), (244, .sc .nilIface), (246, .sc .nilFunc), (248, .sc .nilFunc), (249, .sc .nilFunc), (250, .sc .nilFunc), (251, .sc .nilFunc), (252, .sc .nilFunc), (253, .sc .nilFunc), (254, .sc .nilFunc), (255, .sc .nilFunc), (256, .sc .nilFunc), (257, .sc (.pointer none)), (259, .st 2 [(0, 257), (1, 71)] (Array.mk [(.pointer none), (.slice none 0 0)]) [1, 1]), (260, .sc .nilFunc), (261, .sc .nilFunc), (262, .sc .nilFunc), (265, .sc (.pointer none)), (266, .sc .nilFunc), (267, .sc .nilFunc), (268, .sc .nilFunc), (269, .sc .nilIface), (271, .sc .nilFunc), (272, .sc .nilIface), (273, .sc .nilFunc), (274, .sc .nilIface), (275, .sl 98 1 16), (276, .sc .nilFunc), (277, .sc .nilFunc), (278, .sc .nilFunc), (279, .sc .nilFunc), (280, .sc (.pointer none)), (281, .sc .nilFunc), (282, .sc .nilFunc), (283, .sc .nilFunc), (284, .sc (.int .u64 0)), (286, .sc .nilFunc), (287, .sc (.int .u32 0)), (289, .sc .nilFunc), (290, .sl 292 2 16), (292, .st 2 [(0, 3), (1, 3)] (Array.mk [(.int .i64 0), (.int .i64 0)]) [1, 1]), (293, .sc .nilFunc), (294, .sc (.pointer none)), (295, .sl 301 3 6), (296, .sl 304 3 12), (298, .st 3 [(0, 295), (1, 296), (2, 3)] (Array.mk [(.slice none 0 0), (.slice none 0 0), (.int .i64 0)]) [1, 1, 1]), (299, .sc (.int .u16 0)), (301, .st 3 [(0, 299), (1, 299), (2, 299)] (Array.mk [(.int .u16 0), (.int .u16 0), (.int .u16 0)]) [1, 1, 1]), (302, .sc .nilFunc), (304, .st 3 [(0, 287), (1, 287), (2, 287)] (Array.mk [(.int .u32 0), (.int .u32 0), (.int .u32 0)]) [1, 1, 1]), (305, .sc .nilFunc), (306, .sc (.pointer none)), (307, .sc (.pointer none)), (313, .sc .nilFunc), (315, .sc .nilFunc), (321, .st 7 [(0, 3), (1, 3), (2, 3), (3, 3), (4, 9), (5, 9), (6, 4)] (Array.mk [(.int .i64 0), (.int .i64 0), (.int .i64 0), (.int .i64 0), (.string ByteArray.empty), (.string ByteArray.empty), (.bool false)]) [1, 1, 1, 1, 1, 1, 1]), (322, .sc .nilFunc), (323, .sc .nilFunc), (326, .sc (.pointer none)), (327, .sc .nilFunc), (330, .sl 333 4 16), (334, .sc (.pointer none))]
theorem G_good : G.Good Tryz.prog := fS <| fS <| fS <| fB <| fS <| fG <| fS <| fS <| fS <| fS <| fS <| fS <| fL <| fT Tryz.underlying24 <| fS <| fS <| fL <| fS <| fS <| fS <| fL <| fL <| fT Tryz.underlying35 <| fS <| fS <| fS <| fS <| fS <| fS <| fS <| fS <| fS <| fS <| fS <| fS <| fS <| fS <| fS <| fT Tryz.underlying53 <| fS <| fT Tryz.underlying56 <| fS <| fS <| fS <| fS <| fS <| fS <| fS <| fS <| fS <| fS <| fL <| fT Tryz.underlying70 <| fL <| fS <| fS <| fS <| fL <| fL <| fL <| fT Tryz.underlying79 <| fL <| fS <| fL <| fS <| fT Tryz.underlying86 <| fT Tryz.underlying88 <| fT Tryz.underlying90 <| fS <| fS <| fT Tryz.underlying95 <| fS <| fS <| fS <| fS <| fS <| fS <| fT Tryz.underlying104 <| fS <| fS <| fS <| fS <| fS <| fS <| fS <| fS <| fS <| fS <| fS <| fT Tryz.underlying121 <| fS <| fS <| fS <| fS <| fS <| fS <| fS <| fS <| fS <| fS <| fS <| fS <| fS <| fS <| fS <| fS <| fS <| fT Tryz.underlying143 <| fS <| fS <| fT Tryz.underlying147 <| fL <| fT Tryz.underlying150 <| fL <| fL <| fT Tryz.underlying154 <| fT Tryz.underlying156 <| fS <| fS <| fS <| fS <| fS <| fS <| fT Tryz.underlying165 <| fS <| fS <| fS <| fS <| fS <| fS <| fS <| fS <| fT Tryz.underlying176 <| fT Tryz.underlying178 <| fS <| fS <| fS <| fS <| fS <| fS <| fS <| fS <| fS <| fS <| fS <| fS <| fS <| fS <| fS <| fS <| fS <| fS <| fS <| fS <| fS <| fS <| fS <| fS <| fT Tryz.underlying205 <| fS <| fT Tryz.underlying208 <| fS <| fS <| fS <| fS <| fS <| fT Tryz.underlying216 <| fS <| fS <| fS <| fS <| fS <| fS <| fS <| fS <| fS <| fS <| fS <| fS <| fS <| fS <| fS <| fS <| fS <| fS <| fS <| fS <| fS <| fS <| fS <| fS <| fS <| fS <| fS <| fS <| fS <| fS <| fS <| fS <| fS <| fT Tryz.underlying259 <| fS <| fS <| fS <| fS <| fS <| fS <| fS <| fS <| fS <| fS <| fS <| fS <| fL <| fS <| fS <| fS <| fS <| fS <| fS <| fS <| fS <| fS <| fS <| fS <| fS <| fL <| fT Tryz.underlying292 <| fS <| fS <| fL <| fL <| fT Tryz.underlying298 <| fS <| fT Tryz.underlying301 <| fS <| fT Tryz.underlying304 <| fS <| fS <| fS <| fS <| fS <| fT Tryz.underlying321 <| fS <| fS <| fS <| fS <| fL <| fS <| fN
theorem c3 : Callable Tryz.prog 3 := fun _ _ => by kernel_rfl
theorem c4 : Callable Tryz.prog 4 := fun _ _ => by kernel_rfl
theorem c5 : Callable Tryz.prog 5 := fun _ _ => by kernel_rfl
theorem c6 : Callable Tryz.prog 6 := fun _ _ => by kernel_rfl
theorem c7 : Callable Tryz.prog 7 := fun _ _ => by kernel_rfl
theorem c8 : Callable Tryz.prog 8 := fun _ _ => by kernel_rfl
theorem c9 : Callable Tryz.prog 9 := fun _ _ => by kernel_rfl
theorem c10 : Callable Tryz.prog 10 := fun _ _ => by kernel_rfl
theorem c16 : Callable Tryz.prog 16 := fun _ _ => by kernel_rfl
theorem c17 : Callable Tryz.prog 17 := fun _ _ => by kernel_rfl
theorem c20 : Callable Tryz.prog 20 := fun _ _ => by kernel_rfl
theorem c23 : Callable Tryz.prog 23 := fun _ _ => by kernel_rfl
theorem c25 : Callable Tryz.prog 25 := fun _ _ => by kernel_rfl
theorem c27 : Callable Tryz.prog 27 := fun _ _ => by kernel_rfl
theorem c28 : Callable Tryz.prog 28 := fun _ _ => by kernel_rfl
theorem c29 : Callable Tryz.prog 29 := fun _ _ => by kernel_rfl
theorem c30 : Callable Tryz.prog 30 := fun _ _ => by kernel_rfl
theorem c32 : Callable Tryz.prog 32 := fun _ _ => by kernel_rfl
theorem c34 : Callable Tryz.prog 34 := fun _ _ => by kernel_rfl
theorem c35 : Callable Tryz.prog 35 := fun _ _ => by kernel_rfl
theorem c48 : Callable Tryz.prog 48 := fun _ _ => by kernel_rfl
theorem c49 : Callable Tryz.prog 49 := fun _ _ => by kernel_rfl
theorem c50 : Callable Tryz.prog 50 := fun _ _ => by kernel_rfl
theorem c54 : Callable Tryz.prog 54 := fun _ _ => by kernel_rfl
theorem c56 : Callable Tryz.prog 56 := fun _ _ => by kernel_rfl
theorem c60 : Callable Tryz.prog 60 := fun _ _ => by kernel_rfl
theorem c63 : Callable Tryz.prog 63 := fun _ _ => by kernel_rfl
theorem c65 : Callable Tryz.prog 65 := fun _ _ => by kernel_rfl
theorem c67 : Callable Tryz.prog 67 := fun _ _ => by kernel_rfl
theorem c69 : Callable Tryz.prog 69 := fun _ _ => by kernel_rfl
theorem c71 : Callable Tryz.prog 71 := fun _ _ => by kernel_rfl
theorem c72 : Callable Tryz.prog 72 := fun _ _ => by kernel_rfl
theorem c73 : Callable Tryz.prog 73 := fun _ _ => by kernel_rfl
theorem c74 : Callable Tryz.prog 74 := fun _ _ => by kernel_rfl
theorem c77 : Callable Tryz.prog 77 := fun _ _ => by kernel_rfl
theorem c78 : Callable Tryz.prog 78 := fun _ _ => by kernel_rfl
theorem c81 : Callable Tryz.prog 81 := fun _ _ => by kernel_rfl
theorem c82 : Callable Tryz.prog 82 := fun _ _ => by kernel_rfl
theorem c83 : Callable Tryz.prog 83 := fun _ _ => by kernel_rfl
theorem c84 : Callable Tryz.prog 84 := fun _ _ => by kernel_rfl
theorem c103 : Callable Tryz.prog 103 := fun _ _ => by kernel_rfl
theorem c104 : Callable Tryz.prog 104 := fun _ _ => by kernel_rfl
theorem c114 : Callable Tryz.prog 114 := fun _ _ => by kernel_rfl
theorem c115 : Callable Tryz.prog 115 := fun _ _ => by kernel_rfl
theorem c121 : Callable Tryz.prog 121 := fun _ _ => by kernel_rfl
theorem c122 : Callable Tryz.prog 122 := fun _ _ => by kernel_rfl
theorem c124 : Callable Tryz.prog 124 := fun _ _ => by kernel_rfl
theorem c125 : Callable Tryz.prog 125 := fun _ _ => by kernel_rfl
theorem c127 : Callable Tryz.prog 127 := fun _ _ => by kernel_rfl
theorem c128 : Callable Tryz.prog 128 := fun _ _ => by kernel_rfl
theorem c131 : Callable Tryz.prog 131 := fun _ _ => by kernel_rfl
theorem c132 : Callable Tryz.prog 132 := fun _ _ => by kernel_rfl
theorem c133 : Callable Tryz.prog 133 := fun _ _ => by kernel_rfl
theorem c135 : Callable Tryz.prog 135 := fun _ _ => by kernel_rfl
theorem c137 : Callable Tryz.prog 137 := fun _ _ => by kernel_rfl
theorem c138 : Callable Tryz.prog 138 := fun _ _ => by kernel_rfl
theorem c140 : Callable Tryz.prog 140 := fun _ _ => by kernel_rfl
theorem c143 : Callable Tryz.prog 143 := fun _ _ => by kernel_rfl
theorem c145 : Callable Tryz.prog 145 := fun _ _ => by kernel_rfl
theorem c147 : Callable Tryz.prog 147 := fun _ _ => by kernel_rfl
theorem c148 : Callable Tryz.prog 148 := fun _ _ => by kernel_rfl
theorem c149 : Callable Tryz.prog 149 := fun _ _ => by kernel_rfl
theorem c163 : Callable Tryz.prog 163 := fun _ _ => by kernel_rfl
theorem c164 : Callable Tryz.prog 164 := fun _ _ => by kernel_rfl
theorem c165 : Callable Tryz.prog 165 := fun _ _ => by kernel_rfl
theorem c166 : Callable Tryz.prog 166 := fun _ _ => by kernel_rfl
theorem c174 : Callable Tryz.prog 174 := fun _ _ => by kernel_rfl
theorem c175 : Callable Tryz.prog 175 := fun _ _ => by kernel_rfl
theorem c176 : Callable Tryz.prog 176 := fun _ _ => by kernel_rfl
theorem c179 : Callable Tryz.prog 179 := fun _ _ => by kernel_rfl
theorem c180 : Callable Tryz.prog 180 := fun _ _ => by kernel_rfl
theorem c181 : Callable Tryz.prog 181 := fun _ _ => by kernel_rfl
theorem c182 : Callable Tryz.prog 182 := fun _ _ => by kernel_rfl
theorem c183 : Callable Tryz.prog 183 := fun _ _ => by kernel_rfl
theorem c184 : Callable Tryz.prog 184 := fun _ _ => by kernel_rfl
theorem c185 : Callable Tryz.prog 185 := fun _ _ => by kernel_rfl
theorem c186 : Callable Tryz.prog 186 := fun _ _ => by kernel_rfl
theorem c187 : Callable Tryz.prog 187 := fun _ _ => by kernel_rfl
theorem c188 : Callable Tryz.prog 188 := fun _ _ => by kernel_rfl
theorem c192 : Callable Tryz.prog 192 := fun _ _ => by kernel_rfl
theorem c193 : Callable Tryz.prog 193 := fun _ _ => by kernel_rfl
theorem c198 : Callable Tryz.prog 198 := fun _ _ => by kernel_rfl
theorem c206 : Callable Tryz.prog 206 := fun _ _ => by kernel_rfl
theorem c207 : Callable Tryz.prog 207 := fun _ _ => by kernel_rfl
theorem c208 : Callable Tryz.prog 208 := fun _ _ => by kernel_rfl
theorem c213 : Callable Tryz.prog 213 := fun _ _ => by kernel_rfl
theorem c217 : Callable Tryz.prog 217 := fun _ _ => by kernel_rfl
theorem c223 : Callable Tryz.prog 223 := fun _ _ => by kernel_rfl
theorem c231 : Callable Tryz.prog 231 := fun _ _ => by kernel_rfl
theorem c236 : Callable Tryz.prog 236 := fun _ _ => by kernel_rfl
theorem c55 : Callable Tryz.prog 55 := fun _ _ => by kernel_rfl
theorem c75 : Callable Tryz.prog 75 := fun _ _ => by kernel_rfl
theorem c76 : Callable Tryz.prog 76 := fun _ _ => by kernel_rfl
theorem c79 : Callable Tryz.prog 79 := fun _ _ => by kernel_rfl
theorem c105 : Callable Tryz.prog 105 := fun _ _ => by kernel_rfl
theorem c116 : Callable Tryz.prog 116 := fun _ _ => by kernel_rfl
theorem c117 : Callable Tryz.prog 117 := fun _ _ => by kernel_rfl
theorem c118 : Callable Tryz.prog 118 := fun _ _ => by kernel_rfl
theorem c119 : Callable Tryz.prog 119 := fun _ _ => by kernel_rfl
theorem c120 : Callable Tryz.prog 120 := fun _ _ => by kernel_rfl
theorem c129 : Callable Tryz.prog 129 := fun _ _ => by kernel_rfl
theorem c136 : Callable Tryz.prog 136 := fun _ _ => by kernel_rfl
theorem c139 : Callable Tryz.prog 139 := fun _ _ => by kernel_rfl
theorem c141 : Callable Tryz.prog 141 := fun _ _ => by kernel_rfl
theorem c142 : Callable Tryz.prog 142 := fun _ _ => by kernel_rfl
theorem c144 : Callable Tryz.prog 144 := fun _ _ => by kernel_rfl
theorem c167 : Callable Tryz.prog 167 := fun _ _ => by kernel_rfl
theorem c168 : Callable Tryz.prog 168 := fun _ _ => by kernel_rfl
theorem c173 : Callable Tryz.prog 173 := fun _ _ => by kernel_rfl
theorem c177 : Callable Tryz.prog 177 := fun _ _ => by kernel_rfl
theorem c191 : Callable Tryz.prog 191 := fun _ _ => by kernel_rfl
theorem c201 : Callable Tryz.prog 201 := fun _ _ => by kernel_rfl
theorem c202 : Callable Tryz.prog 202 := fun _ _ => by kernel_rfl
theorem c203 : Callable Tryz.prog 203 := fun _ _ => by kernel_rfl
theorem c204 : Callable Tryz.prog 204 := fun _ _ => by kernel_rfl
theorem c205 : Callable Tryz.prog 205 := fun _ _ => by kernel_rfl
theorem c218 : Callable Tryz.prog 218 := fun _ _ => by kernel_rfl
theorem c219 : Callable Tryz.prog 219 := fun _ _ => by kernel_rfl
theorem c220 : Callable Tryz.prog 220 := fun _ _ => by kernel_rfl
theorem c232 : Callable Tryz.prog 232 := fun _ _ => by kernel_rfl
theorem mt74 : MapTy Tryz.prog 206 (.int .i64) (.int .i64 0) := ⟨3, 3, by kernel_rfl, by kernel_rfl, fun w => Tryz.zeroValue3 w⟩
end Go.Proofs.Heir
namespace Go.Proofs.Heir
open Go.Am
set_option maxRecDepth 100000
set_option maxHeartbeats 8000000
def smallC (c : Int) : Bool := decide (97 ≤ c) && decide (c ≤ 122)
def capC (c : Int) : Bool := decide (65 ≤ c) && decide (c ≤ 90)
def signC (c : Int) : Bool := smallC c || capC c || (decide (48 ≤ c) && decide (c ≤ 57)) || decide (c = 45) || decide (c = 95) || decide (c = 46)
@[reducible] def eRune (c : Int) : AV := .lit (.int .i32 c)
@[reducible] def eBool (b : Bool) : AV := .lit (.bool b)
@[reducible] def eStr (s : ByteArray) : AV := .lit (.string s)
@[reducible] def eInt (n : Int) : AV := .lit (.int .i64 n)
theorem f188_ok (c : Int) : FnOK Tryz.prog 188 [] [eRune c] [] (eBool (smallC c)) := by
 refine FnOK.startC (rvs := [.tmp 2]) G G_good Tryz.func188 rfl Tryz.ntmps188 rfl rfl ?_; with_reducible refine wD ?_
 refine IfK.mk (fun h => ?_) (fun h => ?_) <;> (try simp only [castN] at h) <;> with_reducible refine wK ?_
 ·(refine eK ?_ ?_ <;> with_reducible repeat' (first | exact trivial | (show _ ∧ _; refine aK ?_ ?_)))
  unfold smallC
  simp at h; simp [h]
 ·(refine eK ?_ ?_ <;> with_reducible repeat' (first | exact trivial | (show _ ∧ _; refine aK ?_ ?_)))
  unfold smallC
  simp at h; simp; omega
theorem f179_ok (c : Int) : FnOK Tryz.prog 179 [] [eRune c] [] (eBool (capC c)) := by
 refine FnOK.startC (rvs := [.tmp 2]) G G_good Tryz.func179 rfl Tryz.ntmps179 rfl rfl ?_; with_reducible refine wD ?_
 refine IfK.mk (fun h => ?_) (fun h => ?_) <;> (try simp only [castN] at h) <;> with_reducible refine wK ?_
 ·(refine eK ?_ ?_ <;> with_reducible repeat' (first | exact trivial | (show _ ∧ _; refine aK ?_ ?_)))
  unfold capC
  simp at h; simp [h]
 ·(refine eK ?_ ?_ <;> with_reducible repeat' (first | exact trivial | (show _ ∧ _; refine aK ?_ ?_)))
  unfold capC
  simp at h; simp; omega
theorem f187_ok (c : Int) : FnOK Tryz.prog 187 [] [eRune c] [] (eBool (signC c)) := by
 refine FnOK.startC (rvs := [.tmp 2]) G G_good Tryz.func187 rfl Tryz.ntmps187 rfl rfl ?_; with_reducible refine wD ?_
 refine cL (f188_ok c) c188 ?_; with_reducible refine wK ?_
 repeat' (first
  | refine aE ?_ ?_
  | ((with_reducible show IfK _ _ _ _); first | refine iK ?_ | (refine IfK.mk (fun _ => ?_) (fun _ => ?_) <;> with_reducible refine wK ?_))
  | ((with_reducible refine kQ 179 ?_); refine cL (f179_ok c) c179 ?_; with_reducible refine wK ?_)
  | apply trivial)
 all_goals (simp_all [signC, smallC, capC] <;> omega)
theorem f186_ok (c : Int) : FnOK Tryz.prog 186 [] [eRune c] [] (eBool (!signC c)) := by
 refine FnOK.startC (rvs := [.tmp 2]) G G_good Tryz.func186 rfl Tryz.ntmps186 rfl rfl ?_; with_reducible refine wD ?_
 refine cL (f187_ok c) c187 ?_; with_reducible refine wK ?_
 (refine eK ?_ ?_ <;> with_reducible repeat' (first | exact trivial | (show _ ∧ _; refine aK ?_ ?_)))
open Go.RowKit Go.Lib in
theorem f227_calls (g : Nat) (eg : ∀ args w, (callFunc g args).run Tryz.prog w = .ok (.enter g args) w) (p : Nat → Bool) (s : ByteArray) (w : World) (ht : Tabs Tryz.prog w fun _ => none) (hp : ∀ (W : World) (x : Nat), (Tabs Tryz.prog W fun _ => none) → x ≤ 1114111 → Calls Tryz.prog g #[.int .i32 (x : Int)] W fun e w' => e = .returned (.bool (p x)) ∧ Below W.heap.size W w') :
  Calls Tryz.prog 227 #[.string s, .func (.func g) #[] #[], .bool true] w fun e w' => e = .returned (.int .i64 (Lib.idxFunc p true s)) ∧ Below w.heap.size w w' := by
 go_enter Tryz.func227, Tryz.ntmps227
 go_wp2
 go_loopg [] s.size (fun gf wx => ∃ pos : Nat, wx.heap[w.heap.size]? = some (.stringIter s pos) ∧ Below w.heap.size w wx ∧ Lib.idxFuncFrom p true s gf pos = Lib.idxFunc p true s ∧ s.size ≤ pos + gf)
 case atStart => exact ⟨0, World.iter_heap w s 0, (Below.refl _ w).alloc (Nat.le_refl _) _, rfl, by omega⟩
 case round =>
  obtain ⟨pos, hit, hbw, hleft, hfu⟩ := hrel
  by_cases hps : pos < s.size
  ·obtain ⟨g', rfl⟩ : ∃ g', gk = g' + 1 := ⟨gk - 1, by omega⟩
   have hnx : ∀ ty, (Instr.next (.pointer (some ⟨w.heap.size, 0, none⟩)) true ty).run Tryz.prog wr = _ := fun ty => Lib.run_next_any_at wr w.heap.size s pos ty hit hps
   have hwd := Lib.width_pos s pos
   obtain ⟨R, hR⟩ : ∃ R, (Utf8.decode s pos).1 = R := ⟨_, rfl⟩
   obtain ⟨K, hK⟩ : ∃ K, (Utf8.decode s pos).2 = K := ⟨_, rfl⟩
   simp only [Lib.idxFuncFrom, hps, if_true, hR, hK] at hleft
   rw [hR, hK] at hnx
   rw [hK] at hwd
   have hit2 := Lib.iterAt_heap wr w.heap.size s pos (pos + K) hit
   have hbw2 := Lib.below_iterAt hbw (k := w.heap.size) (Nat.le_refl _) s (pos + K)
   obtain ⟨W, hWd⟩ : ∃ W, wr.iterAt w.heap.size s (pos + K) = W := ⟨_, rfl⟩
   rw [hWd] at hnx hit2 hbw2
   have hltW : w.heap.size < W.heap.size := (Array.getElem?_eq_some_iff.1 hit2).1
   have cS : Calls Tryz.prog g #[.int .i32 (R : Int)] W _   := hp W R (ht.below hbw2) (by rw [← hR]; exact Lib.rune_le s pos)
   clear hp
   cases hsp : p R <;> rw [hsp] at cS <;> simp only [hsp, if_true, Bool.false_eq_true, Bool.true_eq_false, if_false] at hleft
   ·go_wp2_with (go_at_fn g; refine cS.mono ?_; rintro e W' ⟨rfl, hbc⟩)
    go_roundg g'
    case measure => omega
    case rel => exact ⟨pos + K, (hbc.block _ hltW).trans hit2, (hbw2.trans (hbc.mono hbw2.size)), hleft, by omega⟩
   ·go_wp2_with (go_at_fn g; refine cS.mono ?_; rintro e W' ⟨rfl, hbc⟩)
    go_ret
    exact ⟨by rw [← hleft] <;> rfl, (hbw2.trans (hbc.mono hbw2.size))⟩
  ·have hnx : ∀ ty, (Instr.next (.pointer (some ⟨w.heap.size, 0, none⟩)) true ty).run Tryz.prog wr = _ := fun ty => Lib.run_next_end_at wr w.heap.size s pos ty hit hps
   rw [Lib.idxFuncFrom_end p true s gk pos hps] at hleft
   go_wp2
   go_ret
   exact ⟨by rw [← hleft] <;> rfl, hbw⟩
end Go.Proofs.Heir
namespace Go.Proofs.Heir
open Go Go.Am Go.RowKit Go.Lib
set_option maxRecDepth 100000
set_option maxHeartbeats 8000000
def lowB (c : UInt8) : UInt8 := if capC (c.toNat : Int) then c + 32 else c
def lowL (l : List UInt8) : List UInt8 := l.map lowB
def lowS (s : ByteArray) : ByteArray := ⟨(lowL s.data.toList).toArray⟩
def midL (l : List UInt8) (k : Nat) : List UInt8 := (l.take k).map lowB ++ l.drop k
theorem midL_len (l : List UInt8) (k : Nat) : (midL l k).length = l.length := by simp [midL]; omega
theorem midL_get (l : List UInt8) (k : Nat) (h : k < l.length) : (midL l k)[k]? = some l[k] := by
 simp [midL, List.getElem?_append, List.getElem?_drop, Nat.min_eq_left (Nat.le_of_lt h), h]
theorem midL_set (l : List UInt8) (k : Nat) (h : k < l.length) : (midL l k).set k (lowB l[k]) = midL l (k + 1) := by
 unfold midL
 have h1 : ((l.take k).map lowB).length = k := by simp; omega
 rw [List.set_append_right _ _ (by omega), h1, Nat.sub_self, List.take_succ_eq_append_getElem h, List.drop_eq_getElem_cons h]
 simp only [List.set_cons_zero, List.map_append, List.map_cons, List.map_nil, List.append_assoc, List.cons_append, List.nil_append]
theorem midL_skip (l : List UInt8) (k : Nat) (h : k < l.length) (hc : capC (l[k].toNat : Int) = false) : midL l k = midL l (k + 1) := by
 rw [← midL_set l k h]
 have h2 := midL_get l k h
 apply List.ext_getElem?
 intro j
 rw [List.getElem?_set]
 by_cases hj : k = j
 ·subst hj
  rw [if_pos rfl, if_pos (by rw [midL_len]; exact h), h2]
  simp [lowB, hc]
 ·rw [if_neg hj]
def rowOf (l : List UInt8) (z : List Value) : Array Value := (l.map (fun b => Value.int .u8 b.toNat) ++ z).toArray
theorem rowOf_get (l : List UInt8) (z : List Value) (k : Nat) (b : UInt8) (h : l[k]? = some b) : (rowOf l z)[k]? = some (.int .u8 b.toNat) := by
 have hk := (List.getElem?_eq_some_iff.1 h).1
 simp only [rowOf, List.getElem?_toArray]
 rw [List.getElem?_append_left (by simpa using hk), List.getElem?_map, h]; rfl
theorem rowOf_set (l : List UInt8) (z : List Value) (k : Nat) (b : UInt8) (h : k < l.length) : (rowOf l z).setIfInBounds k (.int .u8 b.toNat) = rowOf (l.set k b) z := by
 apply Array.ext'
 simp only [rowOf, Array.toList_setIfInBounds, List.map_set]
 rw [List.set_append_left _ _ (by simpa using h)]
theorem cap_step (c : UInt8) (h : capC (c.toNat : Int) = true) : IntKind.u8.wrap (IntKind.u8.wrap ((c.toNat : Int) - 65) + 97) = ((c + 32 : UInt8).toNat : Int) := by
 simp only [capC, Bool.and_eq_true, decide_eq_true_eq] at h
 have h1 : IntKind.u8.wrap ((c.toNat : Int) - 65) = (c.toNat : Int) - 65 := by simp [IntKind.wrap_u8]; omega
 rw [h1]
 have h2 : IntKind.u8.wrap ((c.toNat : Int) - 65 + 97) = (c.toNat : Int) + 32 := by simp [IntKind.wrap_u8]; omega
 rw [h2]
 have : (c + 32 : UInt8).toNat = c.toNat + 32 := by
  rw [UInt8.toNat_add]; simp; omega
 rw [this]; rfl
theorem f124_calls (s : ByteArray) (w : World) (ht : Tabs Tryz.prog w fun _ => none) (hs : s.size ≤ 100000) : Calls Tryz.prog 124 #[.string s] w fun e w' => e = .returned (.string (lowS s)) ∧ Below w.heap.size w w' := by
 obtain ⟨l, rfl⟩ : ∃ l : List UInt8, s = ⟨l.toArray⟩ := ⟨s.data.toList, by obtain ⟨⟨l⟩⟩ := s; rfl⟩
 have hsz : (ByteArray.mk l.toArray).size = l.length := by simp [ByteArray.size]
 have hconv := run_bytes_of_string (P := Tryz.prog) w 9 71 5 ⟨l.toArray⟩ Tryz.underlying9 Tryz.underlying71 Tryz.underlying5
 rw [hsz] at hconv hs
 obtain ⟨cap, hcap⟩ : ∃ cap, grownCap w l.length 0 5 = cap := ⟨_, rfl⟩
 rw [hcap] at hconv
 obtain ⟨z, hz⟩ : ∃ z : List Value, bytesRow ⟨l.toArray⟩ cap = rowOf l z := ⟨List.replicate (cap - l.length) (.int .u8 0), by
  apply Array.ext'; simp [bytesRow, rowOf, ByteArray.size]⟩
 rw [hz] at hconv
 obtain ⟨n, hn⟩ : ∃ n, (rowOf l z).size = n := ⟨_, rfl⟩
 rw [hn] at hconv
 clear hcap hz
 go_enter Tryz.func124, Tryz.ntmps124
 go_wp2
 go_loopw [10] (fun i wr => ∃ k : Nat, k ≤ l.length ∧ i = .int .i64 k ∧ wr.heap[w.heap.size]? = some (.cells (rowOf (midL l k) z) 5 (n, n + 1)) ∧ Below w.heap.size w wr) (fun i _ => l.length - (intOf i).toNat)
 case atStart => exact ⟨0, Nat.zero_le _, rfl, (heap_alloc_new w (Obj.cells (rowOf l z) 5 (n, n + 1))), ((Below.refl _ w).alloc (Nat.le_refl _) _).drew⟩
 case round =>
  obtain ⟨k, hk, rfl, hh, hb⟩ := hrel
  by_cases hlt : k < l.length
  ·have hcell : wr.cell? ⟨w.heap.size, k, none⟩ = some (.int .u8 (l[k].toNat : Int)) := by
    simp only [World.cell?, hh]
    exact rowOf_get _ z k _ (midL_get l k hlt)
   have hn2 : k < n := by rw [← hn]; simp [rowOf]; omega
   have hfz : wr.frozen? ⟨w.heap.size, k, none⟩ = false := by
    simp [World.frozen?, hh]; omega
   have hbs : w.heap.size < wr.heap.size := (Array.getElem?_eq_some_iff.1 hh).1
   have hb1 : 0 ≤ (l[k].toNat : Int) := Int.natCast_nonneg _
   have hb2 : (l[k].toNat : Int) ≤ 255 := by have := UInt8.toNat_lt l[k]; omega
   cases hc : capC (l[k].toNat : Int) with
   | false =>
     go_wp2_with (go_at_call 179; refine ((f179_ok (l[k].toNat : Int)).below (vs := [.int .i32 (l[k].toNat : Int)]) _ (ht.below hb)).mono ?_; rw [hc]; rintro e w1 ⟨rfl, hb3⟩)
     go_roundw
     case rel => exact ⟨k + 1, by omega, by go_num, by rw [hb3.block _ hbs, hh, midL_skip l k hlt hc], hb.trans (hb3.mono hb.size)⟩
     case measure => simp [intOf]; omega
   | true =>
     have hst : IntKind.u8.wrap (IntKind.u8.wrap ((l[k].toNat : Int) - 65) + 97) = ((lowB l[k]).toNat : Int) := by
      rw [cap_step _ hc]; unfold lowB; rw [hc]; rfl
     simp only [IntKind.wrap_u8] at hst
     have H := hid hst
     clear hst
     go_wp2_with (go_at_call 179; refine ((f179_ok (l[k].toNat : Int)).below (vs := [.int .i32 (l[k].toNat : Int)]) _ (ht.below hb)).mono ?_; rw [hc]; rintro e w1 ⟨rfl, hb3⟩; have hc1 := (hb3.cell (p := ⟨w.heap.size, k, none⟩) hbs).trans hcell; have hf1 := (hb3.frozen (p := ⟨w.heap.size, k, none⟩) hbs).trans hfz)
     go_roundw
     case rel =>
      refine ⟨k + 1, by omega, by go_num, ?_, hb.trans ((hb3.mono hb.size).setCell (Nat.le_refl _) _)⟩
      have hm : ((l[k].toNat : Int) - 65 + 97) % 256 = ((lowB l[k]).toNat : Int) := by
       rw [← H.out]; omega
      rw [hm]
      have hq : w1.heap[w.heap.size]? = some (.cells (rowOf (midL l k) z) 5 (n, n + 1)) := (hb3.block _ hbs).trans hh
      have hs2 : w.heap.size < w1.heap.size := (Array.getElem?_eq_some_iff.1 hq).1
      unfold World.setCell
      simp only [Array.getElem?_modify, hq, if_true, Option.map_some]
      have hrs := rowOf_set (midL l k) z k (lowB l[k]) (by rw [midL_len]; exact hlt)
      rw [midL_set l k hlt] at hrs
      simp only [hrs]; rfl
     case measure => simp [intOf]; omega
  ·have : k = l.length := by omega
   subst this
   have hrw : rowOf (midL l l.length) z = rowOf (lowL l) z := by simp [midL, lowL]
   rw [hrw] at hh
   have hcv := run_convert_bytes_back (P := Tryz.prog) wr 71 9 5 ⟨w.heap.size, 0, none⟩ cap (lowL l) Tryz.underlying71 Tryz.underlying5 Tryz.underlying9 (fun j hj => by
    have := rowOf_get (lowL l) z j ((lowL l)[j]) (List.getElem?_eq_getElem hj)
    have ha : (⟨w.heap.size, 0, none⟩ : Addr).add j = ⟨w.heap.size, j, none⟩ := by
     unfold Addr.add; split <;> simp_all
    rw [ha]; simp only [World.cell?, hh, this]; rfl)
   rw [show (lowL l).length = l.length from by simp [lowL]] at hcv
   go_wp2
   go_ret
   exact ⟨rfl, hb⟩
theorem f124_ok (s : ByteArray) (hs : s.size ≤ 100000) : FnOK Tryz.prog 124 [] [eStr s] [] (eStr (lowS s)) :=
 FnOK.of_calls (vs := [.string s]) (v := .string (lowS s)) fun w ht => f124_calls s w ht hs
def signB (b : UInt8) : Bool := signC (b.toNat : Int)
def firstB : List UInt8 → Bool
 | [] => false
 | b :: _ => smallC (b.toNat : Int) || capC (b.toNat : Int) || decide ((b.toNat : Int) = 95)
def rightL (l : List UInt8) : Bool := decide (1 ≤ l.length) && decide (l.length ≤ 40) && l.all signB && firstB l
def rightS (s : ByteArray) : Bool := rightL s.data.toList
theorem idx_bad (s : ByteArray) : ∀ (f pos : Nat), s.size ≤ pos + f → (0 ≤ idxFuncFrom (fun r => !signC (r : Int)) true s f pos ↔ ∃ i, pos ≤ i ∧ ∃ b, s.data.toList[i]? = some b ∧ signB b = false)
 | 0, pos, h => by
   have : ¬ (0 : Int) ≤ idxFuncFrom (fun r => !signC (r : Int)) true s 0 pos := by simp [idxFuncFrom]
   refine ⟨fun h' => absurd h' this, ?_⟩
   rintro ⟨i, h1, b, h2, _⟩
   have := (List.getElem?_eq_some_iff.1 h2).1
   have : i < s.size := this
   omega
 | f + 1, pos, h => by
   by_cases hp : pos < s.size
   ·have ih := idx_bad s f
    have hb : ∃ b, s.data.toList[pos]? = some b ∧ s.get! pos = b := ⟨_, List.getElem?_eq_getElem hp, by show s.data[pos]! = _; rw [getElem!_pos s.data pos hp]; rfl⟩
    obtain ⟨b, hb1, hb2⟩ := hb
    unfold idxFuncFrom
    rw [if_pos hp, decode_at, hb2]
    have hbn : b.toNat < 256 := UInt8.toNat_lt b
    have big : ∀ r : Nat, 128 ≤ r → signC (r : Int) = false := by
     intro r hr
     have : (128 : Int) ≤ r := by omega
     simp only [signC, smallC, capC, Bool.or_eq_false_iff, Bool.and_eq_false_iff, decide_eq_false_iff_not]
     omega
    have bad : ∀ r w : Nat, 128 ≤ r → 128 ≤ b.toNat → ((0 : Int) ≤ (if (!signC (r : Int)) = true then (pos : Int) else idxFuncFrom (fun r => !signC (r : Int)) true s f (pos + w)) ↔ ∃ i, pos ≤ i ∧ ∃ b, s.data.toList[i]? = some b ∧ signB b = false) := by
     intro r w hr hbr
     rw [big r hr]
     exact ⟨fun _ => ⟨pos, Nat.le_refl _, b, hb1, big _ hbr⟩, fun _ => by simp⟩
    rcases decodeN_shape (s.size - pos) b.toNat (s.get! (pos + 1)).toNat (s.get! (pos + 2)).toNat (s.get! (pos + 3)).toNat with ⟨h1, h2⟩ | ⟨h1, h3, h4, h5, h2⟩ | ⟨h1, h3, h4, h5, h6, h7, h2⟩ | ⟨h1, h3, h4, h5, h6, h7, h8, h2⟩ | h2
    ·rw [h2]
     show (0 : Int) ≤ (if (!signC (b.toNat : Int)) = true then (pos : Int) else idxFuncFrom _ true s f (pos + 1)) ↔ _
     cases hs : signC (b.toNat : Int) with
     | false => exact ⟨fun _ => ⟨pos, Nat.le_refl _, b, hb1, hs⟩, fun _ => by simp⟩
     | true =>
       rw [if_neg (by simp), ih (pos + 1) (by omega)]
       constructor
       ·rintro ⟨i, h3, h4⟩; exact ⟨i, by omega, h4⟩
       ·rintro ⟨i, h3, b', h4, h5⟩
        rcases Nat.lt_or_ge pos i with h6 | h6
        ·exact ⟨i, h6, b', h4, h5⟩
        ·have : i = pos := by omega
         subst this
         rw [hb1] at h4; cases h4
         rw [signB, hs] at h5; cases h5
    ·rw [h2]; exact bad _ _ (by omega) (by omega)
    ·rw [h2]; exact bad _ _ (by omega) (by omega)
    ·rw [h2]; exact bad _ _ (by omega) (by omega)
    ·rw [h2]
     refine bad _ _ (by omega) ?_
     rcases Nat.lt_or_ge b.toNat 128 with h3 | h3
     ·rw [decodeN, if_pos h3] at h2; simp only [Prod.mk.injEq] at h2; omega
     ·exact h3
   ·rw [idxFuncFrom_end _ _ _ _ _ hp]
    refine ⟨fun h' => by omega, ?_⟩
    rintro ⟨i, h1, b, h2, _⟩
    have := (List.getElem?_eq_some_iff.1 h2).1
    have : i < s.size := this
    omega
theorem idx_all (s : ByteArray) : decide (0 ≤ idxFunc (fun r => !signC (r : Int)) true s) = !s.data.toList.all signB := by
 have h := idx_bad s s.size 0 (by omega)
 cases ha : s.data.toList.all signB with
 | true =>
   simp only [Bool.not_true, decide_eq_false_iff_not]
   intro h'
   obtain ⟨i, _, b, h1, h2⟩ := h.1 h'
   have := List.all_eq_true.1 ha b (List.mem_of_getElem? h1)
   rw [this] at h2; cases h2
 | false =>
   simp only [Bool.not_false, decide_eq_true_eq]
   refine h.2 ?_
   obtain ⟨b, h1, h2⟩ := List.all_eq_false.1 ha
   obtain ⟨i, h3⟩ := List.getElem?_of_mem h1
   exact ⟨i, Nat.zero_le _, b, h3, by simpa using h2⟩
theorem f213_calls (g : Nat) (eg : ∀ args w, (callFunc g args).run Tryz.prog w = .ok (.enter g args) w) (p : Nat → Bool) (s : ByteArray) (w : World) (ht : Tabs Tryz.prog w fun _ => none) (hp : ∀ (W : World) (x : Nat), (Tabs Tryz.prog W fun _ => none) → x ≤ 1114111 → Calls Tryz.prog g #[.int .i32 (x : Int)] W fun e w' => e = .returned (.bool (p x)) ∧ Below W.heap.size W w') :
  Calls Tryz.prog 213 #[.string s, .func (.func g) #[] #[]] w fun e w' => e = .returned (.int .i64 (Lib.idxFunc p true s)) ∧ Below w.heap.size w w' := by
 have h44 := f227_calls g eg p s w ht hp
 clear hp
 go_enter Tryz.func213, Tryz.ntmps213
 go_wp2_with (go_at_call 227; refine h44.mono ?_; rintro e w1 ⟨rfl, hb⟩)
 go_ret
 exact ⟨rfl, hb⟩
theorem f185_calls (g : Nat) (eg : ∀ args w, (callFunc g args).run Tryz.prog w = .ok (.enter g args) w) (p : Nat → Bool) (s : ByteArray) (w : World) (ht : Tabs Tryz.prog w fun _ => none) (hp : ∀ (W : World) (x : Nat), (Tabs Tryz.prog W fun _ => none) → x ≤ 1114111 → Calls Tryz.prog g #[.int .i32 (x : Int)] W fun e w' => e = .returned (.bool (p x)) ∧ Below W.heap.size W w') :
  Calls Tryz.prog 185 #[.string s, .func (.func g) #[] #[]] w fun e w' => e = .returned (.bool (decide (0 ≤ Lib.idxFunc p true s))) ∧ Below w.heap.size w w' := by
 have h43 := f213_calls g eg p s w ht hp
 clear hp
 go_enter Tryz.func185, Tryz.ntmps185
 go_wp2_with (go_at_call 213; refine h43.mono ?_; rintro e w1 ⟨rfl, hb⟩)
 go_ret
 exact ⟨rfl, hb⟩
theorem f185_ok (s : ByteArray) : FnOK Tryz.prog 185 [] [eStr s, .lit (.func (.func 186) #[] #[])] [] (eBool (!s.data.toList.all signB)) := by
 rw [← idx_all]
 exact FnOK.of_calls (vs := [.string s, .func (.func 186) #[] #[]]) fun w ht => f185_calls 186 c186 (fun r => !signC (r : Int)) s w ht fun W x ht _ => (f186_ok (x : Int)).below (vs := [.int .i32 (x : Int)]) W ht
theorem size_len (s : ByteArray) : s.size = s.data.toList.length := (Array.length_toList (xs := s.data)).symm
theorem first_get {l : List UInt8} (h : 1 ≤ l.length) : ∃ b r, l = b :: r ∧ l[0]? = some b := by
 cases l with
 | nil => simp at h
 | cons b r => exact ⟨b, r, rfl, rfl⟩
theorem u8_i32 (b : UInt8) : IntKind.i32.wrap (b.toNat : Int) = (b.toNat : Int) := by
 have h : b.toNat < 256 := UInt8.toNat_lt b
 rw [IntKind.wrap_i32]; omega
theorem f133_ok (s : ByteArray) : FnOK Tryz.prog 133 [] [eStr s] [] (eBool (rightS s)) := by
 have hsz : s.size = s.data.toList.length := size_len s
 have hb0 : 1 ≤ s.data.toList.length → ∃ b r, s.data.toList = b :: r ∧ s.data.toList[0]? = some b := first_get
 refine FnOK.startC (rvs := [.tmp 2]) G G_good Tryz.func133 rfl Tryz.ntmps133 rfl rfl ?_; with_reducible refine wD ?_
 repeat' (first
  | refine aE ?_ ?_
  | ((with_reducible show IfK _ _ _ _); first | refine iK ?_ | (refine IfK.mk (fun _ => ?_) (fun _ => ?_) <;> with_reducible refine wK ?_))
  | ((with_reducible refine kQ 185 ?_); refine CallK.lit [] (f185_ok _) c185 ⟨rfl, MF_refl 12 _ rfl, trivial⟩ rfl rfl ?_; with_reducible refine wK ?_)
  | ((with_reducible refine kQ 179 ?_); refine cL (f179_ok _) c179 ?_; with_reducible refine wK ?_)
  | ((with_reducible refine kQ 188 ?_); refine cL (f188_ok _) c188 ?_; with_reducible refine wK ?_)
  | ((with_reducible show IdxSK _ _ _ _ _); obtain ⟨b, r, hl, hb⟩ := hb0 (by simp only [decide_eq_false_iff_not] at *; omega); refine IdxSK.mk 0 b rfl hb ?_; with_reducible refine wK ?_)
  | ((with_reducible show ConvK _ _ _ _ _ _ _); refine ConvK.int (by kernel_rfl) (by kernel_rfl) (u8_i32 _) ?_; with_reducible refine wK ?_)
  | apply trivial)
 all_goals (simp only [decide_eq_true_eq, decide_eq_false_iff_not, hsz] at *; unfold rightS rightL)
 ·rw [show decide (1 ≤ s.data.toList.length) = false from decide_eq_false (by omega)]; rfl
 ·rw [show decide (s.data.toList.length ≤ 40) = false from decide_eq_false (by omega)]; simp
 ·rw [show s.data.toList.all signB = false from by simp_all]; simp
 all_goals rw [show decide (1 ≤ s.data.toList.length) = true from decide_eq_true (by omega), show decide (s.data.toList.length ≤ 40) = true from decide_eq_true (by omega), show s.data.toList.all signB = true from by simp_all, hl]; simp_all [firstB]
theorem right_size {s : ByteArray} (h : rightS s = true) : s.size ≤ 40 := by
 unfold rightS rightL at h
 simp only [Bool.and_eq_true, decide_eq_true_eq] at h
 rw [size_len]; exact h.1.1.2
theorem right_small {s : ByteArray} (h : (!rightS s) = false) : s.size ≤ 100000 := by
 have := right_size (s := s) (by simpa using h)
 omega
theorem f67_ok (s : ByteArray) : FnOK Tryz.prog 67 [] [eStr s] [] (.tup [eStr (if rightS s then lowS s else ⟨#[]⟩), eInt (if rightS s then 0 else 4)]) := by
 refine FnOK.startC (rvs := [.tmp 2, .tmp 3]) G G_good Tryz.func67 rfl Tryz.ntmps67 rfl rfl ?_; with_reducible refine wD ?_
 repeat' (first
  | refine aE ?_ ?_
  | ((with_reducible show IfK _ _ _ _); first | refine iK ?_ | (refine IfK.mk (fun _ => ?_) (fun _ => ?_) <;> with_reducible refine wK ?_))
  | ((with_reducible refine kQ 133 ?_); refine cL (f133_ok _) c133 ?_; with_reducible refine wK ?_)
  | ((with_reducible refine kQ 124 ?_); refine CallK.lit [] (f124_ok _ (right_small (by assumption))) c124 ⟨rfl, trivial⟩ rfl rfl ?_; with_reducible refine wK ?_)
  | apply trivial)
 all_goals simp_all
def strOf (l : List UInt8) : ByteArray := ⟨l.toArray⟩
structure AttrM where
 name : ByteArray
 value : ByteArray
 deriving DecidableEq
@[reducible] def eAttr (a : AttrM) : AV := .agg [eStr a.name, eStr a.value]
def oAttr (a : AttrM) : AV := eAttr a
@[reducible] def eAttrs (l : List AttrM) : AV := .sl 2 (l.map oAttr)
theorem MFL_refl {tab : List (Nat × Nat)} {fz : Nat → Bool} {m : ML} {n : Nat} : ∀ {cs : List AV}, noRefL cs = true → MFL (MF tab fz m n) cs cs
 | [], _ => trivial
 | c :: cs, h => by
   simp only [noRefL, Bool.and_eq_true] at h
   exact ⟨MF_refl n c h.1, MFL_refl h.2⟩
theorem f184_ok (a : AttrM) (n : ByteArray) : FnOK Tryz.prog 184 [] [eAttr a, .fptr (eStr n) 0] [] (eBool (decide (a.name = n))) := by
 refine FnOK.startC (rvs := [.tmp 3]) G G_good Tryz.func184 rfl Tryz.ntmps184 rfl rfl ?_; with_reducible refine wD ?_
 (refine eK ?_ ?_ <;> with_reducible repeat' (first | exact trivial | (show _ ∧ _; refine aK ?_ ?_)))
def badA (a : AttrM) : Bool := !(rightS a.name && decide (lowS a.name = a.name) && decide (a.value.size ≤ 200))
theorem f180_ok (a : AttrM) : FnOK Tryz.prog 180 [] [eAttr a] [] (eBool (badA a)) := by
 obtain ⟨n, v⟩ := a
 refine FnOK.startC (rvs := [.tmp 2]) G G_good Tryz.func180 rfl Tryz.ntmps180 rfl rfl ?_; with_reducible refine wD ?_
 refine cL (f67_ok _) c67 ?_; with_reducible refine wK ?_
 repeat' (first
  | refine aE ?_ ?_
  | ((with_reducible show IfK _ _ _ _); first | refine iK ?_ | (refine IfK.mk (fun _ => ?_) (fun _ => ?_) <;> with_reducible refine wK ?_))
  | apply trivial)
 all_goals (unfold badA; cases hr : rightS n <;> simp_all)
 by_cases h2 : v.size ≤ 200
 ·rw [decide_eq_true h2, decide_eq_false (by (try simp only [castN]); omega)]; rfl
 ·rw [decide_eq_false h2, decide_eq_true (by (try simp only [castN]); omega)]; rfl
def idxI {α : Type} (p : α → Bool) (l : List α) : Int := match l.findIdx? p with | some i => (i : Int) | none => -1
theorem idxI_hit {α : Type} {p : α → Bool} {l : List α} {k : Nat} {a : α} (h : l[k]? = some a) (hp : p a = true) (hno : ∀ (j : Nat) (x : α), j < k → l[j]? = some x → p x = false) : idxI p l = k := by
 have : l.findIdx? p = some k := by
  rw [List.findIdx?_eq_some_iff_getElem]
  obtain ⟨hk, hx⟩ := List.getElem?_eq_some_iff.1 h
  exact ⟨hk, by rw [hx]; exact hp, fun j hj => by simpa using hno j _ hj (List.getElem?_eq_getElem (by omega))⟩
 rw [idxI, this]
theorem idxI_none {α : Type} {p : α → Bool} {l : List α} (hno : ∀ (j : Nat) (x : α), l[j]? = some x → p x = false) : idxI p l = -1 := by
 have : l.findIdx? p = none := by
  rw [List.findIdx?_eq_none_iff]
  intro x hx
  obtain ⟨j, hj⟩ := List.getElem?_of_mem hx
  exact hno j x hj
 rw [idxI, this]
theorem attr_get {l : List AttrM} {k : Nat} {a : AttrM} (h : l[k]? = some a) : (l.map oAttr)[k]? = some (eAttr a) := by rw [List.getElem?_map, h]; rfl
theorem f183_ok (g : Nat) (cg : Callable Tryz.prog g) (caps : List AV) (hcaps : noRefL caps = true) (p : AttrM → Bool) (l : List AttrM) (hl : l.length ≤ 100000) (hf : ∀ a, a ∈ l → FnOK Tryz.prog g [] (eAttr a :: caps) [] (eBool (p a))) :
  FnOK Tryz.prog 183 [] [eAttrs l, .clo (.func g) [] caps] [] (eInt (idxI p l)) := by
 have hlm : (l.map oAttr).length = l.length := List.length_map ..
 refine FnOK.startC (rvs := [.tmp 4]) G G_good Tryz.func183 rfl Tryz.ntmps183 rfl rfl ?_; with_reducible refine wD ?_
 refine LoopK.use G G_good (fun (k : Nat) => [(0, eAttrs l), (1, .clo (.func g) [] caps), (7, eInt l.length), (8, eInt k)]) (fun _ => []) (fun k => k ≤ l.length ∧ ∀ j x, j < k → l[j]? = some x → p x = false) (fun k => l.length - k) 0 ⟨Nat.zero_le _, fun j x h => by omega⟩
  ⟨⟨rfl, rfl⟩, ⟨rfl, ⟨rfl, trivial, MFL_refl hcaps⟩, by show (l.length : Int) = ((l.map oAttr).length : Int); rw [hlm], rfl, trivial⟩, trivial⟩ ?_
 rintro k ⟨hk, hno⟩
 with_reducible refine wK ?_
 refine IfK.mk (fun h1 => ?_) (fun h1 => ?_) <;> (try simp only [castN] at h1) <;> with_reducible refine wK ?_
 ·simp only [decide_eq_true_eq] at h1
  have hk' : k < l.length := by omega
  obtain ⟨a, ha⟩ : ∃ a, l[k]? = some a := ⟨_, List.getElem?_eq_getElem hk'⟩
  refine IdxK.mk k (eAttr a) rfl (attr_get ha) ?_; with_reducible refine wK ?_
  refine CallK.lit [] (hf a (List.mem_of_getElem? ha)) cg ⟨⟨rfl, rfl, trivial⟩, MFL_refl hcaps⟩ rfl rfl ?_; with_reducible refine wK ?_
  refine IfK.mk (fun h2 => ?_) (fun h2 => ?_) <;> (try simp only [castN] at h2) <;> with_reducible refine wK ?_
  ·(refine eK ?_ ?_ <;> with_reducible repeat' (first | exact trivial | (show _ ∧ _; refine aK ?_ ?_)))
   exact idxI_hit ha h2 hno
  ·refine nK ?_; with_reducible refine wK ?_
   refine NextK.mk (k + 1) ⟨by omega, fun j x hj hx => ?_⟩ (by omega) ⟨⟨rfl, rfl⟩, ⟨rfl, ⟨rfl, trivial, MFL_refl hcaps⟩, rfl, by show ((k + 1 : Nat) : Int) = (k : Int) + 1; omega, trivial⟩, trivial⟩
   rcases Nat.lt_or_ge j k with h6 | h6
   ·exact hno j x h6 hx
   ·have : j = k := by omega
    subst this
    rw [ha] at hx; cases hx; exact h2
 ·(refine eK ?_ ?_ <;> with_reducible repeat' (first | exact trivial | (show _ ∧ _; refine aK ?_ ?_)))
  have : k = l.length := by simp only [decide_eq_false_iff_not] at h1; omega
  exact idxI_none fun j x hx => hno j x (by have := (List.getElem?_eq_some_iff.1 hx).1; omega) hx
theorem f181_ok (g : Nat) (cg : Callable Tryz.prog g) (caps : List AV) (hcaps : noRefL caps = true) (p : AttrM → Bool) (l : List AttrM) (hl : l.length ≤ 100000) (hf : ∀ a, a ∈ l → FnOK Tryz.prog g [] (eAttr a :: caps) [] (eBool (p a))) :
  FnOK Tryz.prog 181 [] [eAttrs l, .clo (.func g) [] caps] [] (eBool (l.any p)) := by
 refine FnOK.startC (rvs := [.tmp 4]) G G_good Tryz.func181 rfl Tryz.ntmps181 rfl rfl ?_; with_reducible refine wD ?_
 refine CallK.lit [] (f183_ok g cg caps hcaps p l hl hf) c183 ⟨rfl, ⟨rfl, trivial, MFL_refl hcaps⟩, trivial⟩ rfl rfl ?_; with_reducible refine wK ?_
 (refine eK ?_ ?_ <;> with_reducible repeat' (first | exact trivial | (show _ ∧ _; refine aK ?_ ?_)))
 unfold idxI
 cases h : l.findIdx? p with
 | none =>
   rw [List.findIdx?_eq_none_iff] at h
   have : l.any p = false := by rw [List.any_eq_false]; intro x hx; rw [h x hx]; simp
   rw [this]; rfl
 | some i =>
   rw [List.findIdx?_eq_some_iff_getElem] at h
   obtain ⟨hi, h1, _⟩ := h
   have : l.any p = true := List.any_eq_true.2 ⟨_, List.getElem_mem hi, h1⟩
   rw [this]; exact (decide_eq_true (Int.natCast_nonneg i)).symm
theorem f132_ok (l : List AttrM) (hl : l.length ≤ 100000) (n : ByteArray) : FnOK Tryz.prog 132 [] [eAttrs l, eStr n] [] (eInt (idxI (fun a => decide (a.name = n)) l)) := by
 refine FnOK.startC (rvs := [.tmp 4]) G G_good Tryz.func132 rfl Tryz.ntmps132 rfl rfl ?_; with_reducible refine wD ?_
 refine CallK.lit [30] (f183_ok 184 c184 [.fptr (eStr n) 0] rfl (fun a => decide (a.name = n)) l hl fun a _ => f184_ok a n) c183 ⟨rfl, ⟨rfl, trivial, ⟨_, _, _, _, _, rfl, rfl, rfl, rfl, rfl, rfl⟩, trivial⟩, trivial⟩ rfl rfl ?_; with_reducible refine wK ?_
 (refine eK ?_ ?_ <;> with_reducible repeat' (first | exact trivial | (show _ ∧ _; refine aK ?_ ?_)))
def okA (a : AttrM) : Bool := rightS a.name && decide (lowS a.name = a.name) && decide (a.value.size ≤ 200)
theorem badA_eq (a : AttrM) : badA a = !okA a := rfl
def hasName (n : ByteArray) (a : AttrM) : Bool := decide (a.name = n)
def posA (l : List AttrM) (n : ByteArray) : Int := idxI (hasName n) l
def rightA (l : List AttrM) : Bool := decide (l.length ≤ 40) && l.all okA && decide ((l.map AttrM.name).Nodup)
def tabFrom (t : List (ByteArray × AttrM)) (l : List AttrM) : List (ByteArray × AttrM) := l.foldl (fun t a => tput a.name a t) t
def tabL (l : List AttrM) : List (ByteArray × AttrM) := tabFrom [] l
theorem tput_len {K α : Type} [DecidableEq K] (k : K) (x : α) : ∀ t : List (K × α), (tput k x t).length = if (tget k t).isSome then t.length else t.length + 1
 | [] => rfl
 | p :: r => by
   simp only [tput, tget]
   split
   ·simp
   ·rw [List.length_cons, tput_len k x r]; split <;> simp
theorem tabFrom_len : ∀ (l : List AttrM) (t : List (ByteArray × AttrM)), (tabFrom t l).length ≤ t.length + l.length ∧ ((tabFrom t l).length = t.length + l.length ↔ (l.map AttrM.name).Nodup ∧ ∀ a ∈ l, (tget a.name t).isSome = false)
 | [], t => by simp [tabFrom]
 | a :: r, t => by
   obtain ⟨h1, h2⟩ := tabFrom_len r (tput a.name a t)
   have hl := tput_len a.name a t
   show (tabFrom (tput a.name a t) r).length ≤ _ ∧ ((tabFrom (tput a.name a t) r).length = _ ↔ _)
   cases hg : (tget a.name t).isSome with
   | true =>
     rw [hg, if_pos rfl] at hl
     refine ⟨by simp only [List.length_cons]; omega, ⟨fun h => ?_, fun h => ?_⟩⟩
     ·simp only [List.length_cons] at h; omega
     ·have := h.2 a (by simp); rw [hg] at this; cases this
   | false =>
     rw [hg, if_neg (by simp)] at hl
     refine ⟨by simp only [List.length_cons]; omega, ?_⟩
     rw [show (tabFrom (tput a.name a t) r).length = t.length + (a :: r).length ↔ (tabFrom (tput a.name a t) r).length = (tput a.name a t).length + r.length from by rw [hl, List.length_cons]; omega, h2]
     simp only [List.map_cons, List.nodup_cons, List.mem_cons, forall_eq_or_imp]
     constructor
     ·rintro ⟨k1, k2⟩
      refine ⟨⟨fun hm => ?_, k1⟩, hg, fun b hb => ?_⟩
      ·obtain ⟨b, hb, he⟩ := List.mem_map.1 hm
       have := k2 b hb
       rw [tget_put, he, if_pos rfl] at this; cases this
      ·have := k2 b hb
       rw [tget_put] at this
       split at this
       ·cases this
       ·exact this
     ·rintro ⟨⟨k1, k2⟩, _, k3⟩
      refine ⟨k2, fun b hb => ?_⟩
      rw [tget_put, if_neg (fun e => k1 (List.mem_map.2 ⟨b, hb, e.symm⟩))]
      exact k3 b hb
theorem tabL_len (l : List AttrM) : (tabL l).length = l.length ↔ (l.map AttrM.name).Nodup := by
 have := (tabFrom_len l []).2
 simp only [List.length_nil, Nat.zero_add] at this
 exact this.trans ⟨fun h => h.1, fun h => ⟨h, fun _ _ => rfl⟩⟩
theorem tabL_le (l : List AttrM) : (tabL l).length ≤ l.length := by
 have := (tabFrom_len l []).1
 simp only [List.length_nil, Nat.zero_add] at this
 exact this
theorem tabL_snoc {l : List AttrM} {k : Nat} {a : AttrM} (h : l[k]? = some a) : tabL (l.take (k + 1)) = tput a.name a (tabL (l.take k)) := by
 have hk := (List.getElem?_eq_some_iff.1 h).1
 rw [List.take_succ_eq_append_getElem hk, (List.getElem?_eq_some_iff.1 h).2]
 simp [tabL, tabFrom, List.foldl_append]
@[reducible] def rTab (l : List AttrM) : MS := .live 2 (tRows Value.string oAttr (tabL l)) false
theorem noRef_tabA (t : List (ByteArray × AttrM)) : noRefL (tRows Value.string oAttr t) = true := by
 rw [noRefL_iff]; intro x hx
 obtain ⟨a, _, rfl⟩ := List.mem_map.1 hx
 rfl
theorem map64 : MapTy Tryz.prog 224 .string (.agg #[.string ByteArray.empty, .string ByteArray.empty]) := ⟨9, 90, by kernel_rfl, by kernel_rfl, fun w => Tryz.zeroValue90 w⟩
theorem f182_ok (l : List AttrM) (hl : l.length ≤ 100000) : FnOK Tryz.prog 182 [] [eAttrs l] [rTab l] (.mapr 0) := by
 have hlm : (l.map oAttr).length = l.length := List.length_map ..
 refine FnOK.startC (rvs := [.tmp 2]) G G_good Tryz.func182 rfl Tryz.ntmps182 rfl rfl ?_; with_reducible refine wD ?_
 refine LoopK.use G G_good (fun (k : Nat) => [(3, .mapr 61), (7, eAttrs l), (8, eInt l.length), (9, eInt k)]) (fun k => [(61, .live 2 (tRows Value.string oAttr (tabL (l.take k))) false)]) (fun k => k ≤ l.length) (fun k => l.length - k) 0 (Nat.zero_le _)
  ⟨⟨rfl, rfl⟩, ⟨trivial, rfl, by show (l.length : Int) = ((l.map oAttr).length : Int); rw [hlm], rfl, trivial⟩, ⟨.refl rfl, rfl⟩, trivial⟩ ?_
 intro k hk
 with_reducible refine wK ?_
 refine IfK.mk (fun h1 => ?_) (fun h1 => ?_) <;> (try simp only [castN] at h1) <;> with_reducible refine wK ?_
 ·simp only [decide_eq_true_eq] at h1
  have hk' : k < l.length := by omega
  obtain ⟨a, ha⟩ : ∃ a, l[k]? = some a := ⟨_, List.getElem?_eq_getElem hk'⟩
  obtain ⟨n, v⟩ := a
  refine IdxK.mk k (eAttr ⟨n, v⟩) rfl (attr_get ha) ?_; with_reducible refine wK ?_
  have hle : (tabL (l.take k)).length ≤ k := Nat.le_trans (tabL_le _) (by simp; omega)
  refine PutK.tab Value.string oAttr (tabL (l.take k)) (k := n) ⟨n, v⟩ map64 rfl key_str inj_str (by unfold maxLen; omega) rfl ?_; with_reducible refine wK ?_
  refine nK ?_; with_reducible refine wK ?_
  refine NextK.mk (k + 1) (by omega) (by omega) ⟨⟨rfl, rfl⟩, ⟨trivial, rfl, rfl, by show ((k + 1 : Nat) : Int) = (k : Int) + 1; omega, trivial⟩, ⟨?_, ?_⟩, trivial⟩
  ·rw [tabL_snoc ha]; exact .refl (noRef_tabA _)
  ·exact noRef_tabA _
 ·(refine eK ?_ ?_ <;> with_reducible repeat' (first | exact trivial | (show _ ∧ _; refine aK ?_ ?_)))
  have : k = l.length := by simp only [decide_eq_false_iff_not] at h1; omega
  rw [this, List.take_length]
  exact MFL_refl (noRef_tabA _)
theorem FnOK.fn1 {P : Program} {f g : FuncId} {a : AV} {outs : List MS} {res : AV} (h : FnOK P f [] [a, .clo (.func g) [] []] outs res) : FnOK P f [] [a, .lit (.func (.func g) #[] #[])] outs res := by
 intro w W0 L vs hL hs hr
 refine h w W0 L vs hL hs ⟨hr.1, fun j c v h1 h2 => ?_⟩
 match j with
 | 0 => exact hr.2 0 c v h1 h2
 | 1 =>
   have := hr.2 1 _ v rfl h2
   cases this
   simp at h1
   subst h1
   exact Rep.clo (va := []) (vb := []) rfl rfl (fun j c v h => by simp at h) (fun j c v h => by simp at h)
 | j + 2 => simp at h1
theorem right_bad (l : List AttrM) : l.any badA = !l.all okA := by
 induction l with
 | nil => rfl
 | cons a r ih => simp [List.any_cons, List.all_cons, ih, badA_eq]
theorem tab_outs (l : List AttrM) : okOuts [rTab l] := by
 refine ⟨Wide.of_mem fun r hr => ?_, noRef_tabA _, trivial⟩
 obtain ⟨p, _, rfl⟩ := List.mem_map.1 hr
 rfl
theorem f131_ok (l : List AttrM) (hl : l.length ≤ 100000) : FnOK Tryz.prog 131 [] [eAttrs l] [] (eBool (rightA l)) := by
 have hlm : (l.map oAttr).length = l.length := List.length_map ..
 refine FnOK.startC (rvs := [.tmp 2]) G G_good Tryz.func131 rfl Tryz.ntmps131 rfl rfl ?_; with_reducible refine wD ?_
 repeat' (first
  | refine aE ?_ ?_
  | ((with_reducible show IfK _ _ _ _); first | refine iK ?_ | (refine IfK.mk (fun _ => ?_) (fun _ => ?_) <;> with_reducible refine wK ?_))
  | ((with_reducible refine kQ 181 ?_); refine CallK.lit [] (FnOK.fn1 (f181_ok 180 c180 [] rfl badA l hl fun a _ => f180_ok a)) c181 ⟨rfl, MF_refl 12 _ rfl, trivial⟩ rfl rfl ?_; with_reducible refine wK ?_)
  | ((with_reducible refine kQ 182 ?_); refine CallK.new 151 [] (f182_ok l hl) c182 ⟨rfl, trivial⟩ rfl rfl rfl (tab_outs l) rfl ?_; with_reducible refine wK ?_)
  | ((with_reducible show CountK _ _ _ _ _ _ _); refine CountK.mk map64 ⟨_, _, rfl⟩ rfl ?_; with_reducible refine wK ?_)
  | apply trivial)
 ·have h2 : l.all okA = true := by have := right_bad l; simp_all
  have e : (tRows Value.string oAttr (tabL l)).length = (tabL l).length := List.length_map ..
  have h3 : l.length ≤ 40 := by simp only [hlm, decide_eq_true_eq] at *; omega
  have h4 := tabL_len l
  unfold rightA
  rw [h2, decide_eq_true h3, e, hlm]
  by_cases hn : (l.map AttrM.name).Nodup
  ·rw [decide_eq_true hn, h4.2 hn]; simp
  ·rw [decide_eq_false hn]
   have : ¬ (tabL l).length = l.length := fun h => hn (h4.1 h)
   rw [decide_eq_false (by (try simp only [castN]); omega)]; rfl
 ·have h2 : l.all okA = false := by have := right_bad l; simp_all
  unfold rightA; rw [h2]; simp
 ·have h2 : decide (l.length ≤ 40) = false := by simp only [hlm, decide_eq_false_iff_not] at *; omega
  unfold rightA; rw [h2]; simp
def noS : ByteArray := ⟨#[]⟩
def findE (l : List AttrM) (n : ByteArray) : Int := if rightA l then (if rightS n then 0 else 4) else 1
def findS (l : List AttrM) (n : ByteArray) : ByteArray := if rightA l && rightS n then lowS n else noS
def findP (l : List AttrM) (n : ByteArray) : Int := if rightA l && rightS n then posA l (lowS n) else -1
theorem f65_ok (l : List AttrM) (hl : l.length ≤ 100000) (n : ByteArray) : FnOK Tryz.prog 65 [] [eAttrs l, eStr n] [] (.tup [eStr (findS l n), eInt (findP l n), eInt (findE l n)]) := by
 refine FnOK.startC (rvs := [.tmp 4, .tmp 5, .tmp 6]) G G_good Tryz.func65 rfl Tryz.ntmps65 rfl rfl ?_; with_reducible refine wD ?_
 repeat' (first
  | refine aE ?_ ?_
  | ((with_reducible show IfK _ _ _ _); first | refine iK ?_ | (refine IfK.mk (fun _ => ?_) (fun _ => ?_) <;> with_reducible refine wK ?_))
  | ((with_reducible refine kQ 131 ?_); refine cL (f131_ok l hl) c131 ?_; with_reducible refine wK ?_)
  | ((with_reducible refine kQ 67 ?_); refine cL (f67_ok _) c67 ?_; with_reducible refine wK ?_)
  | ((with_reducible refine kQ 132 ?_); refine cL (f132_ok l hl _) c132 ?_; with_reducible refine wK ?_)
  | apply trivial)
 all_goals (cases h1 : rightA l <;> cases h2 : rightS n <;> simp_all [findE, findS, findP, noS])
 rfl
def getS (l : List AttrM) (n : ByteArray) : ByteArray := if 0 ≤ findP l n then ((l[(findP l n).toNat]?).map AttrM.value).getD noS else noS
theorem idxI_cases {α : Type} (p : α → Bool) (l : List α) : idxI p l = -1 ∨ ∃ (k : Nat) (a : α), idxI p l = k ∧ l[k]? = some a ∧ p a = true := by
 unfold idxI
 cases h : l.findIdx? p with
 | none => exact .inl rfl
 | some k =>
   rw [List.findIdx?_eq_some_iff_getElem] at h
   obtain ⟨hk, h1, _⟩ := h
   exact .inr ⟨k, _, rfl, List.getElem?_eq_getElem hk, h1⟩
theorem findP_cases (l : List AttrM) (n : ByteArray) : findP l n = -1 ∨ ∃ (k : Nat) (a : AttrM), findP l n = k ∧ l[k]? = some a ∧ a.name = lowS n := by
 unfold findP
 split
 ·rcases idxI_cases (hasName (lowS n)) l with h | ⟨k, a, h1, h2, h3⟩
  ·exact .inl h
  ·exact .inr ⟨k, a, h1, h2, by simpa [hasName] using h3⟩
 ·exact .inl rfl
theorem f23_ok (l : List AttrM) (hl : l.length ≤ 100000) (n : ByteArray) : FnOK Tryz.prog 23 [] [eAttrs l, eStr n] [] (.tup [eStr (getS l n), eBool (decide (0 ≤ findP l n))]) := by
 refine FnOK.startC (rvs := [.tmp 4, .tmp 5]) G G_good Tryz.func23 rfl Tryz.ntmps23 rfl rfl ?_; with_reducible refine wD ?_
 refine cL (f65_ok l hl n) c65 ?_; with_reducible refine wK ?_
 rcases findP_cases l n with h | ⟨k, a, h, ha, hn⟩
 ·simp only [h]
  refine IfK.yes rfl ?_; with_reducible refine wK ?_
  (refine eK ?_ ?_ <;> with_reducible repeat' (first | exact trivial | (show _ ∧ _; refine aK ?_ ?_)))
  ·unfold getS; rw [h]; rfl
  ·rfl
 ·simp only [h]
  refine IfK.no (decide_eq_false (by (try simp only [castN]); omega)) ?_; with_reducible refine wK ?_
  refine IdxK.mk k (eAttr a) rfl (attr_get ha) ?_; with_reducible refine wK ?_
  (refine eK ?_ ?_ <;> with_reducible repeat' (first | exact trivial | (show _ ∧ _; refine aK ?_ ?_)))
  ·unfold getS; rw [h, if_pos (by omega), Int.toNat_natCast, ha]; rfl
  ·exact decide_eq_true (by omega)


end Go.Proofs.Heir
namespace Go.Proofs
open Go.Shelf
def Tryz.lays144_ren : Go.Shelf.Ren := ⟨fun | 144 => 206 | 143 => 222 | 219 => 234 | 217 => 238 | 225 => 239 | 224 => 240 | 267 => 241 | 266 => 244 | 314 => 245 | n => n, fun | 9 => 9 | 4 => 4 | 3 => 3 | 5 => 5 | 46 => 284 | 146 => 288 | 51 => 287 | n => n, fun | 1 => 1 | n => n⟩
theorem Tryz.lays144 : Go.Proofs.Lays.n144 Tryz.prog Tryz.lays144_ren := {
  mixed := by kernel_rfl
  f143 := Tryz.func222.trans (congrArg some (by kernel_rfl))
  f144 := Tryz.func206.trans (congrArg some (by kernel_rfl))
  f217 := Tryz.func238.trans (congrArg some (by kernel_rfl))
  f219 := Tryz.func234.trans (congrArg some (by kernel_rfl))
  f224 := Tryz.func240.trans (congrArg some (by kernel_rfl))
  f225 := Tryz.func239.trans (congrArg some (by kernel_rfl))
  f266 := Tryz.func244.trans (congrArg some (by kernel_rfl))
  f267 := Tryz.func241.trans (congrArg some (by kernel_rfl))
  f314 := Tryz.func245.trans (congrArg some (by kernel_rfl))
  t3 := Tryz.underlying3
  a3 := Tryz.isAgg3
  z3 := Tryz.sizeOf3
  v3 := Tryz.zeroValue3
  t4 := Tryz.underlying4
  a4 := Tryz.isAgg4
  z4 := Tryz.sizeOf4
  v4 := Tryz.zeroValue4
  t5 := Tryz.underlying5
  a5 := Tryz.isAgg5
  z5 := Tryz.sizeOf5
  v5 := Tryz.zeroValue5
  t9 := Tryz.underlying9
  a9 := Tryz.isAgg9
  z9 := Tryz.sizeOf9
  v9 := Tryz.zeroValue9
  t46 := Tryz.underlying284
  a46 := Tryz.isAgg284
  z46 := Tryz.sizeOf284
  v46 := Tryz.zeroValue284
  t51 := Tryz.underlying287
  a51 := Tryz.isAgg287
  z51 := Tryz.sizeOf287
  v51 := Tryz.zeroValue287
  t146 := Tryz.underlying288
  a146 := Tryz.isAgg288
  z146 := Tryz.sizeOf288
  v146 := Tryz.zeroValue288
  g1 := by kernel_rfl }
open Go.RowKit Go.Lib in
theorem Tryz.strings_Contains_one (s : ByteArray) (c : UInt8) (w : World) :
    Calls Tryz.prog 206 #[.string s, .string ⟨#[c]⟩] w fun e w' => e = .returned (.bool (decide (0 ≤ Lib.indexByte s.data.toList c))) ∧ w' = w := Any.strings_Contains_one Tryz.lays144 s c w
end Go.Proofs
namespace Go.Proofs.Heir
open Go Go.Am Go.RowKit Go.Lib
set_option maxRecDepth 100000
set_option maxHeartbeats 8000000
def oStr (s : ByteArray) : AV := eStr s
@[reducible] def eStrs (l : List ByteArray) : AV := .sl 1 (l.map oStr)
@[reducible] def rStrs (l : List ByteArray) : MS := .live 1 (l.map oStr) false
theorem noRef_strs (l : List ByteArray) : noRefL (l.map oStr) = true := by
 rw [noRefL_iff]; intro x hx
 obtain ⟨a, _, rfl⟩ := List.mem_map.1 hx
 rfl
theorem strs_get {l : List ByteArray} {k : Nat} {a : ByteArray} (h : l[k]? = some a) : (l.map oStr)[k]? = some (eStr a) := by rw [List.getElem?_map, h]; rfl
theorem strs_outs (l : List ByteArray) : okOuts [rStrs l] := ⟨Wide.of_mem fun r hr => by obtain ⟨a, _, rfl⟩ := List.mem_map.1 hr; rfl, noRef_strs l, trivial⟩
theorem frz_strs {m : ML} {fz : Nat → Bool} {tab : List (Nat × Nat)} {n t len : Nat} {ro : Bool} {rows : List AV} {l : List ByteArray} (h1 : lkM m t = .live 1 rows ro) (h2 : fz t = true) (h3 : rows = l.map oStr) (h4 : len = l.length) : FrzK m fz (MF tab fz m n) (eStrs l) t 0 len := by
 subst h3; subst h4
 have e : (l.map oStr).length = l.length := List.length_map ..
 exact .cut h1 h2 (by omega) (by rw [List.drop_zero, List.take_of_length_le (by omega)]) (noRef_strs l)
theorem f223_ok (l : List ByteArray) (hl : l.length ≤ 100000) (s : ByteArray) : FnOK Tryz.prog 223 [] [eStrs l, eStr s] [] (eInt (idxI (fun x => decide (x = s)) l)) := by
 have hlm : (l.map oStr).length = l.length := List.length_map ..
 refine FnOK.startC (rvs := [.tmp 4]) G G_good Tryz.func223 rfl Tryz.ntmps223 rfl rfl ?_; with_reducible refine wD ?_
 refine LoopK.use G G_good (fun (k : Nat) => [(0, eStrs l), (1, eStr s), (7, eInt l.length), (8, eInt k)]) (fun _ => []) (fun k => k ≤ l.length ∧ ∀ j x, j < k → l[j]? = some x → decide (x = s) = false) (fun k => l.length - k) 0 ⟨Nat.zero_le _, fun j x h => by omega⟩
  ⟨⟨rfl, rfl⟩, ⟨rfl, rfl, by show (l.length : Int) = ((l.map oStr).length : Int); rw [hlm], rfl, trivial⟩, trivial⟩ ?_
 rintro k ⟨hk, hno⟩
 with_reducible refine wK ?_
 refine IfK.mk (fun h1 => ?_) (fun h1 => ?_) <;> (try simp only [castN] at h1) <;> with_reducible refine wK ?_
 ·simp only [decide_eq_true_eq] at h1
  have hk' : k < l.length := by omega
  obtain ⟨a, ha⟩ : ∃ a, l[k]? = some a := ⟨_, List.getElem?_eq_getElem hk'⟩
  refine IdxK.mk k (eStr a) rfl (strs_get ha) ?_; with_reducible refine wK ?_
  refine IfK.mk (fun h2 => ?_) (fun h2 => ?_) <;> (try simp only [castN] at h2) <;> with_reducible refine wK ?_
  ·(refine eK ?_ ?_ <;> with_reducible repeat' (first | exact trivial | (show _ ∧ _; refine aK ?_ ?_)))
   refine idxI_hit (p := fun x => decide (x = s)) ha ?_ hno
   simp only [decide_eq_true_eq] at h2 ⊢; exact h2.symm
  ·refine nK ?_; with_reducible refine wK ?_
   refine NextK.mk (k + 1) ⟨by omega, fun j x hj hx => ?_⟩ (by omega) ⟨⟨rfl, rfl⟩, ⟨rfl, rfl, rfl, by show ((k + 1 : Nat) : Int) = (k : Int) + 1; omega, trivial⟩, trivial⟩
   rcases Nat.lt_or_ge j k with h3 | h3
   ·exact hno j x h3 hx
   ·have : j = k := by omega
    subst this
    rw [ha] at hx; cases hx
    simp only [decide_eq_false_iff_not] at h2 ⊢; exact fun e => h2 e.symm
 ·(refine eK ?_ ?_ <;> with_reducible repeat' (first | exact trivial | (show _ ∧ _; refine aK ?_ ?_)))
  exact idxI_none fun j x hx => hno j x (by have := (List.getElem?_eq_some_iff.1 hx).1; simp only [decide_eq_false_iff_not] at h1; omega) hx
def hasW (l : List ByteArray) (s : ByteArray) : Bool := l.any fun x => decide (x = s)
theorem hasW_iff {l : List ByteArray} {s : ByteArray} : hasW l s = true ↔ s ∈ l := by
 unfold hasW; rw [List.any_eq_true]
 exact ⟨fun ⟨x, hx, e⟩ => by rw [← of_decide_eq_true e]; exact hx, fun h => ⟨s, h, decide_eq_true rfl⟩⟩
theorem idxI_mem {l : List ByteArray} {s : ByteArray} : decide (0 ≤ idxI (fun x => decide (x = s)) l) = hasW l s := by
 rw [Bool.eq_iff_iff, decide_eq_true_eq, hasW_iff]
 unfold idxI
 cases h : l.findIdx? (fun x => decide (x = s)) with
 | none =>
   rw [List.findIdx?_eq_none_iff] at h
   simp only
   refine ⟨fun h' => by omega, fun hs => ?_⟩
   have := h s hs
   simp at this
 | some k =>
   rw [List.findIdx?_eq_some_iff_getElem] at h
   obtain ⟨hk, h2, _⟩ := h
   simp only
   exact ⟨fun _ => by rw [← of_decide_eq_true h2]; exact List.getElem_mem hk, fun _ => by omega⟩
theorem f207_ok (l : List ByteArray) (hl : l.length ≤ 100000) (s : ByteArray) : FnOK Tryz.prog 207 [] [eStrs l, eStr s] [] (eBool (hasW l s)) := by
 rw [← idxI_mem]
 refine FnOK.startC (rvs := [.tmp 4]) G G_good Tryz.func207 rfl Tryz.ntmps207 rfl rfl ?_; with_reducible refine wD ?_
 refine cL (f223_ok l hl s) c223 ?_; with_reducible refine wK ?_
 (refine eK ?_ ?_ <;> with_reducible repeat' (first | exact trivial | (show _ ∧ _; refine aK ?_ ?_)))
def strB (l : List UInt8) : ByteArray := ⟨l.toArray⟩
def resL : List ByteArray := [strB [97, 110, 110, 111, 116, 97, 116, 105, 111, 110, 45, 120, 109, 108], strB [99, 111, 108, 111, 114, 45, 112, 114, 111, 102, 105, 108, 101], strB [102, 111, 110, 116, 45, 102, 97, 99, 101], strB [102, 111, 110, 116, 45, 102, 97, 99, 101, 45, 115, 114, 99],
 strB [102, 111, 110, 116, 45, 102, 97, 99, 101, 45, 117, 114, 105], strB [102, 111, 110, 116, 45, 102, 97, 99, 101, 45, 102, 111, 114, 109, 97, 116], strB [102, 111, 110, 116, 45, 102, 97, 99, 101, 45, 110, 97, 109, 101], strB [109, 105, 115, 115, 105, 110, 103, 45, 103, 108, 121, 112, 104]]
theorem f208_ok : FnOK Tryz.prog 208 [] [] [rStrs resL] (.own 0 0 8) := by
 refine FnOK.startC (rvs := [.tmp 0]) G G_good Tryz.func208 rfl Tryz.ntmps208 rfl rfl ?_; with_reducible refine wD ?_
 (refine eK ?_ ?_ <;> with_reducible repeat' (first | exact trivial | (show _ ∧ _; refine aK ?_ ?_)))
 all_goals first | rfl | exact MFL_refl (noRef_strs resL)
theorem f206_ok (s : ByteArray) (c : UInt8) : FnOK Tryz.prog 206 [] [eStr s, eStr ⟨#[c]⟩] [] (eBool (decide (0 ≤ Lib.indexByte s.data.toList c))) :=
 FnOK.of_calls (vs := [.string s, .string ⟨#[c]⟩]) (v := .bool _) fun w _ => (Go.Proofs.Tryz.strings_Contains_one s c w).mono fun e w' ⟨h1, h2⟩ => ⟨h1, by rw [h2]; exact Below.refl _ w⟩
theorem cut_strOf (s : ByteArray) (a b : Nat) : s.extract a b = strOf ((s.data.toList.take b).drop a) := by
 obtain ⟨l, rfl⟩ : ∃ l : List UInt8, s = ⟨l.toArray⟩ := ⟨s.data.toList, by obtain ⟨⟨l⟩⟩ := s; rfl⟩
 rw [ByteArray.extract_mk]
 unfold strOf
 rw [List.drop_take]
@[reducible] def knowB : List UInt8 := [97, 32, 98, 32, 98, 117, 116, 116, 111, 110, 32, 100, 105, 118, 32, 102, 105, 101, 108, 100, 115, 101, 116, 32, 102, 111, 114, 109, 32, 105, 32, 105, 110, 112, 117, 116, 32, 108, 97, 98, 101, 108, 32, 108, 101, 103, 101, 110, 100, 32, 108, 105, 32, 111, 112, 116, 105, 111, 110, 32, 111, 117, 116, 112, 117, 116, 32, 112, 32, 115, 101, 108, 101, 99, 116, 32, 115, 112, 97, 110, 32, 116, 101, 109, 112, 108, 97, 116, 101, 32, 116, 101, 120, 116, 97, 114, 101, 97, 32, 117, 108]
def knowL : List ByteArray := (Lib.fields knowB).map strB
@[reducible] def resB : List UInt8 := [97, 110, 110, 111, 116, 97, 116, 105, 111, 110, 45, 120, 109, 108, 32, 99, 111, 108, 111, 114, 45, 112, 114, 111, 102, 105, 108, 101, 32, 102, 111, 110, 116, 45, 102, 97, 99, 101, 32, 102, 111, 110, 116, 45, 102, 97, 99, 101, 45, 115, 114, 99, 32, 102, 111, 110, 116, 45, 102, 97, 99, 101, 45, 117, 114, 105, 32, 102, 111, 110, 116, 45, 102, 97, 99, 101, 45, 102, 111, 114, 109, 97, 116, 32, 102, 111, 110, 116, 45, 102, 97, 99, 101, 45, 110, 97, 109, 101, 32, 109, 105, 115, 115, 105, 110, 103, 45, 103, 108, 121, 112, 104]
def dashB (l : List UInt8) : Bool := l.any (fun b => decide (b = 45))
def capsB (l : List UInt8) : Bool := l.any (fun b => capC (b.toNat : Int))
def lowFirst : List UInt8 → Bool
 | [] => false
 | b :: _ => smallC (b.toNat : Int)
def customS (s : ByteArray) : Bool := rightS s && (lowFirst s.data.toList && (!capsB s.data.toList && (dashB s.data.toList && !hasW resL s)))
theorem dash_index (l : List UInt8) : decide (0 ≤ Lib.indexByte l 45) = dashB l := by
 rw [Bool.eq_iff_iff, decide_eq_true_eq]
 unfold dashB
 rw [List.any_eq_true]
 constructor
 ·intro h
  obtain ⟨o, ho⟩ : ∃ o : Nat, Lib.indexByte l 45 = o := ⟨(Lib.indexByte l 45).toNat, by omega⟩
  obtain ⟨h1, _⟩ := Lib.indexByte_some ho
  exact ⟨45, List.mem_of_getElem? h1, rfl⟩
 ·rintro ⟨b, hb, e⟩
  have := of_decide_eq_true e; subst this
  rcases Int.lt_or_le (Lib.indexByte l 45) 0 with h | h
  ·have : Lib.indexByte l 45 = -1 := by have := Lib.indexByte_ge l 45; omega
   obtain ⟨k, hk⟩ := List.getElem?_of_mem hb
   exact absurd hk (Lib.indexByte_none this k)
  ·exact h
theorem idx_plain (p : Nat → Bool) (s : ByteArray) (hs : ∀ b ∈ s.data.toList, b.toNat < 128) : ∀ (f pos : Nat), s.size ≤ pos + f → (0 ≤ idxFuncFrom p true s f pos ↔ ∃ i, pos ≤ i ∧ ∃ b, s.data.toList[i]? = some b ∧ p b.toNat = true)
 | 0, pos, h => by
   have : ¬ (0 : Int) ≤ idxFuncFrom p true s 0 pos := by simp [idxFuncFrom]
   refine ⟨fun h' => absurd h' this, ?_⟩
   rintro ⟨i, h1, b, h2, _⟩
   have := (List.getElem?_eq_some_iff.1 h2).1
   have : i < s.size := this
   omega
 | f + 1, pos, h => by
   by_cases hp : pos < s.size
   ·have ih := idx_plain p s hs f
    obtain ⟨b, hb1, hb2⟩ : ∃ b, s.data.toList[pos]? = some b ∧ s.get! pos = b := ⟨_, List.getElem?_eq_getElem hp, by show s.data[pos]! = _; rw [getElem!_pos s.data pos hp]; rfl⟩
    have hb3 := hs b (List.mem_of_getElem? hb1)
    unfold idxFuncFrom
    rw [if_pos hp, decode_at, hb2]
    have hd : ∀ n b1 b2 b3, decodeN n b.toNat b1 b2 b3 = (b.toNat, 1) := fun n b1 b2 b3 => by rw [decodeN, if_pos hb3]
    rw [hd]
    show (0 : Int) ≤ (if p b.toNat = true then (pos : Int) else idxFuncFrom p true s f (pos + 1)) ↔ _
    cases hpb : p b.toNat with
    | true => exact ⟨fun _ => ⟨pos, Nat.le_refl _, b, hb1, hpb⟩, fun _ => by simp⟩
    | false =>
      rw [if_neg (by simp), ih (pos + 1) (by omega)]
      constructor
      ·rintro ⟨i, h3, h4⟩; exact ⟨i, by omega, h4⟩
      ·rintro ⟨i, h3, b', h4, h5⟩
       rcases Nat.lt_or_ge pos i with h6 | h6
       ·exact ⟨i, h6, b', h4, h5⟩
       ·have : i = pos := by omega
        subst this
        rw [hb1] at h4; cases h4
        rw [hpb] at h5; cases h5
   ·rw [idxFuncFrom_end _ _ _ _ _ hp]
    refine ⟨fun h' => by omega, ?_⟩
    rintro ⟨i, h1, b, h2, _⟩
    have := (List.getElem?_eq_some_iff.1 h2).1
    have : i < s.size := this
    omega
theorem right_plain {s : ByteArray} (h : rightS s = true) : ∀ b ∈ s.data.toList, b.toNat < 128 := by
 intro b hb
 unfold rightS rightL at h
 simp only [Bool.and_eq_true, List.all_eq_true] at h
 have := h.1.2 b hb
 unfold signB signC smallC capC at this
 simp only [Bool.or_eq_true, Bool.and_eq_true, decide_eq_true_eq] at this
 omega
theorem caps_index {s : ByteArray} (h : rightS s = true) : decide (0 ≤ idxFunc (fun r => capC (r : Int)) true s) = capsB s.data.toList := by
 rw [Bool.eq_iff_iff, decide_eq_true_eq]
 unfold capsB
 rw [List.any_eq_true]
 have := idx_plain (fun r => capC (r : Int)) s (right_plain h) s.size 0 (by omega)
 refine Iff.trans this ⟨?_, ?_⟩
 ·rintro ⟨i, _, b, h1, h2⟩; exact ⟨b, List.mem_of_getElem? h1, h2⟩
 ·rintro ⟨b, h1, h2⟩
  obtain ⟨i, hi⟩ := List.getElem?_of_mem h1
  exact ⟨i, Nat.zero_le _, b, hi, h2⟩
theorem f20c_ok (s : ByteArray) (h : rightS s = true) : FnOK Tryz.prog 185 [] [eStr s, .lit (.func (.func 179) #[] #[])] [] (eBool (capsB s.data.toList)) := by
 rw [← caps_index h]
 exact FnOK.of_calls (vs := [.string s, .func (.func 179) #[] #[]]) fun w ht => f185_calls 179 c179 (fun r => capC (r : Int)) s w ht fun W x ht _ => (f179_ok (x : Int)).below (vs := [.int .i32 (x : Int)]) W ht
theorem right_first {s : ByteArray} (h : rightS s = true) : ∃ b r, s.data.toList = b :: r := by
 unfold rightS rightL at h
 simp only [Bool.and_eq_true, decide_eq_true_eq] at h
 obtain ⟨b, r, e, _⟩ := first_get h.1.1.1
 exact ⟨b, r, e⟩
theorem f174_ok (s : ByteArray) : FnOK Tryz.prog 174 [] [eStr s] [] (eBool (customS s)) := by
 refine FnOK.startC (rvs := [.tmp 2]) G G_good Tryz.func174 rfl Tryz.ntmps174 rfl rfl ?_; with_reducible refine wD ?_
 refine cL (f133_ok s) c133 ?_; with_reducible refine wK ?_
 unfold customS
 cases hr : rightS s with
 | false =>
   repeat' (first
  | refine aE ?_ ?_
  | ((with_reducible show IfK _ _ _ _); first | refine iK ?_ | (refine IfK.mk (fun _ => ?_) (fun _ => ?_) <;> with_reducible refine wK ?_))
  | apply trivial)
   all_goals rfl
 | true =>
   obtain ⟨b, r, hb⟩ := right_first hr
   have hb0 : s.data.toList[0]? = some b := by rw [hb]; rfl
   have hlf : lowFirst s.data.toList = smallC (b.toNat : Int) := by rw [hb]; rfl
   have hda := dash_index s.data.toList
   have f25 := f206_ok s 45
   rw [hda] at f25
   refine IfK.tt ?_; with_reducible refine wK ?_
   refine IdxSK.mk 0 b rfl hb0 ?_; with_reducible refine wK ?_
   refine ConvK.int (by kernel_rfl) (by kernel_rfl) (u8_i32 _) ?_; with_reducible refine wK ?_
   refine cL (f188_ok _) c188 ?_; with_reducible refine wK ?_
   repeat' (first
  | refine aE ?_ ?_
  | ((with_reducible show IfK _ _ _ _); first | refine iK ?_ | (refine IfK.mk (fun _ => ?_) (fun _ => ?_) <;> with_reducible refine wK ?_))
  | ((with_reducible refine kQ 185 ?_); refine cL (f20c_ok s hr) c185 ?_; with_reducible refine wK ?_)
  | ((with_reducible refine kQ 206 ?_); refine cL f25 c206 ?_; with_reducible refine wK ?_)
  | ((with_reducible refine kQ 208 ?_); refine CallK.new 211 [] f208_ok c208 trivial rfl rfl rfl (strs_outs resL) rfl ?_; with_reducible refine wK ?_)
  | ((with_reducible refine kQ 207 ?_); refine CallK.lit [211] (f207_ok resL (by decide) s) c207 ⟨frz_strs rfl rfl rfl rfl, rfl, trivial⟩ rfl rfl ?_; with_reducible refine wK ?_)
  | apply trivial)
   all_goals (rw [hlf]; clear hb hb0 hda f25 hlf; rw [show s.data.toList = s.1.1 from rfl]; simp_all)

def oInt (n : Int) : AV := eInt n
def vInt (n : Int) : Value := .int .i64 n
@[reducible] def eInts (l : List Int) : AV := .sl 1 (l.map oInt)
theorem int_get {l : List Int} {k : Nat} {x : Int} (h : l[k]? = some x) : (l.map oInt)[k]? = some (eInt x) := by rw [List.getElem?_map, h]; rfl
structure NodeM where
 kind : Int
 name : ByteArray
 is : ByteArray
 data : ByteArray
 attrs : List AttrM
 parent : Int
 kids : List Int
 host : Int
 under : Int
 doc : Int
structure ForM where
 nodes : List NodeM
 most : Int
def noNode : NodeM := ⟨0, ⟨#[]⟩, ⟨#[]⟩, ⟨#[]⟩, [], 0, [], 0, 0, 0⟩
def nd (l : List NodeM) (n : Int) : NodeM := (l[n.toNat]?).getD noNode
def thereN (l : List NodeM) (n : Int) : Bool := decide (0 ≤ n) && decide (n < (l.length : Int))
def isN (l : List NodeM) (n k : Int) : Bool := thereN l n && decide ((nd l n).kind = k)
def holdK (k : Int) : Bool := decide (k = 0) || decide (k = 1) || decide (k = 3) || decide (k = 4)
def hasI (l : List Int) (n : Int) : Bool := decide (n ∈ l)
def upN (x : NodeM) : Int := if x.parent = -1 then x.host else x.parent
def ownedN (l : List NodeM) (n : Int) (x : NodeM) : Bool := isN l x.doc 0 && (decide (x.kind ≠ 0) || decide (x.doc = n))
def hungN (l : List NodeM) (n : Int) (x : NodeM) : Bool := decide (x.parent = -1) || ((decide (x.kind = 1) || decide (x.kind = 2)) && thereN l x.parent && holdK (nd l x.parent).kind && hasI (nd l x.parent).kids n)
def kidOK (l : List NodeM) (n : Int) (x : NodeM) (pre : List Int) (c : Int) : Bool :=
 thereN l c && !hasI pre c && decide ((nd l c).parent = n) && decide ((nd l c).doc = x.doc) && (decide ((nd l c).kind = 1) || (decide ((nd l c).kind = 2) && decide (x.kind ≠ 0)))
def kidsOK (l : List NodeM) (n : Int) (x : NodeM) : List Int → List Int → Bool
 | _, [] => true
 | pre, c :: r => kidOK l n x pre c && kidsOK l n x (pre ++ [c]) r
def elemsN (l : List NodeM) (cs : List Int) : Nat := cs.countP (fun c => decide ((nd l c).kind = 1))
def bearsN (l : List NodeM) (n : Int) (x : NodeM) : Bool :=
 kidsOK l n x [] x.kids && ((holdK x.kind || decide (x.kids = [])) && (decide (x.kind ≠ 0) || decide (elemsN l x.kids ≤ 1)))
def shadedN (l : List NodeM) (n : Int) (x : NodeM) : Bool :=
 (if x.kind = 4 then isN l x.host 1 && decide ((nd l x.host).under = n) && decide ((nd l x.host).doc = x.doc) else decide (x.host = -1)) &&
 (decide (x.under = -1) || (decide (x.kind = 1) && isN l x.under 4 && decide ((nd l x.under).host = n)))
def endsN (l : List NodeM) : Nat → Int → Bool
 | 0, _ => false
 | m + 1, n => if upN (nd l n) = -1 then true else endsN l m (upN (nd l n))
def namedN (x : NodeM) : Bool :=
 if x.kind = 1 then rightS x.name && decide (lowS x.name = x.name) && (decide (x.is = ⟨#[]⟩) || customS x.is) && decide (x.data = ⟨#[]⟩) && rightA x.attrs
 else if x.kind = 2 then decide (x.data.size ≤ 200) && decide (x.name = ⟨#[]⟩) && decide (x.is = ⟨#[]⟩) && decide (x.attrs = [])
 else if x.kind = 0 ∨ x.kind = 3 ∨ x.kind = 4 then decide (x.name = ⟨#[]⟩) && decide (x.is = ⟨#[]⟩) && decide (x.data = ⟨#[]⟩) && decide (x.attrs = [])
 else false
def nodeOK (l : List NodeM) (n : Int) (x : NodeM) : Bool := namedN x && (ownedN l n x && (hungN l n x && (bearsN l n x && shadedN l n x)))
def headOK (f : ForM) : Bool := decide (1 ≤ f.most) && decide (f.most ≤ 400) && decide (1 ≤ f.nodes.length) && decide ((f.nodes.length : Int) ≤ f.most) && decide ((nd f.nodes 0).kind = 0)
def allIx {α : Type} (p : Nat → α → Bool) : Nat → List α → Bool
 | _, [] => true
 | i, x :: r => p i x && allIx p (i + 1) r
def rightF (f : ForM) : Bool := headOK f && (allIx (fun k x => nodeOK f.nodes k x) 0 f.nodes && allIx (fun k _ => endsN f.nodes f.nodes.length k) 0 f.nodes)
def shortF (f : ForM) : Bool := decide (f.nodes.length ≤ 60) && f.nodes.all (fun x => decide (x.kids.length ≤ 60) && decide (x.attrs.length ≤ 60) && decide (x.name.size ≤ 300))
structure SmallN (l : List NodeM) : Prop where
 len : l.length ≤ 64
 kids : ∀ x ∈ l, x.kids.length ≤ 60
 attrs : ∀ x ∈ l, x.attrs.length ≤ 60
 name : ∀ x ∈ l, x.name.size ≤ 300
theorem shortF_small {f : ForM} (h : shortF f = true) : SmallN f.nodes := by
 unfold shortF at h
 simp only [Bool.and_eq_true, decide_eq_true_eq, List.all_eq_true] at h
 obtain ⟨h1, h2⟩ := h
 exact ⟨by omega, fun x hx => (h2 x hx).1.1, fun x hx => (h2 x hx).1.2, fun x hx => (h2 x hx).2⟩
theorem nd_get {l : List NodeM} {k : Nat} {x : NodeM} (h : l[k]? = some x) : nd l (k : Int) = x := by unfold nd; rw [Int.toNat_natCast, h]; rfl
theorem there_get {l : List NodeM} {k : Nat} {x : NodeM} (h : l[k]? = some x) : thereN l (k : Int) = true := by
 unfold thereN
 have := (List.getElem?_eq_some_iff.1 h).1
 simp; omega
theorem there_iff {l : List NodeM} {n : Int} : thereN l n = true ↔ ∃ (k : Nat) (x : NodeM), n = (k : Int) ∧ l[k]? = some x ∧ nd l n = x := by
 constructor
 ·intro h
  unfold thereN at h
  simp only [Bool.and_eq_true, decide_eq_true_eq] at h
  have hk : n.toNat < l.length := by omega
  have hn : n = (n.toNat : Int) := by omega
  refine ⟨n.toNat, l[n.toNat], hn, List.getElem?_eq_getElem hk, ?_⟩
  unfold nd; rw [List.getElem?_eq_getElem hk]; rfl
 ·rintro ⟨k, x, rfl, h, _⟩
  exact there_get h
theorem allIx_iff {α : Type} {p : Nat → α → Bool} : ∀ {i : Nat} {l : List α}, allIx p i l = true ↔ ∀ k x, l[k]? = some x → p (i + k) x = true
 | i, [] => by simp [allIx]
 | i, a :: r => by
   simp only [allIx, Bool.and_eq_true, allIx_iff (i := i + 1) (l := r)]
   constructor
   ·rintro ⟨h1, h2⟩ k x hx
    cases k with
    | zero => simp at hx; subst hx; exact h1
    | succ k => have := h2 k x (by simpa using hx); rw [show i + (k + 1) = i + 1 + k from by omega]; exact this
   ·intro h
    refine ⟨h 0 a rfl, fun k x hx => ?_⟩
    have := h (k + 1) x (by simpa using hx)
    rw [show i + 1 + k = i + (k + 1) from by omega]; exact this
@[reducible] def eNode (x : NodeM) : AV := .agg [eInt x.kind, eStr x.name, eStr x.is, eStr x.data, eAttrs x.attrs, eInt x.parent, eInts x.kids, eInt x.host, eInt x.under, eInt x.doc]
def oNode (x : NodeM) : AV := eNode x
@[reducible] def eNodes (l : List NodeM) : AV := .sl 10 (l.map oNode)
@[reducible] def eFor (f : ForM) : AV := .agg [eNodes f.nodes, eInt f.most]
theorem node_get {l : List NodeM} {k : Nat} {x : NodeM} (h : l[k]? = some x) : (l.map oNode)[k]? = some (eNode x) := by rw [List.getElem?_map, h]; rfl
theorem f129_ok (f : ForM) (n : Int) : FnOK Tryz.prog 129 [] [eFor f, eInt n] [] (eBool (thereN f.nodes n)) := by
 obtain ⟨l, m⟩ := f
 have hlm : (l.map oNode).length = l.length := List.length_map ..
 refine FnOK.startC (rvs := [.tmp 4]) G G_good Tryz.func129 rfl Tryz.ntmps129 rfl rfl ?_; with_reducible refine wD ?_
 by_cases h : (0 : Int) ≤ n
 ·(have fct := h; (repeat' (first
  | refine gF ?_ | refine aE ?_ ?_
  | apply trivial)); all_goals clear fct)
  all_goals simp [thereN, h]
 ·(have fct := (eq_false h); (repeat' (first
  | refine gF ?_ | refine aE ?_ ?_
  | apply trivial)); all_goals clear fct)
  all_goals simp [thereN, h]
theorem f175_ok (k : Int) : FnOK Tryz.prog 175 [] [eInt k] [] (eBool (holdK k)) := by
 refine FnOK.startC (rvs := [.tmp 2]) G G_good Tryz.func175 rfl Tryz.ntmps175 rfl rfl ?_; with_reducible refine wD ?_
 by_cases e0 : k = 0
 ·(have fct := e0; (repeat' (first
  | refine gF ?_ | refine aE ?_ ?_
  | apply trivial)); all_goals clear fct)
  all_goals simp [holdK, e0]
 ·by_cases e1 : k = 1
  ·(have fct := e1; (repeat' (first
  | refine gF ?_ | refine aE ?_ ?_
  | apply trivial)); all_goals clear fct)
   all_goals simp [holdK, e1]
  ·by_cases e3 : k = 3
   ·(have fct := e3; (repeat' (first
  | refine gF ?_ | refine aE ?_ ?_
  | apply trivial)); all_goals clear fct)
    all_goals simp [holdK, e3]
   ·by_cases e4 : k = 4
    ·(have fct := e4; (repeat' (first
  | refine gF ?_ | refine aE ?_ ?_
  | apply trivial)); all_goals clear fct)
     all_goals simp [holdK, e4]
    ·(have fct := And.intro e0 (And.intro e1 (And.intro e3 (e4))); (repeat' (first
  | refine gF ?_ | refine aE ?_ ?_
  | apply trivial)); all_goals clear fct)
     all_goals simp [holdK, e0, e1, e3, e4]
theorem f136_ok (f : ForM) (n k : Int) : FnOK Tryz.prog 136 [] [eFor f, eInt n, eInt k] [] (eBool (isN f.nodes n k)) := by
 have h49 := f129_ok f n
 obtain ⟨l, m⟩ := f
 refine FnOK.startC (rvs := [.tmp 6]) G G_good Tryz.func136 rfl Tryz.ntmps136 rfl rfl ?_; with_reducible refine wD ?_
 refine cL h49 c129 ?_; with_reducible refine wK ?_
 cases ht : thereN l n with
 | false =>
   (have fct := ht; (repeat' (first
  | refine gF ?_ | refine aE ?_ ?_
  | apply trivial)); all_goals clear fct)
   all_goals simp [isN, ht]
 | true =>
   obtain ⟨i, x, rfl, hx, hnd⟩ := there_iff.1 ht
   obtain ⟨a1, a2, a3, a4, a5, a6, a7, a8, a9, a10⟩ := x
   (have fct := ht; (repeat' (first
  | refine gF ?_ | refine aE ?_ ?_
  | ((refine IdxK.mk i (eNode _) rfl (node_get hx) ?_) <;> with_reducible refine wK ?_)
  | apply trivial)); all_goals clear fct)
   all_goals simp [isN, ht, hnd]
theorem f73_ok (l : List Int) (hl : l.length ≤ 100000) (n : Int) : FnOK Tryz.prog 73 [] [eInts l, eInt n] [] (eInt (idxI (fun x => decide (x = n)) l)) := by
 have hlm : (l.map oInt).length = l.length := List.length_map ..
 refine FnOK.startC (rvs := [.tmp 4]) G G_good Tryz.func73 rfl Tryz.ntmps73 rfl rfl ?_; with_reducible refine wD ?_
 refine LoopK.use G G_good (fun (k : Nat) => [(0, eInts l), (1, eInt n), (7, eInt l.length), (8, eInt k)]) (fun _ => []) (fun k => k ≤ l.length ∧ ∀ j x, j < k → l[j]? = some x → decide (x = n) = false) (fun k => l.length - k) 0 ⟨Nat.zero_le _, fun j x h => by omega⟩
  ⟨⟨rfl, rfl⟩, ⟨rfl, rfl, by show (l.length : Int) = ((l.map oInt).length : Int); rw [hlm], rfl, trivial⟩, trivial⟩ ?_
 rintro k ⟨hk, hno⟩
 with_reducible refine wK ?_
 refine IfK.mk (fun h1 => ?_) (fun h1 => ?_) <;> (try simp only [castN] at h1) <;> with_reducible refine wK ?_
 ·have hk' : k < l.length := by simp only [decide_eq_true_eq] at h1; omega
  obtain ⟨a, ha⟩ : ∃ a, l[k]? = some a := ⟨_, List.getElem?_eq_getElem hk'⟩
  refine IdxK.mk k (eInt a) rfl (int_get ha) ?_; with_reducible refine wK ?_
  refine IfK.mk (fun h2 => ?_) (fun h2 => ?_) <;> (try simp only [castN] at h2) <;> with_reducible refine wK ?_
  ·(refine eK ?_ ?_ <;> with_reducible repeat' (first | exact trivial | (show _ ∧ _; refine aK ?_ ?_)))
   refine idxI_hit (p := fun x => decide (x = n)) ha ?_ hno
   simp only [decide_eq_true_eq] at h2 ⊢; exact h2.symm
  ·refine nK ?_; with_reducible refine wK ?_
   refine NextK.mk (k + 1) ⟨by omega, fun j x hj hx => ?_⟩ (by omega) ⟨⟨rfl, rfl⟩, ⟨rfl, rfl, rfl, by show ((k + 1 : Nat) : Int) = (k : Int) + 1; omega, trivial⟩, trivial⟩
   rcases Nat.lt_or_ge j k with h3 | h3
   ·exact hno j x h3 hx
   ·have : j = k := by omega
    subst this
    rw [ha] at hx; cases hx
    simp only [decide_eq_false_iff_not] at h2 ⊢; exact fun e => h2 e.symm
 ·(refine eK ?_ ?_ <;> with_reducible repeat' (first | exact trivial | (show _ ∧ _; refine aK ?_ ?_)))
  exact idxI_none fun j x hx => hno j x (by have := (List.getElem?_eq_some_iff.1 hx).1; simp only [decide_eq_false_iff_not] at h1; omega) hx
theorem idxI_has {l : List Int} {n : Int} : decide (0 ≤ idxI (fun x => decide (x = n)) l) = hasI l n := by
 rw [Bool.eq_iff_iff, decide_eq_true_eq]
 unfold hasI
 rw [decide_eq_true_eq]
 unfold idxI
 cases h : l.findIdx? (fun x => decide (x = n)) with
 | none =>
   rw [List.findIdx?_eq_none_iff] at h
   simp only
   refine ⟨fun h' => by omega, fun hs => ?_⟩
   have := h n hs
   simp at this
 | some k =>
   rw [List.findIdx?_eq_some_iff_getElem] at h
   obtain ⟨hk, h2, _⟩ := h
   simp only
   exact ⟨fun _ => by rw [← of_decide_eq_true h2]; exact List.getElem_mem hk, fun _ => by omega⟩
theorem f176_ok (l : List Int) (hl : l.length ≤ 100000) (n : Int) : FnOK Tryz.prog 176 [] [eInts l, eInt n] [] (eBool (hasI l n)) := by
 rw [← idxI_has]
 refine FnOK.startC (rvs := [.tmp 4]) G G_good Tryz.func176 rfl Tryz.ntmps176 rfl rfl ?_; with_reducible refine wD ?_
 refine cL (f73_ok l hl n) c73 ?_; with_reducible refine wK ?_
 (refine eK ?_ ?_ <;> with_reducible repeat' (first | exact trivial | (show _ ∧ _; refine aK ?_ ?_)))
theorem f177_ok (f : ForM) (k : Nat) (x : NodeM) (hx : f.nodes[k]? = some x) : FnOK Tryz.prog 177 [] [eFor f, eInt k] [] (eInt (upN x)) := by
 obtain ⟨l, m⟩ := f
 obtain ⟨a1, a2, a3, a4, a5, a6, a7, a8, a9, a10⟩ := x
 refine FnOK.startC (rvs := [.tmp 4]) G G_good Tryz.func177 rfl Tryz.ntmps177 rfl rfl ?_; with_reducible refine wD ?_
 refine IdxK.mk k (eNode _) rfl (node_get hx) ?_; with_reducible refine wK ?_
 unfold upN
 by_cases e : a6 = -1
 ·(have fct := e; (repeat' (first
  | refine gF ?_ | refine aE ?_ ?_
  | ((refine IdxK.mk k (eNode _) rfl (node_get hx) ?_) <;> with_reducible refine wK ?_)
  | apply trivial)); all_goals clear fct)
  all_goals simp [e]
 ·(have fct := (eq_false e); (repeat' (first
  | refine gF ?_ | refine aE ?_ ?_
  | ((refine IdxK.mk k (eNode _) rfl (node_get hx) ?_) <;> with_reducible refine wK ?_)
  | apply trivial)); all_goals clear fct)
  all_goals simp [e]
theorem f116_ok (f : ForM) (k : Nat) (x : NodeM) (hx : f.nodes[k]? = some x) : FnOK Tryz.prog 116 [] [eFor f, eInt k] [] (eBool (ownedN f.nodes k x)) := by
 have h55 := f136_ok f x.doc 0
 obtain ⟨l, m⟩ := f
 obtain ⟨a1, a2, a3, a4, a5, a6, a7, a8, a9, a10⟩ := x
 unfold ownedN
 simp only at h55 hx ⊢
 refine FnOK.startC (rvs := [.tmp 4]) G G_good Tryz.func116 rfl Tryz.ntmps116 rfl rfl ?_; with_reducible refine wD ?_
 refine IdxK.mk k (eNode _) rfl (node_get hx) ?_; with_reducible refine wK ?_
 refine cL h55 c136 ?_; with_reducible refine wK ?_
 cases hi : isN l a10 0 with
 | false =>
   (have fct := hi; (repeat' (first
  | refine gF ?_ | refine aE ?_ ?_
  | apply trivial)); all_goals clear fct)
   all_goals simp [hi]
 | true =>
   by_cases e : a1 = 0
   ·(have fct := And.intro hi (e); (repeat' (first
  | refine gF ?_ | refine aE ?_ ?_
  | apply trivial)); all_goals clear fct)
    all_goals simp [hi, e]
   ·(have fct := And.intro hi ((eq_false e)); (repeat' (first
  | refine gF ?_ | refine aE ?_ ?_
  | apply trivial)); all_goals clear fct)
    all_goals simp [hi, e]
theorem f117_ok (f : ForM) (hs : SmallN f.nodes) (k : Nat) (x : NodeM) (hx : f.nodes[k]? = some x) : FnOK Tryz.prog 117 [] [eFor f, eInt k] [] (eBool (hungN f.nodes k x)) := by
 have h49 := f129_ok f x.parent
 have h56 := f175_ok (nd f.nodes x.parent).kind
 have h57 : thereN f.nodes x.parent = true → FnOK Tryz.prog 176 [] [eInts (nd f.nodes x.parent).kids, eInt k] [] (eBool (hasI (nd f.nodes x.parent).kids k)) := fun ht => by
  obtain ⟨i, y, _, hy, hnd⟩ := there_iff.1 ht
  rw [hnd]
  exact f176_ok y.kids (by have := hs.kids y (List.mem_of_getElem? hy); omega) k
 obtain ⟨l, m⟩ := f
 obtain ⟨a1, a2, a3, a4, a5, a6, a7, a8, a9, a10⟩ := x
 unfold hungN
 simp only at h49 h56 h57 hx ⊢
 refine FnOK.startC (rvs := [.tmp 4]) G G_good Tryz.func117 rfl Tryz.ntmps117 rfl rfl ?_; with_reducible refine wD ?_
 refine IdxK.mk k (eNode _) rfl (node_get hx) ?_; with_reducible refine wK ?_
 by_cases e6 : a6 = -1
 ·(have fct := e6; (repeat' (first
  | refine gF ?_ | refine aE ?_ ?_
  | apply trivial)); all_goals clear fct)
  all_goals simp [e6]
 ·refine IfK.no (by simp [e6]) ?_; with_reducible refine wK ?_
  have rest : ∀ b : Bool, (decide (a1 = 1) || decide (a1 = 2)) = b → (b = false ∨ b = true) := fun b _ => by cases b <;> simp
  cases ht : thereN l a6 with
  | false =>
    by_cases e1 : a1 = 1
    ·(have fct := And.intro e1 (And.intro ht ((eq_false e6))); (repeat' (first
  | refine gF ?_ | refine aE ?_ ?_
  | (((with_reducible refine kQ 129 ?_); refine cL h49 c129 ?_) <;> with_reducible refine wK ?_)
  | apply trivial)); all_goals clear fct)
     all_goals simp [e1, ht, e6]
    ·by_cases e2 : a1 = 2
     ·(have fct := And.intro e2 (And.intro ht ((eq_false e6))); (repeat' (first
  | refine gF ?_ | refine aE ?_ ?_
  | (((with_reducible refine kQ 129 ?_); refine cL h49 c129 ?_) <;> with_reducible refine wK ?_)
  | apply trivial)); all_goals clear fct)
      all_goals simp [e2, ht, e6]
     ·(have fct := And.intro (eq_false e1) (And.intro (eq_false e2) (And.intro ht ((eq_false e6)))); (repeat' (first
  | refine gF ?_ | refine aE ?_ ?_
  | apply trivial)); all_goals clear fct)
      all_goals simp [e1, e2, ht, e6]
  | true =>
    obtain ⟨i, y, rfl, hy, hnd⟩ := there_iff.1 ht
    have h57' := h57 ht
    rw [hnd] at h56 h57' ⊢
    obtain ⟨b1, b2, b3, b4, b5, b6, b7, b8, b9, b10⟩ := y
    simp only at h56 h57'
    cases hh : holdK b1 with
    | false =>
      by_cases e1 : a1 = 1
      ·(have fct := And.intro e1 (And.intro ht (And.intro hh ((eq_false e6)))); (repeat' (first
  | refine gF ?_ | refine aE ?_ ?_
  | ((first
   | ((with_reducible refine kQ 129 ?_); refine cL h49 c129 ?_)
   | ((with_reducible refine kQ 175 ?_); refine cL h56 c175 ?_)
   | (refine IdxK.mk i (eNode _) rfl (node_get hy) ?_)) <;> with_reducible refine wK ?_)
  | apply trivial)); all_goals clear fct)
       all_goals simp [e1, ht, e6, hh]
      ·by_cases e2 : a1 = 2
       ·(have fct := And.intro e2 (And.intro ht (And.intro hh ((eq_false e6)))); (repeat' (first
  | refine gF ?_ | refine aE ?_ ?_
  | ((first
   | ((with_reducible refine kQ 129 ?_); refine cL h49 c129 ?_)
   | ((with_reducible refine kQ 175 ?_); refine cL h56 c175 ?_)
   | (refine IdxK.mk i (eNode _) rfl (node_get hy) ?_)) <;> with_reducible refine wK ?_)
  | apply trivial)); all_goals clear fct)
        all_goals simp [e2, ht, e6, hh]
       ·(have fct := And.intro (eq_false e1) (And.intro (eq_false e2) (And.intro ht (And.intro hh ((eq_false e6))))); (repeat' (first
  | refine gF ?_ | refine aE ?_ ?_
  | apply trivial)); all_goals clear fct)
        all_goals simp [e1, e2, ht, e6]
    | true =>
      by_cases e1 : a1 = 1
      ·(have fct := And.intro e1 (And.intro ht (And.intro hh ((eq_false e6)))); (repeat' (first
  | refine gF ?_ | refine aE ?_ ?_
  | ((first
   | ((with_reducible refine kQ 129 ?_); refine cL h49 c129 ?_)
   | ((with_reducible refine kQ 175 ?_); refine cL h56 c175 ?_)
   | ((with_reducible refine kQ 176 ?_); refine cL h57' c176 ?_)
   | (refine IdxK.mk i (eNode _) rfl (node_get hy) ?_)) <;> with_reducible refine wK ?_)
  | apply trivial)); all_goals clear fct)
       all_goals simp [e1, ht, e6, hh]
      ·by_cases e2 : a1 = 2
       ·(have fct := And.intro e2 (And.intro ht (And.intro hh ((eq_false e6)))); (repeat' (first
  | refine gF ?_ | refine aE ?_ ?_
  | ((first
   | ((with_reducible refine kQ 129 ?_); refine cL h49 c129 ?_)
   | ((with_reducible refine kQ 175 ?_); refine cL h56 c175 ?_)
   | ((with_reducible refine kQ 176 ?_); refine cL h57' c176 ?_)
   | (refine IdxK.mk i (eNode _) rfl (node_get hy) ?_)) <;> with_reducible refine wK ?_)
  | apply trivial)); all_goals clear fct)
        all_goals simp [e2, ht, e6, hh]
       ·(have fct := And.intro (eq_false e1) (And.intro (eq_false e2) (And.intro ht (And.intro hh ((eq_false e6))))); (repeat' (first
  | refine gF ?_ | refine aE ?_ ?_
  | apply trivial)); all_goals clear fct)
        all_goals simp [e1, e2, ht, e6]
theorem endsN_succ (l : List NodeM) (m : Nat) (n : Int) : endsN l (m + 1) n = if upN (nd l n) = -1 then true else endsN l m (upN (nd l n)) := rfl
theorem f120_ok (f : ForM) (hl : f.nodes.length ≤ 100000) (hup : ∀ (k : Nat) (x : NodeM), f.nodes[k]? = some x → upN x = -1 ∨ thereN f.nodes (upN x) = true) (k : Nat) (hk : k < f.nodes.length) : FnOK Tryz.prog 120 [] [eFor f, eInt k] [] (eBool (endsN f.nodes f.nodes.length k)) := by
 have h58 := f177_ok f
 obtain ⟨l, m⟩ := f
 simp only at h58 hup hk hl ⊢
 have hlm : (l.map oNode).length = l.length := List.length_map ..
 refine FnOK.startC (rvs := [.tmp 4]) G G_good Tryz.func120 rfl Tryz.ntmps120 rfl rfl ?_; with_reducible refine wD ?_
 refine LoopK.use G G_good (fun (i : Nat × Nat) => [(1, eInt i.2), (2, .ptr 20 0 0), (8, eInt l.length), (9, eInt i.1)]) (fun _ => [(20, .live 2 [eFor ⟨l, m⟩] false)]) (fun i => i.1 ≤ l.length ∧ i.2 < l.length ∧ endsN l l.length k = endsN l (l.length - i.1) i.2) (fun i => l.length - i.1) (0, k) ⟨Nat.zero_le _, hk, rfl⟩
  ⟨⟨rfl, rfl⟩, ⟨rfl, ⟨rfl, rfl⟩, by show (l.length : Int) = ((l.map oNode).length : Int); rw [hlm], rfl, trivial⟩, ⟨⟨rfl, rfl, trivial⟩, trivial⟩, trivial⟩ ?_
 rintro ⟨i, j⟩ ⟨hi, hj, he⟩
 simp only at hi hj he
 with_reducible refine wK ?_
 refine IfK.mk (fun h1 => ?_) (fun h1 => ?_) <;> (try simp only [castN] at h1) <;> with_reducible refine wK ?_
 ·have hi' : i < l.length := by simp only [decide_eq_true_eq] at h1; omega
  obtain ⟨x, hx⟩ : ∃ x, l[j]? = some x := ⟨_, List.getElem?_eq_getElem hj⟩
  have h58' := h58 j x hx
  refine cL h58' c177 ?_; with_reducible refine wK ?_
  rw [show l.length - i = (l.length - (i + 1)) + 1 from by omega] at he
  rw [endsN_succ, nd_get hx] at he
  by_cases e : upN x = -1
  ·rw [if_pos e] at he
   (have fct := e; (repeat' (first
  | refine gF ?_ | refine aE ?_ ?_
  | apply trivial)); all_goals clear fct)
   all_goals rw [he]
  ·rw [if_neg e] at he
   rcases hup j x hx with h | h
   ·exact absurd h e
   obtain ⟨j', y, hj1, hj2, _⟩ := there_iff.1 h
   rw [hj1] at he
   have hlt := (List.getElem?_eq_some_iff.1 hj2).1
   refine IfK.no (decide_eq_false e) ?_; with_reducible refine wK ?_
   refine nK ?_; with_reducible refine wK ?_
   refine NextK.mk (i + 1, j') ⟨by show i + 1 ≤ l.length; omega, hlt, he⟩ (by show l.length - (i + 1) < l.length - i; omega) ⟨⟨rfl, rfl⟩, ⟨hj1.symm, ⟨rfl, rfl⟩, rfl, by show ((i + 1 : Nat) : Int) = (i : Int) + 1; omega, trivial⟩, ⟨⟨rfl, rfl, trivial⟩, trivial⟩, trivial⟩
 ·(refine eK ?_ ?_ <;> with_reducible repeat' (first | exact trivial | (show _ ∧ _; refine aK ?_ ?_)))
  have : i = l.length := by simp only [decide_eq_false_iff_not] at h1; omega
  rw [he, this, Nat.sub_self]; rfl
theorem is_there {l : List NodeM} {n k : Int} (h : isN l n k = true) : ∃ (i : Nat) (x : NodeM), n = (i : Int) ∧ l[i]? = some x ∧ nd l n = x := by
 unfold isN at h
 simp only [Bool.and_eq_true] at h
 exact there_iff.1 h.1
theorem f119_ok (f : ForM) (k : Nat) (x : NodeM) (hx : f.nodes[k]? = some x) : FnOK Tryz.prog 119 [] [eFor f, eInt k] [] (eBool (shadedN f.nodes k x)) := by
 have h1 := f136_ok f x.host 1
 have h4 := f136_ok f x.under 4
 obtain ⟨l, m⟩ := f
 obtain ⟨a1, a2, a3, a4, a5, a6, a7, a8, a9, a10⟩ := x
 unfold shadedN
 simp only at h1 h4 hx ⊢
 refine FnOK.startC (rvs := [.tmp 4]) G G_good Tryz.func119 rfl Tryz.ntmps119 rfl rfl ?_; with_reducible refine wD ?_
 refine IdxK.mk k (eNode _) rfl (node_get hx) ?_; with_reducible refine wK ?_
 by_cases e4 : a1 = 4
 ·have e1 : ¬ a1 = 1 := by omega
  refine IfK.yes (by simp [e4]) ?_; with_reducible refine wK ?_
  rw [if_pos e4]
  cases hi : isN l a8 1 with
  | false =>
    rw [hi] at h1
    by_cases e9 : a9 = -1
    ·(have fct := And.intro e4 (e9); (repeat' (first
  | refine gF ?_ | refine aE ?_ ?_
  | (((with_reducible refine kQ 136 ?_); refine cL h1 c136 ?_) <;> with_reducible refine wK ?_)
  | apply trivial)); all_goals clear fct)
     all_goals simp [e9]
    ·(have fct := And.intro e4 (And.intro (eq_false e9) ((eq_false e1))); (repeat' (first
  | refine gF ?_ | refine aE ?_ ?_
  | (((with_reducible refine kQ 136 ?_); refine cL h1 c136 ?_) <;> with_reducible refine wK ?_)
  | apply trivial)); all_goals clear fct)
     all_goals simp [e9, e1]
  | true =>
    rw [hi] at h1
    obtain ⟨i, y, rfl, hy, hnd⟩ := is_there hi
    rw [hnd]
    obtain ⟨b1, b2, b3, b4, b5, b6, b7, b8, b9, b10⟩ := y
    by_cases e9 : a9 = -1
    ·by_cases u9 : b9 = k
     ·by_cases u10 : b10 = a10
      ·(have fct := And.intro e4 (And.intro e9 (And.intro u9 (u10))); (repeat' (first
  | refine gF ?_ | refine aE ?_ ?_
  | ((first
   | ((with_reducible refine kQ 136 ?_); refine cL h1 c136 ?_)
   | (refine IdxK.mk i (eNode _) rfl (node_get hy) ?_)) <;> with_reducible refine wK ?_)
  | apply trivial)); all_goals clear fct)
       all_goals simp [e9, u9, u10]
      ·(have fct := And.intro e4 (And.intro e9 (And.intro u9 ((eq_false u10)))); (repeat' (first
  | refine gF ?_ | refine aE ?_ ?_
  | ((first
   | ((with_reducible refine kQ 136 ?_); refine cL h1 c136 ?_)
   | (refine IdxK.mk i (eNode _) rfl (node_get hy) ?_)) <;> with_reducible refine wK ?_)
  | apply trivial)); all_goals clear fct)
       all_goals simp [e9, u9, u10]
     ·(have fct := And.intro e4 (And.intro e9 ((eq_false u9))); (repeat' (first
  | refine gF ?_ | refine aE ?_ ?_
  | ((first
   | ((with_reducible refine kQ 136 ?_); refine cL h1 c136 ?_)
   | (refine IdxK.mk i (eNode _) rfl (node_get hy) ?_)) <;> with_reducible refine wK ?_)
  | apply trivial)); all_goals clear fct)
      all_goals simp [e9, u9]
    ·by_cases u9 : b9 = k
     ·by_cases u10 : b10 = a10
      ·(have fct := And.intro e4 (And.intro (eq_false e9) (And.intro (eq_false e1) (And.intro u9 (u10)))); (repeat' (first
  | refine gF ?_ | refine aE ?_ ?_
  | ((first
   | ((with_reducible refine kQ 136 ?_); refine cL h1 c136 ?_)
   | (refine IdxK.mk i (eNode _) rfl (node_get hy) ?_)) <;> with_reducible refine wK ?_)
  | apply trivial)); all_goals clear fct)
       all_goals simp [e9, e1, u9, u10]
      ·(have fct := And.intro e4 (And.intro (eq_false e9) (And.intro (eq_false e1) (And.intro u9 ((eq_false u10))))); (repeat' (first
  | refine gF ?_ | refine aE ?_ ?_
  | ((first
   | ((with_reducible refine kQ 136 ?_); refine cL h1 c136 ?_)
   | (refine IdxK.mk i (eNode _) rfl (node_get hy) ?_)) <;> with_reducible refine wK ?_)
  | apply trivial)); all_goals clear fct)
       all_goals simp [e9, e1, u9, u10]
     ·(have fct := And.intro e4 (And.intro (eq_false e9) (And.intro (eq_false e1) ((eq_false u9)))); (repeat' (first
  | refine gF ?_ | refine aE ?_ ?_
  | ((first
   | ((with_reducible refine kQ 136 ?_); refine cL h1 c136 ?_)
   | (refine IdxK.mk i (eNode _) rfl (node_get hy) ?_)) <;> with_reducible refine wK ?_)
  | apply trivial)); all_goals clear fct)
      all_goals simp [e9, e1, u9]
 ·refine IfK.no (by simp [e4]) ?_; with_reducible refine wK ?_
  rw [if_neg e4]
  by_cases e8 : a8 = -1
  ·by_cases e9 : a9 = -1
   ·(have fct := And.intro (eq_false e4) (And.intro e8 (e9)); (repeat' (first
  | refine gF ?_ | refine aE ?_ ?_
  | apply trivial)); all_goals clear fct)
    all_goals simp [e9, e8]
   ·by_cases e1 : a1 = 1
    ·cases hu : isN l a9 4 with
     | false =>
       rw [hu] at h4
       (have fct := And.intro (eq_false e4) (And.intro e8 (And.intro (eq_false e9) (e1))); (repeat' (first
  | refine gF ?_ | refine aE ?_ ?_
  | (((with_reducible refine kQ 136 ?_); refine cL h4 c136 ?_) <;> with_reducible refine wK ?_)
  | apply trivial)); all_goals clear fct)
       all_goals simp [e9, e8, e1]
     | true =>
       rw [hu] at h4
       obtain ⟨j, z, rfl, hz, hnd⟩ := is_there hu
       rw [hnd]
       obtain ⟨d1, d2, d3, d4, d5, d6, d7, d8, d9, d10⟩ := z
       (have fct := And.intro (eq_false e4) (And.intro e8 (And.intro (eq_false e9) (e1))); (repeat' (first
  | refine gF ?_ | refine aE ?_ ?_
  | ((first
   | ((with_reducible refine kQ 136 ?_); refine cL h4 c136 ?_)
   | (refine IdxK.mk j (eNode ⟨d1, d2, d3, d4, d5, d6, d7, d8, d9, d10⟩) rfl (node_get hz) ?_)) <;> with_reducible refine wK ?_)
  | apply trivial)); all_goals clear fct)
       all_goals simp [e9, e8, e1]
    ·(have fct := And.intro (eq_false e4) (And.intro e8 (And.intro (eq_false e9) ((eq_false e1)))); (repeat' (first
  | refine gF ?_ | refine aE ?_ ?_
  | apply trivial)); all_goals clear fct)
     all_goals simp [e9, e8, e1]
  ·by_cases e9 : a9 = -1
   ·(have fct := And.intro (eq_false e4) (And.intro (eq_false e8) (e9)); (repeat' (first
  | refine gF ?_ | refine aE ?_ ?_
  | apply trivial)); all_goals clear fct)
    all_goals simp [e9, e8]
   ·by_cases e1 : a1 = 1
    ·cases hu : isN l a9 4 with
     | false =>
       rw [hu] at h4
       (have fct := And.intro (eq_false e4) (And.intro (eq_false e8) (And.intro (eq_false e9) (e1))); (repeat' (first
  | refine gF ?_ | refine aE ?_ ?_
  | (((with_reducible refine kQ 136 ?_); refine cL h4 c136 ?_) <;> with_reducible refine wK ?_)
  | apply trivial)); all_goals clear fct)
       all_goals simp [e9, e8, e1]
     | true =>
       rw [hu] at h4
       obtain ⟨j, z, rfl, hz, hnd⟩ := is_there hu
       rw [hnd]
       obtain ⟨d1, d2, d3, d4, d5, d6, d7, d8, d9, d10⟩ := z
       (have fct := And.intro (eq_false e4) (And.intro (eq_false e8) (And.intro (eq_false e9) (e1))); (repeat' (first
  | refine gF ?_ | refine aE ?_ ?_
  | ((first
   | ((with_reducible refine kQ 136 ?_); refine cL h4 c136 ?_)
   | (refine IdxK.mk j (eNode ⟨d1, d2, d3, d4, d5, d6, d7, d8, d9, d10⟩) rfl (node_get hz) ?_)) <;> with_reducible refine wK ?_)
  | apply trivial)); all_goals clear fct)
       all_goals simp [e9, e8, e1]
    ·(have fct := And.intro (eq_false e4) (And.intro (eq_false e8) (And.intro (eq_false e9) ((eq_false e1)))); (repeat' (first
  | refine gF ?_ | refine aE ?_ ?_
  | apply trivial)); all_goals clear fct)
     all_goals simp [e9, e8, e1]
theorem f115_ok (x : NodeM) (hx : x.attrs.length ≤ 100000) : FnOK Tryz.prog 115 [] [eNode x] [] (eBool (namedN x)) := by
 have h45 := f67_ok x.name
 have h54 := f174_ok x.is
 have h44 := f131_ok x.attrs hx
 obtain ⟨a1, a2, a3, a4, a5, a6, a7, a8, a9, a10⟩ := x
 have hlm : (a5.map oAttr).length = a5.length := List.length_map ..
 unfold namedN
 simp only at h45 h54 h44 hx ⊢
 refine FnOK.startC (rvs := [.tmp 2]) G G_good Tryz.func115 rfl Tryz.ntmps115 rfl rfl ?_; with_reducible refine wD ?_
 by_cases e1 : a1 = 1
 ·rw [if_pos e1]
  cases hr : rightS a2 with
  | false =>
    rw [hr] at h45
    simp only [Bool.false_eq_true, if_false] at h45
    (have fct := And.intro e1 (hr); (repeat' (first
  | refine gF ?_ | refine aE ?_ ?_
  | (((with_reducible refine kQ 67 ?_); refine cL h45 c67 ?_) <;> with_reducible refine wK ?_)
  | apply trivial)); all_goals clear fct)
    all_goals simp [hr]
  | true =>
    rw [hr] at h45
    simp only [if_true] at h45
    by_cases hl : lowS a2 = a2
    ·by_cases h3 : a3 = ⟨#[]⟩
     ·by_cases h4 : a4 = ⟨#[]⟩
      ·(have fct := And.intro e1 (And.intro hr (And.intro hl (And.intro h3 (h4)))); (repeat' (first
  | refine gF ?_ | refine aE ?_ ?_
  | ((first
   | ((with_reducible refine kQ 67 ?_); refine cL h45 c67 ?_)
   | ((with_reducible refine kQ 131 ?_); refine cL h44 c131 ?_)) <;> with_reducible refine wK ?_)
  | apply trivial)); all_goals clear fct)
       all_goals simp [hr, hl, h3, h4]
      ·(have fct := And.intro e1 (And.intro hr (And.intro hl (And.intro h3 ((eq_false h4))))); (repeat' (first
  | refine gF ?_ | refine aE ?_ ?_
  | (((with_reducible refine kQ 67 ?_); refine cL h45 c67 ?_) <;> with_reducible refine wK ?_)
  | apply trivial)); all_goals clear fct)
       all_goals simp [hr, hl, h3, h4]
     ·cases hc : customS a3 with
      | false =>
        rw [hc] at h54
        (have fct := And.intro e1 (And.intro hr (And.intro hl (And.intro (eq_false h3) (hc)))); (repeat' (first
  | refine gF ?_ | refine aE ?_ ?_
  | ((first
   | ((with_reducible refine kQ 67 ?_); refine cL h45 c67 ?_)
   | ((with_reducible refine kQ 174 ?_); refine cL h54 c174 ?_)) <;> with_reducible refine wK ?_)
  | apply trivial)); all_goals clear fct)
        all_goals simp [hr, hl, h3, hc]
      | true =>
        rw [hc] at h54
        by_cases h4 : a4 = ⟨#[]⟩
        ·(have fct := And.intro e1 (And.intro hr (And.intro hl (And.intro (eq_false h3) (And.intro hc (h4))))); (repeat' (first
  | refine gF ?_ | refine aE ?_ ?_
  | ((first
   | ((with_reducible refine kQ 67 ?_); refine cL h45 c67 ?_)
   | ((with_reducible refine kQ 174 ?_); refine cL h54 c174 ?_)
   | ((with_reducible refine kQ 131 ?_); refine cL h44 c131 ?_)) <;> with_reducible refine wK ?_)
  | apply trivial)); all_goals clear fct)
         all_goals simp [hr, hl, h3, hc, h4]
        ·(have fct := And.intro e1 (And.intro hr (And.intro hl (And.intro (eq_false h3) (And.intro hc ((eq_false h4)))))); (repeat' (first
  | refine gF ?_ | refine aE ?_ ?_
  | ((first
   | ((with_reducible refine kQ 67 ?_); refine cL h45 c67 ?_)
   | ((with_reducible refine kQ 174 ?_); refine cL h54 c174 ?_)) <;> with_reducible refine wK ?_)
  | apply trivial)); all_goals clear fct)
         all_goals simp [hr, hl, h3, hc, h4]
    ·(have fct := And.intro e1 (And.intro hr ((eq_false hl))); (repeat' (first
  | refine gF ?_ | refine aE ?_ ?_
  | (((with_reducible refine kQ 67 ?_); refine cL h45 c67 ?_) <;> with_reducible refine wK ?_)
  | apply trivial)); all_goals clear fct)
     all_goals simp [hr, hl]
 ·rw [if_neg e1]
  by_cases e2 : a1 = 2
  ·rw [if_pos e2]
   by_cases hd : a4.size ≤ 200
   ·by_cases h2 : a2 = ⟨#[]⟩
    ·by_cases h3 : a3 = ⟨#[]⟩
     ·(have fct := And.intro e2 (And.intro hd (And.intro h2 (h3))); (repeat' (first
  | refine gF ?_ | refine aE ?_ ?_
  | apply trivial)); all_goals clear fct)
      all_goals simp [hd, h2, h3]
     ·(have fct := And.intro e2 (And.intro hd (And.intro h2 ((eq_false h3)))); (repeat' (first
  | refine gF ?_ | refine aE ?_ ?_
  | apply trivial)); all_goals clear fct)
      all_goals simp [hd, h2, h3]
    ·(have fct := And.intro e2 (And.intro hd ((eq_false h2))); (repeat' (first
  | refine gF ?_ | refine aE ?_ ?_
  | apply trivial)); all_goals clear fct)
     all_goals simp [hd, h2]
   ·(have fct := And.intro e2 ((eq_false hd)); (repeat' (first
  | refine gF ?_ | refine aE ?_ ?_
  | apply trivial)); all_goals clear fct)
    all_goals simp [hd]
  ·rw [if_neg e2]
   by_cases ho : a1 = 0 ∨ a1 = 3 ∨ a1 = 4
   ·rw [if_pos ho]
    by_cases h2 : a2 = ⟨#[]⟩
    ·by_cases h3 : a3 = ⟨#[]⟩
     ·by_cases h4 : a4 = ⟨#[]⟩
      ·rcases ho with e | e | e
       ·(have fct := And.intro e (And.intro h2 (And.intro h3 (h4))); (repeat' (first
  | refine gF ?_ | refine aE ?_ ?_
  | apply trivial)); all_goals clear fct)
        all_goals simp [h2, h3, h4]
       ·(have fct := And.intro e (And.intro h2 (And.intro h3 (h4))); (repeat' (first
  | refine gF ?_ | refine aE ?_ ?_
  | apply trivial)); all_goals clear fct)
        all_goals simp [h2, h3, h4]
       ·(have fct := And.intro e (And.intro h2 (And.intro h3 (h4))); (repeat' (first
  | refine gF ?_ | refine aE ?_ ?_
  | apply trivial)); all_goals clear fct)
        all_goals simp [h2, h3, h4]
      ·rcases ho with e | e | e
       ·(have fct := And.intro e (And.intro h2 (And.intro h3 ((eq_false h4)))); (repeat' (first
  | refine gF ?_ | refine aE ?_ ?_
  | apply trivial)); all_goals clear fct)
        all_goals simp [h2, h3, h4]
       ·(have fct := And.intro e (And.intro h2 (And.intro h3 ((eq_false h4)))); (repeat' (first
  | refine gF ?_ | refine aE ?_ ?_
  | apply trivial)); all_goals clear fct)
        all_goals simp [h2, h3, h4]
       ·(have fct := And.intro e (And.intro h2 (And.intro h3 ((eq_false h4)))); (repeat' (first
  | refine gF ?_ | refine aE ?_ ?_
  | apply trivial)); all_goals clear fct)
        all_goals simp [h2, h3, h4]
     ·rcases ho with e | e | e
      ·(have fct := And.intro e (And.intro h2 ((eq_false h3))); (repeat' (first
  | refine gF ?_ | refine aE ?_ ?_
  | apply trivial)); all_goals clear fct)
       all_goals simp [h2, h3]
      ·(have fct := And.intro e (And.intro h2 ((eq_false h3))); (repeat' (first
  | refine gF ?_ | refine aE ?_ ?_
  | apply trivial)); all_goals clear fct)
       all_goals simp [h2, h3]
      ·(have fct := And.intro e (And.intro h2 ((eq_false h3))); (repeat' (first
  | refine gF ?_ | refine aE ?_ ?_
  | apply trivial)); all_goals clear fct)
       all_goals simp [h2, h3]
    ·rcases ho with e | e | e
     ·(have fct := And.intro e ((eq_false h2)); (repeat' (first
  | refine gF ?_ | refine aE ?_ ?_
  | apply trivial)); all_goals clear fct)
      all_goals simp [h2]
     ·(have fct := And.intro e ((eq_false h2)); (repeat' (first
  | refine gF ?_ | refine aE ?_ ?_
  | apply trivial)); all_goals clear fct)
      all_goals simp [h2]
     ·(have fct := And.intro e ((eq_false h2)); (repeat' (first
  | refine gF ?_ | refine aE ?_ ?_
  | apply trivial)); all_goals clear fct)
      all_goals simp [h2]
   ·rw [if_neg ho]
    have e0 : ¬ a1 = 0 := fun h => ho (.inl h)
    have e3 : ¬ a1 = 3 := fun h => ho (.inr (.inl h))
    have e4 : ¬ a1 = 4 := fun h => ho (.inr (.inr h))
    (have fct := And.intro e0 (And.intro e1 (And.intro e2 (And.intro e3 (e4)))); (repeat' (first
  | refine gF ?_ | refine aE ?_ ?_
  | apply trivial)); all_goals clear fct)
def seenT (l : List Int) : List (Int × Int) := l.map fun c => (c, 1)
theorem tget_seen (c : Int) : ∀ l : List Int, tget c (seenT l) = if c ∈ l then some 1 else none
 | [] => rfl
 | a :: r => by
   show (if a = c then some 1 else tget c (seenT r)) = _
   rw [tget_seen c r]
   by_cases e : a = c
   ·rw [if_pos e, if_pos (by simp [e])]
   ·rw [if_neg e]
    by_cases h : c ∈ r
    ·rw [if_pos h, if_pos (List.mem_cons_of_mem _ h)]
    ·rw [if_neg h, if_neg (by simp [h]; exact fun e' => e e'.symm)]
theorem seen_snoc {l : List Int} {c : Int} (h : c ∉ l) : tput c 1 (seenT l) = seenT (l ++ [c]) := by
 rw [tput_new (by rw [tget_seen, if_neg h])]
 simp [seenT]
theorem take_snocI {α : Type} {l : List α} {k : Nat} {x : α} (h : l[k]? = some x) : l.take (k + 1) = l.take k ++ [x] := by
 obtain ⟨hk, rfl⟩ := List.getElem?_eq_some_iff.1 h
 rw [List.take_add_one, List.getElem?_eq_getElem hk]; rfl
theorem kids_step {l : List NodeM} {n : Int} {x : NodeM} {cs : List Int} {j : Nat} {c : Int} (h : cs[j]? = some c) : kidsOK l n x (cs.take j) (cs.drop j) = (kidOK l n x (cs.take j) c && kidsOK l n x (cs.take (j + 1)) (cs.drop (j + 1))) := by
 obtain ⟨hk, rfl⟩ := List.getElem?_eq_some_iff.1 h
 rw [List.drop_eq_getElem_cons hk, take_snocI h]
 rfl
theorem elems_step {l : List NodeM} {cs : List Int} {j : Nat} {c : Int} (h : cs[j]? = some c) : elemsN l (cs.take (j + 1)) = elemsN l (cs.take j) + if (nd l c).kind = 1 then 1 else 0 := by
 rw [take_snocI h]
 unfold elemsN
 rw [List.countP_append, List.countP_cons]; simp
theorem elems_le (l : List NodeM) (cs : List Int) (j : Nat) : elemsN l (cs.take j) ≤ j := by
 unfold elemsN
 refine Nat.le_trans List.countP_le_length ?_
 simp; omega
@[reducible] def rSeen (t : List (Int × Int)) : MS := .live 2 (tRows vInt oInt t) false
theorem noRef_seen (t : List (Int × Int)) : noRefL (tRows vInt oInt t) = true := by
 rw [noRefL_iff]; intro x hx
 obtain ⟨a, _, rfl⟩ := List.mem_map.1 hx
 rfl
theorem f118_ok (f : ForM) (hs : SmallN f.nodes) (k : Nat) (x : NodeM) (hx : f.nodes[k]? = some x) : FnOK Tryz.prog 118 [] [eFor f, eInt k] [] (eBool (bearsN f.nodes k x)) := by
 have h49 := f129_ok f
 have h56 := f175_ok x.kind
 have h7 := hs.kids x (List.mem_of_getElem? hx)
 have hl := hs.len
 obtain ⟨l, m⟩ := f
 have hst := fun j c => @kids_step l k x x.kids j c
 have hse := fun j c => @elems_step l x.kids j c
 unfold bearsN
 simp only at h49 h56 hx h7 hl ⊢
 obtain ⟨⟨a1, a2, a3, a4, a5, a6, a7, a8, a9, a10⟩, hx0⟩ : ∃ y, y = x := ⟨x, rfl⟩
 rw [← hx0] at hx h56 h7 hst hse ⊢
 simp only at h56 h7 hst hse ⊢
 have hlm : (a7.map oInt).length = a7.length := List.length_map ..
 refine FnOK.startC (rvs := [.tmp 4]) G G_good Tryz.func118 rfl Tryz.ntmps118 rfl rfl ?_; with_reducible refine wD ?_
 refine IdxK.mk k (eNode _) rfl (node_get hx) ?_; with_reducible refine wK ?_
 refine LoopK.use G G_good (fun (j : Nat) => [(1, eInt k), (2, .ptr 20 0 0), (5, .ptr 50 0 0), (6, .mapr 161), (7, eInt (elemsN l (a7.take j))), (18, eInts a7), (19, eInt a7.length), (20, eInt j)])
  (fun j => [(20, .live 2 [eFor ⟨l, m⟩] false), (50, .live 10 [eNode ⟨a1, a2, a3, a4, a5, a6, a7, a8, a9, a10⟩] false), (161, rSeen (seenT (a7.take j)))])
  (fun j => j ≤ a7.length ∧ kidsOK l k ⟨a1, a2, a3, a4, a5, a6, a7, a8, a9, a10⟩ [] a7 = kidsOK l k ⟨a1, a2, a3, a4, a5, a6, a7, a8, a9, a10⟩ (a7.take j) (a7.drop j)) (fun j => a7.length - j) 0 ⟨Nat.zero_le _, rfl⟩
  ⟨⟨rfl, rfl⟩, ⟨rfl, ⟨rfl, rfl⟩, ⟨rfl, rfl⟩, trivial, rfl, rfl, by show (a7.length : Int) = ((a7.map oInt).length : Int); rw [hlm], rfl, trivial⟩, ⟨⟨rfl, rfl, trivial⟩, trivial⟩, ⟨⟨rfl, rfl, rfl, rfl, rfl, rfl, rfl, rfl, rfl, rfl, trivial⟩, trivial⟩, ⟨.refl rfl, rfl⟩, trivial⟩ ?_
 rintro j ⟨hj, hok⟩
 with_reducible refine wK ?_
 refine IfK.mk (fun h1 => ?_) (fun h1 => ?_) <;> (try simp only [castN] at h1) <;> with_reducible refine wK ?_
 ·have hj' : j < a7.length := by simp only [decide_eq_true_eq] at h1; omega
  obtain ⟨c, hc⟩ : ∃ c, a7[j]? = some c := ⟨_, List.getElem?_eq_getElem hj'⟩
  rw [hst j c hc] at hok
  have hse' := hse j c hc
  have hel := elems_le l a7 j
  have h49' := h49 c
  unfold kidOK at hok
  refine IdxK.mk j (eInt c) rfl (int_get hc) ?_; with_reducible refine wK ?_
  refine cL h49' c129 ?_; with_reducible refine wK ?_
  cases ht : thereN l c with
  | false =>
    rw [ht] at hok
    simp only [Bool.false_and] at hok
    rw [hok, Bool.false_and]
    (have fct := ht; (repeat' (first
  | refine gF ?_ | refine aE ?_ ?_
  | apply trivial)); all_goals clear fct)
  | true =>
    obtain ⟨i, y, rfl, hy, hnd⟩ := there_iff.1 ht
    rw [ht, hnd] at hok
    rw [hnd] at hse'
    obtain ⟨b1, b2, b3, b4, b5, b6, b7, b8, b9, b10⟩ := y
    simp only [Bool.true_and] at hok hse'
    refine IfK.ff ?_; with_reducible refine wK ?_
    have hts := tget_seen (i : Int) (a7.take j)
    refine LookK.tab vInt oInt (seenT (a7.take j)) (k := (i : Int)) (zv := eInt 0) mt74 ⟨_, _, rfl⟩ key_int inj_int rfl rfl (fun z hxx => ?_) (fun hxx => ?_)
    ·rw [hxx] at hts
     have hin : (i : Int) ∈ a7.take j := by by_cases h : (i : Int) ∈ a7.take j; exact h; rw [if_neg h] at hts; cases hts
     rw [if_pos hin] at hts
     cases hts
     rw [show hasI (a7.take j) (i : Int) = true from decide_eq_true hin] at hok
     simp only [Bool.not_true, Bool.false_and] at hok
     rw [hok, Bool.false_and]
     rw [show oInt 1 = eInt 1 from rfl]
     with_reducible refine wK ?_
     (have fct := ht; (repeat' (first
  | refine gF ?_ | refine aE ?_ ?_
  | apply trivial)); all_goals clear fct)
    ·rw [hxx] at hts
     have hin : (i : Int) ∉ a7.take j := by intro h; rw [if_pos h] at hts; cases hts
     rw [show hasI (a7.take j) (i : Int) = false from decide_eq_false hin] at hok
     simp only [Bool.not_false, Bool.true_and] at hok
     with_reducible refine wK ?_
     by_cases e6 : b6 = k
     ·by_cases e10 : b10 = a10
      ·simp only [e6, e10, decide_true, Bool.true_and] at hok
       (have fct := And.intro e6 (e10); (repeat' (first
  | refine gF ?_ | refine aE ?_ ?_
  | ((refine IdxK.mk i (eNode _) rfl (node_get hy) ?_) <;> with_reducible refine wK ?_)
  | apply trivial)); all_goals clear fct)
       refine LookK.tab vInt oInt (seenT (a7.take j)) (k := (i : Int)) (zv := eInt 0) mt74 ⟨_, _, rfl⟩ key_int inj_int rfl rfl (fun z hyy => ?_) (fun hyy => ?_)
       ·rw [hxx] at hyy; cases hyy
       with_reducible refine wK ?_
       have hln : (seenT (a7.take j)).length ≤ j := by unfold seenT; simp; omega
       have hsn := seen_snoc hin
       rw [← take_snocI hc] at hsn
       refine nK ?_; with_reducible refine wK ?_
       refine PutK.tab vInt oInt (seenT (a7.take j)) (k := (i : Int)) (1 : Int) mt74 rfl key_int inj_int (by unfold maxLen; omega) rfl ?_; with_reducible refine wK ?_
       rw [hsn]
       refine IdxK.mk i (eNode _) rfl (node_get hy) ?_; with_reducible refine wK ?_
       by_cases f1 : b1 = 1
       ·have hs1 : (elemsN l (a7.take (j + 1)) : Int) = elemsN l (a7.take j) + 1 := by rw [hse', if_pos f1]; rfl
        simp only [f1, decide_true, Bool.true_or, Bool.true_and] at hok
        (have fct := f1; (repeat' (first
  | refine gF ?_ | refine aE ?_ ?_
  | (((with_reducible show NextK _ _); refine NextK.mk (j + 1) ⟨by omega, hok⟩ (by omega) ⟨⟨rfl, rfl⟩, ⟨rfl, ⟨rfl, rfl⟩, ⟨rfl, rfl⟩, trivial, hs1, rfl, rfl, by show ((j + 1 : Nat) : Int) = (j : Int) + 1; omega, trivial⟩, ⟨⟨rfl, rfl, trivial⟩, trivial⟩, ⟨⟨rfl, rfl, rfl, rfl, rfl, rfl, rfl, rfl, rfl, rfl, trivial⟩, trivial⟩, ⟨.refl (noRef_seen _), noRef_seen _⟩, trivial⟩) <;> with_reducible refine wK ?_)
  | apply trivial)); all_goals clear fct)
       ·have hs1 : (elemsN l (a7.take (j + 1)) : Int) = elemsN l (a7.take j) := by rw [hse', if_neg f1]; rfl
        by_cases f2 : b1 = 2
        ·by_cases e0 : a1 = 0
         ·have hkk : (decide (b1 = 1) || decide (b1 = 2) && decide (a1 ≠ 0)) = false := by simp [f2, e0]
          rw [hkk, Bool.false_and] at hok
          rw [hok, Bool.false_and]
          (have fct := And.intro (eq_false f1) (And.intro f2 (e0)); (repeat' (first
  | refine gF ?_ | refine aE ?_ ?_
  | apply trivial)); all_goals clear fct)
         ·have hkk : (decide (b1 = 1) || decide (b1 = 2) && decide (a1 ≠ 0)) = true := by simp [f2, e0]
          rw [hkk, Bool.true_and] at hok
          (have fct := And.intro (eq_false f1) (And.intro f2 ((eq_false e0))); (repeat' (first
  | refine gF ?_ | refine aE ?_ ?_
  | (((with_reducible show NextK _ _); refine NextK.mk (j + 1) ⟨by omega, hok⟩ (by omega) ⟨⟨rfl, rfl⟩, ⟨rfl, ⟨rfl, rfl⟩, ⟨rfl, rfl⟩, trivial, hs1, rfl, rfl, by show ((j + 1 : Nat) : Int) = (j : Int) + 1; omega, trivial⟩, ⟨⟨rfl, rfl, trivial⟩, trivial⟩, ⟨⟨rfl, rfl, rfl, rfl, rfl, rfl, rfl, rfl, rfl, rfl, trivial⟩, trivial⟩, ⟨.refl (noRef_seen _), noRef_seen _⟩, trivial⟩) <;> with_reducible refine wK ?_)
  | apply trivial)); all_goals clear fct)
        ·simp only [eq_false f1, eq_false f2, decide_false, Bool.false_and, Bool.or_false] at hok
         rw [hok, Bool.false_and]
         (have fct := And.intro f1 (f2); (repeat' (first
  | refine gF ?_ | refine aE ?_ ?_
  | apply trivial)); all_goals clear fct)
      ·simp only [e6, eq_false e10, decide_true, decide_false, Bool.true_and, Bool.false_and] at hok
       rw [hok, Bool.false_and]
       (have fct := And.intro e6 ((eq_false e10)); (repeat' (first
  | refine gF ?_ | refine aE ?_ ?_
  | ((refine IdxK.mk i (eNode _) rfl (node_get hy) ?_) <;> with_reducible refine wK ?_)
  | apply trivial)); all_goals clear fct)
     ·simp only [eq_false e6, decide_false, Bool.false_and] at hok
      rw [hok, Bool.false_and]
      (have fct := (eq_false e6); (repeat' (first
  | refine gF ?_ | refine aE ?_ ?_
  | ((refine IdxK.mk i (eNode _) rfl (node_get hy) ?_) <;> with_reducible refine wK ?_)
  | apply trivial)); all_goals clear fct)
 ·have hjl : j = a7.length := by simp only [decide_eq_false_iff_not] at h1; omega
  rw [hjl, List.take_length, List.drop_length] at hok
  rw [hjl, List.take_length]
  rw [hok]
  simp only [kidsOK, Bool.true_and]
  refine cL h56 c175 ?_; with_reducible refine wK ?_
  by_cases e7 : a7.length = 0
  ·have e7' : a7 = [] := List.eq_nil_of_length_eq_zero e7
   cases hh : holdK a1 with
   | false =>
     by_cases e0 : a1 = 0
     ·(have fct := And.intro hh (And.intro e0 (And.intro e7 (hlm))); (repeat' (first
  | refine gF ?_ | refine aE ?_ ?_
  | apply trivial)); all_goals clear fct)
      all_goals first | (simp [hh, e0, e7']; done) | ((try simp only [castN]); simp [hh, e0, e7']; omega)
     ·(have fct := And.intro hh (And.intro (eq_false e0) (And.intro e7 (hlm))); (repeat' (first
  | refine gF ?_ | refine aE ?_ ?_
  | apply trivial)); all_goals clear fct)
      all_goals first | (simp [hh, e0, e7']; done) | ((try simp only [castN]); simp [hh, e0, e7']; omega)
   | true =>
     by_cases e0 : a1 = 0
     ·(have fct := And.intro hh (And.intro e0 (And.intro e7 (hlm))); (repeat' (first
  | refine gF ?_ | refine aE ?_ ?_
  | apply trivial)); all_goals clear fct)
      all_goals first | (simp [hh, e0, e7']; done) | ((try simp only [castN]); simp [hh, e0, e7']; omega)
     ·(have fct := And.intro hh (And.intro (eq_false e0) (And.intro e7 (hlm))); (repeat' (first
  | refine gF ?_ | refine aE ?_ ?_
  | apply trivial)); all_goals clear fct)
      all_goals first | (simp [hh, e0, e7']; done) | ((try simp only [castN]); simp [hh, e0, e7']; omega)
  ·have e7' : ¬ a7 = [] := fun h => e7 (by rw [h]; rfl)
   cases hh : holdK a1 with
   | false =>
     by_cases e0 : a1 = 0
     ·(have fct := And.intro hh (And.intro e0 (And.intro e7 (hlm))); (repeat' (first
  | refine gF ?_ | refine aE ?_ ?_
  | apply trivial)); all_goals clear fct)
      all_goals first | (simp [hh, e0, e7']; done) | ((try simp only [castN]); simp [hh, e0, e7']; omega)
     ·(have fct := And.intro hh (And.intro (eq_false e0) (And.intro e7 (hlm))); (repeat' (first
  | refine gF ?_ | refine aE ?_ ?_
  | apply trivial)); all_goals clear fct)
      all_goals first | (simp [hh, e0, e7']; done) | ((try simp only [castN]); simp [hh, e0, e7']; omega)
   | true =>
     by_cases e0 : a1 = 0
     ·(have fct := And.intro hh (And.intro e0 (And.intro e7 (hlm))); (repeat' (first
  | refine gF ?_ | refine aE ?_ ?_
  | apply trivial)); all_goals clear fct)
      all_goals first | (simp [hh, e0, e7']; done) | ((try simp only [castN]); simp [hh, e0, e7']; omega)
     ·(have fct := And.intro hh (And.intro (eq_false e0) (And.intro e7 (hlm))); (repeat' (first
  | refine gF ?_ | refine aE ?_ ?_
  | apply trivial)); all_goals clear fct)
      all_goals first | (simp [hh, e0, e7']; done) | ((try simp only [castN]); simp [hh, e0, e7']; omega)
end Go.Proofs.Heir
section
namespace Go.Proofs.Heir
open Go Go.Am Go.RowKit Go.Lib
set_option maxRecDepth 100000
set_option maxHeartbeats 8000000
def finN (l : List NodeM) : Nat → Int → Bool
 | 0, _ => false
 | m + 1, n => if (nd l n).parent = -1 then true else finN l m (nd l n).parent
def chN (l : List NodeM) : Nat → Int → List Int
 | 0, _ => []
 | m + 1, n => n :: if (nd l n).parent = -1 then [] else chN l m (nd l n).parent
def ordN (l : List NodeM) : Nat → Int → List Int
 | 0, _ => []
 | m + 1, n => n :: (nd l n).kids.flatMap (ordN l m)
def wayN (l : List NodeM) (n : Int) : List Int := chN l l.length n
theorem fin_of_ends {l : List NodeM} : ∀ {m : Nat} {n : Int}, endsN l m n = true → finN l m n = true
 | 0, n, h => by simp [endsN] at h
 | m + 1, n, h => by
   unfold finN
   by_cases hp : (nd l n).parent = -1
   ·rw [if_pos hp]
   ·rw [if_neg hp]
    have hu : upN (nd l n) = (nd l n).parent := if_neg hp
    unfold endsN at h
    rw [hu, if_neg hp] at h
    exact fin_of_ends h
theorem ch_len (l : List NodeM) : ∀ (m : Nat) (n : Int), (chN l m n).length ≤ m
 | 0, _ => Nat.le_refl _
 | m + 1, n => by
   unfold chN
   split
   ·simp
   ·have := ch_len l m (nd l n).parent
    simp; omega
theorem ch_more {l : List NodeM} : ∀ {m k : Nat} {n : Int}, finN l m n = true → m ≤ k → chN l k n = chN l m n
 | 0, k, n, h, _ => by simp [finN] at h
 | m + 1, k, n, h, hk => by
   obtain ⟨k, rfl⟩ : ∃ j, k = j + 1 := ⟨k - 1, by omega⟩
   unfold finN at h
   unfold chN
   by_cases hp : (nd l n).parent = -1
   ·rw [if_pos hp, if_pos hp]
   ·rw [if_neg hp] at h
    rw [if_neg hp, if_neg hp, ch_more h (by omega)]
structure Tree (l : List NodeM) : Prop where
 par : ∀ n, thereN l n = true → (nd l n).parent ≠ -1 → thereN l (nd l n).parent = true ∧ n ∈ (nd l (nd l n).parent).kids
 kid : ∀ n, thereN l n = true → ∀ k ∈ (nd l n).kids, thereN l k = true ∧ (nd l k).parent = n
 dup : ∀ n, thereN l n = true → (nd l n).kids.Nodup
 fin : ∀ n, thereN l n = true → finN l l.length n = true
 nam : ∀ n, thereN l n = true → namedN (nd l n) = true
theorem there_pos {l : List NodeM} {n : Int} (h : thereN l n = true) : 0 ≤ n ∧ n < (l.length : Int) := by
 unfold thereN at h; simpa using h
variable {l : List NodeM}
theorem up_ind (T : Tree l) {P : Int → Prop} (h0 : ∀ n, thereN l n = true → (nd l n).parent = -1 → P n) (h1 : ∀ n, thereN l n = true → (nd l n).parent ≠ -1 → thereN l (nd l n).parent = true → P (nd l n).parent → P n) : ∀ n, thereN l n = true → P n := by
 have H : ∀ (m : Nat) (n : Int), thereN l n = true → finN l m n = true → P n := by
  intro m
  induction m with
  | zero => intro n _ h; simp [finN] at h
  | succ m ih =>
    intro n hn h
    unfold finN at h
    by_cases hp : (nd l n).parent = -1
    ·exact h0 n hn hp
    ·rw [if_neg hp] at h
     have hq := (T.par n hn hp).1
     exact h1 n hn hp hq (ih _ hq h)
 exact fun n hn => H _ n hn (T.fin n hn)
theorem way_top (T : Tree l) {n : Int} (hn : thereN l n = true) (hp : (nd l n).parent = -1) : wayN l n = [n] := by
 have := there_pos hn
 obtain ⟨m, hm⟩ : ∃ m, l.length = m + 1 := ⟨l.length - 1, by omega⟩
 unfold wayN; rw [hm]; unfold chN; rw [if_pos hp]
theorem way_step (T : Tree l) {n : Int} (hn : thereN l n = true) (hp : (nd l n).parent ≠ -1) : wayN l n = n :: wayN l (nd l n).parent := by
 have := there_pos hn
 obtain ⟨m, hm⟩ : ∃ m, l.length = m + 1 := ⟨l.length - 1, by omega⟩
 have hf := T.fin n hn
 unfold wayN; rw [hm] at hf ⊢
 unfold finN at hf
 rw [if_neg hp] at hf
 rw [chN, if_neg hp, ch_more hf (Nat.le_succ m)]
theorem way_kid (T : Tree l) {n k : Int} (hn : thereN l n = true) (hk : k ∈ (nd l n).kids) : wayN l k = k :: wayN l n := by
 have h := T.kid n hn k hk
 have h0 := there_pos hn
 have hp : (nd l k).parent ≠ -1 := by rw [h.2]; omega
 rw [way_step T h.1 hp, h.2]
theorem way_head (T : Tree l) {n : Int} (hn : thereN l n = true) : ∃ r, wayN l n = n :: r := by
 by_cases hp : (nd l n).parent = -1
 ·exact ⟨[], way_top T hn hp⟩
 ·exact ⟨_, way_step T hn hp⟩
theorem way_self (T : Tree l) {n : Int} (hn : thereN l n = true) : n ∈ wayN l n := by
 obtain ⟨r, hr⟩ := way_head T hn; rw [hr]; exact List.mem_cons_self
theorem way_len (n : Int) : (wayN l n).length ≤ l.length := ch_len l _ n
theorem way_there (T : Tree l) : ∀ n, thereN l n = true → ∀ a ∈ wayN l n, thereN l a = true := by
 refine up_ind T (fun n hn hp a ha => ?_) (fun n hn hp hq ih a ha => ?_)
 ·rw [way_top T hn hp] at ha; rw [List.mem_singleton.1 ha]; exact hn
 ·rw [way_step T hn hp] at ha
  rcases List.mem_cons.1 ha with rfl | h
  ·exact hn
  ·exact ih a h
theorem way_cut (T : Tree l) : ∀ n, thereN l n = true → ∀ a ∈ wayN l n, ∃ t, wayN l n = t ++ wayN l a := by
 refine up_ind T (fun n hn hp a ha => ?_) (fun n hn hp hq ih a ha => ?_)
 ·have h := ha; rw [way_top T hn hp] at h; rw [List.mem_singleton.1 h]; exact ⟨[], rfl⟩
 ·have h := ha
  rw [way_step T hn hp] at h
  rcases List.mem_cons.1 h with rfl | h
  ·exact ⟨[], rfl⟩
  ·obtain ⟨t, ht⟩ := ih a h
   exact ⟨n :: t, by rw [way_step T hn hp, ht]; rfl⟩
theorem way_trans (T : Tree l) {a b c : Int} (hc : thereN l c = true) (h1 : a ∈ wayN l b) (h2 : b ∈ wayN l c) : a ∈ wayN l c := by
 obtain ⟨t, ht⟩ := way_cut T c hc b h2
 rw [ht]; exact List.mem_append_right _ h1
theorem way_eq (T : Tree l) {n a b : Int} (hn : thereN l n = true) (ha : a ∈ wayN l n) (hb : b ∈ wayN l n) (he : (wayN l a).length = (wayN l b).length) : a = b := by
 obtain ⟨t, ht⟩ := way_cut T n hn a ha
 obtain ⟨s, hs⟩ := way_cut T n hn b hb
 rw [ht] at hs
 have h := (List.append_inj' hs he).2
 obtain ⟨r, hr⟩ := way_head T (way_there T n hn a ha)
 obtain ⟨q, hq⟩ := way_head T (way_there T n hn b hb)
 rw [hr, hq] at h
 exact (List.cons.inj h).1
theorem ord_way (T : Tree l) : ∀ (m : Nat) (n : Int), thereN l n = true → ∀ b ∈ ordN l m n, thereN l b = true ∧ n ∈ wayN l b
 | 0, n, _, b, hb => by simp [ordN] at hb
 | m + 1, n, hn, b, hb => by
   unfold ordN at hb
   rcases List.mem_cons.1 hb with rfl | h
   ·exact ⟨hn, way_self T hn⟩
   ·obtain ⟨k, hk, hbk⟩ := List.mem_flatMap.1 h
    have hkk := T.kid n hn k hk
    obtain ⟨h1, h2⟩ := ord_way T m k hkk.1 b hbk
    refine ⟨h1, way_trans T h1 ?_ h2⟩
    rw [way_kid T hn hk]
    exact List.mem_cons_of_mem _ (way_self T hn)
theorem ord_nodup (T : Tree l) : ∀ (m : Nat) (n : Int), thereN l n = true → (ordN l m n).Nodup
 | 0, _, _ => List.nodup_nil
 | m + 1, n, hn => by
   unfold ordN
   refine List.nodup_cons.2 ⟨fun h => ?_, ?_⟩
   ·obtain ⟨k, hk, hnk⟩ := List.mem_flatMap.1 h
    have hkk := T.kid n hn k hk
    have h1 := (ord_way T m k hkk.1 n hnk).2
    obtain ⟨t, ht⟩ := way_cut T n hn k h1
    have h2 := congrArg List.length ht
    rw [way_kid T hn hk] at h2
    simp at h2
    omega
   ·refine List.pairwise_flatMap.2 ⟨fun k hk => ord_nodup T m k (T.kid n hn k hk).1, ?_⟩
    refine List.Pairwise.imp_of_mem (fun {a b} ha hb hab x hx y hy e => ?_) (T.dup n hn)
    subst e
    have h1 := ord_way T m a (T.kid n hn a ha).1 x hx
    have h2 := ord_way T m b (T.kid n hn b hb).1 x hy
    refine hab (way_eq T h1.1 h1.2 h2.2 ?_)
    rw [way_kid T hn ha, way_kid T hn hb]; rfl
theorem nodup_len : ∀ (s t : List Int), t.Nodup → (∀ x ∈ t, x ∈ s) → t.length ≤ s.length
 | [], t, _, h => by
   cases t with
   | nil => exact Nat.le_refl _
   | cons a r => exact absurd (h a List.mem_cons_self) (by simp)
 | a :: s, t, hd, h => by
   have h1 := nodup_len s (t.erase a) (hd.erase a) (fun x hx => by
   have h2 := (hd.mem_erase_iff).1 hx
   rcases List.mem_cons.1 (h x h2.2) with e | e
   ·exact absurd e h2.1
   ·exact e)
   have h3 : t.length ≤ (t.erase a).length + 1 := by rw [List.length_erase]; split <;> omega
   simp; omega
theorem ints_len {t : List Int} {n : Nat} (hd : t.Nodup) (h : ∀ x ∈ t, 0 ≤ x ∧ x < (n : Int)) : t.length ≤ n := by
 have := nodup_len ((List.range n).map (fun k : Nat => (k : Int))) t hd (fun x hx => by
  have := h x hx
  exact List.mem_map.2 ⟨x.toNat, List.mem_range.2 (by omega), by omega⟩)
 simpa using this
theorem ord_len (T : Tree l) (m : Nat) {n : Int} (hn : thereN l n = true) : (ordN l m n).length ≤ l.length :=
 ints_len (ord_nodup T m n hn) fun x hx => there_pos (ord_way T m n hn x hx).1
def kidP (l : List NodeM) (n : Int) (x : NodeM) (c : Int) : Bool :=
 thereN l c && (decide ((nd l c).parent = n) && (decide ((nd l c).doc = x.doc) && (decide ((nd l c).kind = 1) || (decide ((nd l c).kind = 2) && decide (x.kind ≠ 0)))))
theorem kidsOK_iff {n : Int} {x : NodeM} : ∀ {cs pre : List Int}, kidsOK l n x pre cs = true ↔ (∀ c ∈ cs, kidP l n x c = true) ∧ cs.Nodup ∧ (∀ c ∈ cs, c ∉ pre)
 | [], pre => by simp [kidsOK]
 | a :: r, pre => by
   have hk : kidOK l n x pre a = true ↔ kidP l n x a = true ∧ a ∉ pre := by
    unfold kidOK kidP hasI
    simp only [Bool.and_eq_true, Bool.or_eq_true, decide_eq_true_eq, Bool.not_eq_true', decide_eq_false_iff_not]
    constructor
    ·rintro ⟨⟨⟨⟨h1, h2⟩, h3⟩, h4⟩, h5⟩; exact ⟨⟨h1, h3, h4, h5⟩, h2⟩
    ·rintro ⟨⟨h1, h3, h4, h5⟩, h2⟩; exact ⟨⟨⟨⟨h1, h2⟩, h3⟩, h4⟩, h5⟩
   unfold kidsOK
   rw [Bool.and_eq_true, hk, kidsOK_iff, List.nodup_cons]
   constructor
   ·rintro ⟨⟨h1, h2⟩, h3, h4, h5⟩
    refine ⟨fun c hc => ?_, ⟨fun h => ?_, h4⟩, fun c hc => ?_⟩
    ·rcases List.mem_cons.1 hc with rfl | h
     ·exact h1
     ·exact h3 c h
    ·exact h5 a h (by simp)
    ·rcases List.mem_cons.1 hc with rfl | h
     ·exact h2
     ·exact fun h6 => h5 c h (List.mem_append_left _ h6)
   ·rintro ⟨h1, ⟨h2, h3⟩, h4⟩
    refine ⟨⟨h1 a List.mem_cons_self, h4 a List.mem_cons_self⟩, fun c hc => h1 c (List.mem_cons_of_mem _ hc), h3, fun c hc h => ?_⟩
    rcases List.mem_append.1 h with h | h
    ·exact h4 c (List.mem_cons_of_mem _ hc) h
    ·rw [List.mem_singleton] at h; subst h; exact h2 hc
theorem right_nodes {f : ForM} (h : rightF f = true) : ∀ n, thereN f.nodes n = true → nodeOK f.nodes n (nd f.nodes n) = true := by
 intro n hn
 obtain ⟨k, x, rfl, hk, hx⟩ := there_iff.1 hn
 unfold rightF at h
 simp only [Bool.and_eq_true] at h
 have := allIx_iff.1 h.2.1 k x hk
 rw [hx]; simpa using this
theorem right_ends {f : ForM} (h : rightF f = true) : ∀ n, thereN f.nodes n = true → endsN f.nodes f.nodes.length n = true := by
 intro n hn
 obtain ⟨k, x, rfl, hk, hx⟩ := there_iff.1 hn
 unfold rightF at h
 simp only [Bool.and_eq_true] at h
 simpa using allIx_iff.1 h.2.2 k x hk
theorem tree_of {f : ForM} (h : rightF f = true) : Tree f.nodes := by
 have hN := right_nodes h
 have hB : ∀ n, thereN f.nodes n = true → (∀ c ∈ (nd f.nodes n).kids, kidP f.nodes n (nd f.nodes n) c = true) ∧ (nd f.nodes n).kids.Nodup := by
  intro n hn
  have h1 := hN n hn
  unfold nodeOK bearsN at h1
  simp only [Bool.and_eq_true] at h1
  have := kidsOK_iff.1 h1.2.2.2.1.1
  exact ⟨this.1, this.2.1⟩
 refine ⟨fun n hn hp => ?_, fun n hn k hk => ?_, fun n hn => (hB n hn).2, fun n hn => fin_of_ends (right_ends h n hn), fun n hn => ?_⟩
 ·have h1 := hN n hn
  unfold nodeOK hungN at h1
  simp only [Bool.and_eq_true, Bool.or_eq_true, decide_eq_true_eq] at h1
  rcases h1.2.2.1 with h2 | h2
  ·exact absurd h2 hp
  ·refine ⟨h2.1.1.2, ?_⟩
   have := h2.2
   unfold hasI at this; simpa using this
 ·have h1 := (hB n hn).1 k hk
  unfold kidP at h1
  simp only [Bool.and_eq_true, decide_eq_true_eq] at h1
  exact ⟨h1.1, h1.2.1⟩
 ·have h1 := hN n hn
  unfold nodeOK at h1
  simp only [Bool.and_eq_true] at h1
  exact h1.1
end Go.Proofs.Heir
end
section
namespace Go.Proofs.Heir
open Go Go.Am Go.RowKit Go.Lib
set_option maxRecDepth 100000
set_option maxHeartbeats 8000000
def holdsN (l : List NodeM) (a b : Int) : Bool := decide (a ∈ wayN l b)
variable {l : List NodeM}
theorem nam_kind (T : Tree l) {n : Int} (hn : thereN l n = true) : (nd l n).kind = 1 ∨ ((nd l n).kind ≠ 1 ∧ (nd l n).name = ⟨#[]⟩ ∧ (nd l n).attrs = []) := by
 have h := T.nam n hn
 unfold namedN at h
 by_cases e1 : (nd l n).kind = 1
 ·exact .inl e1
 ·right
  rw [if_neg e1] at h
  refine ⟨e1, ?_⟩
  split at h
  ·simp only [Bool.and_eq_true, decide_eq_true_eq] at h
   exact ⟨h.1.1.2, h.2⟩
  ·split at h
   ·simp only [Bool.and_eq_true, decide_eq_true_eq] at h
    exact ⟨h.1.1.1, h.2⟩
   ·cases h
end Go.Proofs.Heir
end
section
namespace Go.Proofs.Heir
open Go Go.Am Go.RowKit Go.Lib
set_option maxRecDepth 100000
set_option maxHeartbeats 8000000
def finG (g : Int → Int) : Nat → Int → Bool
 | 0, _ => false
 | m + 1, n => if g n = -1 then true else finG g m (g n)
def chG (g : Int → Int) : Nat → Int → List Int
 | 0, _ => []
 | m + 1, n => n :: if g n = -1 then [] else chG g m (g n)
theorem moreG {g : Int → Int} : ∀ {m k : Nat} {n : Int}, finG g m n = true → m ≤ k → chG g k n = chG g m n ∧ finG g k n = true
 | 0, k, n, h, _ => by simp [finG] at h
 | m + 1, k, n, h, hk => by
   obtain ⟨k, rfl⟩ : ∃ j, k = j + 1 := ⟨k - 1, by omega⟩
   unfold finG at h ⊢
   unfold chG
   by_cases hp : g n = -1
   ·rw [if_pos hp, if_pos hp, if_pos hp]; exact ⟨rfl, rfl⟩
   ·rw [if_neg hp] at h
    rw [if_neg hp, if_neg hp, if_neg hp, (moreG h (Nat.le_of_succ_le_succ hk)).1]
    exact ⟨rfl, (moreG h (Nat.le_of_succ_le_succ hk)).2⟩
theorem cutG {g : Int → Int} : ∀ {m : Nat} {n a : Int}, finG g m n = true → a ∈ chG g m n → finG g m a = true ∧ ∃ t, chG g m n = t ++ chG g m a
 | 0, n, a, h, _ => by simp [finG] at h
 | m + 1, n, a, h, ha => by
   by_cases e : a = n
   ·subst e; exact ⟨h, [], rfl⟩
   ·unfold finG at h
    unfold chG at ha
    by_cases hp : g n = -1
    ·rw [if_pos hp] at ha; exact absurd (List.mem_singleton.1 ha) e
    ·rw [if_neg hp] at h ha
     rcases List.mem_cons.1 ha with h1 | h1
     ·exact absurd h1 e
     ·obtain ⟨h2, t, ht⟩ := cutG h h1
      have h3 := moreG h2 (Nat.le_succ m)
      refine ⟨h3.2, n :: t, ?_⟩
      rw [show m.succ = m + 1 from rfl] at h3
      rw [h3.1, chG, if_neg hp, ht]; rfl
theorem dupG {g : Int → Int} : ∀ {m : Nat} {n : Int}, finG g m n = true → (chG g m n).Nodup
 | 0, n, h => by simp [finG] at h
 | m + 1, n, h => by
   have h0 := h
   unfold finG at h
   unfold chG
   by_cases hp : g n = -1
   ·rw [if_pos hp]; simp
   ·rw [if_neg hp] at h ⊢
    refine List.nodup_cons.2 ⟨fun hin => ?_, dupG h⟩
    obtain ⟨h2, t, ht⟩ := cutG h hin
    have h3 := (moreG h2 (Nat.le_succ m)).1
    rw [show m.succ = m + 1 from rfl, chG, if_neg hp, ht] at h3
    have := congrArg List.length h3
    simp at this
    omega
theorem ends_G (l : List NodeM) : ∀ (m : Nat) (n : Int), endsN l m n = finG (fun n => upN (nd l n)) m n
 | 0, _ => rfl
 | m + 1, n => by unfold endsN finG; rw [ends_G l m]
def rName (x : NodeM) : Bool :=
 if x.kind = 1 then rightS x.name && decide (lowS x.name = x.name) && (decide (x.is = ⟨#[]⟩) || customS x.is) && decide (x.data = ⟨#[]⟩) && rightA x.attrs
 else decide (x.name = ⟨#[]⟩) && decide (x.is = ⟨#[]⟩) && decide (x.attrs = []) && (decide (x.data = ⟨#[]⟩) || (decide (x.kind = 2) && decide (x.data.size ≤ 200)))
theorem named_kind {x : NodeM} : namedN x = true ↔ (0 ≤ x.kind ∧ x.kind ≤ 4) ∧ rName x = true := by
 unfold namedN rName
 by_cases e1 : x.kind = 1
 ·rw [if_pos e1, if_pos e1]
  exact ⟨fun h => ⟨by omega, h⟩, fun h => h.2⟩
 ·rw [if_neg e1, if_neg e1]
  by_cases e2 : x.kind = 2
  ·rw [if_pos e2]
   simp only [Bool.and_eq_true, Bool.or_eq_true, decide_eq_true_eq]
   constructor
   ·rintro ⟨⟨⟨h1, h2⟩, h3⟩, h4⟩
    exact ⟨by omega, ⟨⟨h2, h3⟩, h4⟩, .inr ⟨e2, h1⟩⟩
   ·rintro ⟨_, ⟨⟨h2, h3⟩, h4⟩, h5⟩
    refine ⟨⟨⟨?_, h2⟩, h3⟩, h4⟩
    rcases h5 with h | h
    ·rw [h]; exact Nat.zero_le _
    ·exact h.2
  ·rw [if_neg e2]
   by_cases e3 : x.kind = 0 ∨ x.kind = 3 ∨ x.kind = 4
   ·rw [if_pos e3]
    simp only [Bool.and_eq_true, Bool.or_eq_true, decide_eq_true_eq]
    constructor
    ·rintro ⟨⟨⟨h1, h2⟩, h3⟩, h4⟩
     exact ⟨by omega, ⟨⟨h1, h2⟩, h4⟩, .inl h3⟩
    ·rintro ⟨_, ⟨⟨h1, h2⟩, h4⟩, h3 | h3⟩
     ·exact ⟨⟨⟨h1, h2⟩, h3⟩, h4⟩
     ·exact absurd h3.1 e2
   ·rw [if_neg e3]
    constructor
    ·intro h; cases h
    ·rintro ⟨h, _⟩; omega
variable {l : List NodeM}
theorem node_up (h : ∀ n, thereN l n = true → nodeOK l n (nd l n) = true) : ∀ n, thereN l n = true → upN (nd l n) = -1 ∨ thereN l (upN (nd l n)) = true := by
 intro n hn
 have h0 := h n hn
 unfold nodeOK at h0
 simp only [Bool.and_eq_true] at h0
 obtain ⟨_, _, hH, _, hS⟩ := h0
 unfold upN
 unfold hungN at hH
 simp only [Bool.and_eq_true, Bool.or_eq_true, decide_eq_true_eq] at hH
 by_cases e : (nd l n).parent = -1
 ·rw [if_pos e]
  unfold shadedN at hS
  rw [Bool.and_eq_true] at hS
  by_cases e4 : (nd l n).kind = 4
  ·rw [if_pos e4] at hS
   unfold isN at hS
   simp only [Bool.and_eq_true] at hS
   exact .inr hS.1.1.1.1
  ·rw [if_neg e4] at hS
   exact .inl (by simpa using hS.1)
 ·rw [if_neg e]
  rcases hH with h | h
  ·exact absurd h e
  ·exact .inr h.1.1.2
theorem all_there (p : Int → NodeM → Bool) : allIx (fun k x => p k x) 0 l = true ↔ ∀ n, thereN l n = true → p n (nd l n) = true := by
 rw [allIx_iff]
 constructor
 ·intro h n hn
  obtain ⟨k, x, rfl, hk, hx⟩ := there_iff.1 hn
  have := h k x hk
  rw [hx]; simpa using this
 ·intro h k x hk
  have := h k (there_get hk)
  rw [nd_get hk] at this
  simpa using this
end Go.Proofs.Heir
end
namespace Go.Proofs.Heir
open Go Go.Am Go.RowKit Go.Lib
set_option maxRecDepth 100000
set_option maxHeartbeats 8000000
theorem allIx_no {α : Type} {p : Nat → α → Bool} {l : List α} {k : Nat} {x : α} (h : l[k]? = some x) (hp : p k x = false) : allIx p 0 l = false := by
 rw [Bool.eq_false_iff]
 intro h1
 have := allIx_iff.1 h1 k x h
 rw [Nat.zero_add, hp] at this
 cases this
theorem allIx_yes {α : Type} {p : Nat → α → Bool} {l : List α} (h : ∀ k x, l[k]? = some x → p k x = true) : allIx p 0 l = true :=
 allIx_iff.2 fun k x hx => by rw [Nat.zero_add]; exact h k x hx
theorem f55_ok (f : ForM) (hs : SmallN f.nodes) : FnOK Tryz.prog 55 [] [eFor f] [] (eBool (rightF f)) := by
 have hl := hs.len
 have h38 : ∀ x ∈ f.nodes, FnOK Tryz.prog 115 [] [eNode x] [] (eBool (namedN x)) := fun x hx => f115_ok x (by have := hs.attrs x hx; omega)
 have h39 := f116_ok f
 have h40 := f117_ok f hs
 have h41 := f118_ok f hs
 have h42 := f119_ok f
 have h43 : (∀ n, thereN f.nodes n = true → nodeOK f.nodes n (nd f.nodes n) = true) → ∀ k, k < f.nodes.length → FnOK Tryz.prog 120 [] [eFor f, eInt k] [] (eBool (endsN f.nodes f.nodes.length k)) := fun hN k hk => f120_ok f (by omega) (fun k x hx => by have := node_up hN k (there_get hx); rwa [nd_get hx] at this) k hk
 obtain ⟨l, m⟩ := f
 unfold rightF headOK
 simp only at hl h38 h39 h40 h41 h42 h43 ⊢
 have hlm : (l.map oNode).length = l.length := List.length_map ..
 refine FnOK.startC (rvs := [.tmp 2]) G G_good Tryz.func55 rfl Tryz.ntmps55 rfl rfl ?_; with_reducible refine wD ?_
 by_cases e1 : m < 1
 ·have c1 : decide (1 ≤ m) = false := decide_eq_false (by omega)
  rw [c1]
  (have fct := e1; (repeat' (first
  | refine gF ?_ | refine aE ?_ ?_
  | apply trivial)); all_goals clear fct)
  all_goals simp
 by_cases e2 : 400 < m
 ·have c1 : decide (m ≤ 400) = false := decide_eq_false (by omega)
  rw [c1]
  (have fct := And.intro (eq_false e1) (e2); (repeat' (first
  | refine gF ?_ | refine aE ?_ ?_
  | apply trivial)); all_goals clear fct)
  all_goals simp
 by_cases e3 : l.length < 1
 ·have c1 : decide (1 ≤ l.length) = false := decide_eq_false (by omega)
  have e3' : (l.length : Int) < 1 := by omega
  rw [c1]
  (have fct := And.intro (eq_false e1) (And.intro (eq_false e2) (And.intro hlm (e3'))); (repeat' (first
  | refine gF ?_ | refine aE ?_ ?_
  | apply trivial)); all_goals clear fct)
  all_goals simp
 have e3' : ¬ (l.length : Int) < 1 := by omega
 by_cases e4 : m < (l.length : Int)
 ·have c1 : decide ((l.length : Int) ≤ m) = false := decide_eq_false (by omega)
  rw [c1]
  (have fct := And.intro (eq_false e1) (And.intro (eq_false e2) (And.intro hlm (And.intro (eq_false e3') (e4)))); (repeat' (first
  | refine gF ?_ | refine aE ?_ ?_
  | apply trivial)); all_goals clear fct)
  all_goals simp
 obtain ⟨x0, hx0⟩ : ∃ x, l[0]? = some x := ⟨_, List.getElem?_eq_getElem (by omega)⟩
 have hn0 : nd l 0 = x0 := nd_get (k := 0) hx0
 rw [hn0]
 obtain ⟨z1, z2, z3, z4, z5, z6, z7, z8, z9, z10⟩ := x0
 by_cases e5 : ¬ z1 = 0
 ·(have fct := And.intro (eq_false e1) (And.intro (eq_false e2) (And.intro hlm (And.intro (eq_false e3') (And.intro (eq_false e4) ((eq_false e5)))))); (repeat' (first
  | refine gF ?_ | refine aE ?_ ?_
  | ((refine IdxK.mk 0 (eNode ⟨z1, z2, z3, z4, z5, z6, z7, z8, z9, z10⟩) rfl (node_get hx0) ?_) <;> with_reducible refine wK ?_)
  | apply trivial)); all_goals clear fct)
  all_goals simp [e5]
 have e5 := Decidable.not_not.1 e5
 have c1 : (decide (1 ≤ m) && decide (m ≤ 400) && decide (1 ≤ l.length) && decide ((l.length : Int) ≤ m) && decide (z1 = 0)) = true := by
  simp only [Bool.and_eq_true, decide_eq_true_eq]; omega
 simp only at c1 ⊢
 rw [c1, Bool.true_and]
 (have fct := And.intro (eq_false e1) (And.intro (eq_false e2) (And.intro hlm (And.intro (eq_false e3') (And.intro (eq_false e4) (e5))))); (repeat' (first
  | refine gF ?_ | refine aE ?_ ?_
  | ((refine IdxK.mk 0 (eNode ⟨z1, z2, z3, z4, z5, z6, z7, z8, z9, z10⟩) rfl (node_get hx0) ?_) <;> with_reducible refine wK ?_)
  | apply trivial)); all_goals clear fct)
 refine LoopK.use G G_good (fun (k : Nat) => [(1, .ptr 10 0 0), (44, eNodes l), (45, eInt l.length), (46, eInt k)]) (fun _ => [(10, .live 2 [eFor ⟨l, m⟩] false)])
  (fun k => k ≤ l.length ∧ ∀ j x, j < k → l[j]? = some x → nodeOK l j x = true) (fun k => l.length - k) 0 ⟨Nat.zero_le _, fun j x h => by omega⟩
  ⟨⟨rfl, rfl⟩, ⟨⟨rfl, rfl⟩, rfl, by show (l.length : Int) = ((l.map oNode).length : Int); rw [hlm], rfl, trivial⟩, ⟨⟨rfl, rfl, trivial⟩, trivial⟩, trivial⟩ ?_
 rintro k ⟨hk, hok⟩
 with_reducible refine wK ?_
 refine IfK.mk (fun g1 => ?_) (fun g1 => ?_) <;> (try simp only [castN] at g1) <;> with_reducible refine wK ?_
 ·have hk' : k < l.length := by simp only [decide_eq_true_eq] at g1; omega
  obtain ⟨x, hx⟩ : ∃ x, l[k]? = some x := ⟨_, List.getElem?_eq_getElem hk'⟩
  have h38' := h38 x (List.mem_of_getElem? hx)
  have h39' := h39 k x hx
  have h40' := h40 k x hx
  have h41' := h41 k x hx
  have h42' := h42 k x hx
  have bad : nodeOK l k x = false → allIx (fun k x => nodeOK l k x) 0 l = false := fun h => allIx_no hx h
  have good : nodeOK l k x = true → ∀ j y, j < k + 1 → l[j]? = some y → nodeOK l j y = true := fun h j y hj hy => by
   rcases Nat.lt_or_ge j k with h6 | h6
   ·exact hok j y h6 hy
   ·have : j = k := by omega
    subst this
    rw [hx] at hy; cases hy; exact h
  obtain ⟨a1, a2, a3, a4, a5, a6, a7, a8, a9, a10⟩ := x
  refine IdxK.mk k (eNode _) rfl (node_get hx) ?_; with_reducible refine wK ?_
  cases q1 : namedN ⟨a1, a2, a3, a4, a5, a6, a7, a8, a9, a10⟩ with
  | false =>
    rw [bad (by unfold nodeOK; rw [q1]; rfl), Bool.false_and]
    (have fct := q1; (repeat' (first
  | refine gF ?_ | refine aE ?_ ?_
  | (((with_reducible refine kQ 115 ?_); refine cL h38' c115 ?_) <;> with_reducible refine wK ?_)
  | apply trivial)); all_goals clear fct)
  | true =>
    cases q2 : ownedN l k ⟨a1, a2, a3, a4, a5, a6, a7, a8, a9, a10⟩ with
    | false =>
      rw [bad (by unfold nodeOK; rw [q1, q2]; rfl), Bool.false_and]
      (have fct := And.intro q1 (q2); (repeat' (first
  | refine gF ?_ | refine aE ?_ ?_
  | ((first
   | ((with_reducible refine kQ 115 ?_); refine cL h38' c115 ?_)
   | ((with_reducible refine kQ 116 ?_); refine cL h39' c116 ?_)) <;> with_reducible refine wK ?_)
  | apply trivial)); all_goals clear fct)
    | true =>
      cases q3 : hungN l k ⟨a1, a2, a3, a4, a5, a6, a7, a8, a9, a10⟩ with
      | false =>
        rw [bad (by unfold nodeOK; rw [q1, q2, q3]; rfl), Bool.false_and]
        (have fct := And.intro q1 (And.intro q2 (q3)); (repeat' (first
  | refine gF ?_ | refine aE ?_ ?_
  | ((first
   | ((with_reducible refine kQ 115 ?_); refine cL h38' c115 ?_)
   | ((with_reducible refine kQ 116 ?_); refine cL h39' c116 ?_)
   | ((with_reducible refine kQ 117 ?_); refine cL h40' c117 ?_)) <;> with_reducible refine wK ?_)
  | apply trivial)); all_goals clear fct)
      | true =>
        cases q4 : bearsN l k ⟨a1, a2, a3, a4, a5, a6, a7, a8, a9, a10⟩ with
        | false =>
          rw [bad (by unfold nodeOK; rw [q1, q2, q3, q4]; rfl), Bool.false_and]
          (have fct := And.intro q1 (And.intro q2 (And.intro q3 (q4))); (repeat' (first
  | refine gF ?_ | refine aE ?_ ?_
  | ((first
   | ((with_reducible refine kQ 115 ?_); refine cL h38' c115 ?_)
   | ((with_reducible refine kQ 116 ?_); refine cL h39' c116 ?_)
   | ((with_reducible refine kQ 117 ?_); refine cL h40' c117 ?_)
   | ((with_reducible refine kQ 118 ?_); refine cL h41' c118 ?_)) <;> with_reducible refine wK ?_)
  | apply trivial)); all_goals clear fct)
        | true =>
          cases q5 : shadedN l k ⟨a1, a2, a3, a4, a5, a6, a7, a8, a9, a10⟩ with
          | false =>
            rw [bad (by unfold nodeOK; rw [q1, q2, q3, q4, q5]; rfl), Bool.false_and]
            (have fct := And.intro q1 (And.intro q2 (And.intro q3 (And.intro q4 (q5)))); (repeat' (first
  | refine gF ?_ | refine aE ?_ ?_
  | ((first
   | ((with_reducible refine kQ 115 ?_); refine cL h38' c115 ?_)
   | ((with_reducible refine kQ 116 ?_); refine cL h39' c116 ?_)
   | ((with_reducible refine kQ 117 ?_); refine cL h40' c117 ?_)
   | ((with_reducible refine kQ 118 ?_); refine cL h41' c118 ?_)
   | ((with_reducible refine kQ 119 ?_); refine cL h42' c119 ?_)) <;> with_reducible refine wK ?_)
  | apply trivial)); all_goals clear fct)
          | true =>
            have hnx := good (by unfold nodeOK; rw [q1, q2, q3, q4, q5]; rfl)
            (have fct := And.intro q1 (And.intro q2 (And.intro q3 (And.intro q4 (q5)))); (repeat' (first
  | refine gF ?_ | refine aE ?_ ?_
  | ((first
   | ((with_reducible refine kQ 115 ?_); refine cL h38' c115 ?_)
   | ((with_reducible refine kQ 116 ?_); refine cL h39' c116 ?_)
   | ((with_reducible refine kQ 117 ?_); refine cL h40' c117 ?_)
   | ((with_reducible refine kQ 118 ?_); refine cL h41' c118 ?_)
   | ((with_reducible refine kQ 119 ?_); refine cL h42' c119 ?_)
   | ((with_reducible show NextK _ _); refine NextK.mk (k + 1) ⟨by omega, hnx⟩ (by omega) ⟨⟨rfl, rfl⟩, ⟨⟨rfl, rfl⟩, rfl, rfl, by show ((k + 1 : Nat) : Int) = (k : Int) + 1; omega, trivial⟩, ⟨⟨rfl, rfl, trivial⟩, trivial⟩, trivial⟩)) <;> with_reducible refine wK ?_)
  | apply trivial)); all_goals clear fct)
 ·have hkl : k = l.length := by simp only [decide_eq_false_iff_not] at g1; omega
  have hall : ∀ (j : Nat) (x : NodeM), l[j]? = some x → nodeOK l j x = true := fun j x hx => hok j x (by have := (List.getElem?_eq_some_iff.1 hx).1; omega) hx
  rw [allIx_yes hall, Bool.true_and]
  have h43' := h43 fun n hn => by
   obtain ⟨k, x, rfl, hk, hx⟩ := there_iff.1 hn
   rw [hx]; exact hall k x hk
  refine LoopK.use G G_good (fun (k : Nat) => [(1, .ptr 10 0 0), (82, eInt l.length), (83, eInt k)]) (fun _ => [(10, .live 2 [eFor ⟨l, m⟩] false)])
   (fun k => k ≤ l.length ∧ ∀ (j : Nat) (x : NodeM), j < k → l[j]? = some x → endsN l l.length j = true) (fun k => l.length - k) 0 ⟨Nat.zero_le _, fun j x h => by omega⟩
   ⟨⟨rfl, rfl⟩, ⟨⟨rfl, rfl⟩, by show (l.length : Int) = ((l.map oNode).length : Int); rw [hlm], rfl, trivial⟩, ⟨⟨rfl, rfl, trivial⟩, trivial⟩, trivial⟩ ?_
  rintro i ⟨hi, hends⟩
  with_reducible refine wK ?_
  refine IfK.mk (fun g2 => ?_) (fun g2 => ?_) <;> (try simp only [castN] at g2) <;> with_reducible refine wK ?_
  ·have hi' : i < l.length := by simp only [decide_eq_true_eq] at g2; omega
   obtain ⟨y, hy⟩ : ∃ y, l[i]? = some y := ⟨_, List.getElem?_eq_getElem hi'⟩
   have h43'' := h43' i hi'
   refine cL h43'' c120 ?_; with_reducible refine wK ?_
   cases q : endsN l l.length i with
   | false =>
     rw [allIx_no hy q]
     (have fct := q; (repeat' (first
  | refine gF ?_ | refine aE ?_ ?_
  | apply trivial)); all_goals clear fct)
   | true =>
     (have fct := q; (repeat' (first
  | refine gF ?_ | refine aE ?_ ?_
  | (((with_reducible show NextK _ _); refine NextK.mk (i + 1) ⟨by omega, fun j x hj hx => ?_⟩ (by omega) ⟨⟨rfl, rfl⟩, ⟨⟨rfl, rfl⟩, rfl, by show ((i + 1 : Nat) : Int) = (i : Int) + 1; omega, trivial⟩, ⟨⟨rfl, rfl, trivial⟩, trivial⟩, trivial⟩) <;> with_reducible refine wK ?_)
  | apply trivial)); all_goals clear fct)
     rcases Nat.lt_or_ge j i with h6 | h6
     ·exact hends j x h6 hx
     ·have : j = i := by omega
      rw [this]; exact q
  ·have hil : i = l.length := by simp only [decide_eq_false_iff_not] at g2; omega
   rw [allIx_yes fun j x hx => hends j x (by have := (List.getElem?_eq_some_iff.1 hx).1; omega) hx]
   (refine eK ?_ ?_ <;> with_reducible repeat' (first | exact trivial | (show _ ∧ _; refine aK ?_ ?_)))
theorem f17_ok (f : ForM) (hs : SmallN f.nodes) : FnOK Tryz.prog 17 [] [eFor f] [] (eBool (rightF f)) := by
 have h23 := f55_ok f hs
 obtain ⟨l, m⟩ := f
 refine FnOK.startC (rvs := [.tmp 2]) G G_good Tryz.func17 rfl Tryz.ntmps17 rfl rfl ?_; with_reducible refine wD ?_
 refine cL h23 c55 ?_; with_reducible refine wK ?_
 (refine eK ?_ ?_ <;> with_reducible repeat' (first | exact trivial | (show _ ∧ _; refine aK ?_ ?_)))
theorem noRef_ints (l : List Int) : noRefL (l.map oInt) = true := by
 rw [noRefL_iff]; intro x hx
 obtain ⟨a, _, rfl⟩ := List.mem_map.1 hx
 rfl
theorem one_ints (l : List Int) : oneL (flat (l.map oInt)) = true := oneL_map oInt (fun _ => rfl) l
theorem frz_ints {m : ML} {fz : Nat → Bool} {tab : List (Nat × Nat)} {n t len : Nat} {ro : Bool} {rows : List AV} {l : List Int} (h1 : lkM m t = .live 1 rows ro) (h2 : fz t = true) (h3 : rows = l.map oInt) (h4 : len = l.length) : FrzK m fz (MF tab fz m n) (eInts l) t 0 len := by
 subst h3; subst h4
 have e : (l.map oInt).length = l.length := List.length_map ..
 exact .cut h1 h2 (by omega) (by rw [List.drop_zero, List.take_of_length_le (by omega)]) (noRef_ints l)
@[reducible] def rInts (l : List Int) : MS := .live 1 (l.map oInt) false
@[reducible] def mNodes (l : List NodeM) : MS := .live 10 (l.map oNode) false
@[reducible] def mHand (most : Int) (n : Nat) (t : Nat) (notes : AV) : MS := .live 3 [.agg [.own t 0 n, eInt most, notes]] false
theorem noRef_nodeN (x : NodeM) : noRef (oNode x) = true := by
  show noRef (.agg [eInt x.kind, eStr x.name, eStr x.is, eStr x.data, eAttrs x.attrs, eInt x.parent, eInts x.kids, eInt x.host, eInt x.under, eInt x.doc]) = true
  have h1 : noRefL (x.attrs.map oAttr) = true := noRefL_map oAttr (fun _ => rfl) _
  have h2 : noRefL (x.kids.map oInt) = true := noRefL_map oInt (fun _ => rfl) _
  simp [noRef, noRefL, h1, h2]
theorem noRef_nodes (l : List NodeM) : noRefL (l.map oNode) = true := noRefL_map oNode noRef_nodeN l
theorem nodes_outs (l : List NodeM) : okOuts [mNodes l] := ⟨Wide.of_mem fun x hx => by
  obtain ⟨a, _, rfl⟩ := List.mem_map.1 hx; rfl, noRef_nodes l, trivial⟩
theorem one_nodes (l : List NodeM) : oneL (flat (l.map oNode)) = true := oneL_map oNode (fun _ => rfl) l
theorem f137_own (l : List NodeM) (hl : l.length ≤ 100000) : FnOK Tryz.prog 137 [] [eNodes l] [mNodes l] (.own 0 0 l.length) := by
  have hlm : (l.map oNode).length = l.length := List.length_map ..
  refine FnOK.startC (rvs := [.tmp 2]) G G_good Tryz.func137 rfl Tryz.ntmps137 rfl rfl ?_; with_reducible refine wD ?_
  refine GuessK.mk (fun h => ?_) (fun _ => ?_) <;> with_reducible refine wK ?_
  · obtain rfl : l = [] := by simpa using h
    (refine eK ?_ ?_ <;> with_reducible repeat' (first | exact trivial | (show _ ∧ _; refine aK ?_ ?_)))
    all_goals first | rfl | trivial
  · refine AppK.mk [] (l.map oNode) ⟨rfl, rfl, rfl⟩ ⟨rfl, rfl, rfl⟩ (one_nodes l) (by simp; omega) (by simp; omega) ?_; with_reducible refine wK ?_
    (refine eK ?_ ?_ <;> with_reducible repeat' (first | exact trivial | (show _ ∧ _; refine aK ?_ ?_)))
    · exact hlm.symm
    · exact MFL_refl (noRef_nodes l)
theorem f72_fr (l : List Int) (hl : l.length ≤ 100000) : FnOK Tryz.prog 72 [] [eInts l] [] (eInts l) := by
  have hlm : (l.map oInt).length = l.length := List.length_map ..
  refine FnOK.startC (rvs := [.tmp 2]) G G_good Tryz.func72 rfl Tryz.ntmps72 rfl rfl ?_; with_reducible refine wD ?_
  refine GuessK.mk (fun h => ?_) (fun _ => ?_) <;> with_reducible refine wK ?_
  · obtain rfl : l = [] := by simpa using h
    (refine eK ?_ ?_ <;> with_reducible repeat' (first | exact trivial | (show _ ∧ _; refine aK ?_ ?_)))
    all_goals first | rfl | exact .inr (.inr ⟨1, rfl⟩) | trace_state
  · refine AppK.mk [] (l.map oInt) ⟨rfl, rfl, rfl⟩ ⟨rfl, rfl, rfl⟩ (oneL_map oInt (fun _ => rfl) l) (by simp; omega) (by simp; omega) ?_; with_reducible refine wK ?_
    (refine eK ?_ ?_ <;> with_reducible repeat' (first | exact trivial | (show _ ∧ _; refine aK ?_ ?_)))
    all_goals first | exact frz_ints rfl rfl rfl rfl | (refine frz_ints rfl rfl ?_ ?_ <;> simp) | trace_state
theorem f121_fr (f : ForM) (hs : SmallN f.nodes) : FnOK Tryz.prog 121 [] [eFor f] [mHand f.most f.nodes.length 1 (.lit (.slice none 0 0)), mNodes f.nodes] (.ptr 0 0 0) := by
  have h137 := f137_own f.nodes (by have := hs.len; omega)
  have h60 := hs.len
  have h182 : ∀ (k : Nat) (y : NodeM), f.nodes[k]? = some y → FnOK Tryz.prog 72 [] [eInts y.kids] [] (eInts y.kids) := fun k y hy => f72_fr y.kids (by have := hs.kids y (List.mem_of_getElem? hy); omega)
  have hset : ∀ (k : Nat) (y : NodeM), f.nodes[k]? = some y → f.nodes.set k y = f.nodes := fun k y hy => by
    apply List.ext_getElem?
    intro n
    rw [List.getElem?_set]
    by_cases e : k = n
    · subst e
      have := (List.getElem?_eq_some_iff.1 hy).1
      rw [if_pos rfl, if_pos this, hy]
    · rw [if_neg e]
  have hlm : (f.nodes.map oNode).length = f.nodes.length := List.length_map ..
  obtain ⟨l, m⟩ := f
  simp only at h137 h60 h182 hset hlm
  refine FnOK.startC (rvs := [.tmp 2]) G G_good Tryz.func121 rfl Tryz.ntmps121 rfl rfl ?_; with_reducible refine wD ?_
  repeat' (first
    | refine gK ?_
    | ((first
      | ((with_reducible show CallK _ _ 137 _ _ _ _); refine CallK.new 71 [] h137 c137 ⟨rfl, trivial⟩ rfl rfl rfl (nodes_outs l) rfl ?_)
      | ((with_reducible show DrawK _ _ _ _); refine dK ?_)) <;> with_reducible refine wK ?_)
    | ((with_reducible show (_ ∧ _) ∧ _ ∧ _); (refine eK ?_ ?_ <;> with_reducible repeat' (first | exact trivial | (show _ ∧ _; refine aK ?_ ?_)))))
  refine LoopK.use G G_good (fun (k : Nat) => [(3, .ptr 120 0 0), (18, eInt l.length), (19, eInt k)])
    (fun _ => [(120, mHand m l.length 71 (.lit (.slice none 0 0))), (71, mNodes l)])
    (fun k => k ≤ l.length) (fun k => l.length - k) 0 (Nat.zero_le _) ?_ ?_
  · (refine fK ?_; (with_reducible repeat' (first | exact trivial | (show _ ∧ _; refine aK ?_ ?_))); (all_goals try rfl))
    all_goals first
      | exact ⟨.refl rfl, rfl⟩
      | exact .inl rfl
      | exact ⟨.refl (noRef_nodes _), noRef_nodes _⟩
      | trace_state
  intro k hk
  with_reducible refine wK ?_
  refine IfK.mk (fun h1 => ?_) (fun h1 => ?_) <;> (try simp only [castN] at h1) <;> with_reducible refine wK ?_
  · have hkl : k < l.length := by simp only [decide_eq_true_eq, castN] at h1; omega
    obtain ⟨y, hy⟩ : ∃ y, l[k]? = some y := ⟨_, List.getElem?_eq_getElem hkl⟩
    have h182k := h182 k y hy
    have hrow : (l.map oNode).set (0 + k) (oNode y) = l.map oNode := by
      rw [Nat.zero_add, ← List.map_set, hset k y hy]
    obtain ⟨y1, y2, y3, y4, y5, y6, y7, y8, y9, y10⟩ := y
    simp only at h182k
    repeat' (first
    | refine gK ?_
    | ((first
      | ((with_reducible show LtK _ _ _ _ _); refine LtK.mk k rfl hkl ?_)
      | ((with_reducible show ElemK _ _ _ _ _); first | refine ElemK.mk (eNode ⟨y1, y2, y3, y4, y5, y6, y7, y8, y9, y10⟩) (by first | exact node_get hy | (rw [Nat.zero_add]; exact node_get hy)) ?_ | refine ElemK.mk _ rfl ?_)
      | ((with_reducible show CallK _ _ 72 _ _ _ _); refine CallK.val [] h182k c72 ⟨rfl, trivial⟩ rfl rfl rfl ?_)
      | ((with_reducible show DrawK _ _ _ _); refine dK ?_)) <;> with_reducible refine wK ?_)
    | ((with_reducible show (_ ∧ _) ∧ _ ∧ _); (refine eK ?_ ?_ <;> with_reducible repeat' (first | exact trivial | (show _ ∧ _; refine aK ?_ ?_)))))
    refine NextK.mk (k + 1) (by omega) (by omega) ?_
    (refine fK ?_; (with_reducible repeat' (first | exact trivial | (show _ ∧ _; refine aK ?_ ?_))); (all_goals try rfl))
    all_goals first
      | exact ⟨.refl rfl, rfl⟩
      | exact .inl rfl
      | exact ⟨.refl (noRef_nodes _), noRef_nodes _⟩
      | (refine cast (congrArg (ObjK _ _) hrow.symm) ?_; exact ⟨.refl (noRef_nodes _), noRef_nodes _⟩)
      | (simp; done)
      | trace_state
  · have hjl : k = l.length := by simp only [decide_eq_false_iff_not, castN] at h1; omega
    subst hjl
    repeat' (first
    | refine gK ?_
    | (((with_reducible show DrawK _ _ _ _); refine dK ?_) <;> with_reducible refine wK ?_)
    | ((with_reducible show (_ ∧ _) ∧ _ ∧ _); (refine eK ?_ ?_ <;> with_reducible repeat' (first | exact trivial | (show _ ∧ _; refine aK ?_ ?_)))))
    all_goals first | rfl | exact .inl rfl | exact ⟨.refl (noRef_nodes _), noRef_nodes _⟩ | trace_state
end Go.Proofs.Heir
namespace Go.Proofs.Heir
open Go Go.Am Go.RowKit Go.Lib
set_option maxRecDepth 100000

end Go.Proofs.Heir
namespace Go.Proofs.Heir
open Go Go.Am Go.RowKit Go.Lib
set_option maxRecDepth 100000
set_option maxHeartbeats 8000000
def chU (x : NodeM) : List Int := (if x.under = -1 then [] else [x.under]) ++ x.kids
namespace U
def finN (l : List NodeM) : Nat → Int → Bool
 | 0, _ => false
 | m + 1, n => if (upN (nd l n)) = -1 then true else finN l m (upN (nd l n))
def chN (l : List NodeM) : Nat → Int → List Int
 | 0, _ => []
 | m + 1, n => n :: if (upN (nd l n)) = -1 then [] else chN l m (upN (nd l n))
def ordN (l : List NodeM) : Nat → Int → List Int
 | 0, _ => []
 | m + 1, n => n :: (chU (nd l n)).flatMap (ordN l m)
def wayN (l : List NodeM) (n : Int) : List Int := chN l l.length n
theorem fin_of_ends {l : List NodeM} : ∀ {m : Nat} {n : Int}, endsN l m n = true → finN l m n = true
 | 0, n, h => by simp [endsN] at h
 | m + 1, n, h => by
   unfold finN; unfold endsN at h
   by_cases hp : upN (nd l n) = -1
   ·rw [if_pos hp]
   ·rw [if_neg hp] at h ⊢; exact fin_of_ends h
theorem ch_len (l : List NodeM) : ∀ (m : Nat) (n : Int), (chN l m n).length ≤ m
 | 0, _ => Nat.le_refl _
 | m + 1, n => by
   unfold chN
   split
   ·simp
   ·have := ch_len l m (upN (nd l n))
    simp; omega
theorem ch_more {l : List NodeM} : ∀ {m k : Nat} {n : Int}, finN l m n = true → m ≤ k → chN l k n = chN l m n
 | 0, k, n, h, _ => by simp [finN] at h
 | m + 1, k, n, h, hk => by
   obtain ⟨k, rfl⟩ : ∃ j, k = j + 1 := ⟨k - 1, by omega⟩
   unfold finN at h
   unfold chN
   by_cases hp : (upN (nd l n)) = -1
   ·rw [if_pos hp, if_pos hp]
   ·rw [if_neg hp] at h
    rw [if_neg hp, if_neg hp, ch_more h (by omega)]
structure Tree (l : List NodeM) : Prop where
 par : ∀ n, thereN l n = true → (upN (nd l n)) ≠ -1 → thereN l (upN (nd l n)) = true ∧ n ∈ (chU (nd l (upN (nd l n))))
 kid : ∀ n, thereN l n = true → ∀ k ∈ (chU (nd l n)), thereN l k = true ∧ (upN (nd l k)) = n
 dup : ∀ n, thereN l n = true → (chU (nd l n)).Nodup
 fin : ∀ n, thereN l n = true → finN l l.length n = true
variable {l : List NodeM}
theorem up_ind (T : Tree l) {P : Int → Prop} (h0 : ∀ n, thereN l n = true → (upN (nd l n)) = -1 → P n) (h1 : ∀ n, thereN l n = true → (upN (nd l n)) ≠ -1 → thereN l (upN (nd l n)) = true → P (upN (nd l n)) → P n) : ∀ n, thereN l n = true → P n := by
 have H : ∀ (m : Nat) (n : Int), thereN l n = true → finN l m n = true → P n := by
  intro m
  induction m with
  | zero => intro n _ h; simp [finN] at h
  | succ m ih =>
    intro n hn h
    unfold finN at h
    by_cases hp : (upN (nd l n)) = -1
    ·exact h0 n hn hp
    ·rw [if_neg hp] at h
     have hq := (T.par n hn hp).1
     exact h1 n hn hp hq (ih _ hq h)
 exact fun n hn => H _ n hn (T.fin n hn)
theorem way_top (T : Tree l) {n : Int} (hn : thereN l n = true) (hp : (upN (nd l n)) = -1) : wayN l n = [n] := by
 have := there_pos hn
 obtain ⟨m, hm⟩ : ∃ m, l.length = m + 1 := ⟨l.length - 1, by omega⟩
 unfold wayN; rw [hm]; unfold chN; rw [if_pos hp]
theorem way_step (T : Tree l) {n : Int} (hn : thereN l n = true) (hp : (upN (nd l n)) ≠ -1) : wayN l n = n :: wayN l (upN (nd l n)) := by
 have := there_pos hn
 obtain ⟨m, hm⟩ : ∃ m, l.length = m + 1 := ⟨l.length - 1, by omega⟩
 have hf := T.fin n hn
 unfold wayN; rw [hm] at hf ⊢
 unfold finN at hf
 rw [if_neg hp] at hf
 rw [chN, if_neg hp, ch_more hf (Nat.le_succ m)]
theorem way_kid (T : Tree l) {n k : Int} (hn : thereN l n = true) (hk : k ∈ (chU (nd l n))) : wayN l k = k :: wayN l n := by
 have h := T.kid n hn k hk
 have h0 := there_pos hn
 have hp : (upN (nd l k)) ≠ -1 := by rw [h.2]; omega
 rw [way_step T h.1 hp, h.2]
theorem way_head (T : Tree l) {n : Int} (hn : thereN l n = true) : ∃ r, wayN l n = n :: r := by
 by_cases hp : (upN (nd l n)) = -1
 ·exact ⟨[], way_top T hn hp⟩
 ·exact ⟨_, way_step T hn hp⟩
theorem way_self (T : Tree l) {n : Int} (hn : thereN l n = true) : n ∈ wayN l n := by
 obtain ⟨r, hr⟩ := way_head T hn; rw [hr]; exact List.mem_cons_self
theorem way_len (n : Int) : (wayN l n).length ≤ l.length := ch_len l _ n
theorem way_there (T : Tree l) : ∀ n, thereN l n = true → ∀ a ∈ wayN l n, thereN l a = true := by
 refine up_ind T (fun n hn hp a ha => ?_) (fun n hn hp hq ih a ha => ?_)
 ·rw [way_top T hn hp] at ha; rw [List.mem_singleton.1 ha]; exact hn
 ·rw [way_step T hn hp] at ha
  rcases List.mem_cons.1 ha with rfl | h
  ·exact hn
  ·exact ih a h
theorem way_cut (T : Tree l) : ∀ n, thereN l n = true → ∀ a ∈ wayN l n, ∃ t, wayN l n = t ++ wayN l a := by
 refine up_ind T (fun n hn hp a ha => ?_) (fun n hn hp hq ih a ha => ?_)
 ·have h := ha; rw [way_top T hn hp] at h; rw [List.mem_singleton.1 h]; exact ⟨[], rfl⟩
 ·have h := ha
  rw [way_step T hn hp] at h
  rcases List.mem_cons.1 h with rfl | h
  ·exact ⟨[], rfl⟩
  ·obtain ⟨t, ht⟩ := ih a h
   exact ⟨n :: t, by rw [way_step T hn hp, ht]; rfl⟩
theorem way_trans (T : Tree l) {a b c : Int} (hc : thereN l c = true) (h1 : a ∈ wayN l b) (h2 : b ∈ wayN l c) : a ∈ wayN l c := by
 obtain ⟨t, ht⟩ := way_cut T c hc b h2
 rw [ht]; exact List.mem_append_right _ h1
theorem way_eq (T : Tree l) {n a b : Int} (hn : thereN l n = true) (ha : a ∈ wayN l n) (hb : b ∈ wayN l n) (he : (wayN l a).length = (wayN l b).length) : a = b := by
 obtain ⟨t, ht⟩ := way_cut T n hn a ha
 obtain ⟨s, hs⟩ := way_cut T n hn b hb
 rw [ht] at hs
 have h := (List.append_inj' hs he).2
 obtain ⟨r, hr⟩ := way_head T (way_there T n hn a ha)
 obtain ⟨q, hq⟩ := way_head T (way_there T n hn b hb)
 rw [hr, hq] at h
 exact (List.cons.inj h).1
theorem ord_way (T : Tree l) : ∀ (m : Nat) (n : Int), thereN l n = true → ∀ b ∈ ordN l m n, thereN l b = true ∧ n ∈ wayN l b
 | 0, n, _, b, hb => by simp [ordN] at hb
 | m + 1, n, hn, b, hb => by
   unfold ordN at hb
   rcases List.mem_cons.1 hb with rfl | h
   ·exact ⟨hn, way_self T hn⟩
   ·obtain ⟨k, hk, hbk⟩ := List.mem_flatMap.1 h
    have hkk := T.kid n hn k hk
    obtain ⟨h1, h2⟩ := ord_way T m k hkk.1 b hbk
    refine ⟨h1, way_trans T h1 ?_ h2⟩
    rw [way_kid T hn hk]
    exact List.mem_cons_of_mem _ (way_self T hn)
theorem ord_nodup (T : Tree l) : ∀ (m : Nat) (n : Int), thereN l n = true → (ordN l m n).Nodup
 | 0, _, _ => List.nodup_nil
 | m + 1, n, hn => by
   unfold ordN
   refine List.nodup_cons.2 ⟨fun h => ?_, ?_⟩
   ·obtain ⟨k, hk, hnk⟩ := List.mem_flatMap.1 h
    have hkk := T.kid n hn k hk
    have h1 := (ord_way T m k hkk.1 n hnk).2
    obtain ⟨t, ht⟩ := way_cut T n hn k h1
    have h2 := congrArg List.length ht
    rw [way_kid T hn hk] at h2
    simp at h2
    omega
   ·refine List.pairwise_flatMap.2 ⟨fun k hk => ord_nodup T m k (T.kid n hn k hk).1, ?_⟩
    refine List.Pairwise.imp_of_mem (fun {a b} ha hb hab x hx y hy e => ?_) (T.dup n hn)
    subst e
    have h1 := ord_way T m a (T.kid n hn a ha).1 x hx
    have h2 := ord_way T m b (T.kid n hn b hb).1 x hy
    refine hab (way_eq T h1.1 h1.2 h2.2 ?_)
    rw [way_kid T hn ha, way_kid T hn hb]; rfl
theorem ord_len (T : Tree l) (m : Nat) {n : Int} (hn : thereN l n = true) : (ordN l m n).length ≤ l.length :=
 ints_len (ord_nodup T m n hn) fun x hx => there_pos (ord_way T m n hn x hx).1
theorem tree_of {f : ForM} (h : rightF f = true) : Tree f.nodes := by
 have hN := right_nodes h
 have T := Heir.tree_of h
 have kidK : ∀ n, thereN f.nodes n = true → ∀ c ∈ (nd f.nodes n).kids, (nd f.nodes c).kind = 1 ∨ (nd f.nodes c).kind = 2 := by
  intro n hn c hc
  have h1 := hN n hn
  unfold nodeOK bearsN at h1
  simp only [Bool.and_eq_true] at h1
  have h2 := (kidsOK_iff.1 h1.2.2.2.1.1).1 c hc
  unfold kidP at h2
  simp only [Bool.and_eq_true, Bool.or_eq_true, decide_eq_true_eq] at h2
  rcases h2.2.2.2 with h3 | h3
  ·exact .inl h3
  ·exact .inr h3.1
 have und : ∀ n, thereN f.nodes n = true → (nd f.nodes n).under ≠ -1 → thereN f.nodes (nd f.nodes n).under = true ∧ (nd f.nodes (nd f.nodes n).under).kind = 4 ∧ (nd f.nodes (nd f.nodes n).under).host = n := by
  intro n hn hu
  have h1 := hN n hn
  unfold nodeOK shadedN isN at h1
  simp only [Bool.and_eq_true, Bool.or_eq_true, decide_eq_true_eq] at h1
  rcases h1.2.2.2.2.2 with h2 | h2
  ·exact absurd h2 hu
  ·exact ⟨h2.1.2.1, h2.1.2.2, h2.2⟩
 have top4 : ∀ n, thereN f.nodes n = true → (nd f.nodes n).kind = 4 → (nd f.nodes n).parent = -1 := by
  intro n hn hk
  have h1 := hN n hn
  unfold nodeOK hungN at h1
  simp only [Bool.and_eq_true, Bool.or_eq_true, decide_eq_true_eq] at h1
  rcases h1.2.2.1 with h2 | h2
  ·exact h2
  ·rcases h2.1.1.1 with h3 | h3 <;> (rw [hk] at h3; cases h3)
 have mem : ∀ (x : NodeM) (k : Int), k ∈ chU x ↔ (x.under ≠ -1 ∧ k = x.under) ∨ k ∈ x.kids := by
  intro x k
  unfold chU
  rw [List.mem_append]
  by_cases hu : x.under = -1
  ·simp [hu]
  ·simp [hu]
 refine ⟨fun n hn hp => ?_, fun n hn k hk => ?_, fun n hn => ?_, fun n hn => fin_of_ends (right_ends h n hn)⟩
 ·unfold upN at hp ⊢
  by_cases hq : (nd f.nodes n).parent = -1
  ·rw [if_pos hq] at hp ⊢
   have h1 := hN n hn
   unfold nodeOK shadedN at h1
   simp only [Bool.and_eq_true] at h1
   have h2 := h1.2.2.2.2.1
   by_cases hk : (nd f.nodes n).kind = 4
   ·rw [if_pos hk] at h2
    unfold isN at h2
    simp only [Bool.and_eq_true, decide_eq_true_eq] at h2
    refine ⟨h2.1.1.1, (mem _ _).2 (.inl ⟨?_, h2.1.2.symm⟩)⟩
    rw [h2.1.2]
    have := there_pos hn
    omega
   ·rw [if_neg hk] at h2
    exact absurd (by simpa using h2) hp
  ·rw [if_neg hq]
   have h1 := T.par n hn hq
   exact ⟨h1.1, (mem _ _).2 (.inr h1.2)⟩
 ·have hn0 := there_pos hn
  rcases (mem _ _).1 hk with ⟨h1, rfl⟩ | h1
  ·obtain ⟨h2, h3, h4⟩ := und n hn h1
   exact ⟨h2, by unfold upN; rw [if_pos (top4 _ h2 h3)]; exact h4⟩
  ·obtain ⟨h2, h3⟩ := T.kid n hn k h1
   exact ⟨h2, by unfold upN; rw [if_neg (by rw [h3]; omega)]; exact h3⟩
 ·unfold chU
  by_cases hu : (nd f.nodes n).under = -1
  ·rw [if_pos hu]; exact T.dup n hn
  ·rw [if_neg hu]
   refine List.nodup_cons.2 ⟨fun hm => ?_, T.dup n hn⟩
   have h1 := (und n hn hu).2.1
   rcases kidK n hn _ hm with h2 | h2 <;> (rw [h1] at h2; cases h2)
end U
theorem AppK.take {rb rs : List AV} {off len off' len' bytes : Nat} {acc : Tk} {sl : SL} {m : ML} {A : List AV → Tk → SL → ML → Prop} (rows0 news : List AV) (h0 : off = 0 ∧ len ≤ rb.length ∧ rows0 = rb.take len) (h1 : off' = 0 ∧ len' = rs.length ∧ news = rs) (h2 : oneL (flat news) = true)
  (h3 : (rows0.length + news.length) * bytes ≤ 140737488355328) (h4 : rows0.length + news.length ≤ 9223372036854775807) (h : A (rows0 ++ news) acc sl m) : AppK rb off len rs off' len' bytes acc sl m (A := A) := by
 obtain ⟨rfl, hl, rfl⟩ := h0
 obtain ⟨rfl, rfl, rfl⟩ := h1
 exact ⟨_, _, by omega, by simp, by omega, by simp, h2, h3, h4, h⟩
theorem flatMap_congrI {α β : Type} {f g : α → List β} : ∀ {l : List α}, (∀ a ∈ l, f a = g a) → l.flatMap f = l.flatMap g
 | [], _ => rfl
 | a :: r, h => by rw [List.flatMap_cons, List.flatMap_cons, h a List.mem_cons_self, flatMap_congrI fun b hb => h b (List.mem_cons_of_mem _ hb)]
namespace U
variable {l : List NodeM}
theorem ord_more (T : Tree l) : ∀ (m : Nat) (n : Int), thereN l n = true → l.length + 1 ≤ m + (wayN l n).length → ordN l (m + 1) n = ordN l m n
 | 0, n, _, h => by have := way_len (l := l) n; omega
 | m + 1, n, hn, h => by
   rw [ordN, ordN]
   congr 1
   refine flatMap_congrI fun k hk => ?_
   refine ord_more T m k (T.kid n hn k hk).1 ?_
   rw [way_kid T hn hk]; simp; omega
theorem ord_eq (T : Tree l) {n : Int} (hn : thereN l n = true) : ordN l l.length n = n :: (chU (nd l n)).flatMap (ordN l l.length) := by
 have h0 := there_pos hn
 obtain ⟨m, hm⟩ : ∃ m, l.length = m + 1 := ⟨l.length - 1, by omega⟩
 have h1 : ∀ k ∈ chU (nd l n), ordN l l.length k = ordN l m k := fun k hk => by
  rw [hm]
  refine ord_more T m k (T.kid n hn k hk).1 ?_
  obtain ⟨r, hr⟩ := way_head T hn
  rw [way_kid T hn hk, hr]; simp; omega
 conv => lhs; rw [hm, ordN]
 congr 1
 exact flatMap_congrI fun k hk => (h1 k hk).symm
def rest (l : List NodeM) (st : List Int) : List Int := st.reverse.flatMap (ordN l l.length)
theorem rest_pop (T : Tree l) {st : List Int} {t : Int} (ht : thereN l t = true) : rest l (st ++ [t]) = t :: rest l (st ++ (chU (nd l t)).reverse) := by
 unfold rest
 rw [List.reverse_append, List.reverse_append, List.reverse_reverse]
 simp only [List.reverse_cons, List.reverse_nil, List.nil_append, List.cons_append, List.flatMap_cons, List.flatMap_append]
 rw [ord_eq T ht]; rfl
theorem rest_len (T : Tree l) : ∀ {st : List Int}, (∀ c ∈ st, thereN l c = true) → st.length ≤ (rest l st).length := by
 intro st h
 unfold rest
 have : ∀ s : List Int, (∀ c ∈ s, thereN l c = true) → s.length ≤ (s.flatMap (ordN l l.length)).length := by
  intro s
  induction s with
  | nil => intro _; exact Nat.le_refl _
  | cons a r ih =>
    intro h
    have h1 := ih fun c hc => h c (List.mem_cons_of_mem _ hc)
    rw [List.flatMap_cons, List.length_append, ord_eq T (h a List.mem_cons_self), List.length_cons, List.length_cons]
    omega
 have := this st.reverse fun c hc => h c (by simpa using hc)
 simpa using this
end U

def smallX (x : NodeM) : Bool := decide (x.kids.length ≤ 60) && decide (x.attrs.length ≤ 60) && decide (x.name.size ≤ 300)
theorem short_eq (f : ForM) : shortF f = (decide (f.nodes.length ≤ 60) && f.nodes.all smallX) := rfl
theorem all_no {α : Type} {p : α → Bool} {l : List α} {k : Nat} {x : α} (h : l[k]? = some x) (hp : p x = false) : l.all p = false := by
 rw [Bool.eq_false_iff]
 intro h1
 rw [List.all_eq_true] at h1
 rw [h1 x (List.mem_of_getElem? h)] at hp; cases hp
theorem all_yes {α : Type} {p : α → Bool} {l : List α} (h : ∀ (k : Nat) (x : α), l[k]? = some x → p x = true) : l.all p = true := by
 rw [List.all_eq_true]
 intro x hx
 obtain ⟨k, hk⟩ := List.getElem?_of_mem hx
 exact h k x hk
theorem f16_ok (f : ForM) : FnOK Tryz.prog 16 [] [eFor f] [] (eBool (shortF f)) := by
 rw [short_eq]
 obtain ⟨l, m⟩ := f
 simp only
 have hlm : (l.map oNode).length = l.length := List.length_map ..
 refine FnOK.startC (rvs := [.tmp 2]) G G_good Tryz.func16 rfl Tryz.ntmps16 rfl rfl ?_; with_reducible refine wD ?_
 by_cases e0 : (60 : Int) < (l.length : Int)
 ·rw [decide_eq_false (show ¬ l.length ≤ 60 by omega)]
  (have fct := And.intro hlm (e0); (repeat' (first
  | refine gF ?_ | refine aE ?_ ?_
  | apply trivial)); all_goals clear fct)
  all_goals rfl
 rw [decide_eq_true (show l.length ≤ 60 by omega), Bool.true_and]
 (have fct := And.intro hlm ((eq_false e0)); (repeat' (first
  | refine gF ?_ | refine aE ?_ ?_
  | apply trivial)); all_goals clear fct)
 refine LoopK.use G G_good (fun (k : Nat) => [(1, .ptr 10 0 0), (3, eInt k)]) (fun _ => [(10, .live 2 [eFor ⟨l, m⟩] false)])
  (fun k => k ≤ l.length ∧ ∀ (j : Nat) (y : NodeM), j < k → l[j]? = some y → smallX y = true) (fun k => l.length - k) 0 ⟨Nat.zero_le _, fun j y h => by omega⟩
  ⟨⟨rfl, rfl⟩, ⟨⟨rfl, rfl⟩, rfl, trivial⟩, ⟨⟨rfl, rfl, trivial⟩, trivial⟩, trivial⟩ ?_
 rintro k ⟨hk, hok⟩
 with_reducible refine wK ?_
 refine IfK.mk (fun h1 => ?_) (fun h1 => ?_) <;> (try simp only [castN] at h1) <;> with_reducible refine wK ?_
 ·have hk' : k < l.length := by simp only [decide_eq_true_eq] at h1; omega
  obtain ⟨x, hx⟩ : ∃ x, l[k]? = some x := ⟨_, List.getElem?_eq_getElem hk'⟩
  have bad : smallX x = false → l.all smallX = false := fun h => all_no hx h
  have good : smallX x = true → ∀ (j : Nat) (y : NodeM), j < k + 1 → l[j]? = some y → smallX y = true := fun h j y hj hy => by
   rcases Nat.lt_or_ge j k with h6 | h6
   ·exact hok j y h6 hy
   ·have : j = k := by omega
    subst this
    rw [hx] at hy; cases hy; exact h
  obtain ⟨a1, a2, a3, a4, a5, a6, a7, a8, a9, a10⟩ := x
  have hla : (a5.map oAttr).length = a5.length := List.length_map ..
  have hlk : (a7.map oInt).length = a7.length := List.length_map ..
  have sm : smallX ⟨a1, a2, a3, a4, a5, a6, a7, a8, a9, a10⟩ = (decide (a7.length ≤ 60) && decide (a5.length ≤ 60) && decide (a2.size ≤ 300)) := rfl
  rw [sm] at bad good
  refine IdxK.mk k (eNode _) rfl (node_get hx) ?_; with_reducible refine wK ?_
  by_cases e1 : (60 : Int) < (a7.length : Int)
  ·rw [bad (by rw [decide_eq_false (show ¬ a7.length ≤ 60 by omega)]; rfl)]
   (have fct := And.intro hlk (e1); (repeat' (first
  | refine gF ?_ | refine aE ?_ ?_
  | apply trivial)); all_goals clear fct)
  by_cases e2 : (60 : Int) < (a5.length : Int)
  ·rw [bad (by rw [decide_eq_false (show ¬ a5.length ≤ 60 by omega), Bool.and_false]; rfl)]
   (have fct := And.intro hlk (And.intro hla (And.intro (eq_false e1) (e2))); (repeat' (first
  | refine gF ?_ | refine aE ?_ ?_
  | ((refine IdxK.mk k (eNode _) rfl (node_get hx) ?_) <;> with_reducible refine wK ?_)
  | apply trivial)); all_goals clear fct)
  by_cases e3 : (300 : Int) < (a2.size : Int)
  ·rw [bad (by rw [decide_eq_false (show ¬ a2.size ≤ 300 by omega), Bool.and_false])]
   (have fct := And.intro hlk (And.intro hla (And.intro (eq_false e1) (And.intro (eq_false e2) (e3)))); (repeat' (first
  | refine gF ?_ | refine aE ?_ ?_
  | ((refine IdxK.mk k (eNode _) rfl (node_get hx) ?_) <;> with_reducible refine wK ?_)
  | apply trivial)); all_goals clear fct)
  have hnx := good (by simp only [Bool.and_eq_true, decide_eq_true_eq]; omega)
  (have fct := And.intro hlk (And.intro hla (And.intro (eq_false e1) (And.intro (eq_false e2) ((eq_false e3))))); (repeat' (first
  | refine gF ?_ | refine aE ?_ ?_
  | ((first
   | (refine IdxK.mk k (eNode _) rfl (node_get hx) ?_)
   | ((with_reducible show NextK _ _); refine NextK.mk (k + 1) ⟨by omega, hnx⟩ (by omega) ⟨⟨rfl, rfl⟩, ⟨⟨rfl, rfl⟩, by show ((k + 1 : Nat) : Int) = (k : Int) + 1; omega, trivial⟩, ⟨⟨rfl, rfl, trivial⟩, trivial⟩, trivial⟩)) <;> with_reducible refine wK ?_)
  | apply trivial)); all_goals clear fct)
 ·have hkl : k = l.length := by simp only [decide_eq_false_iff_not] at h1; omega
  rw [all_yes fun j y hy => hok j y (by have := (List.getElem?_eq_some_iff.1 hy).1; omega) hy]
  (refine eK ?_ ?_ <;> with_reducible repeat' (first | exact trivial | (show _ ∧ _; refine aK ?_ ?_)))
theorem node_at {l : List NodeM} {n : Int} (h : 0 ≤ n ∧ n < (l.length : Int)) : ∃ (i : Nat) (y : NodeM), n = (i : Int) ∧ l[i]? = some y ∧ nd l n = y := by
  obtain ⟨i, y, h1, h2, h3⟩ := there_iff.1 (show thereN l n = true by unfold thereN; simp; omega)
  exact ⟨i, y, h1, h2, h3⟩
theorem CutK {P : Program} {N nL : Nat} {sl : SL} {m : ML} {c : Code} {Q : Exit → SL → ML → Prop} {F G : Prop} (main : (F → LoopK P N nL sl m (c := c) (Q := Q)) → G) (rest : F → LoopK P N nL sl m (c := c) (Q := Q)) : G := main rest

theorem f125_ok (g : Nat) (cg : Callable Tryz.prog g) (caps : List AV) (hcaps : noRefL caps = true) (p : Int → Bool) (l : List Int) (hl : l.length ≤ 100000) (hf : ∀ a, a ∈ l → FnOK Tryz.prog g [] (eInt a :: caps) [] (eBool (p a))) :
  FnOK Tryz.prog 125 [] [eInts l, .clo (.func g) [] caps] [] (eInt (idxI p l)) := by
 have hlm : (l.map oInt).length = l.length := List.length_map ..
 refine FnOK.startC (rvs := [.tmp 4]) G G_good Tryz.func125 rfl Tryz.ntmps125 rfl rfl ?_; with_reducible refine wD ?_
 refine LoopK.use G G_good (fun (k : Nat) => [(0, eInts l), (1, .clo (.func g) [] caps), (7, eInt l.length), (8, eInt k)]) (fun _ => []) (fun k => k ≤ l.length ∧ ∀ j x, j < k → l[j]? = some x → p x = false) (fun k => l.length - k) 0 ⟨Nat.zero_le _, fun j x h => by omega⟩
  ⟨⟨rfl, rfl⟩, ⟨rfl, ⟨rfl, trivial, MFL_refl hcaps⟩, by show (l.length : Int) = ((l.map oInt).length : Int); rw [hlm], rfl, trivial⟩, trivial⟩ ?_
 rintro k ⟨hk, hno⟩
 with_reducible refine wK ?_
 refine IfK.mk (fun h1 => ?_) (fun h1 => ?_) <;> (try simp only [castN] at h1) <;> with_reducible refine wK ?_
 ·simp only [decide_eq_true_eq] at h1
  have hk' : k < l.length := by omega
  obtain ⟨a, ha⟩ : ∃ a, l[k]? = some a := ⟨_, List.getElem?_eq_getElem hk'⟩
  refine IdxK.mk k (eInt a) rfl (int_get ha) ?_; with_reducible refine wK ?_
  refine CallK.lit [] (hf a (List.mem_of_getElem? ha)) cg ⟨rfl, MFL_refl hcaps⟩ rfl rfl ?_; with_reducible refine wK ?_
  refine IfK.mk (fun h2 => ?_) (fun h2 => ?_) <;> (try simp only [castN] at h2) <;> with_reducible refine wK ?_
  ·(refine eK ?_ ?_ <;> with_reducible repeat' (first | exact trivial | (show _ ∧ _; refine aK ?_ ?_)))
   exact idxI_hit ha h2 hno
  ·refine nK ?_; with_reducible refine wK ?_
   refine NextK.mk (k + 1) ⟨by omega, fun j x hj hx => ?_⟩ (by omega) ⟨⟨rfl, rfl⟩, ⟨rfl, ⟨rfl, trivial, MFL_refl hcaps⟩, rfl, by show ((k + 1 : Nat) : Int) = (k : Int) + 1; omega, trivial⟩, trivial⟩
   rcases Nat.lt_or_ge j k with h6 | h6
   ·exact hno j x h6 hx
   ·have : j = k := by omega
    subst this
    rw [ha] at hx; cases hx; exact h2
 ·(refine eK ?_ ?_ <;> with_reducible repeat' (first | exact trivial | (show _ ∧ _; refine aK ?_ ?_)))
  have : k = l.length := by simp only [decide_eq_false_iff_not] at h1; omega
  exact idxI_none fun j x hx => hno j x (by have := (List.getElem?_eq_some_iff.1 hx).1; omega) hx
theorem f128_ok (f : ForM) (n : Int) : FnOK Tryz.prog 128 [] [eInt n, .fptr (eFor f) 0] [] (eBool (!thereN f.nodes n)) := by
 have h49 := f129_ok f n
 obtain ⟨l, m⟩ := f
 simp only at h49 ⊢
 refine FnOK.startC (rvs := [.tmp 3]) G G_good Tryz.func128 rfl Tryz.ntmps128 rfl rfl ?_; with_reducible refine wD ?_
 refine cL h49 c129 ?_; with_reducible refine wK ?_
 (refine eK ?_ ?_ <;> with_reducible repeat' (first | exact trivial | (show _ ∧ _; refine aK ?_ ?_)))
 all_goals rfl
theorem f127_ok (g : Nat) (cg : Callable Tryz.prog g) (caps : List AV) (hcaps : noRefL caps = true) (p : Int → Bool) (l : List Int) (hl : l.length ≤ 100000) (hf : ∀ a, a ∈ l → FnOK Tryz.prog g [] (eInt a :: caps) [] (eBool (p a))) :
  FnOK Tryz.prog 127 [] [eInts l, .clo (.func g) [] caps] [] (eBool (decide (0 ≤ idxI p l))) := by
 have h34 := f125_ok g cg caps hcaps p l hl hf
 refine FnOK.startC (rvs := [.tmp 4]) G G_good Tryz.func127 rfl Tryz.ntmps127 rfl rfl ?_; with_reducible refine wD ?_
 refine CallK.lit [] h34 c125 ⟨rfl, ⟨rfl, trivial, MFL_refl hcaps⟩, trivial⟩ rfl rfl ?_; with_reducible refine wK ?_
 (refine eK ?_ ?_ <;> with_reducible repeat' (first | exact trivial | (show _ ∧ _; refine aK ?_ ?_)))
 all_goals rfl
theorem f63_ok (f : ForM) (hs : SmallN f.nodes) (l : List Int) (hl : l.length ≤ 100000) : FnOK Tryz.prog 63 [] [eFor f, eInts l] [] (eBool (rightF f && !decide (0 ≤ idxI (fun n => !thereN f.nodes n) l))) := by
 have h23 := f55_ok f hs
 have h47 := f127_ok 128 c128 [.fptr (eFor f) 0] rfl (fun n => !thereN f.nodes n) l hl (fun a _ => f128_ok f a)
 obtain ⟨ns, m⟩ := f
 simp only at h23 h47 ⊢
 refine FnOK.startC (rvs := [.tmp 4]) G G_good Tryz.func63 rfl Tryz.ntmps63 rfl rfl ?_; with_reducible refine wD ?_
 refine cL h23 c55 ?_; with_reducible refine wK ?_
 cases hr : rightF ⟨ns, m⟩ with
 | false =>
   (have fct := hr; (repeat' (first
  | refine gF ?_ | refine aE ?_ ?_
  | apply trivial)); all_goals clear fct)
   all_goals rfl
 | true =>
   refine IfK.tt ?_; with_reducible refine wK ?_
   refine CallK.lit [50] h47 c127 ⟨rfl, ⟨rfl, trivial, ⟨_, _, _, _, _, rfl, rfl, rfl, rfl, rfl, ⟨rfl, rfl, trivial⟩⟩, trivial⟩, trivial⟩ rfl rfl ?_; with_reducible refine wK ?_
   (refine eK ?_ ?_ <;> with_reducible repeat' (first | exact trivial | (show _ ∧ _; refine aK ?_ ?_)))
   all_goals rfl
end Go.Proofs.Heir
namespace Go.Proofs.Heir
open Go Go.Am Go.RowKit Go.Shelf
set_option maxRecDepth 100000
set_option maxHeartbeats 8000000
theorem ints_box {Wn : Nat → Prop} {μ : Mu} {W : World} {l : List Int} {b o : Nat} (h : Rep Wn μ W (.fptr (.sl 1 (l.map oInt)) 0) (.pointer (some ⟨b, o, none⟩))) :
  ∃ ad cap, W.cell? ⟨b, o, none⟩ = some (.slice ad l.length cap) ∧ l.length ≤ cap ∧ ∀ (j : Nat) (x : Int), l[j]? = some x → ∃ b2 o2, ad = some ⟨b2, o2, none⟩ ∧ W.cell? ⟨b2, o2 + j, none⟩ = some (.int .i64 x) := by
 generalize hv : Value.pointer (some ⟨b, o, none⟩) = v at h
 cases h with
 | @fptr _ _ b' o' f h1 h2 h3 h4 h5 =>
   cases hv
   have k3 := h3 0 _ rfl
   have k4 := h4 0 _ rfl
   rw [Nat.add_zero] at k3
   rw [Nat.add_zero, k3]
   generalize f 0 = s at k4
   cases hl : l with
   | nil =>
     subst hl
     cases k4 with
     | slNil => exact ⟨_, _, rfl, Nat.zero_le _, fun j x h => by simp at h⟩
     | sl a1 a2 a3 a4 a5 a6 a7 a8 => subst a3; exact ⟨_, _, rfl, Nat.zero_le _, fun j x h => by simp at h⟩
   | cons y r =>
     rw [← hl]
     generalize hrows : l.map oInt = rows at k4
     have hne : rows ≠ [] := by rw [← hrows, hl]; simp
     cases k4 with
     | slNil => exact absurd rfl hne
     | sl a1 a2 a3 a4 a5 a6 a7 a8 =>
       subst a3
       have hlen : rows.length = l.length := by rw [← hrows]; simp
       refine ⟨_, _, by rw [hlen], by rw [← hlen]; exact a4, fun j x hx => ⟨_, _, rfl, ?_⟩⟩
       have hr : rows[j]? = some (oInt x) := by rw [← hrows, List.getElem?_map, hx]; rfl
       have hq := flat_get (wd := 1) (fun i r hr => a5 i r hr) hr (show (cells (oInt x))[0]? = some (oInt x) from rfl)
       rw [Nat.mul_one, Nat.add_zero] at hq
       have c1 := a6 j _ hq
       have c2 := a7 j _ hq
       have one : ∀ v, Rep Wn μ W (oInt x) v → v = .int .i64 x := by intro v hv; unfold oInt at hv; cases hv; rfl
       rw [c1, one _ c2]
theorem back_it (l : List Int) (hl : l.length ≤ 100000) : ItOK Tryz.prog 193 [.fptr (.sl 1 (l.map oInt)) 0] l.length (fun k => [oInt ((l.length : Int) - 1 - k), oInt ((l.reverse[k]?).getD 0)]) := by
 intro vals y J Jx hJ hJm hJxm _ hY Wn w h0
 obtain ⟨⟨μ, hr⟩, _⟩ := hJ 0 Wn w h0
 obtain ⟨vb, us, rfl, hvb, hus⟩ := RepL.uncons hr
 obtain rfl := RepL.unnil hus
 obtain ⟨b, o, rfl⟩ : ∃ b o, vb = .pointer (some ⟨b, o, none⟩) := by cases hvb; exact ⟨_, _, rfl⟩
 have box : ∀ k Wn W, J k Wn W → ∃ ad cap, W.cell? ⟨b, o, none⟩ = some (.slice ad l.length cap) ∧ l.length ≤ cap ∧ ∀ (j : Nat) (x : Int), l[j]? = some x → ∃ b2 o2, ad = some ⟨b2, o2, none⟩ ∧ W.cell? ⟨b2, o2 + j, none⟩ = some (.int .i64 x) := by
  intro k Wn W hJk
  obtain ⟨⟨μ, hr⟩, _⟩ := hJ k Wn W hJk
  obtain ⟨v1, us, e, hv1, _⟩ := RepL.uncons hr
  cases e
  exact ints_box hv1
 refine (callsIn_wide (n := 1)).1 ?_
 refine callsIn_of_wp Tryz.func193 rfl trivial ?_ rfl
 simp only [Tryz.ntmps193, List.size_toArray, List.length_cons, List.length_nil, Nat.reduceAdd, Nat.reduceSub, Array.replicate_succ, Array.replicate_zero, List.push_toArray, List.append_toArray, List.nil_append, List.cons_append]
 obtain ⟨ad, cap, hbx, hcap, hel⟩ := box 0 Wn w h0
 gi_wp2
 gi_loopw [3] (fun i wr => ∃ k : Nat, k ≤ l.length ∧ i = .int .i64 ((l.length : Int) - 1 - k) ∧ ∃ Wn, J k Wn wr) (fun i _ => (intOf i + 1).toNat)
 case atStart => exact ⟨0, Nat.zero_le _, by simp, Wn, h0⟩
 case round =>
  obtain ⟨k, hk, rfl, Wn', hJk⟩ := hrel
  obtain ⟨ad', cap', hbx', hcap', hel'⟩ := box k Wn' wr hJk
  by_cases hlt : k < l.length
  ·have hix : l.length - 1 - k < l.length := by omega
   obtain ⟨b2, o2, rfl, hcx⟩ := hel' (l.length - 1 - k) l[l.length - 1 - k] (List.getElem?_eq_getElem hix)
   have hrev : (l.reverse[k]?).getD 0 = l[l.length - 1 - k] := by
    rw [List.getElem?_eq_getElem (by simpa using hlt)]; simp
   obtain ⟨fn, tmps, assign, body, hy, hR⟩ := hY k Wn' wr [.int .i64 ((l.length : Int) - 1 - k), .int .i64 (l[l.length - 1 - k])] hlt hJk (fun _ _ _ => by rw [hrev]; exact .cons .lit (.cons .lit .nil))
   have hz : ((l.length : Int) - 1 - k).toNat = l.length - 1 - k := by omega
   gi_wp2
   refine hR.mono ?_
   rintro e W3 (⟨rfl, Wn3, hJ3, _⟩ | ⟨rfl, hJx3⟩)
   ·gi_wp2
    go_roundw
    case rel => exact ⟨k + 1, by omega, by congr 1; omega, Wn3, hJ3⟩
    case measure => simp [intOf]; omega
   ·gi_wp2
    refine bodyPost_ret (results_none rfl _ _ _) rfl ?_
    exact ⟨⟨_, rfl⟩, .inr hJx3⟩
  ·obtain rfl : k = l.length := by omega
   gi_wp2
   go_end0
   exact ⟨⟨_, rfl⟩, .inl ⟨_, hJk⟩⟩
end Go.Proofs.Heir
namespace Go.Proofs.Heir
open Go Go.Am Go.RowKit Go.Lib
set_option maxRecDepth 100000
set_option maxHeartbeats 8000000
theorem f192_ok (f : ForM) (n : Int) : FnOK Tryz.prog 192 [] [eInt n, .fptr (eFor f) 0] [] (eBool (!thereN f.nodes n)) := by
 obtain ⟨l, m⟩ := f
 have hlm : (l.map oNode).length = l.length := List.length_map ..
 refine FnOK.startC (rvs := [.tmp 3]) G G_good Tryz.func192 rfl Tryz.ntmps192 rfl rfl ?_; with_reducible refine wD ?_
 repeat' (first
  | refine pK ?_ | refine aE ?_ ?_
  | ((first
   | ((with_reducible show IfK _ _ _ _); (refine IfK.mk (fun hp => ?_) (fun hp => ?_) <;> (try simp only [castN, decide_eq_true_eq, decide_eq_false_iff_not, Bool.not_eq_true', Bool.not_eq_false', Decidable.not_not, Int.not_lt, Int.not_le] at hp)))) <;> with_reducible refine wK ?_)
  | apply trivial)
 ·unfold thereN; rw [decide_eq_false (show ¬ 0 ≤ n by omega)]; rfl
 ·unfold thereN; rw [decide_eq_true hp, hlm, Bool.true_and, ← decide_not]
  exact decide_eq_decide.2 Int.not_lt
theorem f147_ok (f : ForM) (hs : SmallN f.nodes) (l : List Int) (hl : l.length ≤ 100000) : FnOK Tryz.prog 147 [] [eFor f, eInts l] [] (eBool (rightF f && !decide (0 ≤ idxI (fun n => !thereN f.nodes n) l))) := by
 have h48 := f17_ok f hs
 have h106 := f127_ok 192 c192 [.fptr (eFor f) 0] rfl (fun n => !thereN f.nodes n) l hl (fun a _ => f192_ok f a)
 obtain ⟨ns, m⟩ := f
 simp only at h48 h106 ⊢
 refine FnOK.startC (rvs := [.tmp 4]) G G_good Tryz.func147 rfl Tryz.ntmps147 rfl rfl ?_; with_reducible refine wD ?_
 refine cL h48 c17 ?_; with_reducible refine wK ?_
 cases h0 : rightF ⟨ns, m⟩ with
 | false =>
   repeat' (first
  | refine gK ?_ | refine aE ?_ ?_
  | apply trivial)
   all_goals rfl
 | true =>
   repeat' (first
  | refine gK ?_ | refine aE ?_ ?_
  | apply trivial)
   refine CallK.lit [20] h106 c127 ⟨rfl, ⟨rfl, trivial, ⟨_, _, _, _, _, rfl, rfl, rfl, rfl, rfl, ⟨rfl, rfl, trivial⟩⟩, trivial⟩, trivial⟩ rfl rfl ?_; with_reducible refine wK ?_
   repeat' (first
  | refine gK ?_ | refine aE ?_ ?_
  | apply trivial)
   all_goals rfl
theorem f148_ok (l : List Int) : FnOK Tryz.prog 148 [] [eInts l] [] (.clo (.func 193) [] [.fptr (eInts l) 0]) := by
 refine FnOK.startC (rvs := [.tmp 2]) G G_good Tryz.func148 rfl Tryz.ntmps148 rfl rfl ?_; with_reducible refine wD ?_
 refine ⟨⟨rfl, rfl⟩, ⟨rfl, trivial, ⟨_, _, _, _, _, rfl, rfl, rfl, rfl, rfl, rfl⟩, trivial⟩, ?_⟩
 exact trivial
def allU (f : ForM) (n : Int) : List Int := if (rightF f && thereN f.nodes n) = true then U.ordN f.nodes f.nodes.length n else []
end Go.Proofs.Heir
namespace Go.Proofs.Heir
open Go Go.Am Go.RowKit Go.Shelf
set_option maxRecDepth 100000
set_option maxHeartbeats 8000000

theorem FnOK.at {P : Program} {f : FuncId} {args : List AV} {vs : List Value} {res : AV} {w : World} {Wn : Nat → Prop} {μ : Mu} (h : FnOK P f [] args [] res) (ha : noRefL args = true) (hr : noRef res = true) (hv : RepL Wn μ w args vs) (hlt : ∀ b, Wn b → b < w.heap.size) (ht : Tabs P w fun _ => none) :
  Calls P f vs.toArray w fun e w' => ∃ v μ', e = .returned v ∧ More w w' ∧ Rep Wn μ' w' res v := by
 have hW : ∀ b, Wr Wn (fun _ => none) (objsOf []) b → Wn b := by
  rintro b (h | ⟨t, B, wd, rows, _, h, _⟩)
  ·exact h
  ·cases h
 have hs : Sim P 0 w Wn (fun _ => none) (fun _ => none) (bare []) noAct w := by
  refine ⟨rfl, .nil, rfl, rfl, rfl, Nat.le_refl _, fun _ _ _ h => h, fun _ _ _ => rfl, hlt, fun _ _ _ h => h, fun t => by simp [bare, objsOf], fun _ => .any, fun t wd rows ro h => ?_, fun t t' wd rows wd' rows' ro' B B' _ h => ?_, fun t wd rows ro B h => ?_, ht⟩ <;> simp [bare, objsOf] at h
 refine (h w Wn (fun _ => none) vs (fun _ _ => rfl) hs ?_).mono ?_
 ·exact ⟨hv.1, fun j c v hc hv' => (hv.2 j c v hc hv').noRef (fun b _ hb => hW b hb) (noRefL_iff.1 ha c (List.mem_of_getElem? hc))⟩
 rintro e w' ⟨v, μ', rfl, hs', hv'⟩
 refine ⟨v, μ', rfl, ⟨hs'.os, hs'.tape, hs'.output, hs'.hsize, fun b hb => hs'.keep b hb ?_⟩, hv'.noRef (fun b _ hb => .inl hb) hr⟩
 rintro ⟨t, B, h, _⟩
 cases h
end Go.Proofs.Heir
section
namespace Go.Proofs.Heir
open Go Go.Am Go.RowKit Go.Lib
set_option maxRecDepth 100000
set_option maxHeartbeats 8000000
theorem list_same {α : Type} {x y : List α} (hl : x.length = y.length) (h : ∀ j, j < x.length → x[j]? = y[j]?) : x = y := by
 refine List.ext_getElem? fun j => ?_
 rcases Nat.lt_or_ge j x.length with h6 | h6
 ·exact h j h6
 ·rw [List.getElem?_eq_none h6, List.getElem?_eq_none (by omega)]
theorem same_succ {α : Type} {x y : List α} {k : Nat} (h : ∀ j, j < k → x[j]? = y[j]?) (hk : x[k]? = y[k]?) : ∀ j, j < k + 1 → x[j]? = y[j]? := fun j hj => by
 by_cases e : j = k
 ·rw [e]; exact hk
 ·exact h j (by omega)
set_option maxHeartbeats 8000000
theorem f25_ok (a b : List Int) (ha : a.length ≤ 100000) : FnOK Tryz.prog 25 [] [eInts a, eInts b] [] (eBool (decide (a = b))) := by
 have hlm : (a.map oInt).length = a.length := List.length_map ..
 have hlm' : (b.map oInt).length = b.length := List.length_map ..
 refine FnOK.startC (rvs := [.tmp 4]) G G_good Tryz.func25 rfl Tryz.ntmps25 rfl rfl ?_; with_reducible refine wD ?_
 by_cases g1 : a.length = b.length
 ·(have fct := And.intro hlm (And.intro hlm' (g1)); (repeat' (first
  | refine gF ?_ | refine aE ?_ ?_
  | apply trivial)); all_goals clear fct)
  refine LoopK.use G G_good (fun (k : Nat) => [(0, eInts a), (1, eInts b), (5, eInt k)]) (fun _ => []) (fun k => k ≤ a.length ∧ ∀ j, j < k → a[j]? = b[j]?) (fun k => a.length - k) 0 ⟨Nat.zero_le _, fun j hj => by omega⟩
   ⟨⟨rfl, rfl⟩, ⟨rfl, rfl, rfl, trivial⟩, trivial⟩ ?_
  intro k ⟨hk, hno⟩
  with_reducible refine wK ?_
  refine IfK.mk (fun h1 => ?_) (fun h1 => ?_) <;> (try simp only [castN] at h1) <;> with_reducible refine wK ?_
  ·simp only [hlm, decide_eq_true_eq] at h1
   have hk' : k < a.length := by omega
   obtain ⟨x, hx⟩ : ∃ x, a[k]? = some x := ⟨_, List.getElem?_eq_getElem hk'⟩
   obtain ⟨y, hy⟩ : ∃ y, b[k]? = some y := ⟨_, List.getElem?_eq_getElem (by omega)⟩
   refine IdxK.mk k (eInt x) rfl (int_get hx) ?_; with_reducible refine wK ?_
   refine IdxK.mk k (eInt y) rfl (int_get hy) ?_; with_reducible refine wK ?_
   by_cases e : x = y
   ·(have fct := e; (repeat' (first
  | refine gF ?_ | refine aE ?_ ?_
  | (((with_reducible show NextK _ _); refine NextK.mk (k + 1) ⟨by omega, same_succ hno (by rw [hx, hy, e])⟩ (by omega) ⟨⟨rfl, rfl⟩, ⟨rfl, rfl, by show ((k + 1 : Nat) : Int) = (k : Int) + 1; omega, trivial⟩, trivial⟩) <;> with_reducible refine wK ?_)
  | apply trivial)); all_goals clear fct)
   ·rw [show decide (a = b) = false from decide_eq_false fun h => e (by rw [h] at hx; rw [hx] at hy; exact Option.some.inj hy)]
    (have fct := e; (repeat' (first
  | refine gF ?_ | refine aE ?_ ?_
  | apply trivial)); all_goals clear fct)
  ·have hkl : k = a.length := by simp only [hlm, decide_eq_false_iff_not] at h1; omega
   subst hkl
   rw [show decide (a = b) = true from decide_eq_true (list_same g1 hno)]
   (have fct := hlm; (repeat' (first
  | refine gF ?_ | refine aE ?_ ?_
  | apply trivial)); all_goals clear fct)
 ·rw [show decide (a = b) = false from decide_eq_false fun h => g1 (by rw [h])]
  (have fct := And.intro hlm (And.intro hlm' (g1)); (repeat' (first
  | refine gF ?_ | refine aE ?_ ?_
  | apply trivial)); all_goals clear fct)
end Go.Proofs.Heir
end
namespace Go.Proofs.Heir
open Go Go.Am Go.RowKit Go.Lib
set_option maxRecDepth 100000
set_option maxHeartbeats 8000000
structure DefM where
 name : ByteArray
 locl : ByteArray
 cls : Int
 deriving DecidableEq
structure WaitM where
 name : ByteArray
 ticket : Int
 deriving DecidableEq
structure DeskM where
 defs : List DefM
 waits : List WaitM
 next : Int
 busy : Bool
 deriving DecidableEq
def knowS (s : ByteArray) : Bool := hasW knowL s
def localB (x : DefM) : Bool := decide (x.locl = x.name) || knowS x.locl
def goodD (x : DefM) : Bool := customS x.name && localB x && decide (0 ≤ x.cls) && decide (x.cls < 12)
def hasN (s : ByteArray) (x : DefM) : Bool := decide (x.name = s)
def ixI {α : Type} (p : α → Bool) (l : List α) : Int := match l.findIdx? p with
 | some k => (k : Int)
 | none => -1
def posN (l : List DefM) (s : ByteArray) : Int := ixI (hasN s) l
def okW (l : List DefM) (next : Int) (w : WaitM) (last : Int) : Bool := customS w.name && decide (posN l w.name = -1) && decide (last < w.ticket) && decide (w.ticket < next)
def waitsB (l : List DefM) (next : Int) : Int → List WaitM → Bool
 | _, [] => true
 | last, w :: r => okW l next w last && waitsB l next w.ticket r
def defsB (l : List DefM) : Bool := l.all goodD && decide ((l.map DefM.name).Nodup) && decide ((l.map DefM.cls).Nodup)
def rightD (d : DeskM) : Bool := defsB d.defs && waitsB d.defs d.next (-1) d.waits && decide (0 ≤ d.next) && decide (d.next ≤ 100000)

def xk (k : Nat) : ByteArray := ⟨#[120, 45, UInt8.ofNat (97 + k)]⟩
structure TellInv (d : DeskM) (i : Nat) : Prop where
 right : rightD d = true
 busy : d.busy = false
 names : ∀ w ∈ d.waits, ∃ k < 6, w.name = xk k
 next : d.next ≤ i
theorem TellInv.first : TellInv ⟨[], [], 0, false⟩ 0 := ⟨by decide, rfl, fun w h => by simp at h, by decide⟩
section
variable {K : Type} [DecidableEq K] (key : DefM → K)
end
def kC (x : DefM) : Int := x.cls
theorem map62 : MapTy Tryz.prog 202 .string (.int .i64 0) := ⟨9, 3, by kernel_rfl, by kernel_rfl, fun w => Tryz.zeroValue3 w⟩




end Go.Proofs.Heir
namespace Go.Proofs.Heir
open Go Go.Am Go.RowKit Go.Lib
set_option maxRecDepth 100000

end Go.Proofs.Heir
namespace Go.Proofs.Heir
open Go Go.Am Go.RowKit Go.Lib
set_option maxRecDepth 100000
set_option maxHeartbeats 8000000

end Go.Proofs.Heir
namespace Go.Proofs.Heir
open Go Go.Am Go.RowKit Go.Lib
set_option maxRecDepth 100000

end Go.Proofs.Heir
namespace Go.Proofs.Heir
open Go Go.Am Go.RowKit Go.Lib
set_option maxRecDepth 100000
set_option maxHeartbeats 8000000
theorem allU_there {f : ForM} {n : Int} : ∀ c ∈ allU f n, thereN f.nodes c = true := by
 intro c hc
 unfold allU at hc
 split at hc
 ·rename_i h
  obtain ⟨hr, hn⟩ : rightF f = true ∧ thereN f.nodes n = true := by simpa using h
  exact (U.ord_way (U.tree_of hr) _ n hn c hc).1
 ·simp at hc






def topN (l : List NodeM) (n : Int) : Int := ((U.wayN l n).getLast?).getD n
theorem top_top {l : List NodeM} (T : U.Tree l) {n : Int} (hn : thereN l n = true) (hp : upN (nd l n) = -1) : topN l n = n := by
 unfold topN; rw [U.way_top T hn hp]; rfl
theorem top_step {l : List NodeM} (T : U.Tree l) {n : Int} (hn : thereN l n = true) (hp : upN (nd l n) ≠ -1) (hu : thereN l (upN (nd l n)) = true) : topN l n = topN l (upN (nd l n)) := by
 obtain ⟨r, hr⟩ := U.way_head T hu
 unfold topN; rw [U.way_step T hn hp, hr, List.getLast?_cons_cons]
 cases h : (upN (nd l n) :: r).getLast? with
 | none => simp at h
 | some a => rfl
theorem up_there {l : List NodeM} (T : U.Tree l) : ∀ n, thereN l n = true → upN (nd l n) ≠ -1 → thereN l (upN (nd l n)) = true := by
 refine U.up_ind T (P := fun n => upN (nd l n) ≠ -1 → thereN l (upN (nd l n)) = true) (fun n hn h0 h => absurd h0 h) (fun n hn h0 h1 _ _ => h1)
theorem top_there {l : List NodeM} (T : U.Tree l) : ∀ n, thereN l n = true → thereN l (topN l n) = true := by
 refine U.up_ind T (fun n hn h => ?_) (fun n hn h hu ih => ?_)
 ·rw [top_top T hn h]; exact hn
 ·rw [top_step T hn h hu]; exact ih
theorem f149_ok (f : ForM) (k : Nat) (x : NodeM) (hx : f.nodes[k]? = some x) : FnOK Tryz.prog 149 [] [eFor f, eInt k] [] (eInt (upN x)) := by
 obtain ⟨l, m⟩ := f
 obtain ⟨a1, a2, a3, a4, a5, a6, a7, a8, a9, a10⟩ := x
 unfold upN
 refine FnOK.startC (rvs := [.tmp 4]) G G_good Tryz.func149 rfl Tryz.ntmps149 rfl rfl ?_; with_reducible refine wD ?_
 by_cases e : a6 = -1
 ·subst e
  rw [if_pos rfl]
  repeat' (first
  | refine gK ?_ | refine aE ?_ ?_
  | (((with_reducible show IdxK _ _ _ _ _); refine IdxK.mk k (eNode _) rfl (node_get hx) ?_) <;> with_reducible refine wK ?_)
  | apply trivial)
 ·rw [if_neg e]
  (have fct := (eq_false e); (repeat' (first
  | refine gF ?_ | refine aE ?_ ?_
  | (((with_reducible show IdxK _ _ _ _ _); refine IdxK.mk k (eNode _) rfl (node_get hx) ?_) <;> with_reducible refine wK ?_)
  | apply trivial)); all_goals clear fct)
def topF (f : ForM) (n : Int) : Int := if (rightF f && thereN f.nodes n) = true then topN f.nodes n else -1
theorem f84_ok (f : ForM) (hs : SmallN f.nodes) (n : Int) : FnOK Tryz.prog 84 [] [eFor f, eInt n] [] (eInt (topF f n)) := by
 have h86 := f147_ok f hs [n] (by simp)
 have e1 : (rightF f && !decide (0 ≤ idxI (fun n => !thereN f.nodes n) [n])) = (rightF f && thereN f.nodes n) := by
  congr 1
  unfold idxI
  cases h : thereN f.nodes n <;> simp [List.findIdx?_cons, h]
 rw [e1] at h86
 have h87 := fun k x hx => f149_ok f k x hx
 obtain ⟨l, m⟩ := f
 unfold topF
 simp only at h86 h87 ⊢
 refine FnOK.startC (rvs := [.tmp 4]) G G_good Tryz.func84 rfl Tryz.ntmps84 rfl rfl ?_; with_reducible refine wD ?_
 cases e0 : (rightF ⟨l, m⟩ && thereN l n) with
 | false =>
   rw [e0] at h86
   refine CallK.lit [71] h86 c147 ⟨⟨rfl, rfl, trivial⟩, frz_ints (l := [n]) rfl rfl rfl rfl, trivial⟩ rfl rfl ?_; with_reducible refine wK ?_
   repeat' (first
  | refine gK ?_ | refine aE ?_ ?_
  | apply trivial)
   all_goals rfl
 | true =>
   rw [e0] at h86
   refine CallK.lit [71] h86 c147 ⟨⟨rfl, rfl, trivial⟩, frz_ints (l := [n]) rfl rfl rfl rfl, trivial⟩ rfl rfl ?_; with_reducible refine wK ?_
   rw [if_pos rfl]
   obtain ⟨hr, hn⟩ : rightF ⟨l, m⟩ = true ∧ thereN l n = true := by simpa using e0
   have T := U.tree_of hr
   simp only at T
   repeat' (first
  | refine gK ?_ | refine aE ?_ ?_
  | apply trivial)
   refine LoopK.use G G_good (fun (c : Int) => [(1, eInt c), (2, .ptr 20 0 0)]) (fun c => [(20, .live 2 [eFor ⟨l, m⟩] false)])
    (fun c => thereN l c = true ∧ topN l c = topN l n) (fun c => (U.wayN l c).length) n ⟨hn, rfl⟩
    (by refine ⟨⟨rfl, rfl⟩, ⟨rfl, ⟨rfl, rfl⟩, trivial⟩, ⟨⟨rfl, rfl, trivial⟩, trivial⟩, trivial⟩) ?_
   rintro c ⟨hc, htop⟩
   with_reducible refine wK ?_
   obtain ⟨i, y, rfl, hy, hny⟩ := there_iff.1 hc
   have h := h87 i y hy
   by_cases e : upN y = -1
   ·rw [e] at h
    rw [top_top T hc (by rw [hny]; exact e)] at htop
    repeat' (first
  | refine gK ?_ | refine aE ?_ ?_
  | (((with_reducible refine kQ 149 ?_); refine cL h c149 ?_) <;> with_reducible refine wK ?_)
  | apply trivial)
    all_goals exact htop.symm
   ·have hu := up_there T _ hc (by rw [hny]; exact e)
    have hst := top_step T hc (by rw [hny]; exact e) hu
    have hway := U.way_step T hc (by rw [hny]; exact e)
    rw [hny] at hu hst hway
    generalize upN y = u at h e hu hst hway
    (have fct := (eq_false e); (repeat' (first
  | refine gF ?_ | refine aE ?_ ?_
  | (((with_reducible refine kQ 149 ?_); refine cL h c149 ?_) <;> with_reducible refine wK ?_)
  | apply trivial)); all_goals clear fct)
    refine NextK.mk u ⟨hu, by rw [← hst, htop]⟩ (by rw [hway]; simp) ⟨⟨rfl, rfl⟩, ⟨rfl, ⟨rfl, rfl⟩, trivial⟩, ⟨⟨rfl, rfl, trivial⟩, trivial⟩, trivial⟩
def conF (f : ForM) (n : Int) : Bool := (rightF f && thereN f.nodes n) && decide ((nd f.nodes (topN f.nodes n)).kind = 0)
theorem f35_ok (f : ForM) (hs : SmallN f.nodes) (n : Int) : FnOK Tryz.prog 35 [] [eFor f, eInt n] [] (eBool (conF f n)) := by
 have h63 := f84_ok f hs n
 unfold topF at h63
 unfold conF
 cases e0 : (rightF f && thereN f.nodes n) with
 | false =>
   rw [e0, if_neg (by simp)] at h63
   obtain ⟨l, m⟩ := f
   refine FnOK.startC (rvs := [.tmp 4]) G G_good Tryz.func35 rfl Tryz.ntmps35 rfl rfl ?_; with_reducible refine wD ?_
   repeat' (first
  | refine gK ?_ | refine aE ?_ ?_
  | (((with_reducible refine kQ 84 ?_); refine cL h63 c84 ?_) <;> with_reducible refine wK ?_)
  | apply trivial)
   all_goals rfl
 | true =>
   rw [e0, if_pos rfl] at h63
   obtain ⟨hr, hn⟩ : rightF f = true ∧ thereN f.nodes n = true := by simpa using e0
   have ht := top_there (U.tree_of hr) n hn
   obtain ⟨l, m⟩ := f
   simp only at h63 ht ⊢
   generalize topN l n = t at h63 ht ⊢
   obtain ⟨i, y, rfl, hy, hny⟩ := there_iff.1 ht
   rw [hny]
   obtain ⟨a1, a2, a3, a4, a5, a6, a7, a8, a9, a10⟩ := y
   refine FnOK.startC (rvs := [.tmp 4]) G G_good Tryz.func35 rfl Tryz.ntmps35 rfl rfl ?_; with_reducible refine wD ?_
   refine cL h63 c84 ?_; with_reducible refine wK ?_
   (have fct := (show ¬ (i : Int) = -1 by omega); (repeat' (first
  | refine gF ?_ | refine aE ?_ ?_
  | (((with_reducible show IdxK _ _ _ _ _); refine IdxK.mk i (eNode _) rfl (node_get hy) ?_) <;> with_reducible refine wK ?_)
  | apply trivial)); all_goals clear fct)
   all_goals simp
end Go.Proofs.Heir
