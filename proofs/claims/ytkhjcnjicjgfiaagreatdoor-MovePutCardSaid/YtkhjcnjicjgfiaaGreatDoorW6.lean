/- Models, plain laws and contracts of functions of the given program; conditions as stated in each theorem. By an AI agent. -/
import Derived.Test.YtkhjcnjicjgfiaaGreatDoorW5
import Derived.Test.YtkhjcnjicjgfiaaGreatDoorChecked
import Derived.Test.YtkhjcnjicjgfiaaGreatDoorW2
import Derived.Shelf.GgClosure.StringsIndexFunc
import Derived.Deep.LoopGhost
import Derived.WalkKit
import Derived.Laws.IdiomStrings
import Derived.IntWalk
import Derived.Outline
import Derived.Lib.Hide
import Derived.Lib.MapLaws
import Derived.Shelf.Strings.Search1
import Derived.Shelf.Strings.Search2
import Derived.Shelf.Strings.Search3
import Derived.Shelf.LaysM
import Derived.Shelf.Strings.Shaped
import Derived.Shelf.Strings.Fields
import Derived.RangeFuncNested
import Derived.RangeFuncBound
import Derived.RangeFuncCalls
import Derived.Shelf.Abstract
import Derived.Shelf.RegionOpen
import Derived.OwnWalkIn
import Derived.TacticsInMore
import Derived.LoopNIn
import Derived.LoopIn
import Derived.Laws.StructEq
import Derived.Tactics
set_option linter.unusedSimpArgs false
set_option linter.unusedVariables false
namespace Go.Proofs.Heir
open Go.Am
set_option maxRecDepth 100000
@[reducible] def G : ct := [(1, .sc .nilFunc), (2, .sc (.int .i64 0)), (3, .sc (.int .i64 0)), (4, .bl), (5, .sc (.int .u8 0)), (9, .str), (12, .sc (.int .u64 0)), (15, .sc (.pointer none)), (16, .sc (.pointer none)), (17, .sc (.pointer none)), (20, .sc .nilIface), (21, .sc (.int .i32 0)), (22, .sl 35 10 136), (24, .st 2 [(0, 22), (1, 3)] (Array.mk [(.slice none 0 0), (.int .i64 0)]) [1, 1]), (25, .sc .nilFunc), (26, .sc .nilFunc), (27, .sl 53 9 88), (28, .sc (.int .i64 0)), (30, .sc .nilFunc), (31, .sc .nilFunc), (32, .sl 90 2 32), (33, .sl 3 1 8), (35, .st 10 [(0, 3), (1, 9), (2, 9), (3, 9), (4, 32), (5, 3), (6, 33), (7, 3), (8, 3), (9, 3)] (Array.mk [(.int .i64 0), (.string ByteArray.empty), (.string ByteArray.empty), (.string ByteArray.empty), (.slice none 0 0), (.int .i64 0), (.slice none 0 0), (.int .i64 0), (.int .i64 0), (.int .i64 0)]) [1, 1, 1, 1, 1, 1, 1, 1, 1, 1]), (36, .sc .nilFunc), (37, .sc .nilFunc), (38, .sc .nilFunc), (39, .sc .nilFunc), (41, .sc .nilFunc), (42, .sc .nilFunc), (43, .sc .nilFunc), (44, .sc .nilFunc), (45, .sc .nilFunc), (46, .sc .nilFunc), (47, .sc .nilFunc), (48, .sc .nilFunc), (49, .sc .nilFunc), (50, .sc .nilFunc), (51, .sc .nilFunc), (53, .st 9 [(0, 3), (1, 3), (2, 3), (3, 3), (4, 9), (5, 4), (6, 4), (7, 9), (8, 9)] (Array.mk [(.int .i64 0), (.int .i64 0), (.int .i64 0), (.int .i64 0), (.string ByteArray.empty), (.bool false), (.bool false), (.string ByteArray.empty), (.string ByteArray.empty)]) [1, 1, 1, 1, 1, 1, 1, 1, 1]), (54, .sc .nilFunc), (56, .st 3 [(0, 24), (2, 27)] (Array.mk [(.slice none 0 0), (.int .i64 0), (.slice none 0 0)]) [2, 1]), (58, .sc .nilFunc), (59, .sc .nilFunc), (60, .sc .nilFunc), (61, .sc .nilFunc), (62, .sc .nilFunc), (63, .sc .nilFunc), (64, .sc .nilFunc), (65, .sc .nilFunc), (66, .sc .nilFunc), (67, .sc .nilFunc), (68, .sl 70 6 6), (70, .st 6 [(0, 5), (1, 5), (2, 5), (3, 5), (4, 5), (5, 5)] (Array.mk [(.int .u8 0), (.int .u8 0), (.int .u8 0), (.int .u8 0), (.int .u8 0), (.int .u8 0)]) [1, 1, 1, 1, 1, 1]), (71, .sl 5 1 1), (72, .sc .nilFunc), (73, .sc .nilFunc), (74, .sc .nilFunc), (75, .sl 156 4 32), (76, .sl 147 3 40), (77, .sl 205 2 24), (79, .st 4 [(0, 76), (1, 77), (2, 3), (3, 4)] (Array.mk [(.slice none 0 0), (.slice none 0 0), (.int .i64 0), (.bool false)]) [1, 1, 1, 1]), (80, .sl 154 5 104), (81, .sc .nilFunc), (82, .sl 88 11 104), (84, .sc .nilFunc), (86, .st 10 [(0, 3), (1, 3), (2, 9), (3, 4), (4, 4), (5, 9), (6, 9), (7, 3), (8, 3), (9, 4)] (Array.mk [(.int .i64 0), (.int .i64 0), (.string ByteArray.empty), (.bool false), (.bool false), (.string ByteArray.empty), (.string ByteArray.empty), (.int .i64 0), (.int .i64 0), (.bool false)]) [1, 1, 1, 1, 1, 1, 1, 1, 1, 1]), (88, .st 11 [(0, 3), (1, 86)] (Array.mk [(.int .i64 0), (.int .i64 0), (.int .i64 0), (.string ByteArray.empty), (.bool false), (.bool false), (.string ByteArray.empty), (.string ByteArray.empty), (.int .i64 0), (.int .i64 0), (.bool false)]) [1, 10]), (90, .st 2 [(0, 9), (1, 9)] (Array.mk [(.string ByteArray.empty), (.string ByteArray.empty)]) [1, 1]), (91, .sc .nilFunc), (93, .sc .nilFunc), (95, .st 2 [(0, 24)] (Array.mk [(.slice none 0 0), (.int .i64 0)]) [2]), (96, .sc .nilFunc), (97, .sc .nilIface), (98, .sc .nilIface), (99, .sc .nilFunc), (100, .sc (.pointer none)), (102, .sc .nilFunc), (104, .st 3 [(0, 24), (2, 27)] (Array.mk [(.slice none 0 0), (.int .i64 0), (.slice none 0 0)]) [2, 1]), (105, .sc .nilFunc), (106, .sc .nilFunc), (107, .sc .nilFunc), (108, .sc .nilFunc), (110, .sc .nilFunc), (112, .sc .nilFunc), (114, .sc .nilFunc), (116, .sc .nilFunc), (117, .sc .nilFunc), (118, .sc .nilFunc), (119, .sc .nilFunc), (121, .st 5 [(0, 24), (2, 3), (3, 3), (4, 3)] (Array.mk [(.slice none 0 0), (.int .i64 0), (.int .i64 0), (.int .i64 0), (.int .i64 0)]) [2, 1, 1, 1]), (122, .sc .nilFunc), (123, .sc .nilFunc), (124, .sc .nilFunc), (125, .sc .nilFunc), (126, .sc .nilFunc), (127, .sc .nilFunc), (128, .sc .nilFunc), (129, .sc .nilFunc), (130, .sc .nilFunc), (131, .sc .nilFunc), (133, .sc .nilFunc), (135, .sc .nilFunc), (136, .sc .nilFunc), (137, .sc .nilFunc), (139, .sc .nilFunc), (140, .sc .nilFunc), (141, .sc (.map none)), (143, .st 3 [(0, 24), (2, 141)] (Array.mk [(.slice none 0 0), (.int .i64 0), (.map none)]) [2, 1]), (144, .sc .nilFunc), (145, .sc .nilFunc), (147, .st 3 [(0, 9), (1, 9), (2, 3)] (Array.mk [(.string ByteArray.empty), (.string ByteArray.empty), (.int .i64 0)]) [1, 1, 1]), (148, .sl 321 7 72), (150, .st 2 [(0, 3), (1, 148)] (Array.mk [(.int .i64 0), (.slice none 0 0)]) [1, 1]), (151, .sl 150 2 32), (152, .sl 9 1 16), (154, .st 5 [(0, 4), (1, 152), (2, 148), (3, 148), (4, 151)] (Array.mk [(.bool false), (.slice none 0 0), (.slice none 0 0), (.slice none 0 0), (.slice none 0 0)]) [1, 1, 1, 1, 1]), (156, .st 4 [(0, 3), (1, 3), (2, 3), (3, 4)] (Array.mk [(.int .i64 0), (.int .i64 0), (.int .i64 0), (.bool false)]) [1, 1, 1, 1]), (157, .sc .nilFunc), (158, .sc .nilFunc), (159, .sc .nilFunc), (160, .sc .nilFunc), (161, .sc (.pointer none)), (163, .sc .nilFunc), (165, .st 9 [(0, 24), (2, 75), (3, 79), (7, 80), (8, 82)] (Array.mk [(.slice none 0 0), (.int .i64 0), (.slice none 0 0), (.slice none 0 0), (.slice none 0 0), (.int .i64 0), (.bool false), (.slice none 0 0), (.slice none 0 0)]) [2, 1, 4, 1, 1]), (167, .sc .nilFunc), (168, .sc (.pointer none)), (169, .sc .nilFunc), (170, .sc .nilFunc), (171, .sc .nilFunc), (172, .sc .nilFunc), (173, .sc .nilFunc), (174, .sc .nilFunc), (176, .st 1 [(0, 28)] (Array.mk [(.int .i64 0)]) [1]), (178, .st 2 [(0, 9), (1, 98)] (Array.mk [(.string ByteArray.empty), .nilIface]) [1, 1]), (179, .sc .nilFunc), (180, .sc .nilFunc), (181, .sc .nilFunc), (182, .sc .nilFunc), (183, .sc .nilFunc), (184, .sc .nilFunc), (185, .sc .nilFunc), (186, .sc .nilFunc), (187, .sc .nilFunc), (188, .sc .nilFunc), (189, .sc .nilFunc), (190, .sc .nilFunc), (191, .sc .nilFunc), (192, .sc .nilFunc), (193, .sc .nilFunc), (194, .sc .nilFunc), (195, .sc .nilFunc), (196, .sc .nilFunc), (197, .sc .nilFunc), (198, .sc .nilFunc), (199, .sc .nilFunc), (200, .sc .nilFunc), (202, .sc (.map none)), (203, .sc .nilFunc), (205, .st 2 [(0, 9), (1, 3)] (Array.mk [(.string ByteArray.empty), (.int .i64 0)]) [1, 1]), (206, .sc (.map none)), (208, .st 2 [(0, 202), (1, 206)] (Array.mk [(.map none), (.map none)]) [1, 1]), (210, .sc .nilFunc), (211, .sc .nilFunc), (212, .sc .nilFunc), (213, .sc .nilFunc), (214, .sc (.pointer none)), (216, .st 5 [(0, 24), (2, 3), (3, 9), (4, 4)] (Array.mk [(.slice none 0 0), (.int .i64 0), (.int .i64 0), (.string ByteArray.empty), (.bool false)]) [2, 1, 1, 1]), (217, .sc .nilFunc), (218, .sc .nilFunc), (219, .sc .nilFunc), (220, .sc (.pointer none)), (221, .sc .nilFunc), (222, .sc .nilFunc), (223, .sc .nilFunc), (224, .sc (.map none)), (225, .sc .nilFunc), (226, .sc .nilFunc), (227, .sc .nilFunc), (228, .sc .nilFunc), (229, .sc .nilFunc), (232, .sc (.map none)), (233, .sc .nilFunc), (234, .sc .nilFunc), (235, .sc .nilFunc), (236, .sc .nilFunc), (237, .sc .nilFunc), (238, .sc .nilFunc), (243, .sc .nilFunc), (244, .sc .nilIface), (246, .sc .nilFunc), (248, .sc .nilFunc), (249, .sc .nilFunc), (250, .sc .nilFunc), (251, .sc .nilFunc), (252, .sc .nilFunc), (253, .sc .nilFunc), (254, .sc .nilFunc), (255, .sc .nilFunc), (256, .sc .nilFunc), (257, .sc (.pointer none)), (259, .st 2 [(0, 257), (1, 71)] (Array.mk [(.pointer none), (.slice none 0 0)]) [1, 1]), (260, .sc .nilFunc), (261, .sc .nilFunc), (262, .sc .nilFunc), (265, .sc (.pointer none)), (266, .sc .nilFunc), (267, .sc .nilFunc), (268, .sc .nilFunc), (269, .sc .nilIface), (271, .sc .nilFunc), (272, .sc .nilIface), (273, .sc .nilFunc), (274, .sc .nilIface), (275, .sl 98 1 16), (276, .sc .nilFunc), (277, .sc .nilFunc), (278, .sc .nilFunc), (279, .sc .nilFunc), (280, .sc (.pointer none)), (281, .sc .nilFunc), (282, .sc .nilFunc), (283, .sc .nilFunc), (284, .sc (.int .u64 0)), (286, .sc .nilFunc), (287, .sc (.int .u32 0)), (289, .sc .nilFunc), (290, .sl 292 2 16), (292, .st 2 [(0, 3), (1, 3)] (Array.mk [(.int .i64 0), (.int .i64 0)]) [1, 1]), (293, .sc .nilFunc), (294, .sc (.pointer none)), (295, .sl 301 3 6), (296, .sl 304 3 12), (298, .st 3 [(0, 295), (1, 296), (2, 3)] (Array.mk [(.slice none 0 0), (.slice none 0 0), (.int .i64 0)]) [1, 1, 1]), (299, .sc (.int .u16 0)), (301, .st 3 [(0, 299), (1, 299), (2, 299)] (Array.mk [(.int .u16 0), (.int .u16 0), (.int .u16 0)]) [1, 1, 1]), (302, .sc .nilFunc), (304, .st 3 [(0, 287), (1, 287), (2, 287)] (Array.mk [(.int .u32 0), (.int .u32 0), (.int .u32 0)]) [1, 1, 1]), (305, .sc .nilFunc), (306, .sc (.pointer none)), (307, .sc (.pointer none)), (313, .sc .nilFunc), (315, .sc .nilFunc), (321, .st 7 [(0, 3), (1, 3), (2, 3), (3, 3), (4, 9), (5, 9), (6, 4)] (Array.mk [(.int .i64 0), (.int .i64 0), (.int .i64 0), (.int .i64 0), (.string ByteArray.empty), (.string ByteArray.empty), (.bool false)]) [1, 1, 1, 1, 1, 1, 1]), (322, .sc .nilFunc), (323, .sc .nilFunc), (326, .sc (.pointer none)), (327, .sc .nilFunc), (330, .sl 333 4 16), (334, .sc (.pointer none))]
theorem au:G.Good Tryz.prog:=fS<|fS<|fS<|fB<|fS<|fG<|fS<|fS<|fS<|fS<|fS<|fS<|fL<|fT Tryz.underlying24<|fS<|fS<|fL<|fS<|fS<|fS<|fL<|fL<|fT Tryz.underlying35<|fS<|fS<|fS<|fS<|fS<|fS<|fS<|fS<|fS<|fS<|fS<|fS<|fS<|fS<|fS<|fT Tryz.underlying53<|fS<|fT Tryz.underlying56<|fS<|fS<|fS<|fS<|fS<|fS<|fS<|fS<|fS<|fS<|fL<|fT Tryz.underlying70<|fL<|fS<|fS<|fS<|fL<|fL<|fL<|fT Tryz.underlying79<|fL<|fS<|fL<|fS<|fT Tryz.underlying86<|fT Tryz.underlying88<|fT Tryz.underlying90<|fS<|fS<|fT Tryz.underlying95<|fS<|fS<|fS<|fS<|fS<|fS<|fT Tryz.underlying104<|fS<|fS<|fS<|fS<|fS<|fS<|fS<|fS<|fS<|fS<|fS<|fT Tryz.underlying121<|fS<|fS<|fS<|fS<|fS<|fS<|fS<|fS<|fS<|fS<|fS<|fS<|fS<|fS<|fS<|fS<|fS<|fT Tryz.underlying143<|fS<|fS<|fT Tryz.underlying147<|fL<|fT Tryz.underlying150<|fL<|fL<|fT Tryz.underlying154<|fT Tryz.underlying156<|fS<|fS<|fS<|fS<|fS<|fS<|fT Tryz.underlying165<|fS<|fS<|fS<|fS<|fS<|fS<|fS<|fS<|fT Tryz.underlying176<|fT Tryz.underlying178<|fS<|fS<|fS<|fS<|fS<|fS<|fS<|fS<|fS<|fS<|fS<|fS<|fS<|fS<|fS<|fS<|fS<|fS<|fS<|fS<|fS<|fS<|fS<|fS<|fT Tryz.underlying205<|fS<|fT Tryz.underlying208<|fS<|fS<|fS<|fS<|fS<|fT Tryz.underlying216<|fS<|fS<|fS<|fS<|fS<|fS<|fS<|fS<|fS<|fS<|fS<|fS<|fS<|fS<|fS<|fS<|fS<|fS<|fS<|fS<|fS<|fS<|fS<|fS<|fS<|fS<|fS<|fS<|fS<|fS<|fS<|fS<|fS<|fT Tryz.underlying259<|fS<|fS<|fS<|fS<|fS<|fS<|fS<|fS<|fS<|fS<|fS<|fS<|fL<|fS<|fS<|fS<|fS<|fS<|fS<|fS<|fS<|fS<|fS<|fS<|fS<|fL<|fT Tryz.underlying292<|fS<|fS<|fL<|fL<|fT Tryz.underlying298<|fS<|fT Tryz.underlying301<|fS<|fT Tryz.underlying304<|fS<|fS<|fS<|fS<|fS<|fT Tryz.underlying321<|fS<|fS<|fS<|fS<|fL<|fS<|fN
theorem c3:ak Tryz.prog 3:=fun _ _=>by kernel_rfl
theorem c4:ak Tryz.prog 4:=fun _ _=>by kernel_rfl
theorem c5:ak Tryz.prog 5:=fun _ _=>by kernel_rfl
theorem sM:ak Tryz.prog 16:=fun _ _=>by kernel_rfl
theorem qy:ak Tryz.prog 17:=fun _ _=>by kernel_rfl
theorem zq:ak Tryz.prog 18:=fun _ _=>by kernel_rfl
theorem Mc:ak Tryz.prog 23:=fun _ _=>by kernel_rfl
theorem Nl:ak Tryz.prog 25:=fun _ _=>by kernel_rfl
theorem s9:ak Tryz.prog 26:=fun _ _=>by kernel_rfl
theorem Jd:ak Tryz.prog 27:=fun _ _=>by kernel_rfl
theorem Ls:ak Tryz.prog 28:=fun _ _=>by kernel_rfl
theorem zI:ak Tryz.prog 29:=fun _ _=>by kernel_rfl
theorem Fo:ak Tryz.prog 30:=fun _ _=>by kernel_rfl
theorem LJ:ak Tryz.prog 31:=fun _ _=>by kernel_rfl
theorem KN:ak Tryz.prog 32:=fun _ _=>by kernel_rfl
theorem vZ:ak Tryz.prog 33:=fun _ _=>by kernel_rfl
theorem OS:ak Tryz.prog 34:=fun _ _=>by kernel_rfl
theorem Lm:ak Tryz.prog 35:=fun _ _=>by kernel_rfl
theorem zO:ak Tryz.prog 43:=fun _ _=>by kernel_rfl
theorem F1:ak Tryz.prog 56:=fun _ _=>by kernel_rfl
theorem OJ:ak Tryz.prog 57:=fun _ _=>by kernel_rfl
theorem PS:ak Tryz.prog 58:=fun _ _=>by kernel_rfl
theorem Pr:ak Tryz.prog 59:=fun _ _=>by kernel_rfl
theorem F3:ak Tryz.prog 60:=fun _ _=>by kernel_rfl
theorem PV:ak Tryz.prog 63:=fun _ _=>by kernel_rfl
theorem OO:ak Tryz.prog 65:=fun _ _=>by kernel_rfl
theorem IP:ak Tryz.prog 67:=fun _ _=>by kernel_rfl
theorem P0:ak Tryz.prog 68:=fun _ _=>by kernel_rfl
theorem PG:ak Tryz.prog 69:=fun _ _=>by kernel_rfl
theorem PI:ak Tryz.prog 70:=fun _ _=>by kernel_rfl
theorem Bp:ak Tryz.prog 71:=fun _ _=>by kernel_rfl
theorem F2:ak Tryz.prog 72:=fun _ _=>by kernel_rfl
theorem Jc:ak Tryz.prog 73:=fun _ _=>by kernel_rfl
theorem OM:ak Tryz.prog 74:=fun _ _=>by kernel_rfl
theorem L6:ak Tryz.prog 77:=fun _ _=>by kernel_rfl
theorem Po:ak Tryz.prog 78:=fun _ _=>by kernel_rfl
theorem P2:ak Tryz.prog 80:=fun _ _=>by kernel_rfl
theorem PN:ak Tryz.prog 81:=fun _ _=>by kernel_rfl
theorem OR:ak Tryz.prog 82:=fun _ _=>by kernel_rfl
theorem O5:ak Tryz.prog 83:=fun _ _=>by kernel_rfl
theorem O0:ak Tryz.prog 84:=fun _ _=>by kernel_rfl
theorem PJ:ak Tryz.prog 85:=fun _ _=>by kernel_rfl
theorem Pd:ak Tryz.prog 86:=fun _ _=>by kernel_rfl
theorem PF:ak Tryz.prog 87:=fun _ _=>by kernel_rfl
theorem Pn:ak Tryz.prog 94:=fun _ _=>by kernel_rfl
theorem O6:ak Tryz.prog 95:=fun _ _=>by kernel_rfl
theorem CT:ak Tryz.prog 115:=fun _ _=>by kernel_rfl
theorem CO:ak Tryz.prog 121:=fun _ _=>by kernel_rfl
theorem J4:ak Tryz.prog 122:=fun _ _=>by kernel_rfl
theorem KS:ak Tryz.prog 123:=fun _ _=>by kernel_rfl
theorem Ka:ak Tryz.prog 124:=fun _ _=>by kernel_rfl
theorem J1:ak Tryz.prog 125:=fun _ _=>by kernel_rfl
theorem LY:ak Tryz.prog 127:=fun _ _=>by kernel_rfl
theorem Jh:ak Tryz.prog 131:=fun _ _=>by kernel_rfl
theorem O3:ak Tryz.prog 132:=fun _ _=>by kernel_rfl
theorem F5:ak Tryz.prog 133:=fun _ _=>by kernel_rfl
theorem Pk:ak Tryz.prog 134:=fun _ _=>by kernel_rfl
theorem PA:ak Tryz.prog 135:=fun _ _=>by kernel_rfl
theorem Km:ak Tryz.prog 137:=fun _ _=>by kernel_rfl
theorem N5:ak Tryz.prog 138:=fun _ _=>by kernel_rfl
theorem IA:ak Tryz.prog 140:=fun _ _=>by kernel_rfl
theorem IT:ak Tryz.prog 143:=fun _ _=>by kernel_rfl
theorem LW:ak Tryz.prog 145:=fun _ _=>by kernel_rfl
theorem Pe:ak Tryz.prog 146:=fun _ _=>by kernel_rfl
theorem IM:ak Tryz.prog 147:=fun _ _=>by kernel_rfl
theorem Pj:ak Tryz.prog 148:=fun _ _=>by kernel_rfl
theorem Gu:ak Tryz.prog 149:=fun _ _=>by kernel_rfl
theorem JC:ak Tryz.prog 174:=fun _ _=>by kernel_rfl
theorem EY:ak Tryz.prog 175:=fun _ _=>by kernel_rfl
theorem MK:ak Tryz.prog 176:=fun _ _=>by kernel_rfl
theorem Lb:ak Tryz.prog 179:=fun _ _=>by kernel_rfl
theorem Ou:ak Tryz.prog 180:=fun _ _=>by kernel_rfl
theorem NU:ak Tryz.prog 181:=fun _ _=>by kernel_rfl
theorem N2:ak Tryz.prog 182:=fun _ _=>by kernel_rfl
theorem Mz:ak Tryz.prog 183:=fun _ _=>by kernel_rfl
theorem O2:ak Tryz.prog 184:=fun _ _=>by kernel_rfl
theorem OH:ak Tryz.prog 185:=fun _ _=>by kernel_rfl
theorem Pt:ak Tryz.prog 186:=fun _ _=>by kernel_rfl
theorem N8:ak Tryz.prog 187:=fun _ _=>by kernel_rfl
theorem MO:ak Tryz.prog 188:=fun _ _=>by kernel_rfl
theorem OC:ak Tryz.prog 192:=fun _ _=>by kernel_rfl
theorem Py:ak Tryz.prog 193:=fun _ _=>by kernel_rfl
theorem Pu:ak Tryz.prog 206:=fun _ _=>by kernel_rfl
theorem ND:ak Tryz.prog 207:=fun _ _=>by kernel_rfl
theorem N4:ak Tryz.prog 208:=fun _ _=>by kernel_rfl
theorem OY:ak Tryz.prog 213:=fun _ _=>by kernel_rfl
theorem Px:ak Tryz.prog 217:=fun _ _=>by kernel_rfl
theorem Og:ak Tryz.prog 223:=fun _ _=>by kernel_rfl
theorem Pq:ak Tryz.prog 231:=fun _ _=>by kernel_rfl
theorem O8:ak Tryz.prog 236:=fun _ _=>by kernel_rfl
theorem PO:ak Tryz.prog 55:=fun _ _=>by kernel_rfl
theorem PK:ak Tryz.prog 61:=fun _ _=>by kernel_rfl
theorem ON:ak Tryz.prog 75:=fun _ _=>by kernel_rfl
theorem Ml:ak Tryz.prog 76:=fun _ _=>by kernel_rfl
theorem Nb:ak Tryz.prog 79:=fun _ _=>by kernel_rfl
theorem Fe:ak Tryz.prog 116:=fun _ _=>by kernel_rfl
theorem I8:ak Tryz.prog 117:=fun _ _=>by kernel_rfl
theorem Kx:ak Tryz.prog 118:=fun _ _=>by kernel_rfl
theorem Md:ak Tryz.prog 119:=fun _ _=>by kernel_rfl
theorem Ox:ak Tryz.prog 120:=fun _ _=>by kernel_rfl
theorem zD:ak Tryz.prog 129:=fun _ _=>by kernel_rfl
theorem qj:ak Tryz.prog 136:=fun _ _=>by kernel_rfl
theorem JH:ak Tryz.prog 139:=fun _ _=>by kernel_rfl
theorem CZ:ak Tryz.prog 141:=fun _ _=>by kernel_rfl
theorem wE:ak Tryz.prog 142:=fun _ _=>by kernel_rfl
theorem Hy:ak Tryz.prog 144:=fun _ _=>by kernel_rfl
theorem N3:ak Tryz.prog 150:=fun _ _=>by kernel_rfl
theorem Oe:ak Tryz.prog 177:=fun _ _=>by kernel_rfl
theorem KQ:ak Tryz.prog 191:=fun _ _=>by kernel_rfl
theorem O1:ak Tryz.prog 220:=fun _ _=>by kernel_rfl
theorem PC:ak Tryz.prog 232:=fun _ _=>by kernel_rfl
theorem Kc:iX Tryz.prog 206 (.int .i64) (.int .i64 0):=⟨3,3,by kernel_rfl,by kernel_rfl,fun w=>Tryz.zeroValue3 w⟩
end Go.Proofs.Heir
namespace Go.Proofs.Heir
open Go.Am
set_option maxRecDepth 100000
set_option maxHeartbeats 8000000
def kU (c:Int):Bool:=decide (97≤c)&&decide (c≤122)
def n4 (c:Int):Bool:=decide (65≤c)&&decide (c≤90)
def j0 (c:Int):Bool:=kU c||n4 c||(decide (48≤c)&&decide (c≤57))||decide (c=45)||decide (c=95)||decide (c=46)
@[reducible] def Ac (c : Int) : AV := .lit (.int .i32 c)
@[reducible] def bG (b : Bool) : AV := .lit (.bool b)
@[reducible] def bX (s : ByteArray) : AV := .lit (.string s)
@[reducible] def ah (n : Int) : AV := .lit (.int .i64 n)
theorem zy (c:Int):aj Tryz.prog 188 [] [Ac c] [] (bG (kU c)):=by
 refine aj.aD (rvs:=[.tmp 2]) G au Tryz.func188 rfl Tryz.ntmps188 rfl rfl ?_;with_reducible refine wD ?_
 refine bq.mk (fun h=>?_) (fun h=>?_)<;>(try simp only[az] at h)<;>with_reducible refine wK ?_
 ·(refine eK ?_ ?_<;>with_reducible repeat' (first|exact trivial|(show _∧_;refine aK ?_ ?_)))
  unfold kU
  simp at h;simp[h]
 ·(refine eK ?_ ?_<;>with_reducible repeat' (first|exact trivial|(show _∧_;refine aK ?_ ?_)))
  unfold kU
  simp at h;simp;omega
theorem qi (c:Int):aj Tryz.prog 179 [] [Ac c] [] (bG (n4 c)):=by
 refine aj.aD (rvs:=[.tmp 2]) G au Tryz.func179 rfl Tryz.ntmps179 rfl rfl ?_;with_reducible refine wD ?_
 refine bq.mk (fun h=>?_) (fun h=>?_)<;>(try simp only[az] at h)<;>with_reducible refine wK ?_
 ·(refine eK ?_ ?_<;>with_reducible repeat' (first|exact trivial|(show _∧_;refine aK ?_ ?_)))
  unfold n4
  simp at h;simp[h]
 ·(refine eK ?_ ?_<;>with_reducible repeat' (first|exact trivial|(show _∧_;refine aK ?_ ?_)))
  unfold n4
  simp at h;simp;omega
theorem Le (c:Int):aj Tryz.prog 187 [] [Ac c] [] (bG (j0 c)):=by
 refine aj.aD (rvs:=[.tmp 2]) G au Tryz.func187 rfl Tryz.ntmps187 rfl rfl ?_;with_reducible refine wD ?_
 refine cL (zy c) MO ?_;with_reducible refine wK ?_
 repeat' (first
  |refine aE ?_ ?_
  |((with_reducible show bq _ _ _ _);first|refine iK ?_|(refine bq.mk (fun _=>?_) (fun _=>?_)<;>with_reducible refine wK ?_))
  |((with_reducible refine kQ 179 ?_);refine cL (qi c) Lb ?_;with_reducible refine wK ?_)
  |apply trivial)
 all_goals (simp_all[j0,kU,n4]<;>omega)
theorem KC (c:Int):aj Tryz.prog 186 [] [Ac c] [] (bG (!j0 c)):=by
 refine aj.aD (rvs:=[.tmp 2]) G au Tryz.func186 rfl Tryz.ntmps186 rfl rfl ?_;with_reducible refine wD ?_
 refine cL (Le c) N8 ?_;with_reducible refine wK ?_
 (refine eK ?_ ?_<;>with_reducible repeat' (first|exact trivial|(show _∧_;refine aK ?_ ?_)))
open Go.RowKit Go.Lib in
theorem Cm (g:Nat)(eg:∀args w,(callFunc g args).run Tryz.prog w=.ok (.enter g args) w)(p:Nat→Bool)(s:ByteArray)(w:World)(ht:ku Tryz.prog w fun _=>none)(hp:∀ (W:World) (x:Nat),(ku Tryz.prog W fun _=>none)→x≤1114111→Calls Tryz.prog g #[.int .i32 (x:Int)] W fun e w'=>e=.returned (.bool (p x))∧Below W.heap.size W w'):
  Calls Tryz.prog 227 #[.string s,.func (.func g) #[] #[],.bool true] w fun e w'=>e=.returned (.int .i64 (Lib.idxFunc p true s))∧Below w.heap.size w w':=by
 go_enter Tryz.func227,Tryz.ntmps227
 go_wp2
 go_loopg [] s.size (fun gf wx=> ∃pos:Nat,wx.heap[w.heap.size]? =some (.stringIter s pos)∧Below w.heap.size w wx∧Lib.idxFuncFrom p true s gf pos=Lib.idxFunc p true s∧s.size≤pos+gf)
 case atStart=>exact⟨0,World.iter_heap w s 0,(Below.refl _ w).alloc (Nat.le_refl _) _,rfl,by omega⟩
 case round=>
  obtain⟨pos,hit,hbw,hleft,hfu⟩:=hrel
  by_cases hps:pos<s.size
  ·obtain⟨g',rfl⟩:∃g',gk=g'+1:=⟨gk-1,by omega⟩
   have hnx:∀ty,(Instr.next (.pointer (some ⟨w.heap.size,0,none⟩)) true ty).run Tryz.prog wr=_:=fun ty=>Lib.run_next_any_at wr w.heap.size s pos ty hit hps
   have hwd:=Lib.width_pos s pos
   obtain⟨R,hR⟩:∃R,(Utf8.decode s pos).1=R:=⟨_,rfl⟩
   obtain⟨K,hK⟩:∃K,(Utf8.decode s pos).2=K:=⟨_,rfl⟩
   simp only[Lib.idxFuncFrom,hps,if_true,hR,hK] at hleft
   rw[hR,hK] at hnx
   rw[hK] at hwd
   have hit2:=Lib.iterAt_heap wr w.heap.size s pos (pos+K) hit
   have hbw2:=Lib.below_iterAt hbw (k:=w.heap.size) (Nat.le_refl _) s (pos+K)
   obtain⟨W,hWd⟩:∃W,wr.iterAt w.heap.size s (pos+K)=W:=⟨_,rfl⟩
   rw[hWd] at hnx hit2 hbw2
   have hltW:w.heap.size<W.heap.size:=(Array.getElem?_eq_some_iff.1 hit2).1
   have cS:Calls Tryz.prog g #[.int .i32 (R:Int)] W _       :=hp W R (ht.below hbw2) (by rw[←hR];exact Lib.rune_le s pos)
   clear hp
   cases hsp:p R<;>rw[hsp] at cS<;>simp only[hsp,if_true,Bool.false_eq_true,Bool.true_eq_false,if_false] at hleft
   ·go_wp2_with (go_at_fn g;refine cS.mono ?_;rintro e W' ⟨rfl,hbc⟩)
    go_roundg g'
    case measure=>omega
    case rel=>exact⟨pos+K,(hbc.block _ hltW).trans hit2,(hbw2.trans (hbc.mono hbw2.size)),hleft,by omega⟩
   ·go_wp2_with (go_at_fn g;refine cS.mono ?_;rintro e W' ⟨rfl,hbc⟩)
    go_ret
    exact⟨by rw[←hleft]<;>rfl,(hbw2.trans (hbc.mono hbw2.size))⟩
  ·have hnx:∀ty,(Instr.next (.pointer (some ⟨w.heap.size,0,none⟩)) true ty).run Tryz.prog wr=_:=fun ty=>Lib.run_next_end_at wr w.heap.size s pos ty hit hps
   rw[Lib.idxFuncFrom_end p true s gk pos hps] at hleft
   go_wp2
   go_ret
   exact⟨by rw[←hleft]<;>rfl,hbw⟩
end Go.Proofs.Heir
namespace Go.Proofs.Heir
open Go Go.Am Go.RowKit Go.Lib
set_option maxRecDepth 100000
set_option maxHeartbeats 8000000
def nh (c:UInt8):UInt8:=if n4 (c.toNat:Int) then c+32 else c
def pG (l:List UInt8):List UInt8:=l.map nh
def cH (s:ByteArray):ByteArray:=⟨(pG s.data.toList).toArray⟩
def qR (l:List UInt8)(k:Nat):List UInt8:=(l.take k).map nh++l.drop k
theorem BD (l:List UInt8)(k:Nat):(qR l k).length=l.length:=by simp[qR];omega
theorem AU (l:List UInt8)(k:Nat)(h:k<l.length):(qR l k)[k]? =some l[k]:=by
 simp[qR,List.getElem?_append,List.getElem?_drop,Nat.min_eq_left (Nat.le_of_lt h),h]
theorem BL (l:List UInt8)(k:Nat)(h:k<l.length):(qR l k).set k (nh l[k])=qR l (k+1):=by
 unfold qR
 have h1:((l.take k).map nh).length=k:=by simp;omega
 rw[List.set_append_right _ _ (by omega),h1,Nat.sub_self,List.take_succ_eq_append_getElem h,List.drop_eq_getElem_cons h]
 simp only[List.set_cons_zero,iR,List.map_cons,List.map_nil,List.append_assoc,List.cons_append,List.nil_append]
theorem EF (l:List UInt8)(k:Nat)(h:k<l.length)(hc:n4 (l[k].toNat:Int)=false):qR l k=qR l (k+1):=by
 rw[←BL l k h]
 have h2:=AU l k h
 apply List.ext_getElem?
 intro j
 rw[List.getElem?_set]
 by_cases hj:k=j
 ·subst hj
  rw[if_pos rfl,if_pos (by rw[BD];exact h),h2]
  simp[nh,hc]
 ·rw[if_neg hj]
def rowOf (l:List UInt8)(z:List Value):Array Value:=(l.map (fun b=>Value.int .u8 b.toNat)++z).toArray
theorem xm (l:List UInt8)(z:List Value)(k:Nat)(b:UInt8)(h:l[k]? =some b):(rowOf l z)[k]? =some (.int .u8 b.toNat):=by
 have hk:=(bj h).1
 simp only[rowOf,List.getElem?_toArray]
 rw[rW (by simpa using hk),fI,h];rfl
theorem EC (l:List UInt8)(z:List Value)(k:Nat)(b:UInt8)(h:k<l.length):(rowOf l z).setIfInBounds k (.int .u8 b.toNat)=rowOf (l.set k b) z:=by
 apply Array.ext'
 simp only[rowOf,Array.toList_setIfInBounds,List.map_set]
 rw[List.set_append_left _ _ (by simpa using h)]
theorem Gg (c:UInt8)(h:n4 (c.toNat:Int)=true):IntKind.u8.wrap (IntKind.u8.wrap ((c.toNat:Int)-65)+97)=((c+32:UInt8).toNat:Int):=by
 simp only[n4,bO,bE] at h
 have h1:IntKind.u8.wrap ((c.toNat:Int)-65)=(c.toNat:Int)-65:=by simp[IntKind.wrap_u8];omega
 rw[h1]
 have h2:IntKind.u8.wrap ((c.toNat:Int)-65+97)=(c.toNat:Int)+32:=by simp[IntKind.wrap_u8];omega
 rw[h2]
 have:(c+32:UInt8).toNat=c.toNat+32:=by
  rw[UInt8.toNat_add];simp;omega
 rw[this];rfl
theorem Cf (s:ByteArray)(w:World)(ht:ku Tryz.prog w fun _=>none)(hs:s.size≤100000):Calls Tryz.prog 124 #[.string s] w fun e w'=>e=.returned (.string (cH s))∧Below w.heap.size w w':=by
 obtain⟨l,rfl⟩:∃l:List UInt8,s=⟨l.toArray⟩:=⟨s.data.toList,by obtain⟨⟨l⟩⟩:=s;rfl⟩
 have hsz:(ByteArray.mk l.toArray).size=l.length:=by simp[ByteArray.size]
 have hconv:=run_bytes_of_string (P:=Tryz.prog) w 9 71 5 ⟨l.toArray⟩ Tryz.underlying9 Tryz.underlying71 Tryz.underlying5
 rw[hsz] at hconv hs
 obtain⟨cap,hcap⟩:∃cap,grownCap w l.length 0 5=cap:=⟨_,rfl⟩
 rw[hcap] at hconv
 obtain⟨z,hz⟩:∃z:List Value,bytesRow ⟨l.toArray⟩ cap=rowOf l z:=⟨List.replicate (cap-l.length) (.int .u8 0),by
  apply Array.ext';simp[bytesRow,rowOf,ByteArray.size]⟩
 rw[hz] at hconv
 obtain⟨n,hn⟩:∃n,(rowOf l z).size=n:=⟨_,rfl⟩
 rw[hn] at hconv
 clear hcap hz
 go_enter Tryz.func124,Tryz.ntmps124
 go_wp2
 go_loopw [10] (fun i wr=> ∃k:Nat,k≤l.length∧i=.int .i64 k∧wr.heap[w.heap.size]? =some (.cells (rowOf (qR l k) z) 5 (n,n+1))∧Below w.heap.size w wr) (fun i _=>l.length- (intOf i).toNat)
 case atStart=>exact⟨0,Nat.zero_le _,rfl,(heap_alloc_new w (Obj.cells (rowOf l z) 5 (n,n+1))),((Below.refl _ w).alloc (Nat.le_refl _) _).drew⟩
 case round=>
  obtain⟨k,hk,rfl,hh,hb⟩:=hrel
  by_cases hlt:k<l.length
  ·have hcell:wr.cell? ⟨w.heap.size,k,none⟩=some (.int .u8 (l[k].toNat:Int)):=by
    simp only[World.cell?,hh]
    exact xm _ z k _ (AU l k hlt)
   have hn2:k<n:=by rw[←hn];simp[rowOf];omega
   have hfz:wr.frozen? ⟨w.heap.size,k,none⟩=false:=by
    simp[World.frozen?,hh];omega
   have hbs:w.heap.size<wr.heap.size:=(Array.getElem?_eq_some_iff.1 hh).1
   have hb1:0≤ (l[k].toNat:Int):=Int.natCast_nonneg _
   have hb2:(l[k].toNat:Int)≤255:=by have:=UInt8.toNat_lt l[k];omega
   cases hc:n4 (l[k].toNat:Int) with
   | false=>
     go_wp2_with (go_at_call 179;refine((qi (l[k].toNat:Int)).below (vs:=[.int .i32 (l[k].toNat:Int)]) _ (ht.below hb)).mono ?_;rw[hc];rintro e w1 ⟨rfl,hb3⟩)
     go_roundw
     case rel=>exact⟨k+1,by omega,by go_num,by rw[hb3.block _ hbs,hh,EF l k hlt hc],hb.trans (hb3.mono hb.size)⟩
     case measure=>simp[intOf];omega
   | true=>
     have hst:IntKind.u8.wrap (IntKind.u8.wrap ((l[k].toNat:Int)-65)+97)=((nh l[k]).toNat:Int):=by
      rw[Gg _ hc];unfold nh;rw[hc];rfl
     simp only[IntKind.wrap_u8] at hst
     have H:=hid hst
     clear hst
     go_wp2_with (go_at_call 179;refine((qi (l[k].toNat:Int)).below (vs:=[.int .i32 (l[k].toNat:Int)]) _ (ht.below hb)).mono ?_;rw[hc];rintro e w1 ⟨rfl,hb3⟩;have hc1:=(hb3.cell (p:=⟨w.heap.size,k,none⟩) hbs).trans hcell;have hf1:=(hb3.frozen (p:=⟨w.heap.size,k,none⟩) hbs).trans hfz)
     go_roundw
     case rel=>
      refine⟨k+1,by omega,by go_num,?_,hb.trans ((hb3.mono hb.size).setCell (Nat.le_refl _) _)⟩
      have hm:((l[k].toNat:Int)-65+97)%256=((nh l[k]).toNat:Int):=by
       rw[←H.out];omega
      rw[hm]
      have hq:w1.heap[w.heap.size]? =some (.cells (rowOf (qR l k) z) 5 (n,n+1)):=(hb3.block _ hbs).trans hh
      have hs2:w.heap.size<w1.heap.size:=(Array.getElem?_eq_some_iff.1 hq).1
      unfold World.setCell
      simp only[Array.getElem?_modify,hq,if_true,Option.map_some]
      have hrs:=EC (qR l k) z k (nh l[k]) (by rw[BD];exact hlt)
      rw[BL l k hlt] at hrs
      simp only[hrs];rfl
     case measure=>simp[intOf];omega
  ·have:k=l.length:=by omega
   subst this
   have hrw:rowOf (qR l l.length) z=rowOf (pG l) z:=by simp[qR,pG]
   rw[hrw] at hh
   have hcv:=run_convert_bytes_back (P:=Tryz.prog) wr 71 9 5 ⟨w.heap.size,0,none⟩ cap (pG l) Tryz.underlying71 Tryz.underlying5 Tryz.underlying9 (fun j hj=>by
    have:=xm (pG l) z j ((pG l)[j]) (bA hj)
    have ha:(⟨w.heap.size,0,none⟩:Addr).add j=⟨w.heap.size,j,none⟩:=by
     unfold Addr.add;split<;>simp_all
    rw[ha];simp only[World.cell?,hh,this];rfl)
   rw[show(pG l).length=l.length from by simp[pG]] at hcv
   go_wp2
   go_ret
   exact⟨rfl,hb⟩
theorem Ei (s:ByteArray)(hs:s.size≤100000):aj Tryz.prog 124 [] [bX s] [] (bX (cH s)):=
 aj.jf (vs:=[.string s]) (v:=.string (cH s)) fun w ht=>Cf s w ht hs
def js (b:UInt8):Bool:=j0 (b.toNat:Int)
def rL:List UInt8→Bool
 |[]=>false
 |b::_=>kU (b.toNat:Int)||n4 (b.toNat:Int)||decide ((b.toNat:Int)=95)
def qb (l:List UInt8):Bool:=decide (1≤l.length)&&decide (l.length≤40)&&l.all js&&rL l
def cj (s:ByteArray):Bool:=qb s.data.toList
theorem Eg (s:ByteArray):∀ (f pos:Nat),s.size≤pos+f→(0≤idxFuncFrom (fun r=> !j0 (r:Int)) true s f pos↔ ∃i,pos≤i∧∃b,s.data.toList[i]? =some b∧js b=false)
 | 0,pos,h=>by
   have:¬ (0:Int)≤idxFuncFrom (fun r=> !j0 (r:Int)) true s 0 pos:=by simp[idxFuncFrom]
   refine⟨fun h'=>absurd h' this,?_⟩
   rintro⟨i,h1,b,h2,_⟩
   have:=(bj h2).1
   have:i<s.size:=this
   omega
 | f + 1, pos,h=>by
   by_cases hp:pos<s.size
   ·have ih:=Eg s f
    have hb:∃b,s.data.toList[pos]? =some b∧s.get! pos=b:=⟨_,bA hp,by show s.data[pos]! =_;rw[getElem!_pos s.data pos hp];rfl⟩
    obtain⟨b,hb1,hb2⟩:=hb
    unfold idxFuncFrom
    rw[if_pos hp,decode_at,hb2]
    have hbn:b.toNat<256:=UInt8.toNat_lt b
    have big:∀r:Nat,128≤r→j0 (r:Int)=false:=by
     intro r hr
     have:(128:Int)≤r:=by omega
     simp only[j0,kU,n4,Bool.or_eq_false_iff,Bool.and_eq_false_iff,c9]
     omega
    have bad:∀r w:Nat,128≤r→128≤b.toNat→((0:Int)≤ (if(!j0 (r:Int))=true then(pos:Int) else idxFuncFrom (fun r=> !j0 (r:Int)) true s f (pos+w))↔ ∃i,pos≤i∧∃b,s.data.toList[i]? =some b∧js b=false):=by
     intro r w hr hbr
     rw[big r hr]
     exact⟨fun _=>⟨pos,Nat.le_refl _,b,hb1,big _ hbr⟩,fun _=>by simp⟩
    rcases decodeN_shape (s.size-pos) b.toNat (s.get! (pos+1)).toNat (s.get! (pos+2)).toNat (s.get! (pos+3)).toNat with⟨h1,h2⟩|⟨h1,h3,h4,h5,h2⟩|⟨h1,h3,h4,h5,h6,h7,h2⟩|⟨h1,h3,h4,h5,h6,h7,h8,h2⟩|h2
    ·rw [h2]
     show(0:Int)≤ (if(!j0 (b.toNat:Int))=true then(pos:Int) else idxFuncFrom _ true s f (pos+1))↔_
     cases hs:j0 (b.toNat:Int) with
     |false=>exact⟨fun _=>⟨pos,Nat.le_refl _,b,hb1,hs⟩,fun _=>by simp⟩
     | true=>
       rw[if_neg (by simp),ih (pos+1) (by omega)]
       constructor
       ·rintro⟨i,h3,h4⟩;exact⟨i,by omega,h4⟩
       ·rintro⟨i,h3,b',h4,h5⟩
        rcases Nat.lt_or_ge pos i with h6|h6
        ·exact⟨i,h6,b',h4,h5⟩
        ·have:i=pos:=by omega
         subst this
         rw[hb1] at h4;cases h4
         rw[js,hs] at h5;cases h5
    ·rw[h2];exact bad _ _ (by omega) (by omega)
    ·rw[h2];exact bad _ _ (by omega) (by omega)
    ·rw[h2];exact bad _ _ (by omega) (by omega)
    ·rw[h2]
     refine bad _ _ (by omega) ?_
     rcases Nat.lt_or_ge b.toNat 128 with h3|h3
     ·rw[decodeN,if_pos h3] at h2;simp only[Prod.mk.injEq] at h2;omega
     ·exact h3
   ·rw[idxFuncFrom_end _ _ _ _ _ hp]
    refine⟨fun h'=>by omega,?_⟩
    rintro⟨i,h1,b,h2,_⟩
    have:=(bj h2).1
    have:i<s.size:=this
    omega
theorem La (s:ByteArray):decide (0≤idxFunc (fun r=> !j0 (r:Int)) true s)=!s.data.toList.all js:=by
 have h:=Eg s s.size 0 (by omega)
 cases ha:s.data.toList.all js with
 | true=>
   simp only[Bool.not_true,c9]
   intro h'
   obtain⟨i,_,b,h1,h2⟩:=h.1 h'
   have:=List.all_eq_true.1 ha b (bV h1)
   rw[this] at h2;cases h2
 | false=>
   simp only[Bool.not_false,bE]
   refine h.2 ?_
   obtain⟨b,h1,h2⟩:=List.all_eq_false.1 ha
   obtain⟨i,h3⟩:=List.getElem?_of_mem h1
   exact⟨i,Nat.zero_le _,b,h3,by simpa using h2⟩
theorem uH (g:Nat)(eg:∀args w,(callFunc g args).run Tryz.prog w=.ok (.enter g args) w)(p:Nat→Bool)(s:ByteArray)(w:World)(ht:ku Tryz.prog w fun _=>none)(hp:∀ (W:World) (x:Nat),(ku Tryz.prog W fun _=>none)→x≤1114111→Calls Tryz.prog g #[.int .i32 (x:Int)] W fun e w'=>e=.returned (.bool (p x))∧Below W.heap.size W w'):
  Calls Tryz.prog 213 #[.string s,.func (.func g) #[] #[]] w fun e w'=>e=.returned (.int .i64 (Lib.idxFunc p true s))∧Below w.heap.size w w':=by
 have h44:=Cm g eg p s w ht hp
 clear hp
 go_enter Tryz.func213,Tryz.ntmps213
 go_wp2_with (go_at_call 227;refine h44.mono ?_;rintro e w1 ⟨rfl,hb⟩)
 go_ret
 exact⟨rfl,hb⟩
theorem uS (g:Nat)(eg:∀args w,(callFunc g args).run Tryz.prog w=.ok (.enter g args) w)(p:Nat→Bool)(s:ByteArray)(w:World)(ht:ku Tryz.prog w fun _=>none)(hp:∀ (W:World) (x:Nat),(ku Tryz.prog W fun _=>none)→x≤1114111→Calls Tryz.prog g #[.int .i32 (x:Int)] W fun e w'=>e=.returned (.bool (p x))∧Below W.heap.size W w'):
  Calls Tryz.prog 185 #[.string s,.func (.func g) #[] #[]] w fun e w'=>e=.returned (.bool (decide (0≤Lib.idxFunc p true s)))∧Below w.heap.size w w':=by
 have h43:=uH g eg p s w ht hp
 clear hp
 go_enter Tryz.func185,Tryz.ntmps185
 go_wp2_with (go_at_call 213;refine h43.mono ?_;rintro e w1 ⟨rfl,hb⟩)
 go_ret
 exact⟨rfl,hb⟩
theorem Kq (s:ByteArray):aj Tryz.prog 185 [] [bX s,.lit (.func (.func 186) #[] #[])] [] (bG (!s.data.toList.all js)):=by
 rw[←La]
 exact aj.jf (vs:=[.string s,.func (.func 186) #[] #[]]) fun w ht=>uS 186 Pt (fun r=> !j0 (r:Int)) s w ht fun W x ht _=>(KC (x:Int)).below (vs:=[.int .i32 (x:Int)]) W ht
theorem AN (s:ByteArray):s.size=s.data.toList.length:=(Array.length_toList (xs:=s.data)).symm
theorem yo {l:List UInt8}(h:1≤l.length):∃b r,l=b::r∧l[0]? =some b:=by
 cases l with
 |nil=>simp at h
 |cons b r=>exact⟨b,r,rfl,rfl⟩
theorem Ik (b:UInt8):IntKind.i32.wrap (b.toNat:Int)=(b.toNat:Int):=by
 have h:b.toNat<256:=UInt8.toNat_lt b
 rw[IntKind.wrap_i32];omega
theorem tW (s:ByteArray):aj Tryz.prog 133 [] [bX s] [] (bG (cj s)):=by
 have hsz:s.size=s.data.toList.length:=AN s
 have hb0:1≤s.data.toList.length→∃b r,s.data.toList=b::r∧s.data.toList[0]? =some b:=yo
 refine aj.aD (rvs:=[.tmp 2]) G au Tryz.func133 rfl Tryz.ntmps133 rfl rfl ?_;with_reducible refine wD ?_
 repeat' (first
  |refine aE ?_ ?_
  |((with_reducible show bq _ _ _ _);first|refine iK ?_|(refine bq.mk (fun _=>?_) (fun _=>?_)<;>with_reducible refine wK ?_))
  |((with_reducible refine kQ 185 ?_);refine ae.lit [] (Kq _) OH ⟨rfl,jy 12 _ rfl,trivial⟩ rfl rfl ?_;with_reducible refine wK ?_)
  |((with_reducible refine kQ 179 ?_);refine cL (qi _) Lb ?_;with_reducible refine wK ?_)
  |((with_reducible refine kQ 188 ?_);refine cL (zy _) MO ?_;with_reducible refine wK ?_)
  |((with_reducible show yg _ _ _ _ _);obtain⟨b,r,hl,hb⟩:=hb0 (by simp only[c9] at*;omega);refine yg.mk 0 b rfl hb ?_;with_reducible refine wK ?_)
  |((with_reducible show fJ _ _ _ _ _ _ _);refine fJ.int (by kernel_rfl) (by kernel_rfl) (Ik _) ?_;with_reducible refine wK ?_)
  |apply trivial)
 all_goals (simp only[bE,c9,hsz] at*;unfold cj qb)
 ·rw[show decide (1≤s.data.toList.length)=false from dy (by omega)];rfl
 ·rw[show decide (s.data.toList.length≤40)=false from dy (by omega)];simp
 ·rw[show s.data.toList.all js=false from by simp_all];simp
 all_goals rw[show decide (1≤s.data.toList.length)=true from dG (by omega),show decide (s.data.toList.length≤40)=true from dG (by omega),show s.data.toList.all js=true from by simp_all,hl];simp_all[rL]
theorem B5 {s:ByteArray}(h:cj s=true):s.size≤40:=by
 unfold cj qb at h
 simp only[bO,bE] at h
 rw[AN];exact h.1.1.2
theorem Bc {s:ByteArray}(h:(!cj s)=false):s.size≤100000:=by
 have:=B5 (s:=s) (by simpa using h)
 omega
theorem yX (s:ByteArray):aj Tryz.prog 67 [] [bX s] [] (.tup [bX (if cj s then cH s else⟨#[]⟩),ah (if cj s then 0 else 4)]):=by
 refine aj.aD (rvs:=[.tmp 2,.tmp 3]) G au Tryz.func67 rfl Tryz.ntmps67 rfl rfl ?_;with_reducible refine wD ?_
 repeat' (first
  |refine aE ?_ ?_
  |((with_reducible show bq _ _ _ _);first|refine iK ?_|(refine bq.mk (fun _=>?_) (fun _=>?_)<;>with_reducible refine wK ?_))
  |((with_reducible refine kQ 133 ?_);refine cL (tW _) F5 ?_;with_reducible refine wK ?_)
  |((with_reducible refine kQ 124 ?_);refine ae.lit [] (Ei _ (Bc (by assumption))) Ka ⟨rfl,trivial⟩ rfl rfl ?_;with_reducible refine wK ?_)
  |apply trivial)
 all_goals simp_all

structure AttrM where
 name:ByteArray
 value:ByteArray
 deriving DecidableEq
@[reducible] def jW (a : AttrM) : AV := .agg [bX a.name, bX a.value]
def dg (a:AttrM):AV:=jW a
@[reducible] def cV (l : List AttrM) : AV := .sl 2 (l.map dg)
@[reducible] def Hq (l : List AttrM) : MS := .live 2 (l.map dg) false
theorem gw (l:List AttrM):bu (l.map dg)=true:=by
 rw[c7];intro x hx
 obtain⟨a,_,rfl⟩:=List.mem_map.1 hx
 rfl
theorem xF (l:List AttrM):jP (flat (l.map dg))=true:=nD dg (fun a=>rfl) l
theorem bS {tab:List (Nat×Nat)}{fz:Nat→Bool}{m:ML}{n:Nat}:∀ {cs:List AV},bu cs=true→yY (MF tab fz m n) cs cs
 |[],_=>trivial
 | c::cs,h=>by
   simp only[bu,bO] at h
   exact⟨jy n c h.1,bS h.2⟩
theorem Ko (a:AttrM)(n:ByteArray):aj Tryz.prog 184 [] [jW a,.fptr (bX n) 0] [] (bG (decide (a.name=n))):=by
 refine aj.aD (rvs:=[.tmp 3]) G au Tryz.func184 rfl Tryz.ntmps184 rfl rfl ?_;with_reducible refine wD ?_
 (refine eK ?_ ?_<;>with_reducible repeat' (first|exact trivial|(show _∧_;refine aK ?_ ?_)))
def GZ (a:AttrM):Bool:=!(cj a.name&&decide (cH a.name=a.name)&&decide (a.value.size≤200))
theorem KK (a:AttrM):aj Tryz.prog 180 [] [jW a] [] (bG (GZ a)):=by
 obtain⟨n,v⟩:=a
 refine aj.aD (rvs:=[.tmp 2]) G au Tryz.func180 rfl Tryz.ntmps180 rfl rfl ?_;with_reducible refine wD ?_
 refine cL (yX _) IP ?_;with_reducible refine wK ?_
 repeat' (first
  |refine aE ?_ ?_
  |((with_reducible show bq _ _ _ _);first|refine iK ?_|(refine bq.mk (fun _=>?_) (fun _=>?_)<;>with_reducible refine wK ?_))
  |apply trivial)
 all_goals (unfold GZ;cases hr:cj n<;>simp_all)
 by_cases h2:v.size≤200
 ·rw[dG h2,dy (by(try simp only[az]);omega)];rfl
 ·rw[dy h2,dG (by(try simp only[az]);omega)];rfl
def gq {α:Type}(p:α→Bool)(l:List α):Int:=match l.findIdx? p with|some i=>(i:Int)|none=> -1
theorem gr {α:Type}{p:α→Bool}{l:List α}{k:Nat}{a:α}(h:l[k]? =some a)(hp:p a=true)(hno:∀ (j:Nat) (x:α),j<k→l[j]? =some x→p x=false):gq p l=k:=by
 have:l.findIdx? p=some k:=by
  rw[List.findIdx?_eq_some_iff_getElem]
  obtain⟨hk,hx⟩:=bj h
  exact⟨hk,by rw[hx];exact hp,fun j hj=>by simpa using hno j _ hj (bA (by omega))⟩
 rw[gq,this]
theorem jF {α:Type}{p:α→Bool}{l:List α}(hno:∀ (j:Nat) (x:α),l[j]? =some x→p x=false):gq p l=-1:=by
 have:l.findIdx? p=none:=by
  rw[List.findIdx?_eq_none_iff]
  intro x hx
  obtain⟨j,hj⟩:=List.getElem?_of_mem hx
  exact hno j x hj
 rw[gq,this]
theorem lC {l:List AttrM}{k:Nat}{a:AttrM}(h:l[k]? =some a):(l.map dg)[k]? =some (jW a):=by rw[fI,h];rfl
theorem Ek (g:Nat)(cg:ak Tryz.prog g)(caps:List AV)(hcaps:bu caps=true)(p:AttrM→Bool)(l:List AttrM)(hl:l.length≤100000)(hf:∀a,a∈l→aj Tryz.prog g [] (jW a::caps) [] (bG (p a))):
  aj Tryz.prog 183 [] [cV l,.clo (.func g) [] caps] [] (ah (gq p l)):=by
 have hlm:(l.map dg).length=l.length:=bN ..
 refine aj.aD (rvs:=[.tmp 4]) G au Tryz.func183 rfl Tryz.ntmps183 rfl rfl ?_;with_reducible refine wD ?_
 refine bW.use G au (fun(k:Nat)=>[(0,cV l),(1,.clo (.func g) [] caps),(7,ah l.length),(8,ah k)]) (fun _=>[]) (fun k=>k≤l.length∧∀j x,j<k→l[j]? =some x→p x=false) (fun k=>l.length-k) 0 ⟨Nat.zero_le _,fun j x h=>by omega⟩
  ⟨⟨rfl,rfl⟩,⟨rfl,⟨rfl,trivial,bS hcaps⟩,by show(l.length:Int)=((l.map dg).length:Int);rw[hlm],rfl,trivial⟩,trivial⟩ ?_
 rintro k ⟨hk,hno⟩
 with_reducible refine wK ?_
 refine bq.mk (fun h1=>?_) (fun h1=>?_)<;>(try simp only[az] at h1)<;>with_reducible refine wK ?_
 ·simp only[bE] at h1
  have hk':k<l.length:=by omega
  obtain⟨a,ha⟩:∃a,l[k]? =some a:=⟨_,bA hk'⟩
  refine aN.mk k (jW a) rfl (lC ha) ?_;with_reducible refine wK ?_
  refine ae.lit [] (hf a (bV ha)) cg ⟨⟨rfl,rfl,trivial⟩,bS hcaps⟩ rfl rfl ?_;with_reducible refine wK ?_
  refine bq.mk (fun h2=>?_) (fun h2=>?_)<;>(try simp only[az] at h2)<;>with_reducible refine wK ?_
  ·(refine eK ?_ ?_<;>with_reducible repeat' (first|exact trivial|(show _∧_;refine aK ?_ ?_)))
   exact gr ha h2 hno
  ·refine nK ?_;with_reducible refine wK ?_
   refine bZ.mk (k+1) ⟨by omega,fun j x hj hx=>?_⟩ (by omega) ⟨⟨rfl,rfl⟩,⟨rfl,⟨rfl,trivial,bS hcaps⟩,rfl,by show((k+1:Nat):Int)=(k:Int)+1;omega,trivial⟩,trivial⟩
   rcases Nat.lt_or_ge j k with h6|h6
   ·exact hno j x h6 hx
   ·have:j=k:=by omega
    subst this
    rw[ha] at hx;cases hx;exact h2
 ·(refine eK ?_ ?_<;>with_reducible repeat' (first|exact trivial|(show _∧_;refine aK ?_ ?_)))
  have:k=l.length:=by simp only[c9] at h1;omega
  exact jF fun j x hx=>hno j x (by have:=(bj hx).1;omega) hx
theorem Kz (g:Nat)(cg:ak Tryz.prog g)(caps:List AV)(hcaps:bu caps=true)(p:AttrM→Bool)(l:List AttrM)(hl:l.length≤100000)(hf:∀a,a∈l→aj Tryz.prog g [] (jW a::caps) [] (bG (p a))):
  aj Tryz.prog 181 [] [cV l,.clo (.func g) [] caps] [] (bG (l.any p)):=by
 refine aj.aD (rvs:=[.tmp 4]) G au Tryz.func181 rfl Tryz.ntmps181 rfl rfl ?_;with_reducible refine wD ?_
 refine ae.lit [] (Ek g cg caps hcaps p l hl hf) Mz ⟨rfl,⟨rfl,trivial,bS hcaps⟩,trivial⟩ rfl rfl ?_;with_reducible refine wK ?_
 (refine eK ?_ ?_<;>with_reducible repeat' (first|exact trivial|(show _∧_;refine aK ?_ ?_)))
 unfold gq
 cases h:l.findIdx? p with
 | none=>
   rw[List.findIdx?_eq_none_iff] at h
   have:l.any p=false:=by rw[List.any_eq_false];intro x hx;rw[h x hx];simp
   rw[this];rfl
 | some i=>
   rw[List.findIdx?_eq_some_iff_getElem] at h
   obtain⟨hi,h1,_⟩:=h
   have:l.any p=true:=List.any_eq_true.2 ⟨_,List.getElem_mem hi,h1⟩
   rw[this];exact(dG (Int.natCast_nonneg i)).symm
theorem K7 (l:List AttrM)(hl:l.length≤100000)(n:ByteArray):aj Tryz.prog 132 [] [cV l,bX n] [] (ah (gq (fun a=>decide (a.name=n)) l)):=by
 refine aj.aD (rvs:=[.tmp 4]) G au Tryz.func132 rfl Tryz.ntmps132 rfl rfl ?_;with_reducible refine wD ?_
 refine ae.lit [30] (Ek 184 O2 [.fptr (bX n) 0] rfl (fun a=>decide (a.name=n)) l hl fun a _=>Ko a n) Mz ⟨rfl,⟨rfl,trivial,⟨_,_,_,_,_,rfl,rfl,rfl,rfl,rfl,rfl⟩,trivial⟩,trivial⟩ rfl rfl ?_;with_reducible refine wK ?_
 (refine eK ?_ ?_<;>with_reducible repeat' (first|exact trivial|(show _∧_;refine aK ?_ ?_)))
def Kr (a:AttrM):Bool:=cj a.name&&decide (cH a.name=a.name)&&decide (a.value.size≤200)
theorem K9 (a:AttrM):GZ a=!Kr a:=rfl
def hasName (n:ByteArray)(a:AttrM):Bool:=decide (a.name=n)
def wu (l:List AttrM)(n:ByteArray):Int:=gq (hasName n) l
def dH (l:List AttrM):Bool:=decide (l.length≤40)&&l.all Kr&&decide ((l.map AttrM.name).Nodup)
def ju (t:List (ByteArray×AttrM))(l:List AttrM):List (ByteArray×AttrM):=l.foldl (fun t a=>j8 a.name a t) t
def tv (l:List AttrM):List (ByteArray×AttrM):=ju [] l
theorem A2 {K α:Type}[DecidableEq K](k:K)(x:α):∀t:List (K×α),(j8 k x t).length=if(ja k t).isSome then t.length else t.length+1
 |[]=>rfl
 | p::r=>by
   simp only[j8,ja]
   split
   ·simp
   ·rw[List.length_cons,A2 k x r];split<;>simp
theorem nR:∀ (l:List AttrM) (t:List (ByteArray×AttrM)),(ju t l).length≤t.length+l.length∧((ju t l).length=t.length+l.length↔ (l.map AttrM.name).Nodup∧∀a∈l,(ja a.name t).isSome=false)
 |[],t=>by simp[ju]
 | a :: r,t=>by
   obtain⟨h1,h2⟩:=nR r (j8 a.name a t)
   have hl:=A2 a.name a t
   show(ju (j8 a.name a t) r).length≤_∧((ju (j8 a.name a t) r).length=_↔_)
   cases hg:(ja a.name t).isSome with
   | true=>
     rw[hg,if_pos rfl] at hl
     refine⟨by simp only[List.length_cons];omega,⟨fun h=>?_,fun h=>?_⟩⟩
     ·simp only[List.length_cons] at h;omega
     ·have:=h.2 a (by simp);rw[hg] at this;cases this
   | false=>
     rw[hg,if_neg (by simp)] at hl
     refine⟨by simp only[List.length_cons];omega,?_⟩
     rw[show(ju (j8 a.name a t) r).length=t.length+ (a::r).length↔ (ju (j8 a.name a t) r).length=(j8 a.name a t).length+r.length from by rw[hl,List.length_cons];omega,h2]
     simp only[List.map_cons,List.nodup_cons,dP,forall_eq_or_imp]
     constructor
     ·rintro⟨k1,k2⟩
      refine⟨⟨fun hm=>?_,k1⟩,hg,fun b hb=>?_⟩
      ·obtain⟨b,hb,he⟩:=List.mem_map.1 hm
       have:=k2 b hb
       rw[qp,he,if_pos rfl] at this;cases this
      ·have:=k2 b hb
       rw[qp] at this
       split at this
       ·cases this
       ·exact this
     ·rintro⟨⟨k1,k2⟩,_,k3⟩
      refine⟨k2,fun b hb=>?_⟩
      rw[qp,if_neg (fun e=>k1 (List.mem_map.2 ⟨b,hb,e.symm⟩))]
      exact k3 b hb
theorem G5 (l:List AttrM):(tv l).length=l.length↔ (l.map AttrM.name).Nodup:=by
 have:=(nR l []).2
 simp only[List.length_nil,Nat.zero_add] at this
 exact this.trans ⟨fun h=>h.1,fun h=>⟨h,fun _ _=>rfl⟩⟩
theorem Jm (l:List AttrM):(tv l).length≤l.length:=by
 have:=(nR l []).1
 simp only[List.length_nil,Nat.zero_add] at this
 exact this
theorem EG {l:List AttrM}{k:Nat}{a:AttrM}(h:l[k]? =some a):tv (l.take (k+1))=j8 a.name a (tv (l.take k)):=by
 have hk:=(bj h).1
 rw[List.take_succ_eq_append_getElem hk,(bj h).2]
 simp[tv,ju,List.foldl_append]
@[reducible] def N7 (l : List AttrM) : MS := .live 2 (jd Value.string dg (tv l)) false
theorem mq (t:List (ByteArray×AttrM)):bu (jd Value.string dg t)=true:=by
 rw[c7];intro x hx
 obtain⟨a,_,rfl⟩:=List.mem_map.1 hx
 rfl
theorem Lr:iX Tryz.prog 224 .string (.agg #[.string ByteArray.empty,.string ByteArray.empty]):=⟨9,90,by kernel_rfl,by kernel_rfl,fun w=>Tryz.zeroValue90 w⟩
theorem KW (l:List AttrM)(hl:l.length≤100000):aj Tryz.prog 182 [] [cV l] [N7 l] (.mapr 0):=by
 have hlm:(l.map dg).length=l.length:=bN ..
 refine aj.aD (rvs:=[.tmp 2]) G au Tryz.func182 rfl Tryz.ntmps182 rfl rfl ?_;with_reducible refine wD ?_
 refine bW.use G au (fun(k:Nat)=>[(3,.mapr 61),(7,cV l),(8,ah l.length),(9,ah k)]) (fun k=>[(61,.live 2 (jd Value.string dg (tv (l.take k))) false)]) (fun k=>k≤l.length) (fun k=>l.length-k) 0 (Nat.zero_le _)
  ⟨⟨rfl,rfl⟩,⟨trivial,rfl,by show(l.length:Int)=((l.map dg).length:Int);rw[hlm],rfl,trivial⟩,⟨.refl rfl,rfl⟩,trivial⟩ ?_
 intro k hk
 with_reducible refine wK ?_
 refine bq.mk (fun h1=>?_) (fun h1=>?_)<;>(try simp only[az] at h1)<;>with_reducible refine wK ?_
 ·simp only[bE] at h1
  have hk':k<l.length:=by omega
  obtain⟨a,ha⟩:∃a,l[k]? =some a:=⟨_,bA hk'⟩
  obtain⟨n,v⟩:=a
  refine aN.mk k (jW ⟨n,v⟩) rfl (lC ha) ?_;with_reducible refine wK ?_
  have hle:(tv (l.take k)).length≤k:=Nat.le_trans (Jm _) (by simp;omega)
  refine zn.tab Value.string dg (tv (l.take k)) (k:=n) ⟨n,v⟩ Lr rfl K5 Jt (by unfold maxLen;omega) rfl ?_;with_reducible refine wK ?_
  refine nK ?_;with_reducible refine wK ?_
  refine bZ.mk (k+1) (by omega) (by omega) ⟨⟨rfl,rfl⟩,⟨trivial,rfl,rfl,by show((k+1:Nat):Int)=(k:Int)+1;omega,trivial⟩,⟨?_,?_⟩,trivial⟩
  ·rw[EG ha];exact .refl (mq _)
  ·exact mq _
 ·(refine eK ?_ ?_<;>with_reducible repeat' (first|exact trivial|(show _∧_;refine aK ?_ ?_)))
  have:k=l.length:=by simp only[c9] at h1;omega
  rw[this,List.take_length]
  exact bS (mq _)
theorem aj.P6 {P:Program}{f g:FuncId}{a:AV}{outs:List MS}{res:AV}(h:aj P f [] [a,.clo (.func g) [] []] outs res):aj P f [] [a,.lit (.func (.func g) #[] #[])] outs res:=by
 intro w W0 L vs hL hs hr
 refine h w W0 L vs hL hs ⟨hr.1,fun j c v h1 h2=>?_⟩
 match j with
 |0=>exact hr.2 0 c v h1 h2
 | 1=>
   have:=hr.2 1 _ v rfl h2
   cases this
   simp at h1
   subst h1
   exact cD.clo (va:=[]) (vb:=[]) rfl rfl (fun j c v h=>by simp at h) (fun j c v h=>by simp at h)
 |j+2=>simp at h1
theorem xZ (l:List AttrM):l.any GZ=!l.all Kr:=by
 induction l with
 |nil=>rfl
 |cons a r ih=>simp[List.any_cons,List.all_cons,ih,K9]
theorem IZ (l:List AttrM):jX [N7 l]:=by
 refine⟨bJ.jk fun r hr=>?_,mq _,trivial⟩
 obtain⟨p,_,rfl⟩:=List.mem_map.1 hr
 rfl
theorem C7 (l:List AttrM):bJ 2 (l.map dg):=bJ.jk fun r hr=>by
 obtain⟨a,_,rfl⟩:=List.mem_map.1 hr
 rfl
theorem pV (l:List AttrM):jX [Hq l]:=⟨C7 l,gw l,trivial⟩
theorem D1 (l:List AttrM)(hl:l.length≤100000):aj Tryz.prog 131 [] [cV l] [] (bG (dH l)):=by
 have hlm:(l.map dg).length=l.length:=bN ..
 refine aj.aD (rvs:=[.tmp 2]) G au Tryz.func131 rfl Tryz.ntmps131 rfl rfl ?_;with_reducible refine wD ?_
 repeat' (first
  |refine aE ?_ ?_
  |((with_reducible show bq _ _ _ _);first|refine iK ?_|(refine bq.mk (fun _=>?_) (fun _=>?_)<;>with_reducible refine wK ?_))
  |((with_reducible refine kQ 181 ?_);refine ae.lit [] (aj.P6 (Kz 180 Ou [] rfl GZ l hl fun a _=>KK a)) NU ⟨rfl,jy 12 _ rfl,trivial⟩ rfl rfl ?_;with_reducible refine wK ?_)
  |((with_reducible refine kQ 182 ?_);refine ae.new 151 [] (KW l hl) N2 ⟨rfl,trivial⟩ rfl rfl rfl (IZ l) rfl ?_;with_reducible refine wK ?_)
  |((with_reducible show rj _ _ _ _ _ _ _);refine rj.mk Lr ⟨_,_,rfl⟩ rfl ?_;with_reducible refine wK ?_)
  |apply trivial)
 ·have h2:l.all Kr=true:=by have:=xZ l;simp_all
  have e:(jd Value.string dg (tv l)).length=(tv l).length:=bN ..
  have h3:l.length≤40:=by simp only[hlm,bE] at*;omega
  have h4:=G5 l
  unfold dH
  rw[h2,dG h3,e,hlm]
  by_cases hn:(l.map AttrM.name).Nodup
  ·rw[dG hn,h4.2 hn];simp
  ·rw[dy hn]
   have:¬ (tv l).length=l.length:=fun h=>hn (h4.1 h)
   rw[dy (by(try simp only[az]);omega)];rfl
 ·have h2:l.all Kr=false:=by have:=xZ l;simp_all
  unfold dH;rw[h2];simp
 ·have h2:decide (l.length≤40)=false:=by simp only[hlm,c9] at*;omega
  unfold dH;rw[h2];simp
def kD:ByteArray:=⟨#[]⟩
def gi (l:List AttrM)(n:ByteArray):Int:=if dH l then(if cj n then 0 else 4) else 1
def DY (l:List AttrM)(n:ByteArray):ByteArray:=if dH l&&cj n then cH n else kD
def ck (l:List AttrM)(n:ByteArray):Int:=if dH l&&cj n then wu l (cH n) else-1
theorem zj (l:List AttrM)(hl:l.length≤100000)(n:ByteArray):aj Tryz.prog 65 [] [cV l,bX n] [] (.tup [bX (DY l n),ah (ck l n),ah (gi l n)]):=by
 refine aj.aD (rvs:=[.tmp 4,.tmp 5,.tmp 6]) G au Tryz.func65 rfl Tryz.ntmps65 rfl rfl ?_;with_reducible refine wD ?_
 repeat' (first
  |refine aE ?_ ?_
  |((with_reducible show bq _ _ _ _);first|refine iK ?_|(refine bq.mk (fun _=>?_) (fun _=>?_)<;>with_reducible refine wK ?_))
  |((with_reducible refine kQ 131 ?_);refine cL (D1 l hl) Jh ?_;with_reducible refine wK ?_)
  |((with_reducible refine kQ 67 ?_);refine cL (yX _) IP ?_;with_reducible refine wK ?_)
  |((with_reducible refine kQ 132 ?_);refine cL (K7 l hl _) O3 ?_;with_reducible refine wK ?_)
  |apply trivial)
 all_goals (cases h1:dH l<;>cases h2:cj n<;>simp_all[gi,DY,ck,kD])
 rfl
def rq (l:List AttrM)(n:ByteArray):ByteArray:=if 0≤ck l n then((l[(ck l n).toNat]?).map AttrM.value).getD kD else kD
theorem uU {α:Type}(p:α→Bool)(l:List α):gq p l=-1∨∃ (k:Nat) (a:α),gq p l=k∧l[k]? =some a∧p a=true:=by
 unfold gq
 cases h:l.findIdx? p with
 |none=>exact .inl rfl
 | some k=>
   rw[List.findIdx?_eq_some_iff_getElem] at h
   obtain⟨hk,h1,_⟩:=h
   exact .inr ⟨k,_,rfl,bA hk,h1⟩
theorem kI (l:List AttrM)(n:ByteArray):ck l n=-1∨∃ (k:Nat) (a:AttrM),ck l n=k∧l[k]? =some a∧a.name=cH n:=by
 unfold ck
 split
 ·rcases uU (hasName (cH n)) l with h|⟨k,a,h1,h2,h3⟩
  ·exact .inl h
  ·exact .inr ⟨k,a,h1,h2,by simpa[hasName] using h3⟩
 ·exact .inl rfl
theorem o7 {l:List AttrM}{n:ByteArray}(h:gi l n=0):dH l=true∧cj n=true∧DY l n=cH n:=by
 unfold gi at h
 cases h1:dH l<;>cases h2:cj n<;>rw[h1,h2] at h<;>simp at h
 simp[DY,h1,h2]
theorem ue (l:List AttrM)(hl:l.length≤100000)(n:ByteArray):aj Tryz.prog 23 [] [cV l,bX n] [] (.tup [bX (rq l n),bG (decide (0≤ck l n))]):=by
 refine aj.aD (rvs:=[.tmp 4,.tmp 5]) G au Tryz.func23 rfl Tryz.ntmps23 rfl rfl ?_;with_reducible refine wD ?_
 refine cL (zj l hl n) OO ?_;with_reducible refine wK ?_
 rcases kI l n with h|⟨k,a,h,ha,hn⟩
 ·simp only[h]
  refine bq.yes rfl ?_;with_reducible refine wK ?_
  (refine eK ?_ ?_<;>with_reducible repeat' (first|exact trivial|(show _∧_;refine aK ?_ ?_)))
  ·unfold rq;rw[h];rfl
  ·rfl
 ·simp only[h]
  refine bq.no (dy (by(try simp only[az]);omega)) ?_;with_reducible refine wK ?_
  refine aN.mk k (jW a) rfl (lC ha) ?_;with_reducible refine wK ?_
  (refine eK ?_ ?_<;>with_reducible repeat' (first|exact trivial|(show _∧_;refine aK ?_ ?_)))
  ·unfold rq;rw[h,if_pos (by omega),Int.toNat_natCast,ha];rfl
  ·exact dG (by omega)
theorem gX {m:ML}{fz:Nat→Bool}{tab:List (Nat×Nat)}{n t len:Nat}{ro:Bool}{rows:List AV}{l:List AttrM}(h1:eG m t=.live 2 rows ro)(h2:fz t=true)(h3:rows=l.map dg)(h4:len=l.length):zm m fz (MF tab fz m n) (cV l) t 0 len:=by
 subst h3;subst h4
 have e:(l.map dg).length=l.length:=bN ..
 exact .cut h1 h2 (by omega) (by rw[List.drop_zero,sn (by omega)]) (gw l)
def cw (l:List AttrM)(n v:ByteArray):List AttrM×Int:=
 if gi l n=0 then(if v.size≤200 then(if 0≤ck l n then(l.set (ck l n).toNat ⟨cH n,v⟩,0) else if l.length=40 then(l,3) else(l++ [⟨cH n,v⟩],0)) else(l,3)) else(l,gi l n)
theorem Ft (l:List AttrM)(k:Nat)(n v:ByteArray):(l.map dg).set k (jW ⟨n,v⟩)=(l.set k ⟨n,v⟩).map dg:=by rw[List.map_set];rfl
theorem CR (l:List AttrM)(n v:ByteArray):l.map dg++ [jW ⟨n,v⟩]=(l++ [(⟨n,v⟩:AttrM)]).map dg:=by rw[iR];rfl

theorem Fq (l:List AttrM):(l.map AttrM.name).Nodup↔ ∀ (i:Nat) (a:AttrM),l[i]? =some a→wu l a.name=(i:Int):=by
 constructor
 ·intro hn i a ha
  refine gr ha (by simp[hasName]) fun j x hj hx=>?_
  simp only[hasName,c9]
  intro e
  have h1:(l.map AttrM.name)[j]? =some x.name:=by rw[fI,hx];rfl
  have h2:(l.map AttrM.name)[i]? =some a.name:=by rw[fI,ha];rfl
  have hjl:=(bj h1).1
  have:=(List.getElem?_inj hjl hn (j:=i)).1 (h1.trans ((congrArg some e).trans h2.symm))
  omega
 ·intro h
  rw[List.nodup_iff_pairwise_ne,List.pairwise_iff_getElem]
  intro i j hi hj hij e
  rw[bN] at hi hj
  have h1:=h i _ (bA hi)
  have h2:=h j _ (bA hj)
  rw[List.getElem_map,List.getElem_map] at e
  rw[e,h2] at h1
  omega
theorem og {l:List AttrM}{n:ByteArray}(h1:dH l=true)(h2:cj n=true):ck l n=wu l (cH n):=by unfold ck;rw[h1,h2];rfl
end Go.Proofs.Heir
namespace Go.Proofs
open Go.Shelf
def Tryz.BJ:Go.Shelf.Ren:=⟨fun|144=>206|143=>222|219=>234|217=>238|225=>239|224=>240|267=>241|266=>244|314=>245|n=>n,fun|9=>9|4=>4|3=>3|5=>5|46=>284|146=>288|51=>287|n=>n,fun|1=>1|n=>n⟩
theorem Tryz.JY:Go.Proofs.Lays.n144 Tryz.prog Tryz.BJ:={
  mixed:=by kernel_rfl
  f143:=Tryz.func222.trans (congrArg some (by kernel_rfl))
  f144:=Tryz.func206.trans (congrArg some (by kernel_rfl))
  f217:=Tryz.func238.trans (congrArg some (by kernel_rfl))
  f219:=Tryz.func234.trans (congrArg some (by kernel_rfl))
  f224:=Tryz.func240.trans (congrArg some (by kernel_rfl))
  f225:=Tryz.func239.trans (congrArg some (by kernel_rfl))
  f266:=Tryz.func244.trans (congrArg some (by kernel_rfl))
  f267:=Tryz.func241.trans (congrArg some (by kernel_rfl))
  f314:=Tryz.func245.trans (congrArg some (by kernel_rfl))
  t3:=Tryz.underlying3
  a3:=Tryz.isAgg3
  z3:=Tryz.sizeOf3
  v3:=Tryz.zeroValue3
  t4:=Tryz.underlying4
  a4:=Tryz.isAgg4
  z4:=Tryz.sizeOf4
  v4:=Tryz.zeroValue4
  t5:=Tryz.underlying5
  a5:=Tryz.isAgg5
  z5:=Tryz.sizeOf5
  v5:=Tryz.zeroValue5
  t9:=Tryz.underlying9
  a9:=Tryz.isAgg9
  z9:=Tryz.sizeOf9
  v9:=Tryz.zeroValue9
  t46:=Tryz.underlying284
  a46:=Tryz.isAgg284
  z46:=Tryz.sizeOf284
  v46:=Tryz.zeroValue284
  t51:=Tryz.underlying287
  a51:=Tryz.isAgg287
  z51:=Tryz.sizeOf287
  v51:=Tryz.zeroValue287
  t146:=Tryz.underlying288
  a146:=Tryz.isAgg288
  z146:=Tryz.sizeOf288
  v146:=Tryz.zeroValue288
  g1:=by kernel_rfl}
open Go.RowKit Go.Lib in
theorem Tryz.strings_Contains_one (s:ByteArray)(c:UInt8)(w:World):
    Calls Tryz.prog 206 #[.string s,.string ⟨#[c]⟩] w fun e w'=>e=.returned (.bool (decide (0≤Lib.indexByte s.data.toList c)))∧w'=w:=Any.strings_Contains_one Tryz.JY s c w
end Go.Proofs
namespace Go.Proofs.Heir
open Go Go.Am Go.RowKit Go.Lib
set_option maxRecDepth 100000
set_option maxHeartbeats 8000000
def BI (s:ByteArray):AV:=bX s
@[reducible] def DT (l : List ByteArray) : AV := .sl 1 (l.map BI)
@[reducible] def Ll (l : List ByteArray) : MS := .live 1 (l.map BI) false
theorem pP (l:List ByteArray):bu (l.map BI)=true:=by
 rw[c7];intro x hx
 obtain⟨a,_,rfl⟩:=List.mem_map.1 hx
 rfl
theorem GA {l:List ByteArray}{k:Nat}{a:ByteArray}(h:l[k]? =some a):(l.map BI)[k]? =some (bX a):=by rw[fI,h];rfl
theorem FC (l:List ByteArray):jX [Ll l]:=⟨bJ.jk fun r hr=>by obtain⟨a,_,rfl⟩:=List.mem_map.1 hr;rfl,pP l,trivial⟩
theorem Iy {m:ML}{fz:Nat→Bool}{tab:List (Nat×Nat)}{n t len:Nat}{ro:Bool}{rows:List AV}{l:List ByteArray}(h1:eG m t=.live 1 rows ro)(h2:fz t=true)(h3:rows=l.map BI)(h4:len=l.length):zm m fz (MF tab fz m n) (DT l) t 0 len:=by
 subst h3;subst h4
 have e:(l.map BI).length=l.length:=bN ..
 exact .cut h1 h2 (by omega) (by rw[List.drop_zero,sn (by omega)]) (pP l)
theorem Jj (l:List ByteArray)(hl:l.length≤100000)(s:ByteArray):aj Tryz.prog 223 [] [DT l,bX s] [] (ah (gq (fun x=>decide (x=s)) l)):=by
 have hlm:(l.map BI).length=l.length:=bN ..
 refine aj.aD (rvs:=[.tmp 4]) G au Tryz.func223 rfl Tryz.ntmps223 rfl rfl ?_;with_reducible refine wD ?_
 refine bW.use G au (fun(k:Nat)=>[(0,DT l),(1,bX s),(7,ah l.length),(8,ah k)]) (fun _=>[]) (fun k=>k≤l.length∧∀j x,j<k→l[j]? =some x→decide (x=s)=false) (fun k=>l.length-k) 0 ⟨Nat.zero_le _,fun j x h=>by omega⟩
  ⟨⟨rfl,rfl⟩,⟨rfl,rfl,by show(l.length:Int)=((l.map BI).length:Int);rw[hlm],rfl,trivial⟩,trivial⟩ ?_
 rintro k ⟨hk,hno⟩
 with_reducible refine wK ?_
 refine bq.mk (fun h1=>?_) (fun h1=>?_)<;>(try simp only[az] at h1)<;>with_reducible refine wK ?_
 ·simp only[bE] at h1
  have hk':k<l.length:=by omega
  obtain⟨a,ha⟩:∃a,l[k]? =some a:=⟨_,bA hk'⟩
  refine aN.mk k (bX a) rfl (GA ha) ?_;with_reducible refine wK ?_
  refine bq.mk (fun h2=>?_) (fun h2=>?_)<;>(try simp only[az] at h2)<;>with_reducible refine wK ?_
  ·(refine eK ?_ ?_<;>with_reducible repeat' (first|exact trivial|(show _∧_;refine aK ?_ ?_)))
   refine gr (p:=fun x=>decide (x=s)) ha ?_ hno
   simp only[bE] at h2 ⊢;exact h2.symm
  ·refine nK ?_;with_reducible refine wK ?_
   refine bZ.mk (k+1) ⟨by omega,fun j x hj hx=>?_⟩ (by omega) ⟨⟨rfl,rfl⟩,⟨rfl,rfl,rfl,by show((k+1:Nat):Int)=(k:Int)+1;omega,trivial⟩,trivial⟩
   rcases Nat.lt_or_ge j k with h3|h3
   ·exact hno j x h3 hx
   ·have:j=k:=by omega
    subst this
    rw[ha] at hx;cases hx
    simp only[c9] at h2 ⊢;exact fun e=>h2 e.symm
 ·(refine eK ?_ ?_<;>with_reducible repeat' (first|exact trivial|(show _∧_;refine aK ?_ ?_)))
  exact jF fun j x hx=>hno j x (by have:=(bj hx).1;simp only[c9] at h1;omega) hx
def E8 (l:List ByteArray)(s:ByteArray):Bool:=l.any fun x=>decide (x=s)
theorem Ij {l:List ByteArray}{s:ByteArray}:E8 l s=true↔s∈l:=by
 unfold E8;rw[List.any_eq_true]
 exact⟨fun⟨x,hx,e⟩=>by rw[←of_decide_eq_true e];exact hx,fun h=>⟨s,h,dG rfl⟩⟩
theorem H9 {l:List ByteArray}{s:ByteArray}:decide (0≤gq (fun x=>decide (x=s)) l)=E8 l s:=by
 rw[Bool.eq_iff_iff,bE,Ij]
 unfold gq
 cases h:l.findIdx? (fun x=>decide (x=s)) with
 | none=>
   rw[List.findIdx?_eq_none_iff] at h
   simp only
   refine⟨fun h'=>by omega,fun hs=>?_⟩
   have:=h s hs
   simp at this
 | some k=>
   rw[List.findIdx?_eq_some_iff_getElem] at h
   obtain⟨hk,h2,_⟩:=h
   simp only
   exact⟨fun _=>by rw[←of_decide_eq_true h2];exact List.getElem_mem hk,fun _=>by omega⟩
theorem K0 (l:List ByteArray)(hl:l.length≤100000)(s:ByteArray):aj Tryz.prog 207 [] [DT l,bX s] [] (bG (E8 l s)):=by
 rw[←H9]
 refine aj.aD (rvs:=[.tmp 4]) G au Tryz.func207 rfl Tryz.ntmps207 rfl rfl ?_;with_reducible refine wD ?_
 refine cL (Jj l hl s) Og ?_;with_reducible refine wK ?_
 (refine eK ?_ ?_<;>with_reducible repeat' (first|exact trivial|(show _∧_;refine aK ?_ ?_)))
def yQ (l:List UInt8):ByteArray:=⟨l.toArray⟩
def oC:List ByteArray:=[yQ [97,110,110,111,116,97,116,105,111,110,45,120,109,108],yQ [99,111,108,111,114,45,112,114,111,102,105,108,101],yQ [102,111,110,116,45,102,97,99,101],yQ [102,111,110,116,45,102,97,99,101,45,115,114,99],
 yQ [102,111,110,116,45,102,97,99,101,45,117,114,105],yQ [102,111,110,116,45,102,97,99,101,45,102,111,114,109,97,116],yQ [102,111,110,116,45,102,97,99,101,45,110,97,109,101],yQ [109,105,115,115,105,110,103,45,103,108,121,112,104]]
theorem Kj:aj Tryz.prog 208 [] [] [Ll oC] (.own 0 0 8):=by
 refine aj.aD (rvs:=[.tmp 0]) G au Tryz.func208 rfl Tryz.ntmps208 rfl rfl ?_;with_reducible refine wD ?_
 (refine eK ?_ ?_<;>with_reducible repeat' (first|exact trivial|(show _∧_;refine aK ?_ ?_)))
 all_goals first|rfl|exact bS (pP oC)
theorem KJ (s:ByteArray)(c:UInt8):aj Tryz.prog 206 [] [bX s,bX ⟨#[c]⟩] [] (bG (decide (0≤Lib.indexByte s.data.toList c))):=
 aj.jf (vs:=[.string s,.string ⟨#[c]⟩]) (v:=.bool _) fun w _=>(Go.Proofs.Tryz.strings_Contains_one s c w).mono fun e w' ⟨h1,h2⟩=>⟨h1,by rw[h2];exact Below.refl _ w⟩

@[reducible] def Ob : List UInt8 := [97, 32, 98, 32, 98, 117, 116, 116, 111, 110, 32, 100, 105, 118, 32, 102, 105, 101, 108, 100, 115, 101, 116, 32, 102, 111, 114, 109, 32, 105, 32, 105, 110, 112, 117, 116, 32, 108, 97, 98, 101, 108, 32, 108, 101, 103, 101, 110, 100, 32, 108, 105, 32, 111, 112, 116, 105, 111, 110, 32, 111, 117, 116, 112, 117, 116, 32, 112, 32, 115, 101, 108, 101, 99, 116, 32, 115, 112, 97, 110, 32, 116, 101, 109, 112, 108, 97, 116, 101, 32, 116, 101, 120, 116, 97, 114, 101, 97, 32, 117, 108]
def On:List ByteArray:=(Lib.fields Ob).map yQ
@[reducible] def EI : List UInt8 := [97, 110, 110, 111, 116, 97, 116, 105, 111, 110, 45, 120, 109, 108, 32, 99, 111, 108, 111, 114, 45, 112, 114, 111, 102, 105, 108, 101, 32, 102, 111, 110, 116, 45, 102, 97, 99, 101, 32, 102, 111, 110, 116, 45, 102, 97, 99, 101, 45, 115, 114, 99, 32, 102, 111, 110, 116, 45, 102, 97, 99, 101, 45, 117, 114, 105, 32, 102, 111, 110, 116, 45, 102, 97, 99, 101, 45, 102, 111, 114, 109, 97, 116, 32, 102, 111, 110, 116, 45, 102, 97, 99, 101, 45, 110, 97, 109, 101, 32, 109, 105, 115, 115, 105, 110, 103, 45, 103, 108, 121, 112, 104]
def Iw (l:List UInt8):Bool:=l.any (fun b=>decide (b=45))
def Eo (l:List UInt8):Bool:=l.any (fun b=>n4 (b.toNat:Int))
def BG:List UInt8→Bool
 |[]=>false
 |b::_=>kU (b.toNat:Int)
def kM (s:ByteArray):Bool:=cj s&&(BG s.data.toList&&(!Eo s.data.toList&&(Iw s.data.toList&& !E8 oC s)))
theorem Ci (l:List UInt8):decide (0≤Lib.indexByte l 45)=Iw l:=by
 rw[Bool.eq_iff_iff,bE]
 unfold Iw
 rw[List.any_eq_true]
 constructor
 ·intro h
  obtain⟨o,ho⟩:∃o:Nat,Lib.indexByte l 45=o:=⟨(Lib.indexByte l 45).toNat,by omega⟩
  obtain⟨h1,_⟩:=Lib.indexByte_some ho
  exact⟨45,bV h1,rfl⟩
 ·rintro⟨b,hb,e⟩
  have:=of_decide_eq_true e;subst this
  rcases Int.lt_or_le (Lib.indexByte l 45) 0 with h|h
  ·have:Lib.indexByte l 45=-1:=by have:=Lib.indexByte_ge l 45;omega
   obtain⟨k,hk⟩:=List.getElem?_of_mem hb
   exact absurd hk (Lib.indexByte_none this k)
  ·exact h
theorem xV (p:Nat→Bool)(s:ByteArray)(hs:∀b∈s.data.toList,b.toNat<128):∀ (f pos:Nat),s.size≤pos+f→(0≤idxFuncFrom p true s f pos↔ ∃i,pos≤i∧∃b,s.data.toList[i]? =some b∧p b.toNat=true)
 | 0,pos,h=>by
   have:¬ (0:Int)≤idxFuncFrom p true s 0 pos:=by simp[idxFuncFrom]
   refine⟨fun h'=>absurd h' this,?_⟩
   rintro⟨i,h1,b,h2,_⟩
   have:=(bj h2).1
   have:i<s.size:=this
   omega
 | f + 1,pos,h=>by
   by_cases hp:pos<s.size
   ·have ih:=xV p s hs f
    obtain⟨b,hb1,hb2⟩:∃b,s.data.toList[pos]? =some b∧s.get! pos=b:=⟨_,bA hp,by show s.data[pos]! =_;rw[getElem!_pos s.data pos hp];rfl⟩
    have hb3:=hs b (bV hb1)
    unfold idxFuncFrom
    rw[if_pos hp,decode_at,hb2]
    have hd:∀n b1 b2 b3,decodeN n b.toNat b1 b2 b3=(b.toNat,1):=fun n b1 b2 b3=>by rw[decodeN,if_pos hb3]
    rw[hd]
    show(0:Int)≤ (if p b.toNat=true then(pos:Int) else idxFuncFrom p true s f (pos+1))↔_
    cases hpb:p b.toNat with
    |true=>exact⟨fun _=>⟨pos,Nat.le_refl _,b,hb1,hpb⟩,fun _=>by simp⟩
    | false=>
      rw[if_neg (by simp),ih (pos+1) (by omega)]
      constructor
      ·rintro⟨i,h3,h4⟩;exact⟨i,by omega,h4⟩
      ·rintro⟨i,h3,b',h4,h5⟩
       rcases Nat.lt_or_ge pos i with h6|h6
       ·exact⟨i,h6,b',h4,h5⟩
       ·have:i=pos:=by omega
        subst this
        rw[hb1] at h4;cases h4
        rw[hpb] at h5;cases h5
   ·rw[idxFuncFrom_end _ _ _ _ _ hp]
    refine⟨fun h'=>by omega,?_⟩
    rintro⟨i,h1,b,h2,_⟩
    have:=(bj h2).1
    have:i<s.size:=this
    omega
theorem Bu {s:ByteArray}(h:cj s=true):∀b∈s.data.toList,b.toNat<128:=by
 intro b hb
 unfold cj qb at h
 simp only[bO,List.all_eq_true] at h
 have:=h.1.2 b hb
 unfold js j0 kU n4 at this
 simp only[kg,bO,bE] at this
 omega
theorem CF {s:ByteArray}(h:cj s=true):decide (0≤idxFunc (fun r=>n4 (r:Int)) true s)=Eo s.data.toList:=by
 rw[Bool.eq_iff_iff,bE]
 unfold Eo
 rw[List.any_eq_true]
 have:=xV (fun r=>n4 (r:Int)) s (Bu h) s.size 0 (by omega)
 refine Iff.trans this ⟨?_,?_⟩
 ·rintro⟨i,_,b,h1,h2⟩;exact⟨b,bV h1,h2⟩
 ·rintro⟨b,h1,h2⟩
  obtain⟨i,hi⟩:=List.getElem?_of_mem h1
  exact⟨i,Nat.zero_le _,b,hi,h2⟩
theorem KU (s:ByteArray)(h:cj s=true):aj Tryz.prog 185 [] [bX s,.lit (.func (.func 179) #[] #[])] [] (bG (Eo s.data.toList)):=by
 rw[←CF h]
 exact aj.jf (vs:=[.string s,.func (.func 179) #[] #[]]) fun w ht=>uS 179 Lb (fun r=>n4 (r:Int)) s w ht fun W x ht _=>(qi (x:Int)).below (vs:=[.int .i32 (x:Int)]) W ht
theorem AP {s:ByteArray}(h:cj s=true):∃b r,s.data.toList=b::r:=by
 unfold cj qb at h
 simp only[bO,bE] at h
 obtain⟨b,r,e,_⟩:=yo h.1.1.1
 exact⟨b,r,e⟩
theorem Df (s:ByteArray):aj Tryz.prog 174 [] [bX s] [] (bG (kM s)):=by
 refine aj.aD (rvs:=[.tmp 2]) G au Tryz.func174 rfl Tryz.ntmps174 rfl rfl ?_;with_reducible refine wD ?_
 refine cL (tW s) F5 ?_;with_reducible refine wK ?_
 unfold kM
 cases hr:cj s with
 | false=>
   repeat' (first
  |refine aE ?_ ?_
  |((with_reducible show bq _ _ _ _);first|refine iK ?_|(refine bq.mk (fun _=>?_) (fun _=>?_)<;>with_reducible refine wK ?_))
  | apply trivial)
   all_goals rfl
 | true=>
   obtain⟨b,r,hb⟩:=AP hr
   have hb0:s.data.toList[0]? =some b:=by rw[hb];rfl
   have hlf:BG s.data.toList=kU (b.toNat:Int):=by rw[hb];rfl
   have hda:=Ci s.data.toList
   have f25:=KJ s 45
   rw[hda] at f25
   refine bq.tt ?_;with_reducible refine wK ?_
   refine yg.mk 0 b rfl hb0 ?_;with_reducible refine wK ?_
   refine fJ.int (by kernel_rfl) (by kernel_rfl) (Ik _) ?_;with_reducible refine wK ?_
   refine cL (zy _) MO ?_;with_reducible refine wK ?_
   repeat' (first
  |refine aE ?_ ?_
  |((with_reducible show bq _ _ _ _);first|refine iK ?_|(refine bq.mk (fun _=>?_) (fun _=>?_)<;>with_reducible refine wK ?_))
  |((with_reducible refine kQ 185 ?_);refine cL (KU s hr) OH ?_;with_reducible refine wK ?_)
  |((with_reducible refine kQ 206 ?_);refine cL f25 Pu ?_;with_reducible refine wK ?_)
  |((with_reducible refine kQ 208 ?_);refine ae.new 211 [] Kj N4 trivial rfl rfl rfl (FC oC) rfl ?_;with_reducible refine wK ?_)
  |((with_reducible refine kQ 207 ?_);refine ae.lit [211] (K0 oC (by decide) s) ND ⟨Iy rfl rfl rfl rfl,rfl,trivial⟩ rfl rfl ?_;with_reducible refine wK ?_)
  | apply trivial)
   all_goals (rw[hlf];clear hb hb0 hda f25 hlf;rw[show s.data.toList=s.1.1 from rfl];simp_all)
theorem ud (p:UInt8→Bool)(h:(List.range 256).all (fun n=>p (UInt8.ofNat n))=true)(c:UInt8):p c=true:=by
 have:=List.all_eq_true.1 h c.toNat (List.mem_range.2 (UInt8.toNat_lt c))
 simpa using this
theorem GO (c:UInt8):nh (nh c)=nh c:=by
 have:=ud (fun c=>decide (nh (nh c)=nh c)) (by decide+kernel) c
 simpa using this
theorem FO (c:UInt8):js (nh c)=js c:=by
 have:=ud (fun c=>decide (js (nh c)=js c)) (by decide+kernel) c
 simpa using this
theorem Gh (s:ByteArray):cH (cH s)=cH s:=by
 unfold cH pG
 simp only[List.map_map]
 congr 2
 apply List.map_congr_left
 intro c _
 exact GO c
theorem Cl (l:List UInt8):rL (pG l)=rL l:=by
 cases l with
 |nil=>rfl
 | cons c r=>
   have:=ud (fun c=>decide (rL [nh c]=rL [c])) (by decide+kernel) c
   exact of_decide_eq_true this
theorem BS (s:ByteArray):cj (cH s)=cj s:=by
 unfold cj qb
 have h1:(cH s).data.toList=pG s.data.toList:=rfl
 rw[h1,Cl]
 have h2:(pG s.data.toList).length=s.data.toList.length:=by unfold pG;simp
 have h3:(pG s.data.toList).all js=s.data.toList.all js:=by
  unfold pG
  rw[List.all_map]
  congr 1
  funext c
  exact FO c
 rw[h2,h3]
def bt (n:Int):AV:=ah n
def IV (n:Int):Value:=.int .i64 n
@[reducible] def cq (l : List Int) : AV := .sl 1 (l.map bt)
theorem cR {l:List Int}{k:Nat}{x:Int}(h:l[k]? =some x):(l.map bt)[k]? =some (ah x):=by rw[fI,h];rfl
structure ai where
 kind:Int
 name:ByteArray
 is:ByteArray
 data:ByteArray
 attrs:List AttrM
 parent:Int
 kids:List Int
 host:Int
 under:Int
 doc:Int
structure ForM where
 nodes:List ai
 most:Int
def HP:ai:=⟨0,⟨#[]⟩,⟨#[]⟩,⟨#[]⟩,[],0,[],0,0,0⟩
def nd (l:List ai)(n:Int):ai:=(l[n.toNat]?).getD HP
def af (l:List ai)(n:Int):Bool:=decide (0≤n)&&decide (n< (l.length:Int))
def kR (l:List ai)(n k:Int):Bool:=af l n&&decide ((nd l n).kind=k)
def eA (k:Int):Bool:=decide (k=0)||decide (k=1)||decide (k=3)||decide (k=4)
def gR (l:List Int)(n:Int):Bool:=decide (n∈l)
def dJ (x:ai):Int:=if x.parent=-1 then x.host else x.parent
def ug (l:List ai)(n:Int)(x:ai):Bool:=kR l x.doc 0&&(decide (x.kind≠0)||decide (x.doc=n))
def s4 (l:List ai)(n:Int)(x:ai):Bool:=decide (x.parent=-1)||((decide (x.kind=1)||decide (x.kind=2))&&af l x.parent&&eA (nd l x.parent).kind&&gR (nd l x.parent).kids n)
def Aw (l:List ai)(n:Int)(x:ai)(pre:List Int)(c:Int):Bool:=
 af l c&& !gR pre c&&decide ((nd l c).parent=n)&&decide ((nd l c).doc=x.doc)&&(decide ((nd l c).kind=1)||(decide ((nd l c).kind=2)&&decide (x.kind≠0)))
def kV (l:List ai)(n:Int)(x:ai):List Int→List Int→Bool
 |_,[]=>true
 |pre,c::r=>Aw l n x pre c&&kV l n x (pre++ [c]) r
def cu (l:List ai)(cs:List Int):Nat:=cs.countP (fun c=>decide ((nd l c).kind=1))
def o3 (l:List ai)(n:Int)(x:ai):Bool:=
 kV l n x [] x.kids&&((eA x.kind||decide (x.kids=[]))&&(decide (x.kind≠0)||decide (cu l x.kids≤1)))
def kJ (l:List ai)(n:Int)(x:ai):Bool:=
 (if x.kind=4 then kR l x.host 1&&decide ((nd l x.host).under=n)&&decide ((nd l x.host).doc=x.doc) else decide (x.host=-1))&&
 (decide (x.under=-1)||(decide (x.kind=1)&&kR l x.under 4&&decide ((nd l x.under).host=n)))
def gp (l:List ai):Nat→Int→Bool
 |0,_=>false
 |m+1,n=>if dJ (nd l n)=-1 then true else gp l m (dJ (nd l n))
def gg (x:ai):Bool:=
 if x.kind=1 then cj x.name&&decide (cH x.name=x.name)&&(decide (x.is=⟨#[]⟩)||kM x.is)&&decide (x.data=⟨#[]⟩)&&dH x.attrs
 else if x.kind=2 then decide (x.data.size≤200)&&decide (x.name=⟨#[]⟩)&&decide (x.is=⟨#[]⟩)&&decide (x.attrs=[])
 else if x.kind=0∨x.kind=3∨x.kind=4 then decide (x.name=⟨#[]⟩)&&decide (x.is=⟨#[]⟩)&&decide (x.data=⟨#[]⟩)&&decide (x.attrs=[])
 else false
def dM (l:List ai)(n:Int)(x:ai):Bool:=gg x&&(ug l n x&&(s4 l n x&&(o3 l n x&&kJ l n x)))
def me (f:ForM):Bool:=decide (1≤f.most)&&decide (f.most≤400)&&decide (1≤f.nodes.length)&&decide ((f.nodes.length:Int)≤f.most)&&decide ((nd f.nodes 0).kind=0)
def oQ {α:Type}(p:Nat→α→Bool):Nat→List α→Bool
 |_,[]=>true
 |i,x::r=>p i x&&oQ p (i+1) r
def bw (f:ForM):Bool:=me f&&(oQ (fun k x=>dM f.nodes k x) 0 f.nodes&&oQ (fun k _=>gp f.nodes f.nodes.length k) 0 f.nodes)
def oV (f:ForM):Bool:=decide (f.nodes.length≤60)&&f.nodes.all (fun x=>decide (x.kids.length≤60)&&decide (x.attrs.length≤60)&&decide (x.name.size≤300))
structure bC (l:List ai):Prop where
 len:l.length≤64
 kids:∀x∈l,x.kids.length≤60
 attrs:∀x∈l,x.attrs.length≤60
 name:∀x∈l,x.name.size≤300
theorem mF {f:ForM}(h:oV f=true):bC f.nodes:=by
 unfold oV at h
 simp only[bO,bE,List.all_eq_true] at h
 obtain⟨h1,h2⟩:=h
 exact⟨by omega,fun x hx=>(h2 x hx).1.1,fun x hx=>(h2 x hx).1.2,fun x hx=>(h2 x hx).2⟩
theorem cF {l:List ai}{k:Nat}{x:ai}(h:l[k]? =some x):nd l (k:Int)=x:=by unfold nd;rw[Int.toNat_natCast,h];rfl
theorem eH {l:List ai}{k:Nat}{x:ai}(h:l[k]? =some x):af l (k:Int)=true:=by
 unfold af
 have:=(bj h).1
 simp;omega
theorem aW {l:List ai}{n:Int}:af l n=true↔ ∃ (k:Nat) (x:ai),n=(k:Int)∧l[k]? =some x∧nd l n=x:=by
 constructor
 ·intro h
  unfold af at h
  simp only[bO,bE] at h
  have hk:n.toNat<l.length:=by omega
  have hn:n=(n.toNat:Int):=by omega
  refine⟨n.toNat,l[n.toNat],hn,bA hk,?_⟩
  unfold nd;rw[bA hk];rfl
 ·rintro⟨k,x,rfl,h,_⟩
  exact eH h
theorem jG {α:Type}{p:Nat→α→Bool}:∀ {i:Nat} {l:List α},oQ p i l=true↔ ∀k x,l[k]? =some x→p (i+k) x=true
 |i,[]=>by simp[oQ]
 | i,a::r=>by
   simp only[oQ,bO,jG (i:=i+1) (l:=r)]
   constructor
   ·rintro⟨h1,h2⟩ k x hx
    cases k with
    |zero=>simp at hx;subst hx;exact h1
    |succ k=>have:=h2 k x (by simpa using hx);rw[show i+ (k+1)=i+1+k from by omega];exact this
   ·intro h
    refine⟨h 0 a rfl,fun k x hx=>?_⟩
    have:=h (k+1) x (by simpa using hx)
    rw[show i+1+k=i+ (k+1) from by omega];exact this
@[reducible] def aL (x : ai) : AV := .agg [ah x.kind, bX x.name, bX x.is, bX x.data, cV x.attrs, ah x.parent, cq x.kids, ah x.host, ah x.under, ah x.doc]
def bM (x:ai):AV:=aL x
@[reducible] def rT (l : List ai) : AV := .sl 10 (l.map bM)
@[reducible] def aR (f : ForM) : AV := .agg [rT f.nodes, ah f.most]
theorem ay {l:List ai}{k:Nat}{x:ai}(h:l[k]? =some x):(l.map bM)[k]? =some (aL x):=by rw[fI,h];rfl
theorem yP (f:ForM)(n:Int):aj Tryz.prog 129 [] [aR f,ah n] [] (bG (af f.nodes n)):=by
 obtain⟨l,m⟩:=f
 have hlm:(l.map bM).length=l.length:=bN ..
 refine aj.aD (rvs:=[.tmp 4]) G au Tryz.func129 rfl Tryz.ntmps129 rfl rfl ?_;with_reducible refine wD ?_
 by_cases h:(0:Int)≤n
 ·(have fct:=h;(repeat' (first
  |refine gF ?_|refine aE ?_ ?_
  |apply trivial));all_goals clear fct)
  all_goals simp[af,h]
 ·(have fct:=(eq_false h);(repeat' (first
  |refine gF ?_|refine aE ?_ ?_
  |apply trivial));all_goals clear fct)
  all_goals simp[af,h]
theorem DJ (k:Int):aj Tryz.prog 175 [] [ah k] [] (bG (eA k)):=by
 refine aj.aD (rvs:=[.tmp 2]) G au Tryz.func175 rfl Tryz.ntmps175 rfl rfl ?_;with_reducible refine wD ?_
 by_cases e0:k=0
 ·(have fct:=e0;(repeat' (first
  |refine gF ?_|refine aE ?_ ?_
  |apply trivial));all_goals clear fct)
  all_goals simp[eA,e0]
 ·by_cases e1:k=1
  ·(have fct:=e1;(repeat' (first
  |refine gF ?_|refine aE ?_ ?_
  | apply trivial));all_goals clear fct)
   all_goals simp[eA,e1]
  ·by_cases e3:k=3
   ·(have fct:=e3;(repeat' (first
  |refine gF ?_|refine aE ?_ ?_
  | apply trivial));all_goals clear fct)
    all_goals simp[eA,e3]
   ·by_cases e4:k=4
    ·(have fct:=e4;(repeat' (first
  |refine gF ?_|refine aE ?_ ?_
  | apply trivial));all_goals clear fct)
     all_goals simp[eA,e4]
    ·(have fct:=And.intro e0 (And.intro e1 (And.intro e3 (e4)));(repeat' (first
  |refine gF ?_|refine aE ?_ ?_
  |apply trivial));all_goals clear fct)
     all_goals simp[eA,e0,e1,e3,e4]
theorem yR (f:ForM)(n k:Int):aj Tryz.prog 136 [] [aR f,ah n,ah k] [] (bG (kR f.nodes n k)):=by
 have h49:=yP f n
 obtain⟨l,m⟩:=f
 refine aj.aD (rvs:=[.tmp 6]) G au Tryz.func136 rfl Tryz.ntmps136 rfl rfl ?_;with_reducible refine wD ?_
 refine cL h49 zD ?_;with_reducible refine wK ?_
 cases ht:af l n with
 | false=>
   (have fct:=ht;(repeat' (first
  |refine gF ?_|refine aE ?_ ?_
  | apply trivial));all_goals clear fct)
   all_goals simp[kR,ht]
 | true=>
   obtain⟨i,x,rfl,hx,hnd⟩:=aW.1 ht
   obtain⟨a1,a2,a3,a4,a5,a6,a7,a8,a9,a10⟩:=x
   (have fct:=ht;(repeat' (first
  |refine gF ?_|refine aE ?_ ?_
  |((refine aN.mk i (aL _) rfl (ay hx) ?_)<;>with_reducible refine wK ?_)
  | apply trivial));all_goals clear fct)
   all_goals simp[kR,ht,hnd]
theorem qY (l:List Int)(hl:l.length≤100000)(n:Int):aj Tryz.prog 73 [] [cq l,ah n] [] (ah (gq (fun x=>decide (x=n)) l)):=by
 have hlm:(l.map bt).length=l.length:=bN ..
 refine aj.aD (rvs:=[.tmp 4]) G au Tryz.func73 rfl Tryz.ntmps73 rfl rfl ?_;with_reducible refine wD ?_
 refine bW.use G au (fun(k:Nat)=>[(0,cq l),(1,ah n),(7,ah l.length),(8,ah k)]) (fun _=>[]) (fun k=>k≤l.length∧∀j x,j<k→l[j]? =some x→decide (x=n)=false) (fun k=>l.length-k) 0 ⟨Nat.zero_le _,fun j x h=>by omega⟩
  ⟨⟨rfl,rfl⟩,⟨rfl,rfl,by show(l.length:Int)=((l.map bt).length:Int);rw[hlm],rfl,trivial⟩,trivial⟩ ?_
 rintro k ⟨hk,hno⟩
 with_reducible refine wK ?_
 refine bq.mk (fun h1=>?_) (fun h1=>?_)<;>(try simp only[az] at h1)<;>with_reducible refine wK ?_
 ·have hk':k<l.length:=by simp only[bE] at h1;omega
  obtain⟨a,ha⟩:∃a,l[k]? =some a:=⟨_,bA hk'⟩
  refine aN.mk k (ah a) rfl (cR ha) ?_;with_reducible refine wK ?_
  refine bq.mk (fun h2=>?_) (fun h2=>?_)<;>(try simp only[az] at h2)<;>with_reducible refine wK ?_
  ·(refine eK ?_ ?_<;>with_reducible repeat' (first|exact trivial|(show _∧_;refine aK ?_ ?_)))
   refine gr (p:=fun x=>decide (x=n)) ha ?_ hno
   simp only[bE] at h2 ⊢;exact h2.symm
  ·refine nK ?_;with_reducible refine wK ?_
   refine bZ.mk (k+1) ⟨by omega,fun j x hj hx=>?_⟩ (by omega) ⟨⟨rfl,rfl⟩,⟨rfl,rfl,rfl,by show((k+1:Nat):Int)=(k:Int)+1;omega,trivial⟩,trivial⟩
   rcases Nat.lt_or_ge j k with h3|h3
   ·exact hno j x h3 hx
   ·have:j=k:=by omega
    subst this
    rw[ha] at hx;cases hx
    simp only[c9] at h2 ⊢;exact fun e=>h2 e.symm
 ·(refine eK ?_ ?_<;>with_reducible repeat' (first|exact trivial|(show _∧_;refine aK ?_ ?_)))
  exact jF fun j x hx=>hno j x (by have:=(bj hx).1;simp only[c9] at h1;omega) hx
theorem G4 {l:List Int}{n:Int}:decide (0≤gq (fun x=>decide (x=n)) l)=gR l n:=by
 rw[Bool.eq_iff_iff,bE]
 unfold gR
 rw[bE]
 unfold gq
 cases h:l.findIdx? (fun x=>decide (x=n)) with
 | none=>
   rw[List.findIdx?_eq_none_iff] at h
   simp only
   refine⟨fun h'=>by omega,fun hs=>?_⟩
   have:=h n hs
   simp at this
 | some k=>
   rw[List.findIdx?_eq_some_iff_getElem] at h
   obtain⟨hk,h2,_⟩:=h
   simp only
   exact⟨fun _=>by rw[←of_decide_eq_true h2];exact List.getElem_mem hk,fun _=>by omega⟩
theorem Lc (l:List Int)(hl:l.length≤100000)(n:Int):aj Tryz.prog 176 [] [cq l,ah n] [] (bG (gR l n)):=by
 rw[←G4]
 refine aj.aD (rvs:=[.tmp 4]) G au Tryz.func176 rfl Tryz.ntmps176 rfl rfl ?_;with_reducible refine wD ?_
 refine cL (qY l hl n) Jc ?_;with_reducible refine wK ?_
 (refine eK ?_ ?_<;>with_reducible repeat' (first|exact trivial|(show _∧_;refine aK ?_ ?_)))
theorem KP (f:ForM)(k:Nat)(x:ai)(hx:f.nodes[k]? =some x):aj Tryz.prog 177 [] [aR f,ah k] [] (ah (dJ x)):=by
 obtain⟨l,m⟩:=f
 obtain⟨a1,a2,a3,a4,a5,a6,a7,a8,a9,a10⟩:=x
 refine aj.aD (rvs:=[.tmp 4]) G au Tryz.func177 rfl Tryz.ntmps177 rfl rfl ?_;with_reducible refine wD ?_
 refine aN.mk k (aL _) rfl (ay hx) ?_;with_reducible refine wK ?_
 unfold dJ
 by_cases e:a6=-1
 ·(have fct:=e;(repeat' (first
  |refine gF ?_|refine aE ?_ ?_
  |((refine aN.mk k (aL _) rfl (ay hx) ?_)<;>with_reducible refine wK ?_)
  |apply trivial));all_goals clear fct)
  all_goals simp[e]
 ·(have fct:=(eq_false e);(repeat' (first
  |refine gF ?_|refine aE ?_ ?_
  |((refine aN.mk k (aL _) rfl (ay hx) ?_)<;>with_reducible refine wK ?_)
  |apply trivial));all_goals clear fct)
  all_goals simp[e]
theorem Jv (f:ForM)(k:Nat)(x:ai)(hx:f.nodes[k]? =some x):aj Tryz.prog 116 [] [aR f,ah k] [] (bG (ug f.nodes k x)):=by
 have h55:=yR f x.doc 0
 obtain⟨l,m⟩:=f
 obtain⟨a1,a2,a3,a4,a5,a6,a7,a8,a9,a10⟩:=x
 unfold ug
 simp only at h55 hx ⊢
 refine aj.aD (rvs:=[.tmp 4]) G au Tryz.func116 rfl Tryz.ntmps116 rfl rfl ?_;with_reducible refine wD ?_
 refine aN.mk k (aL _) rfl (ay hx) ?_;with_reducible refine wK ?_
 refine cL h55 qj ?_;with_reducible refine wK ?_
 cases hi:kR l a10 0 with
 | false=>
   (have fct:=hi;(repeat' (first
  |refine gF ?_|refine aE ?_ ?_
  | apply trivial));all_goals clear fct)
   all_goals simp[hi]
 | true=>
   by_cases e:a1=0
   ·(have fct:=And.intro hi (e);(repeat' (first
  |refine gF ?_|refine aE ?_ ?_
  | apply trivial));all_goals clear fct)
    all_goals simp[hi,e]
   ·(have fct:=And.intro hi ((eq_false e));(repeat' (first
  |refine gF ?_|refine aE ?_ ?_
  | apply trivial));all_goals clear fct)
    all_goals simp[hi,e]
theorem Ke (f:ForM)(hs:bC f.nodes)(k:Nat)(x:ai)(hx:f.nodes[k]? =some x):aj Tryz.prog 117 [] [aR f,ah k] [] (bG (s4 f.nodes k x)):=by
 have h49:=yP f x.parent
 have h56:=DJ (nd f.nodes x.parent).kind
 have h57:af f.nodes x.parent=true→aj Tryz.prog 176 [] [cq (nd f.nodes x.parent).kids,ah k] [] (bG (gR (nd f.nodes x.parent).kids k)):=fun ht=>by
  obtain⟨i,y,_,hy,hnd⟩:=aW.1 ht
  rw[hnd]
  exact Lc y.kids (by have:=hs.kids y (bV hy);omega) k
 obtain⟨l,m⟩:=f
 obtain⟨a1,a2,a3,a4,a5,a6,a7,a8,a9,a10⟩:=x
 unfold s4
 simp only at h49 h56 h57 hx ⊢
 refine aj.aD (rvs:=[.tmp 4]) G au Tryz.func117 rfl Tryz.ntmps117 rfl rfl ?_;with_reducible refine wD ?_
 refine aN.mk k (aL _) rfl (ay hx) ?_;with_reducible refine wK ?_
 by_cases e6:a6=-1
 ·(have fct:=e6;(repeat' (first
  |refine gF ?_|refine aE ?_ ?_
  |apply trivial));all_goals clear fct)
  all_goals simp[e6]
 ·refine bq.no (by simp[e6]) ?_;with_reducible refine wK ?_
  have rest:∀b:Bool,(decide (a1=1)||decide (a1=2))=b→(b=false∨b=true):=fun b _=>by cases b<;>simp
  cases ht:af l a6 with
  | false=>
    by_cases e1:a1=1
    ·(have fct:=And.intro e1 (And.intro ht ((eq_false e6)));(repeat' (first
  |refine gF ?_|refine aE ?_ ?_
  |(((with_reducible refine kQ 129 ?_);refine cL h49 zD ?_)<;>with_reducible refine wK ?_)
  | apply trivial));all_goals clear fct)
     all_goals simp[e1,ht,e6]
    ·by_cases e2:a1=2
     ·(have fct:=And.intro e2 (And.intro ht ((eq_false e6)));(repeat' (first
  |refine gF ?_|refine aE ?_ ?_
  |(((with_reducible refine kQ 129 ?_);refine cL h49 zD ?_)<;>with_reducible refine wK ?_)
  |apply trivial));all_goals clear fct)
      all_goals simp[e2,ht,e6]
     ·(have fct:=And.intro (eq_false e1) (And.intro (eq_false e2) (And.intro ht ((eq_false e6))));(repeat' (first
  |refine gF ?_|refine aE ?_ ?_
  |apply trivial));all_goals clear fct)
      all_goals simp[e1,e2,ht,e6]
  | true=>
    obtain⟨i,y,rfl,hy,hnd⟩:=aW.1 ht
    have h57':=h57 ht
    rw[hnd] at h56 h57' ⊢
    obtain⟨b1,b2,b3,b4,b5,b6,b7,b8,b9,b10⟩:=y
    simp only at h56 h57'
    cases hh:eA b1 with
    | false=>
      by_cases e1:a1=1
      ·(have fct:=And.intro e1 (And.intro ht (And.intro hh ((eq_false e6))));(repeat' (first
  |refine gF ?_|refine aE ?_ ?_
  | ((first
   |((with_reducible refine kQ 129 ?_);refine cL h49 zD ?_)
   |((with_reducible refine kQ 175 ?_);refine cL h56 EY ?_)
   |(refine aN.mk i (aL _) rfl (ay hy) ?_))<;>with_reducible refine wK ?_)
  |apply trivial));all_goals clear fct)
       all_goals simp[e1,ht,e6,hh]
      ·by_cases e2:a1=2
       ·(have fct:=And.intro e2 (And.intro ht (And.intro hh ((eq_false e6))));(repeat' (first
  |refine gF ?_|refine aE ?_ ?_
  | ((first
   |((with_reducible refine kQ 129 ?_);refine cL h49 zD ?_)
   |((with_reducible refine kQ 175 ?_);refine cL h56 EY ?_)
   |(refine aN.mk i (aL _) rfl (ay hy) ?_))<;>with_reducible refine wK ?_)
  |apply trivial));all_goals clear fct)
        all_goals simp[e2,ht,e6,hh]
       ·(have fct:=And.intro (eq_false e1) (And.intro (eq_false e2) (And.intro ht (And.intro hh ((eq_false e6)))));(repeat' (first
  |refine gF ?_|refine aE ?_ ?_
  | apply trivial));all_goals clear fct)
        all_goals simp[e1,e2,ht,e6]
    | true=>
      by_cases e1:a1=1
      ·(have fct:=And.intro e1 (And.intro ht (And.intro hh ((eq_false e6))));(repeat' (first
  |refine gF ?_|refine aE ?_ ?_
  | ((first
   |((with_reducible refine kQ 129 ?_);refine cL h49 zD ?_)
   |((with_reducible refine kQ 175 ?_);refine cL h56 EY ?_)
   |((with_reducible refine kQ 176 ?_);refine cL h57' MK ?_)
   |(refine aN.mk i (aL _) rfl (ay hy) ?_))<;>with_reducible refine wK ?_)
  |apply trivial));all_goals clear fct)
       all_goals simp[e1,ht,e6,hh]
      ·by_cases e2:a1=2
       ·(have fct:=And.intro e2 (And.intro ht (And.intro hh ((eq_false e6))));(repeat' (first
  |refine gF ?_|refine aE ?_ ?_
  | ((first
   |((with_reducible refine kQ 129 ?_);refine cL h49 zD ?_)
   |((with_reducible refine kQ 175 ?_);refine cL h56 EY ?_)
   |((with_reducible refine kQ 176 ?_);refine cL h57' MK ?_)
   |(refine aN.mk i (aL _) rfl (ay hy) ?_))<;>with_reducible refine wK ?_)
  |apply trivial));all_goals clear fct)
        all_goals simp[e2,ht,e6,hh]
       ·(have fct:=And.intro (eq_false e1) (And.intro (eq_false e2) (And.intro ht (And.intro hh ((eq_false e6)))));(repeat' (first
  |refine gF ?_|refine aE ?_ ?_
  |apply trivial));all_goals clear fct)
        all_goals simp[e1,e2,ht,e6]
theorem BV (l:List ai)(m:Nat)(n:Int):gp l (m+1) n=if dJ (nd l n)=-1 then true else gp l m (dJ (nd l n)):=rfl
theorem JT (f:ForM)(hl:f.nodes.length≤100000)(hup:∀ (k:Nat) (x:ai),f.nodes[k]? =some x→dJ x=-1∨af f.nodes (dJ x)=true)(k:Nat)(hk:k<f.nodes.length):aj Tryz.prog 120 [] [aR f,ah k] [] (bG (gp f.nodes f.nodes.length k)):=by
 have h58:=KP f
 obtain⟨l,m⟩:=f
 simp only at h58 hup hk hl ⊢
 have hlm:(l.map bM).length=l.length:=bN ..
 refine aj.aD (rvs:=[.tmp 4]) G au Tryz.func120 rfl Tryz.ntmps120 rfl rfl ?_;with_reducible refine wD ?_
 refine bW.use G au (fun(i:Nat×Nat)=>[(1,ah i.2),(2,.ptr 20 0 0),(8,ah l.length),(9,ah i.1)]) (fun _=>[(20,.live 2 [aR ⟨l,m⟩] false)]) (fun i=>i.1≤l.length∧i.2<l.length∧gp l l.length k=gp l (l.length-i.1) i.2) (fun i=>l.length-i.1) (0,k) ⟨Nat.zero_le _,hk,rfl⟩
  ⟨⟨rfl,rfl⟩,⟨rfl,⟨rfl,rfl⟩,by show(l.length:Int)=((l.map bM).length:Int);rw[hlm],rfl,trivial⟩,⟨⟨rfl,rfl,trivial⟩,trivial⟩,trivial⟩ ?_
 rintro⟨i,j⟩ ⟨hi,hj,he⟩
 simp only at hi hj he
 with_reducible refine wK ?_
 refine bq.mk (fun h1=>?_) (fun h1=>?_)<;>(try simp only[az] at h1)<;>with_reducible refine wK ?_
 ·have hi':i<l.length:=by simp only[bE] at h1;omega
  obtain⟨x,hx⟩:∃x,l[j]? =some x:=⟨_,bA hj⟩
  have h58':=h58 j x hx
  refine cL h58' Oe ?_;with_reducible refine wK ?_
  rw[show l.length-i=(l.length- (i+1))+1 from by omega] at he
  rw[BV,cF hx] at he
  by_cases e:dJ x=-1
  ·rw[if_pos e] at he
   (have fct:=e;(repeat' (first
  |refine gF ?_|refine aE ?_ ?_
  | apply trivial));all_goals clear fct)
   all_goals rw[he]
  ·rw[if_neg e] at he
   rcases hup j x hx with h|h
   ·exact absurd h e
   obtain⟨j',y,hj1,hj2,_⟩:=aW.1 h
   rw[hj1] at he
   have hlt:=(bj hj2).1
   refine bq.no (dy e) ?_;with_reducible refine wK ?_
   refine nK ?_;with_reducible refine wK ?_
   refine bZ.mk (i+1,j') ⟨by show i+1≤l.length;omega,hlt,he⟩ (by show l.length- (i+1)<l.length-i;omega) ⟨⟨rfl,rfl⟩,⟨hj1.symm,⟨rfl,rfl⟩,rfl,by show((i+1:Nat):Int)=(i:Int)+1;omega,trivial⟩,⟨⟨rfl,rfl,trivial⟩,trivial⟩,trivial⟩
 ·(refine eK ?_ ?_<;>with_reducible repeat' (first|exact trivial|(show _∧_;refine aK ?_ ?_)))
  have:i=l.length:=by simp only[c9] at h1;omega
  rw[he,this,Nat.sub_self];rfl
theorem ux {l:List ai}{n k:Int}(h:kR l n k=true):∃ (i:Nat) (x:ai),n=(i:Int)∧l[i]? =some x∧nd l n=x:=by
 unfold kR at h
 simp only[bO] at h
 exact aW.1 h.1
theorem Kt (f:ForM)(k:Nat)(x:ai)(hx:f.nodes[k]? =some x):aj Tryz.prog 119 [] [aR f,ah k] [] (bG (kJ f.nodes k x)):=by
 have h1:=yR f x.host 1
 have h4:=yR f x.under 4
 obtain⟨l,m⟩:=f
 obtain⟨a1,a2,a3,a4,a5,a6,a7,a8,a9,a10⟩:=x
 unfold kJ
 simp only at h1 h4 hx ⊢
 refine aj.aD (rvs:=[.tmp 4]) G au Tryz.func119 rfl Tryz.ntmps119 rfl rfl ?_;with_reducible refine wD ?_
 refine aN.mk k (aL _) rfl (ay hx) ?_;with_reducible refine wK ?_
 by_cases e4:a1=4
 ·have e1:¬a1=1:=by omega
  refine bq.yes (by simp[e4]) ?_;with_reducible refine wK ?_
  rw[if_pos e4]
  cases hi:kR l a8 1 with
  | false=>
    rw[hi] at h1
    by_cases e9:a9=-1
    ·(have fct:=And.intro e4 (e9);(repeat' (first
  |refine gF ?_|refine aE ?_ ?_
  |(((with_reducible refine kQ 136 ?_);refine cL h1 qj ?_)<;>with_reducible refine wK ?_)
  | apply trivial));all_goals clear fct)
     all_goals simp[e9]
    ·(have fct:=And.intro e4 (And.intro (eq_false e9) ((eq_false e1)));(repeat' (first
  |refine gF ?_|refine aE ?_ ?_
  |(((with_reducible refine kQ 136 ?_);refine cL h1 qj ?_)<;>with_reducible refine wK ?_)
  |apply trivial));all_goals clear fct)
     all_goals simp[e9,e1]
  | true=>
    rw[hi] at h1
    obtain⟨i,y,rfl,hy,hnd⟩:=ux hi
    rw[hnd]
    obtain⟨b1,b2,b3,b4,b5,b6,b7,b8,b9,b10⟩:=y
    by_cases e9:a9=-1
    ·by_cases u9:b9=k
     ·by_cases u10:b10=a10
      ·(have fct:=And.intro e4 (And.intro e9 (And.intro u9 (u10)));(repeat' (first
  |refine gF ?_|refine aE ?_ ?_
  | ((first
   |((with_reducible refine kQ 136 ?_);refine cL h1 qj ?_)
   |(refine aN.mk i (aL _) rfl (ay hy) ?_))<;>with_reducible refine wK ?_)
  |apply trivial));all_goals clear fct)
       all_goals simp[e9,u9,u10]
      ·(have fct:=And.intro e4 (And.intro e9 (And.intro u9 ((eq_false u10))));(repeat' (first
  |refine gF ?_|refine aE ?_ ?_
  | ((first
   |((with_reducible refine kQ 136 ?_);refine cL h1 qj ?_)
   |(refine aN.mk i (aL _) rfl (ay hy) ?_))<;>with_reducible refine wK ?_)
  |apply trivial));all_goals clear fct)
       all_goals simp[e9,u9,u10]
     ·(have fct:=And.intro e4 (And.intro e9 ((eq_false u9)));(repeat' (first
  |refine gF ?_|refine aE ?_ ?_
  | ((first
   |((with_reducible refine kQ 136 ?_);refine cL h1 qj ?_)
   |(refine aN.mk i (aL _) rfl (ay hy) ?_))<;>with_reducible refine wK ?_)
  | apply trivial));all_goals clear fct)
      all_goals simp[e9,u9]
    ·by_cases u9:b9=k
     ·by_cases u10:b10=a10
      ·(have fct:=And.intro e4 (And.intro (eq_false e9) (And.intro (eq_false e1) (And.intro u9 (u10))));(repeat' (first
  |refine gF ?_|refine aE ?_ ?_
  | ((first
   |((with_reducible refine kQ 136 ?_);refine cL h1 qj ?_)
   |(refine aN.mk i (aL _) rfl (ay hy) ?_))<;>with_reducible refine wK ?_)
  |apply trivial));all_goals clear fct)
       all_goals simp[e9,e1,u9,u10]
      ·(have fct:=And.intro e4 (And.intro (eq_false e9) (And.intro (eq_false e1) (And.intro u9 ((eq_false u10)))));(repeat' (first
  |refine gF ?_|refine aE ?_ ?_
  | ((first
   |((with_reducible refine kQ 136 ?_);refine cL h1 qj ?_)
   |(refine aN.mk i (aL _) rfl (ay hy) ?_))<;>with_reducible refine wK ?_)
  |apply trivial));all_goals clear fct)
       all_goals simp[e9,e1,u9,u10]
     ·(have fct:=And.intro e4 (And.intro (eq_false e9) (And.intro (eq_false e1) ((eq_false u9))));(repeat' (first
  |refine gF ?_|refine aE ?_ ?_
  | ((first
   |((with_reducible refine kQ 136 ?_);refine cL h1 qj ?_)
   |(refine aN.mk i (aL _) rfl (ay hy) ?_))<;>with_reducible refine wK ?_)
  |apply trivial));all_goals clear fct)
      all_goals simp[e9,e1,u9]
 ·refine bq.no (by simp[e4]) ?_;with_reducible refine wK ?_
  rw[if_neg e4]
  by_cases e8:a8=-1
  ·by_cases e9:a9=-1
   ·(have fct:=And.intro (eq_false e4) (And.intro e8 (e9));(repeat' (first
  |refine gF ?_|refine aE ?_ ?_
  | apply trivial));all_goals clear fct)
    all_goals simp[e9,e8]
   ·by_cases e1:a1=1
    ·cases hu:kR l a9 4 with
     | false=>
       rw[hu] at h4
       (have fct:=And.intro (eq_false e4) (And.intro e8 (And.intro (eq_false e9) (e1)));(repeat' (first
  |refine gF ?_|refine aE ?_ ?_
  |(((with_reducible refine kQ 136 ?_);refine cL h4 qj ?_)<;>with_reducible refine wK ?_)
  |apply trivial));all_goals clear fct)
       all_goals simp[e9,e8,e1]
     | true=>
       rw[hu] at h4
       obtain⟨j,z,rfl,hz,hnd⟩:=ux hu
       rw[hnd]
       obtain⟨d1,d2,d3,d4,d5,d6,d7,d8,d9,d10⟩:=z
       (have fct:=And.intro (eq_false e4) (And.intro e8 (And.intro (eq_false e9) (e1)));(repeat' (first
  |refine gF ?_|refine aE ?_ ?_
  | ((first
   |((with_reducible refine kQ 136 ?_);refine cL h4 qj ?_)
   |(refine aN.mk j (aL ⟨d1,d2,d3,d4,d5,d6,d7,d8,d9,d10⟩) rfl (ay hz) ?_))<;>with_reducible refine wK ?_)
  | apply trivial));all_goals clear fct)
       all_goals simp[e9,e8,e1]
    ·(have fct:=And.intro (eq_false e4) (And.intro e8 (And.intro (eq_false e9) ((eq_false e1))));(repeat' (first
  |refine gF ?_|refine aE ?_ ?_
  |apply trivial));all_goals clear fct)
     all_goals simp[e9,e8,e1]
  ·by_cases e9:a9=-1
   ·(have fct:=And.intro (eq_false e4) (And.intro (eq_false e8) (e9));(repeat' (first
  |refine gF ?_|refine aE ?_ ?_
  | apply trivial));all_goals clear fct)
    all_goals simp[e9,e8]
   ·by_cases e1:a1=1
    ·cases hu:kR l a9 4 with
     | false=>
       rw[hu] at h4
       (have fct:=And.intro (eq_false e4) (And.intro (eq_false e8) (And.intro (eq_false e9) (e1)));(repeat' (first
  |refine gF ?_|refine aE ?_ ?_
  |(((with_reducible refine kQ 136 ?_);refine cL h4 qj ?_)<;>with_reducible refine wK ?_)
  |apply trivial));all_goals clear fct)
       all_goals simp[e9,e8,e1]
     | true=>
       rw[hu] at h4
       obtain⟨j,z,rfl,hz,hnd⟩:=ux hu
       rw[hnd]
       obtain⟨d1,d2,d3,d4,d5,d6,d7,d8,d9,d10⟩:=z
       (have fct:=And.intro (eq_false e4) (And.intro (eq_false e8) (And.intro (eq_false e9) (e1)));(repeat' (first
  |refine gF ?_|refine aE ?_ ?_
  | ((first
   |((with_reducible refine kQ 136 ?_);refine cL h4 qj ?_)
   |(refine aN.mk j (aL ⟨d1,d2,d3,d4,d5,d6,d7,d8,d9,d10⟩) rfl (ay hz) ?_))<;>with_reducible refine wK ?_)
  | apply trivial));all_goals clear fct)
       all_goals simp[e9,e8,e1]
    ·(have fct:=And.intro (eq_false e4) (And.intro (eq_false e8) (And.intro (eq_false e9) ((eq_false e1))));(repeat' (first
  |refine gF ?_|refine aE ?_ ?_
  |apply trivial));all_goals clear fct)
     all_goals simp[e9,e8,e1]
theorem Jz (x:ai)(hx:x.attrs.length≤100000):aj Tryz.prog 115 [] [aL x] [] (bG (gg x)):=by
 have h45:=yX x.name
 have h54:=Df x.is
 have h44:=D1 x.attrs hx
 obtain⟨a1,a2,a3,a4,a5,a6,a7,a8,a9,a10⟩:=x
 have hlm:(a5.map dg).length=a5.length:=bN ..
 unfold gg
 simp only at h45 h54 h44 hx ⊢
 refine aj.aD (rvs:=[.tmp 2]) G au Tryz.func115 rfl Tryz.ntmps115 rfl rfl ?_;with_reducible refine wD ?_
 by_cases e1:a1=1
 ·rw [if_pos e1]
  cases hr:cj a2 with
  | false=>
    rw[hr] at h45
    simp only[Bool.false_eq_true,if_false] at h45
    (have fct:=And.intro e1 (hr);(repeat' (first
  |refine gF ?_|refine aE ?_ ?_
  |(((with_reducible refine kQ 67 ?_);refine cL h45 IP ?_)<;>with_reducible refine wK ?_)
  | apply trivial));all_goals clear fct)
    all_goals simp[hr]
  | true=>
    rw[hr] at h45
    simp only[if_true] at h45
    by_cases hl:cH a2=a2
    ·by_cases h3:a3=⟨#[]⟩
     ·by_cases h4:a4=⟨#[]⟩
      ·(have fct:=And.intro e1 (And.intro hr (And.intro hl (And.intro h3 (h4))));(repeat' (first
  |refine gF ?_|refine aE ?_ ?_
  | ((first
   |((with_reducible refine kQ 67 ?_);refine cL h45 IP ?_)
   |((with_reducible refine kQ 131 ?_);refine cL h44 Jh ?_))<;>with_reducible refine wK ?_)
  |apply trivial));all_goals clear fct)
       all_goals simp[hr,hl,h3,h4]
      ·(have fct:=And.intro e1 (And.intro hr (And.intro hl (And.intro h3 ((eq_false h4)))));(repeat' (first
  |refine gF ?_|refine aE ?_ ?_
  |(((with_reducible refine kQ 67 ?_);refine cL h45 IP ?_)<;>with_reducible refine wK ?_)
  |apply trivial));all_goals clear fct)
       all_goals simp[hr,hl,h3,h4]
     ·cases hc:kM a3 with
      | false=>
        rw[hc] at h54
        (have fct:=And.intro e1 (And.intro hr (And.intro hl (And.intro (eq_false h3) (hc))));(repeat' (first
  |refine gF ?_|refine aE ?_ ?_
  | ((first
   |((with_reducible refine kQ 67 ?_);refine cL h45 IP ?_)
   |((with_reducible refine kQ 174 ?_);refine cL h54 JC ?_))<;>with_reducible refine wK ?_)
  |apply trivial));all_goals clear fct)
        all_goals simp[hr,hl,h3,hc]
      | true=>
        rw[hc] at h54
        by_cases h4:a4=⟨#[]⟩
        ·(have fct:=And.intro e1 (And.intro hr (And.intro hl (And.intro (eq_false h3) (And.intro hc (h4)))));(repeat' (first
  |refine gF ?_|refine aE ?_ ?_
  | ((first
   |((with_reducible refine kQ 67 ?_);refine cL h45 IP ?_)
   |((with_reducible refine kQ 174 ?_);refine cL h54 JC ?_)
   |((with_reducible refine kQ 131 ?_);refine cL h44 Jh ?_))<;>with_reducible refine wK ?_)
  |apply  trivial));all_goals clear fct)
         all_goals simp[hr,hl,h3,hc,h4]
        ·(have fct:=And.intro e1 (And.intro hr (And.intro hl (And.intro (eq_false h3) (And.intro hc ((eq_false h4))))));(repeat' (first
  |refine gF ?_|refine aE ?_ ?_
  | ((first
   |((with_reducible refine kQ 67 ?_);refine cL h45 IP ?_)
   |((with_reducible refine kQ 174 ?_);refine cL h54 JC ?_))<;>with_reducible refine wK ?_)
  | apply trivial));all_goals clear fct)
         all_goals simp[hr,hl,h3,hc,h4]
    ·(have fct:=And.intro e1 (And.intro hr ((eq_false hl)));(repeat' (first
  |refine gF ?_|refine aE ?_ ?_
  |(((with_reducible refine kQ 67 ?_);refine cL h45 IP ?_)<;>with_reducible refine wK ?_)
  |apply trivial));all_goals clear fct)
     all_goals simp[hr,hl]
 ·rw [if_neg e1]
  by_cases e2:a1=2
  ·rw [if_pos e2]
   by_cases hd:a4.size≤200
   ·by_cases h2:a2=⟨#[]⟩
    ·by_cases h3:a3=⟨#[]⟩
     ·(have fct:=And.intro e2 (And.intro hd (And.intro h2 (h3)));(repeat' (first
  |refine gF ?_|refine aE ?_ ?_
  |apply trivial));all_goals clear fct)
      all_goals simp[hd,h2,h3]
     ·(have fct:=And.intro e2 (And.intro hd (And.intro h2 ((eq_false h3))));(repeat' (first
  |refine gF ?_|refine aE ?_ ?_
  | apply trivial));all_goals clear fct)
      all_goals simp[hd,h2,h3]
    ·(have fct:=And.intro e2 (And.intro hd ((eq_false h2)));(repeat' (first
  |refine gF ?_|refine aE ?_ ?_
  | apply trivial));all_goals clear fct)
     all_goals simp[hd,h2]
   ·(have fct:=And.intro e2 ((eq_false hd));(repeat' (first
  |refine gF ?_|refine aE ?_ ?_
  | apply trivial));all_goals clear fct)
    all_goals simp[hd]
  ·rw [if_neg e2]
   by_cases ho:a1=0∨a1=3∨a1=4
   ·rw [if_pos ho]
    by_cases h2:a2=⟨#[]⟩
    ·by_cases h3:a3=⟨#[]⟩
     ·by_cases h4:a4=⟨#[]⟩
      ·rcases ho with e|e|e
       ·(have fct:=And.intro e (And.intro h2 (And.intro h3 (h4)));(repeat' (first
  |refine gF ?_|refine aE ?_ ?_
  |apply trivial));all_goals clear fct)
        all_goals simp[h2,h3,h4]
       ·(have fct:=And.intro e (And.intro h2 (And.intro h3 (h4)));(repeat' (first
  |refine gF ?_|refine aE ?_ ?_
  |apply trivial));all_goals clear fct)
        all_goals simp[h2,h3,h4]
       ·(have fct:=And.intro e (And.intro h2 (And.intro h3 (h4)));(repeat' (first
  |refine gF ?_|refine aE ?_ ?_
  |apply trivial));all_goals clear fct)
        all_goals simp[h2,h3,h4]
      ·rcases ho with e|e|e
       ·(have fct:=And.intro e (And.intro h2 (And.intro h3 ((eq_false h4))));(repeat' (first
  |refine gF ?_|refine aE ?_ ?_
  |apply trivial));all_goals clear fct)
        all_goals simp[h2,h3,h4]
       ·(have fct:=And.intro e (And.intro h2 (And.intro h3 ((eq_false h4))));(repeat' (first
  |refine gF ?_|refine aE ?_ ?_
  |apply trivial));all_goals clear fct)
        all_goals simp[h2,h3,h4]
       ·(have fct:=And.intro e (And.intro h2 (And.intro h3 ((eq_false h4))));(repeat' (first
  |refine gF ?_|refine aE ?_ ?_
  |apply trivial));all_goals clear fct)
        all_goals simp[h2,h3,h4]
     ·rcases ho with e|e|e
      ·(have fct:=And.intro e (And.intro h2 ((eq_false h3)));(repeat' (first
  |refine gF ?_|refine aE ?_ ?_
  |apply trivial));all_goals clear fct)
       all_goals simp[h2,h3]
      ·(have fct:=And.intro e (And.intro h2 ((eq_false h3)));(repeat' (first
  |refine gF ?_|refine aE ?_ ?_
  |apply trivial));all_goals clear fct)
       all_goals simp[h2,h3]
      ·(have fct:=And.intro e (And.intro h2 ((eq_false h3)));(repeat' (first
  |refine gF ?_|refine aE ?_ ?_
  | apply trivial));all_goals clear fct)
       all_goals simp[h2,h3]
    ·rcases ho with e|e|e
     ·(have fct:=And.intro e ((eq_false h2));(repeat' (first
  |refine gF ?_|refine aE ?_ ?_
  |apply trivial));all_goals clear fct)
      all_goals simp[h2]
     ·(have fct:=And.intro e ((eq_false h2));(repeat' (first
  |refine gF ?_|refine aE ?_ ?_
  |apply trivial));all_goals clear fct)
      all_goals simp[h2]
     ·(have fct:=And.intro e ((eq_false h2));(repeat' (first
  |refine gF ?_|refine aE ?_ ?_
  | apply trivial));all_goals clear fct)
      all_goals simp[h2]
   ·rw[if_neg ho]
    have e0:¬a1=0:=fun h=>ho (.inl h)
    have e3:¬a1=3:=fun h=>ho (.inr (.inl h))
    have e4:¬a1=4:=fun h=>ho (.inr (.inr h))
    (have fct:=And.intro e0 (And.intro e1 (And.intro e2 (And.intro e3 (e4))));(repeat' (first
  |refine gF ?_|refine aE ?_ ?_
  |apply trivial));all_goals clear fct)
def nG (l:List Int):List (Int×Int):=l.map fun c=>(c,1)
theorem sB (c:Int):∀l:List Int,ja c (nG l)=if c∈l then some 1 else none
 |[]=>rfl
 | a ::r=>by
   show(if a=c then some 1 else ja c (nG r))=_
   rw[sB c r]
   by_cases e:a=c
   ·rw[if_pos e,if_pos (by simp[e])]
   ·rw[if_neg e]
    by_cases h:c∈r
    ·rw[if_pos h,if_pos (dQ _ h)]
    ·rw[if_neg h,if_neg (by simp[h];exact fun e'=>e e'.symm)]
theorem E2 {l:List Int}{c:Int}(h:c∉l):j8 c 1 (nG l)=nG (l++ [c]):=by
 rw[uO (by rw[sB,if_neg h])]
 simp[nG]
theorem mD {α:Type}{l:List α}{k:Nat}{x:α}(h:l[k]? =some x):l.take (k+1)=l.take k++ [x]:=by
 obtain⟨hk,rfl⟩:=bj h
 rw[List.take_add_one,bA hk];rfl
theorem E6 {l:List ai}{n:Int}{x:ai}{cs:List Int}{j:Nat}{c:Int}(h:cs[j]? =some c):kV l n x (cs.take j) (cs.drop j)=(Aw l n x (cs.take j) c&&kV l n x (cs.take (j+1)) (cs.drop (j+1))):=by
 obtain⟨hk,rfl⟩:=bj h
 rw[List.drop_eq_getElem_cons hk,mD h]
 rfl
theorem Ck {l:List ai}{cs:List Int}{j:Nat}{c:Int}(h:cs[j]? =some c):cu l (cs.take (j+1))=cu l (cs.take j)+if(nd l c).kind=1 then 1 else 0:=by
 rw[mD h]
 unfold cu
 rw[List.countP_append,List.countP_cons];simp
theorem HD (l:List ai)(cs:List Int)(j:Nat):cu l (cs.take j)≤j:=by
 unfold cu
 refine Nat.le_trans List.countP_le_length ?_
 simp;omega
@[reducible] def NJ (t : List (Int × Int)) : MS := .live 2 (jd IV bt t) false
theorem mT (t:List (Int×Int)):bu (jd IV bt t)=true:=by
 rw[c7];intro x hx
 obtain⟨a,_,rfl⟩:=List.mem_map.1 hx
 rfl
theorem Ki (f:ForM)(hs:bC f.nodes)(k:Nat)(x:ai)(hx:f.nodes[k]? =some x):aj Tryz.prog 118 [] [aR f,ah k] [] (bG (o3 f.nodes k x)):=by
 have h49:=yP f
 have h56:=DJ x.kind
 have h7:=hs.kids x (bV hx)
 have hl:=hs.len
 obtain⟨l,m⟩:=f
 have hst:=fun j c=> @E6 l k x x.kids j c
 have hse:=fun j c=> @Ck l x.kids j c
 unfold o3
 simp only at h49 h56 hx h7 hl ⊢
 obtain⟨⟨a1,a2,a3,a4,a5,a6,a7,a8,a9,a10⟩,hx0⟩:∃y,y=x:=⟨x,rfl⟩
 rw[←hx0] at hx h56 h7 hst hse ⊢
 simp only at h56 h7 hst hse ⊢
 have hlm:(a7.map bt).length=a7.length:=bN ..
 refine aj.aD (rvs:=[.tmp 4]) G au Tryz.func118 rfl Tryz.ntmps118 rfl rfl ?_;with_reducible refine wD ?_
 refine aN.mk k (aL _) rfl (ay hx) ?_;with_reducible refine wK ?_
 refine bW.use G au (fun(j:Nat)=>[(1,ah k),(2,.ptr 20 0 0),(5,.ptr 50 0 0),(6,.mapr 161),(7,ah (cu l (a7.take j))),(18,cq a7),(19,ah a7.length),(20,ah j)])
  (fun j=>[(20,.live 2 [aR ⟨l,m⟩] false),(50,.live 10 [aL ⟨a1,a2,a3,a4,a5,a6,a7,a8,a9,a10⟩] false),(161,NJ (nG (a7.take j)))])
  (fun j=>j≤a7.length∧kV l k ⟨a1,a2,a3,a4,a5,a6,a7,a8,a9,a10⟩ [] a7=kV l k ⟨a1,a2,a3,a4,a5,a6,a7,a8,a9,a10⟩ (a7.take j) (a7.drop j)) (fun j=>a7.length-j) 0 ⟨Nat.zero_le _,rfl⟩
  ⟨⟨rfl,rfl⟩,⟨rfl,⟨rfl,rfl⟩,⟨rfl,rfl⟩,trivial,rfl,rfl,by show(a7.length:Int)=((a7.map bt).length:Int);rw[hlm],rfl,trivial⟩,⟨⟨rfl,rfl,trivial⟩,trivial⟩,⟨⟨rfl,rfl,rfl,rfl,rfl,rfl,rfl,rfl,rfl,rfl,trivial⟩,trivial⟩,⟨.refl rfl,rfl⟩,trivial⟩ ?_
 rintro j ⟨hj,hok⟩
 with_reducible refine wK ?_
 refine bq.mk (fun h1=>?_) (fun h1=>?_)<;>(try simp only[az] at h1)<;>with_reducible refine wK ?_
 ·have hj' :j<a7.length:=by simp only[bE] at h1;omega
  obtain⟨c,hc⟩:∃c,a7[j]? =some c:=⟨_,bA hj'⟩
  rw[hst j c hc] at hok
  have hse':=hse j c hc
  have hel:=HD l a7 j
  have h49':=h49 c
  unfold Aw at hok
  refine aN.mk j (ah c) rfl (cR hc) ?_;with_reducible refine wK ?_
  refine cL h49' zD ?_;with_reducible refine wK ?_
  cases ht:af l c with
  | false=>
    rw[ht] at hok
    simp only[Bool.false_and] at hok
    rw[hok,Bool.false_and]
    (have fct:=ht;(repeat' (first
  |refine gF ?_|refine aE ?_ ?_
  |apply trivial));all_goals clear fct)
  | true=>
    obtain⟨i,y,rfl,hy,hnd⟩:=aW.1 ht
    rw[ht,hnd] at hok
    rw[hnd] at hse'
    obtain⟨b1,b2,b3,b4,b5,b6,b7,b8,b9,b10⟩:=y
    simp only[Bool.true_and] at hok hse'
    refine bq.ff ?_;with_reducible refine wK ?_
    have hts:=sB (i:Int) (a7.take j)
    refine qW.tab IV bt (nG (a7.take j)) (k:=(i:Int)) (zv:=ah 0) Kc ⟨_,_,rfl⟩ yH zM rfl rfl (fun z hxx=>?_) (fun hxx=>?_)
    ·rw[hxx] at hts
     have hin:(i:Int)∈a7.take j:=by by_cases h:(i:Int)∈a7.take j;exact h;rw[if_neg h] at hts;cases hts
     rw[if_pos hin] at hts
     cases hts
     rw[show gR (a7.take j) (i:Int)=true from dG hin] at hok
     simp only[Bool.not_true,Bool.false_and] at hok
     rw[hok,Bool.false_and]
     rw[show bt 1=ah 1 from rfl]
     with_reducible refine wK ?_
     (have fct:=ht;(repeat' (first
  |refine gF ?_|refine aE ?_ ?_
  | apply trivial));all_goals clear fct)
    ·rw [hxx] at hts
     have hin:(i:Int)∉a7.take j:=by intro h;rw[if_pos h] at hts;cases hts
     rw[show gR (a7.take j) (i:Int)=false from dy hin] at hok
     simp only[Bool.not_false,Bool.true_and] at hok
     with_reducible refine wK ?_
     by_cases e6:b6=k
     ·by_cases e10:b10=a10
      ·simp only[e6,e10,decide_true,Bool.true_and] at hok
       (have fct:=And.intro e6 (e10);(repeat' (first
  |refine gF ?_|refine aE ?_ ?_
  |((refine aN.mk i (aL _) rfl (ay hy) ?_)<;>with_reducible refine wK ?_)
  |apply trivial));all_goals clear fct)
       refine qW.tab IV bt (nG (a7.take j)) (k:=(i:Int)) (zv:=ah 0) Kc ⟨_,_,rfl⟩ yH zM rfl rfl (fun z hyy=>?_) (fun hyy=>?_)
       ·rw[hxx] at hyy;cases hyy
       with_reducible refine wK ?_
       have hln:(nG (a7.take j)).length≤j:=by unfold nG;simp;omega
       have hsn:=E2 hin
       rw[←mD hc] at hsn
       refine nK ?_;with_reducible refine wK ?_
       refine zn.tab IV bt (nG (a7.take j)) (k:=(i:Int)) (1:Int) Kc rfl yH zM (by unfold maxLen;omega) rfl ?_;with_reducible refine wK ?_
       rw[hsn]
       refine aN.mk i (aL _) rfl (ay hy) ?_;with_reducible refine wK ?_
       by_cases f1:b1=1
       ·have hs1:(cu l (a7.take (j+1)):Int)=cu l (a7.take j)+1:=by rw[hse',if_pos f1];rfl
        simp only[f1,decide_true,Bool.true_or,Bool.true_and] at hok
        (have fct:=f1;(repeat' (first
  |refine gF ?_|refine aE ?_ ?_
  |(((with_reducible show bZ _ _);refine bZ.mk (j+1) ⟨by omega,hok⟩ (by omega) ⟨⟨rfl,rfl⟩,⟨rfl,⟨rfl,rfl⟩,⟨rfl,rfl⟩,trivial,hs1,rfl,rfl,by show((j+1:Nat):Int)=(j:Int)+1;omega,trivial⟩,⟨⟨rfl,rfl,trivial⟩,trivial⟩,⟨⟨rfl,rfl,rfl,rfl,rfl,rfl,rfl,rfl,rfl,rfl,trivial⟩,trivial⟩,⟨.refl (mT _),mT _⟩,trivial⟩)<;>with_reducible refine wK ?_)
  |apply  trivial));all_goals clear fct)
       ·have hs1:(cu l (a7.take (j+1)):Int)=cu l (a7.take j):=by rw[hse',if_neg f1];rfl
        by_cases f2:b1=2
        ·by_cases e0:a1=0
         ·have hkk:(decide (b1=1)||decide (b1=2)&&decide (a1≠0))=false:=by simp[f2,e0]
          rw[hkk,Bool.false_and] at hok
          rw[hok,Bool.false_and]
          (have fct:=And.intro (eq_false f1) (And.intro f2 (e0));(repeat' (first
  |refine gF ?_|refine aE ?_ ?_
  |apply  trivial));all_goals clear fct)
         ·have hkk:(decide (b1=1)||decide (b1=2)&&decide (a1≠0))=true:=by simp[f2,e0]
          rw[hkk,Bool.true_and] at hok
          (have fct:=And.intro (eq_false f1) (And.intro f2 ((eq_false e0)));(repeat' (first
  |refine gF ?_|refine aE ?_ ?_
  |(((with_reducible show bZ _ _);refine bZ.mk (j+1) ⟨by omega,hok⟩ (by omega) ⟨⟨rfl,rfl⟩,⟨rfl,⟨rfl,rfl⟩,⟨rfl,rfl⟩,trivial,hs1,rfl,rfl,by show((j+1:Nat):Int)=(j:Int)+1;omega,trivial⟩,⟨⟨rfl,rfl,trivial⟩,trivial⟩,⟨⟨rfl,rfl,rfl,rfl,rfl,rfl,rfl,rfl,rfl,rfl,trivial⟩,trivial⟩,⟨.refl (mT _),mT _⟩,trivial⟩)<;>with_reducible refine wK ?_)
  |apply  trivial));all_goals clear fct)
        ·simp only[eq_false f1,eq_false f2,decide_false,Bool.false_and,Bool.or_false] at hok
         rw[hok,Bool.false_and]
         (have fct:=And.intro f1 (f2);(repeat' (first
  |refine gF ?_|refine aE ?_ ?_
  |apply trivial));all_goals clear fct)
      ·simp only[e6,eq_false e10,decide_true,decide_false,Bool.true_and,Bool.false_and] at hok
       rw[hok,Bool.false_and]
       (have fct:=And.intro e6 ((eq_false e10));(repeat' (first
  |refine gF ?_|refine aE ?_ ?_
  |((refine aN.mk i (aL _) rfl (ay hy) ?_)<;>with_reducible refine wK ?_)
  |apply trivial));all_goals clear fct)
     ·simp only[eq_false e6,decide_false,Bool.false_and] at hok
      rw[hok,Bool.false_and]
      (have fct:=(eq_false e6);(repeat' (first
  |refine gF ?_|refine aE ?_ ?_
  |((refine aN.mk i (aL _) rfl (ay hy) ?_)<;>with_reducible refine wK ?_)
  |apply trivial));all_goals clear fct)
 ·have hjl:j=a7.length:=by simp only[c9] at h1;omega
  rw[hjl,List.take_length,List.drop_length] at hok
  rw[hjl,List.take_length]
  rw[hok]
  simp only[kV,Bool.true_and]
  refine cL h56 EY ?_;with_reducible refine wK ?_
  by_cases e7:a7.length=0
  ·have e7':a7=[]:=List.eq_nil_of_length_eq_zero e7
   cases hh:eA a1 with
   | false=>
     by_cases e0:a1=0
     ·(have fct:=And.intro hh (And.intro e0 (And.intro e7 (hlm)));(repeat' (first
  |refine gF ?_|refine aE ?_ ?_
  |apply trivial));all_goals clear fct)
      all_goals first|(simp[hh,e0,e7'];done)|((try simp only[az]);simp[hh,e0,e7'];omega)
     ·(have fct:=And.intro hh (And.intro (eq_false e0) (And.intro e7 (hlm)));(repeat' (first
  |refine gF ?_|refine aE ?_ ?_
  | apply trivial));all_goals clear fct)
      all_goals first|(simp[hh,e0,e7'];done)|((try simp only[az]);simp[hh,e0,e7'];omega)
   | true=>
     by_cases e0:a1=0
     ·(have fct:=And.intro hh (And.intro e0 (And.intro e7 (hlm)));(repeat' (first
  |refine gF ?_|refine aE ?_ ?_
  |apply trivial));all_goals clear fct)
      all_goals first|(simp[hh,e0,e7'];done)|((try simp only[az]);simp[hh,e0,e7'];omega)
     ·(have fct:=And.intro hh (And.intro (eq_false e0) (And.intro e7 (hlm)));(repeat' (first
  |refine gF ?_|refine aE ?_ ?_
  |apply trivial));all_goals clear fct)
      all_goals first|(simp[hh,e0,e7'];done)|((try simp only[az]);simp[hh,e0,e7'];omega)
  ·have e7':¬a7=[]:=fun h=>e7 (by rw[h];rfl)
   cases hh:eA a1 with
   | false=>
     by_cases e0:a1=0
     ·(have fct:=And.intro hh (And.intro e0 (And.intro e7 (hlm)));(repeat' (first
  |refine gF ?_|refine aE ?_ ?_
  |apply trivial));all_goals clear fct)
      all_goals first|(simp[hh,e0,e7'];done)|((try simp only[az]);simp[hh,e0,e7'];omega)
     ·(have fct:=And.intro hh (And.intro (eq_false e0) (And.intro e7 (hlm)));(repeat' (first
  |refine gF ?_|refine aE ?_ ?_
  | apply trivial));all_goals clear fct)
      all_goals first|(simp[hh,e0,e7'];done)|((try simp only[az]);simp[hh,e0,e7'];omega)
   | true=>
     by_cases e0:a1=0
     ·(have fct:=And.intro hh (And.intro e0 (And.intro e7 (hlm)));(repeat' (first
  |refine gF ?_|refine aE ?_ ?_
  |apply trivial));all_goals clear fct)
      all_goals first|(simp[hh,e0,e7'];done)|((try simp only[az]);simp[hh,e0,e7'];omega)
     ·(have fct:=And.intro hh (And.intro (eq_false e0) (And.intro e7 (hlm)));(repeat' (first
  |refine gF ?_|refine aE ?_ ?_
  |apply trivial));all_goals clear fct)
      all_goals first|(simp[hh,e0,e7'];done)|((try simp only[az]);simp[hh,e0,e7'];omega)
end Go.Proofs.Heir
section
namespace Go.Proofs.Heir
open Go Go.Am Go.RowKit Go.Lib
set_option maxRecDepth 100000
set_option maxHeartbeats 8000000
def j3 (l:List ai):Nat→Int→Bool
 |0,_=>false
 |m+1,n=>if(nd l n).parent=-1 then true else j3 l m (nd l n).parent
def wq (l:List ai):Nat→Int→List Int
 |0,_=>[]
 |m+1,n=>n::if(nd l n).parent=-1 then[] else wq l m (nd l n).parent
def cm (l:List ai):Nat→Int→List Int
 |0,_=>[]
 |m+1,n=>n::(nd l n).kids.flatMap (cm l m)
def bL (l:List ai)(n:Int):List Int:=wq l l.length n
theorem iW {l:List ai}:∀ {m:Nat} {n:Int},gp l m n=true→j3 l m n=true
 |0,n,h=>by simp[gp] at h
 | m +1,n,h=>by
   unfold j3
   by_cases hp:(nd l n).parent=-1
   ·rw[if_pos hp]
   ·rw[if_neg hp]
    have hu:dJ (nd l n)=(nd l n).parent:=if_neg hp
    unfold gp at h
    rw[hu,if_neg hp] at h
    exact iW h
theorem vu (l:List ai):∀ (m:Nat) (n:Int),(wq l m n).length≤m
 |0,_=>Nat.le_refl _
 | m +1,n=>by
   unfold wq
   split
   ·simp
   ·have:=vu l m (nd l n).parent
    simp;omega
theorem qk {l:List ai}:∀ {m k:Nat} {n:Int},j3 l m n=true→m≤k→wq l k n=wq l m n
 |0,k,n,h,_=>by simp[j3] at h
 | m +1,k,n,h,hk=>by
   obtain⟨k,rfl⟩:∃j,k=j+1:=⟨k-1,by omega⟩
   unfold j3 at h
   unfold wq
   by_cases hp:(nd l n).parent=-1
   ·rw[if_pos hp,if_pos hp]
   ·rw[if_neg hp] at h
    rw[if_neg hp,if_neg hp,qk h (by omega)]
structure Tree (l:List ai):Prop where
 par:∀n,af l n=true→(nd l n).parent≠-1→af l (nd l n).parent=true∧n∈ (nd l (nd l n).parent).kids
 kid:∀n,af l n=true→∀k∈ (nd l n).kids,af l k=true∧(nd l k).parent=n
 dup:∀n,af l n=true→(nd l n).kids.Nodup
 fin:∀n,af l n=true→j3 l l.length n=true
 Je:∀n,af l n=true→gg (nd l n)=true
theorem bf {l:List ai}{n:Int}(h:af l n=true):0≤n∧n< (l.length:Int):=by
 unfold af at h;simpa using h
variable {l : List ai}
theorem iO (T:Tree l){P:Int→Prop}(h0:∀n,af l n=true→(nd l n).parent=-1→P n)(h1:∀n,af l n=true→(nd l n).parent≠-1→af l (nd l n).parent=true→P (nd l n).parent→P n):∀n,af l n=true→P n:=by
 have H:∀ (m:Nat) (n:Int),af l n=true→j3 l m n=true→P n:=by
  intro m
  induction m with
  |zero=>intro n _ h;simp[j3] at h
  | succ m ih=>
    intro n hn h
    unfold j3 at h
    by_cases hp:(nd l n).parent=-1
    ·exact h0 n hn hp
    ·rw[if_neg hp] at h
     have hq:=(T.par n hn hp).1
     exact h1 n hn hp hq (ih _ hq h)
 exact fun n hn=>H _ n hn (T.fin n hn)
theorem eJ (T:Tree l){n:Int}(hn:af l n=true)(hp:(nd l n).parent=-1):bL l n=[n]:=by
 have:=bf hn
 obtain⟨m,hm⟩:∃m,l.length=m+1:=⟨l.length-1,by omega⟩
 unfold bL;rw[hm];unfold wq;rw[if_pos hp]
theorem cn (T:Tree l){n:Int}(hn:af l n=true)(hp:(nd l n).parent≠-1):bL l n=n::bL l (nd l n).parent:=by
 have:=bf hn
 obtain⟨m,hm⟩:∃m,l.length=m+1:=⟨l.length-1,by omega⟩
 have hf:=T.fin n hn
 unfold bL;rw[hm] at hf ⊢
 unfold j3 at hf
 rw[if_neg hp] at hf
 rw[wq,if_neg hp,qk hf (Nat.le_succ m)]
theorem eM (T:Tree l){n k:Int}(hn:af l n=true)(hk:k∈ (nd l n).kids):bL l k=k::bL l n:=by
 have h:=T.kid n hn k hk
 have h0:=bf hn
 have hp:(nd l k).parent≠-1:=by rw[h.2];omega
 rw[cn T h.1 hp,h.2]
theorem eB (T:Tree l){n:Int}(hn:af l n=true):∃r,bL l n=n::r:=by
 by_cases hp:(nd l n).parent=-1
 ·exact⟨[],eJ T hn hp⟩
 ·exact⟨_,cn T hn hp⟩
theorem cI (T:Tree l){n:Int}(hn:af l n=true):n∈bL l n:=by
 obtain⟨r,hr⟩:=eB T hn;rw[hr];exact eS
theorem l9 (n:Int):(bL l n).length≤l.length:=vu l _ n
theorem jJ (T:Tree l):∀n,af l n=true→∀a∈bL l n,af l a=true:=by
 refine iO T (fun n hn hp a ha=>?_) (fun n hn hp hq ih a ha=>?_)
 ·rw[eJ T hn hp] at ha;rw[ic.1 ha];exact hn
 ·rw[cn T hn hp] at ha
  rcases dP.1 ha with rfl|h
  ·exact hn
  ·exact ih a h
theorem ik (T:Tree l):∀n,af l n=true→∀a∈bL l n,∃t,bL l n=t++bL l a:=by
 refine iO T (fun n hn hp a ha=>?_) (fun n hn hp hq ih a ha=>?_)
 ·have h:=ha;rw[eJ T hn hp] at h;rw[ic.1 h];exact⟨[],rfl⟩
 ·have h:=ha
  rw[cn T hn hp] at h
  rcases dP.1 h with rfl|h
  ·exact⟨[],rfl⟩
  ·obtain⟨t,ht⟩:=ih a h
   exact⟨n::t,by rw[cn T hn hp,ht];rfl⟩
theorem oy (T:Tree l){a b c:Int}(hc:af l c=true)(h1:a∈bL l b)(h2:b∈bL l c):a∈bL l c:=by
 obtain⟨t,ht⟩:=ik T c hc b h2
 rw[ht];exact List.mem_append_right _ h1
theorem Cz (T:Tree l){n a b:Int}(hn:af l n=true)(ha:a∈bL l n)(hb:b∈bL l n)(he:(bL l a).length=(bL l b).length):a=b:=by
 obtain⟨t,ht⟩:=ik T n hn a ha
 obtain⟨s,hs⟩:=ik T n hn b hb
 rw[ht] at hs
 have h:=(List.append_inj' hs he).2
 obtain⟨r,hr⟩:=eB T (jJ T n hn a ha)
 obtain⟨q,hq⟩:=eB T (jJ T n hn b hb)
 rw[hr,hq] at h
 exact(List.cons.inj h).1
theorem eP (T:Tree l):∀ (m:Nat) (n:Int),af l n=true→∀b∈cm l m n,af l b=true∧n∈bL l b
 |0,n,_,b,hb=>by simp[cm] at hb
 | m +1,n,hn,b,hb=>by
   unfold cm at hb
   rcases dP.1 hb with rfl|h
   ·exact⟨hn,cI T hn⟩
   ·obtain⟨k,hk,hbk⟩:=List.mem_flatMap.1 h
    have hkk:=T.kid n hn k hk
    obtain⟨h1,h2⟩:=eP T m k hkk.1 b hbk
    refine⟨h1,oy T h1 ?_ h2⟩
    rw[eM T hn hk]
    exact dQ _ (cI T hn)
theorem qQ (T:Tree l):∀ (m:Nat) (n:Int),af l n=true→l.length+1≤m+ (bL l n).length→∀x∈cm l m n,∀k∈ (nd l x).kids,k∈cm l m n
 |0,n,_,_,x,hx,_,_=>by simp[cm] at hx
 | m +1,n,hn,hm,x,hx,k,hk=>by
   unfold cm at hx ⊢
   refine dQ _ (List.mem_flatMap.2 ?_)
   rcases dP.1 hx with rfl|h
   ·have hkk:=T.kid x hn k hk
    have h1:=l9 (l:=l) k
    rw[eM T hn hk] at h1
    have h2:(bL l x).length+1≤l.length:=h1
    obtain⟨j,hj⟩:∃j,m=j+1:=⟨m-1,by omega⟩
    refine⟨k,hk,?_⟩
    rw[hj];unfold cm;exact eS
   ·obtain⟨c,hc,hxc⟩:=List.mem_flatMap.1 h
    have hcc:=T.kid n hn c hc
    refine⟨c,hc,qQ T m c hcc.1 ?_ x hxc k hk⟩
    rw[eM T hn hc];simp;omega
theorem yV (T:Tree l){m:Nat}{n:Int}(hn:af l n=true)(hm:l.length+1≤m+ (bL l n).length):∀b,af l b=true→n∈bL l b→b∈cm l m n:=by
 have hself:n∈cm l m n:=by
  have:=l9 (l:=l) n
  obtain⟨j,hj⟩:∃j,m=j+1:=⟨m-1,by omega⟩
  rw[hj];unfold cm;exact eS
 refine iO T (fun b hb hp h=>?_) (fun b hb hp hq ih h=>?_)
 ·rw[eJ T hb hp] at h;rw[←ic.1 h];exact hself
 ·rw[cn T hb hp] at h
  rcases dP.1 h with rfl|h
  ·exact hself
  ·exact qQ T m n hn hm _ (ih h) _ (T.par b hb hp).2
theorem vA (T:Tree l){n:Int}(hn:af l n=true):l.length+1≤l.length+ (bL l n).length:=by
 obtain⟨r,hr⟩:=eB T hn
 rw[hr];simp
theorem mL (T:Tree l){a b:Int}(ha:af l a=true)(hb:af l b=true):b∈cm l l.length a↔a∈bL l b:=
 ⟨fun h=>(eP T _ a ha b h).2,fun h=>yV T ha (vA T ha) b hb h⟩
theorem lu (T:Tree l):∀ (m:Nat) (n:Int),af l n=true→(cm l m n).Nodup
 |0,_,_=>List.nodup_nil
 | m +1,n,hn=>by
   unfold cm
   refine List.nodup_cons.2 ⟨fun h=>?_,?_⟩
   ·obtain⟨k,hk,hnk⟩:=List.mem_flatMap.1 h
    have hkk:=T.kid n hn k hk
    have h1:=(eP T m k hkk.1 n hnk).2
    obtain⟨t,ht⟩:=ik T n hn k h1
    have h2:=congrArg List.length ht
    rw[eM T hn hk] at h2
    simp at h2
    omega
   ·refine List.pairwise_flatMap.2 ⟨fun k hk=>lu T m k (T.kid n hn k hk).1,?_⟩
    refine List.Pairwise.imp_of_mem (fun{a b} ha hb hab x hx y hy e=>?_) (T.dup n hn)
    subst e
    have h1:=eP T m a (T.kid n hn a ha).1 x hx
    have h2:=eP T m b (T.kid n hn b hb).1 x hy
    refine hab (Cz T h1.1 h1.2 h2.2 ?_)
    rw[eM T hn ha,eM T hn hb];rfl
theorem wR:∀ (s t:List Int),t.Nodup→(∀x∈t,x∈s)→t.length≤s.length
 | [],t,_,h=>by
   cases t with
   |nil=>exact Nat.le_refl _
   |cons a r=>exact absurd (h a eS) (by simp)
 | a::s,t,hd,h=>by
   have h1:=wR s (t.erase a) (hd.erase a) (fun x hx=>by
   have h2:=(hd.mem_erase_iff).1 hx
   rcases dP.1 (h x h2.2) with e|e
   ·exact absurd e h2.1
   ·exact e)
   have h3:t.length≤ (t.erase a).length+1:=by rw[List.length_erase];split<;>omega
   simp;omega
theorem qm {t:List Int}{n:Nat}(hd:t.Nodup)(h:∀x∈t,0≤x∧x< (n:Int)):t.length≤n:=by
 have:=wR ((List.range n).map (fun k:Nat=>(k:Int))) t hd (fun x hx=>by
  have:=h x hx
  exact List.mem_map.2 ⟨x.toNat,List.mem_range.2 (by omega),by omega⟩)
 simpa using this
theorem tE (T:Tree l)(m:Nat){n:Int}(hn:af l n=true):(cm l m n).length≤l.length:=
 qm (lu T m n hn) fun x hx=>bf (eP T m n hn x hx).1
def AB (l:List ai)(n:Int)(x:ai)(c:Int):Bool:=
 af l c&&(decide ((nd l c).parent=n)&&(decide ((nd l c).doc=x.doc)&&(decide ((nd l c).kind=1)||(decide ((nd l c).kind=2)&&decide (x.kind≠0)))))
theorem my {n:Int}{x:ai}:∀ {cs pre:List Int},kV l n x pre cs=true↔ (∀c∈cs,AB l n x c=true)∧cs.Nodup∧(∀c∈cs,c∉pre)
 |[],pre=>by simp[kV]
 | a ::r,pre=>by
   have hk:Aw l n x pre a=true↔AB l n x a=true∧a∉pre:=by
    unfold Aw AB gR
    simp only[bO,kg,bE,Bool.not_eq_true',c9]
    constructor
    ·rintro⟨⟨⟨⟨h1,h2⟩,h3⟩,h4⟩,h5⟩;exact⟨⟨h1,h3,h4,h5⟩,h2⟩
    ·rintro⟨⟨h1,h3,h4,h5⟩,h2⟩;exact⟨⟨⟨⟨h1,h2⟩,h3⟩,h4⟩,h5⟩
   unfold kV
   rw[bO,hk,my,List.nodup_cons]
   constructor
   ·rintro⟨⟨h1,h2⟩,h3,h4,h5⟩
    refine⟨fun c hc=>?_,⟨fun h=>?_,h4⟩,fun c hc=>?_⟩
    ·rcases dP.1 hc with rfl|h
     ·exact h1
     ·exact h3 c h
    ·exact h5 a h (by simp)
    ·rcases dP.1 hc with rfl|h
     ·exact h2
     ·exact fun h6=>h5 c h (List.mem_append_left _ h6)
   ·rintro⟨h1,⟨h2,h3⟩,h4⟩
    refine⟨⟨h1 a eS,h4 a eS⟩,fun c hc=>h1 c (dQ _ hc),h3,fun c hc h=>?_⟩
    rcases List.mem_append.1 h with h|h
    ·exact h4 c (dQ _ hc) h
    ·rw[ic] at h;subst h;exact h2 hc
theorem sU {f:ForM}(h:bw f=true):∀n,af f.nodes n=true→dM f.nodes n (nd f.nodes n)=true:=by
 intro n hn
 obtain⟨k,x,rfl,hk,hx⟩:=aW.1 hn
 unfold bw at h
 simp only[bO] at h
 have:=jG.1 h.2.1 k x hk
 rw[hx];simpa using this
theorem uX {f:ForM}(h:bw f=true):∀n,af f.nodes n=true→gp f.nodes f.nodes.length n=true:=by
 intro n hn
 obtain⟨k,x,rfl,hk,hx⟩:=aW.1 hn
 unfold bw at h
 simp only[bO] at h
 simpa using jG.1 h.2.2 k x hk
theorem jx {f:ForM}(h:bw f=true):Tree f.nodes:=by
 have hN:=sU h
 have hB:∀n,af f.nodes n=true→(∀c∈ (nd f.nodes n).kids,AB f.nodes n (nd f.nodes n) c=true)∧(nd f.nodes n).kids.Nodup:=by
  intro n hn
  have h1:=hN n hn
  unfold dM o3 at h1
  simp only[bO] at h1
  have:=my.1 h1.2.2.2.1.1
  exact⟨this.1,this.2.1⟩
 refine⟨fun n hn hp=>?_,fun n hn k hk=>?_,fun n hn=>(hB n hn).2,fun n hn=>iW (uX h n hn),fun n hn=>?_⟩
 ·have h1:=hN n hn
  unfold dM s4 at h1
  simp only[bO,kg,bE] at h1
  rcases h1.2.2.1 with h2|h2
  ·exact absurd h2 hp
  ·refine⟨h2.1.1.2,?_⟩
   have:=h2.2
   unfold gR at this;simpa using this
 ·have h1:=(hB n hn).1 k hk
  unfold AB at h1
  simp only[bO,bE] at h1
  exact⟨h1.1,h1.2.1⟩
 ·have h1:=hN n hn
  unfold dM at h1
  simp only[bO] at h1
  exact h1.1
end Go.Proofs.Heir
end
section
namespace Go.Proofs.Heir
open Go Go.Am Go.RowKit Go.Lib
set_option maxRecDepth 100000
set_option maxHeartbeats 8000000
variable {l : List ai}
theorem BF (T:Tree l){n:Int}(hn:af l n=true):(nd l n).kind=1∨((nd l n).kind≠1∧(nd l n).name=⟨#[]⟩∧(nd l n).attrs=[]):=by
 have h:=T.Je n hn
 unfold gg at h
 by_cases e1:(nd l n).kind=1
 ·exact .inl e1
 ·right
  rw[if_neg e1] at h
  refine⟨e1,?_⟩
  split at h
  ·simp only[bO,bE] at h
   exact⟨h.1.1.2,h.2⟩
  ·split at h
   ·simp only[bO,bE] at h
    exact⟨h.1.1.1,h.2⟩
   ·cases h
end Go.Proofs.Heir
end
section
namespace Go.Proofs.Heir
open Go Go.Am Go.RowKit Go.Lib
set_option maxRecDepth 100000
set_option maxHeartbeats 8000000
def gu (g:Int→Int):Nat→Int→Bool
 |0,_=>false
 |m+1,n=>if g n=-1 then true else gu g m (g n)
def tD (g:Int→Int):Nat→Int→List Int
 |0,_=>[]
 |m+1,n=>n::if g n=-1 then[] else tD g m (g n)
theorem Az {g:Int→Int}:∀ {m k:Nat} {n:Int},gu g m n=true→m≤k→tD g k n=tD g m n∧gu g k n=true
 |0,k,n,h,_=>by simp[gu] at h
 | m +1,k,n,h,hk=>by
   obtain⟨k,rfl⟩:∃j,k=j+1:=⟨k-1,by omega⟩
   unfold gu at h ⊢
   unfold tD
   by_cases hp:g n=-1
   ·rw[if_pos hp,if_pos hp,if_pos hp];exact⟨rfl,rfl⟩
   ·rw[if_neg hp] at h
    rw[if_neg hp,if_neg hp,if_neg hp,(Az h (Nat.le_of_succ_le_succ hk)).1]
    exact⟨rfl,(Az h (Nat.le_of_succ_le_succ hk)).2⟩
theorem Ns {g:Int→Int}:∀ {m:Nat} {n a:Int},gu g m n=true→a∈tD g m n→gu g m a=true∧∃t,tD g m n=t++tD g m a
 |0,n,a,h,_=>by simp[gu] at h
 | m + 1,n,a,h,ha=>by
   by_cases e:a=n
   ·subst e;exact⟨h,[],rfl⟩
   ·unfold gu at h
    unfold tD at ha
    by_cases hp:g n=-1
    ·rw[if_pos hp] at ha;exact absurd (ic.1 ha) e
    ·rw[if_neg hp] at h ha
     rcases dP.1 ha with h1|h1
     ·exact absurd h1 e
     ·obtain⟨h2,t,ht⟩:=Ns h h1
      have h3:=Az h2 (Nat.le_succ m)
      refine⟨h3.2,n::t,?_⟩
      rw[show m.succ=m+1 from rfl] at h3
      rw[h3.1,tD,if_neg hp,ht];rfl
theorem OE {g:Int→Int}:∀ {m:Nat} {n:Int},gu g m n=true→(tD g m n).Nodup
 |0,n,h=>by simp[gu] at h
 | m +1,n,h=>by
   have h0:=h
   unfold gu at h
   unfold tD
   by_cases hp:g n=-1
   ·rw[if_pos hp];simp
   ·rw[if_neg hp] at h ⊢
    refine List.nodup_cons.2 ⟨fun hin=>?_,OE h⟩
    obtain⟨h2,t,ht⟩:=Ns h hin
    have h3:=(Az h2 (Nat.le_succ m)).1
    rw[show m.succ=m+1 from rfl,tD,if_neg hp,ht] at h3
    have:=congrArg List.length h3
    simp at this
    omega
theorem NZ {g:Int→Int}:∀ {m k:Nat} {n:Int},gu g m n=true→(tD g m n).length≤k→gu g k n=true
 |0,k,n,h,_=>by simp[gu] at h
 |m+1,0,n,_,hk=>by unfold tD at hk;simp at hk
 | m +1,k+1,n,h,hk=>by
   unfold gu at h ⊢
   unfold tD at hk
   by_cases hp:g n=-1
   ·rw[if_pos hp]
   ·rw[if_neg hp] at h hk ⊢
    exact NZ h (by simp at hk;omega)
theorem PR {g:Int→Int}{P:Int→Prop}(hg:∀n,P n→g n≠-1→P (g n)):∀ {m:Nat} {n:Int},P n→∀a∈tD g m n,P a
 |0,n,_,a,ha=>by simp[tD] at ha
 | m +1,n,hn,a,ha=>by
   unfold tD at ha
   rcases dP.1 ha with rfl|h
   ·exact hn
   ·by_cases hp:g n=-1
    ·rw[if_pos hp] at h;simp at h
    ·rw[if_neg hp] at h
     exact PR hg (hg n hn hp) a h
theorem ji (l:List ai):∀ (m:Nat) (n:Int),gp l m n=gu (fun n=>dJ (nd l n)) m n
 |0,_=>rfl
 |m+1,n=>by unfold gp gu;rw[ji l m]
def LB (x:ai):Bool:=
 if x.kind=1 then cj x.name&&decide (cH x.name=x.name)&&(decide (x.is=⟨#[]⟩)||kM x.is)&&decide (x.data=⟨#[]⟩)&&dH x.attrs
 else decide (x.name=⟨#[]⟩)&&decide (x.is=⟨#[]⟩)&&decide (x.attrs=[])&&(decide (x.data=⟨#[]⟩)||(decide (x.kind=2)&&decide (x.data.size≤200)))
theorem CL {x:ai}:gg x=true↔ (0≤x.kind∧x.kind≤4)∧LB x=true:=by
 unfold gg LB
 by_cases e1:x.kind=1
 ·rw[if_pos e1,if_pos e1]
  exact⟨fun h=>⟨by omega,h⟩,fun h=>h.2⟩
 ·rw [if_neg e1,if_neg e1]
  by_cases e2:x.kind=2
  ·rw[if_pos e2]
   simp only[bO,kg,bE]
   constructor
   ·rintro⟨⟨⟨h1,h2⟩,h3⟩,h4⟩
    exact⟨by omega,⟨⟨h2,h3⟩,h4⟩,.inr ⟨e2,h1⟩⟩
   ·rintro⟨_,⟨⟨h2,h3⟩,h4⟩,h5⟩
    refine⟨⟨⟨?_,h2⟩,h3⟩,h4⟩
    rcases h5 with h|h
    ·rw[h];exact Nat.zero_le _
    ·exact h.2
  ·rw [if_neg e2]
   by_cases e3:x.kind=0∨x.kind=3∨x.kind=4
   ·rw[if_pos e3]
    simp only[bO,kg,bE]
    constructor
    ·rintro⟨⟨⟨h1,h2⟩,h3⟩,h4⟩
     exact⟨by omega,⟨⟨h1,h2⟩,h4⟩,.inl h3⟩
    ·rintro⟨_,⟨⟨h1,h2⟩,h4⟩,h3|h3⟩
     ·exact⟨⟨⟨h1,h2⟩,h3⟩,h4⟩
     ·exact absurd h3.1 e2
   ·rw[if_neg e3]
    constructor
    ·intro h;cases h
    ·rintro⟨h,_⟩;omega
variable {l : List ai}
theorem Jl (h:∀n,af l n=true→dM l n (nd l n)=true):∀n,af l n=true→dJ (nd l n)=-1∨af l (dJ (nd l n))=true:=by
 intro n hn
 have h0:=h n hn
 unfold dM at h0
 simp only[bO] at h0
 obtain⟨_,_,hH,_,hS⟩:=h0
 unfold dJ
 unfold s4 at hH
 simp only[bO,kg,bE] at hH
 by_cases e:(nd l n).parent=-1
 ·rw[if_pos e]
  unfold kJ at hS
  rw[bO] at hS
  by_cases e4:(nd l n).kind=4
  ·rw[if_pos e4] at hS
   unfold kR at hS
   simp only[bO] at hS
   exact .inr hS.1.1.1.1
  ·rw[if_neg e4] at hS
   exact .inl (by simpa using hS.1)
 ·rw[if_neg e]
  rcases hH with h|h
  ·exact absurd h e
  ·exact .inr h.1.1.2
theorem wN (p:Int→ai→Bool):oQ (fun k x=>p k x) 0 l=true↔ ∀n,af l n=true→p n (nd l n)=true:=by
 rw[jG]
 constructor
 ·intro h n hn
  obtain⟨k,x,rfl,hk,hx⟩:=aW.1 hn
  have:=h k x hk
  rw[hx];simpa using this
 ·intro h k x hk
  have:=h k (eH hk)
  rw[cF hk] at this
  simpa using this
end Go.Proofs.Heir
end
namespace Go.Proofs.Heir
open Go Go.Am Go.RowKit Go.Lib
set_option maxRecDepth 100000
set_option maxHeartbeats 8000000
theorem Ba {α:Type}{p:Nat→α→Bool}{l:List α}{k:Nat}{x:α}(h:l[k]? =some x)(hp:p k x=false):oQ p 0 l=false:=by
 rw[Bool.eq_false_iff]
 intro h1
 have:=jG.1 h1 k x h
 rw[Nat.zero_add,hp] at this
 cases this
theorem wO {α:Type}{p:Nat→α→Bool}{l:List α}(h:∀k x,l[k]? =some x→p k x=true):oQ p 0 l=true:=
 jG.2 fun k x hx=>by rw[Nat.zero_add];exact h k x hx
theorem LS (f:ForM)(hs:bC f.nodes):aj Tryz.prog 55 [] [aR f] [] (bG (bw f)):=by
 have hl:=hs.len
 have h38:∀x∈f.nodes,aj Tryz.prog 115 [] [aL x] [] (bG (gg x)):=fun x hx=>Jz x (by have:=hs.attrs x hx;omega)
 have h39:=Jv f
 have h40:=Ke f hs
 have h41:=Ki f hs
 have h42:=Kt f
 have h43:(∀n,af f.nodes n=true→dM f.nodes n (nd f.nodes n)=true)→∀k,k<f.nodes.length→aj Tryz.prog 120 [] [aR f,ah k] [] (bG (gp f.nodes f.nodes.length k)):=fun hN k hk=>JT f (by omega) (fun k x hx=>by have:=Jl hN k (eH hx);rwa [cF hx] at this) k hk
 obtain⟨l,m⟩:=f
 unfold bw me
 simp only at hl h38 h39 h40 h41 h42 h43 ⊢
 have hlm:(l.map bM).length=l.length:=bN ..
 refine aj.aD (rvs:=[.tmp 2]) G au Tryz.func55 rfl Tryz.ntmps55 rfl rfl ?_;with_reducible refine wD ?_
 by_cases e1:m<1
 ·have c1:decide (1≤m)=false:=dy (by omega)
  rw[c1]
  (have fct:=e1;(repeat' (first
  |refine gF ?_|refine aE ?_ ?_
  |apply trivial));all_goals clear fct)
  all_goals simp
 by_cases e2:400<m
 ·have c1:decide (m≤400)=false:=dy (by omega)
  rw[c1]
  (have fct:=And.intro (eq_false e1) (e2);(repeat' (first
  |refine gF ?_|refine aE ?_ ?_
  |apply trivial));all_goals clear fct)
  all_goals simp
 by_cases e3:l.length<1
 ·have c1:decide (1≤l.length)=false:=dy (by omega)
  have e3':(l.length:Int)<1:=by omega
  rw[c1]
  (have fct:=And.intro (eq_false e1) (And.intro (eq_false e2) (And.intro hlm (e3')));(repeat' (first
  |refine gF ?_|refine aE ?_ ?_
  |apply trivial));all_goals clear fct)
  all_goals simp
 have e3':¬ (l.length:Int)<1:=by omega
 by_cases e4:m< (l.length:Int)
 ·have c1:decide ((l.length:Int)≤m)=false:=dy (by omega)
  rw[c1]
  (have fct:=And.intro (eq_false e1) (And.intro (eq_false e2) (And.intro hlm (And.intro (eq_false e3') (e4))));(repeat' (first
  |refine gF ?_|refine aE ?_ ?_
  |apply trivial));all_goals clear fct)
  all_goals simp
 obtain⟨x0,hx0⟩:∃x,l[0]? =some x:=⟨_,bA (by omega)⟩
 have hn0:nd l 0=x0:=cF (k:=0) hx0
 rw[hn0]
 obtain⟨z1,z2,z3,z4,z5,z6,z7,z8,z9,z10⟩:=x0
 by_cases e5:¬z1=0
 ·(have fct:=And.intro (eq_false e1) (And.intro (eq_false e2) (And.intro hlm (And.intro (eq_false e3') (And.intro (eq_false e4) ((eq_false e5))))));(repeat' (first
  |refine gF ?_|refine aE ?_ ?_
  |((refine aN.mk 0 (aL ⟨z1,z2,z3,z4,z5,z6,z7,z8,z9,z10⟩) rfl (ay hx0) ?_)<;>with_reducible refine wK ?_)
  |apply trivial));all_goals clear fct)
  all_goals simp[e5]
 have e5:=Decidable.not_not.1 e5
 have c1:(decide (1≤m)&&decide (m≤400)&&decide (1≤l.length)&&decide ((l.length:Int)≤m)&&decide (z1=0))=true:=by
  simp only[bO,bE];omega
 simp only at c1 ⊢
 rw[c1,Bool.true_and]
 (have fct:=And.intro (eq_false e1) (And.intro (eq_false e2) (And.intro hlm (And.intro (eq_false e3') (And.intro (eq_false e4) (e5)))));(repeat' (first
  |refine gF ?_|refine aE ?_ ?_
  |((refine aN.mk 0 (aL ⟨z1,z2,z3,z4,z5,z6,z7,z8,z9,z10⟩) rfl (ay hx0) ?_)<;>with_reducible refine wK ?_)
  |apply trivial));all_goals clear fct)
 refine bW.use G au (fun(k:Nat)=>[(1,.ptr 10 0 0),(44,rT l),(45,ah l.length),(46,ah k)]) (fun _=>[(10,.live 2 [aR ⟨l,m⟩] false)])
  (fun k=>k≤l.length∧∀j x,j<k→l[j]? =some x→dM l j x=true) (fun k=>l.length-k) 0 ⟨Nat.zero_le _,fun j x h=>by omega⟩
  ⟨⟨rfl,rfl⟩,⟨⟨rfl,rfl⟩,rfl,by show(l.length:Int)=((l.map bM).length:Int);rw[hlm],rfl,trivial⟩,⟨⟨rfl,rfl,trivial⟩,trivial⟩,trivial⟩ ?_
 rintro k ⟨hk,hok⟩
 with_reducible refine wK ?_
 refine bq.mk (fun g1=>?_) (fun g1=>?_)<;>(try simp only[az] at g1)<;>with_reducible refine wK ?_
 ·have hk' : k<l.length:=by simp only[bE] at g1;omega
  obtain⟨x,hx⟩:∃x,l[k]? =some x:=⟨_,bA hk'⟩
  have h38':=h38 x (bV hx)
  have h39':=h39 k x hx
  have h40':=h40 k x hx
  have h41':=h41 k x hx
  have h42':=h42 k x hx
  have bad:dM l k x=false→oQ (fun k x=>dM l k x) 0 l=false:=fun h=>Ba hx h
  have good:dM l k x=true→∀j y,j<k+1→l[j]? =some y→dM l j y=true:=fun h j y hj hy=>by
   rcases Nat.lt_or_ge j k with h6|h6
   ·exact hok j y h6 hy
   ·have:j=k:=by omega
    subst this
    rw[hx] at hy;cases hy;exact h
  obtain⟨a1,a2,a3,a4,a5,a6,a7,a8,a9,a10⟩:=x
  refine aN.mk k (aL _) rfl (ay hx) ?_;with_reducible refine wK ?_
  cases q1:gg ⟨a1,a2,a3,a4,a5,a6,a7,a8,a9,a10⟩ with
  | false=>
    rw[bad (by unfold dM;rw[q1];rfl),Bool.false_and]
    (have fct:=q1;(repeat' (first
  |refine gF ?_|refine aE ?_ ?_
  |(((with_reducible refine kQ 115 ?_);refine cL h38' CT ?_)<;>with_reducible refine wK ?_)
  |apply trivial));all_goals clear fct)
  | true=>
    cases q2:ug l k ⟨a1,a2,a3,a4,a5,a6,a7,a8,a9,a10⟩ with
    | false=>
      rw[bad (by unfold dM;rw[q1,q2];rfl),Bool.false_and]
      (have fct:=And.intro q1 (q2);(repeat' (first
  |refine gF ?_|refine aE ?_ ?_
  | ((first
   |((with_reducible refine kQ 115 ?_);refine cL h38' CT ?_)
   |((with_reducible refine kQ 116 ?_);refine cL h39' Fe ?_))<;>with_reducible refine wK ?_)
  | apply trivial));all_goals clear fct)
    | true=>
      cases q3:s4 l k ⟨a1,a2,a3,a4,a5,a6,a7,a8,a9,a10⟩ with
      | false=>
        rw[bad (by unfold dM;rw[q1,q2,q3];rfl),Bool.false_and]
        (have fct:=And.intro q1 (And.intro q2 (q3));(repeat' (first
  |refine gF ?_|refine aE ?_ ?_
  | ((first
   |((with_reducible refine kQ 115 ?_);refine cL h38' CT ?_)
   |((with_reducible refine kQ 116 ?_);refine cL h39' Fe ?_)
   |((with_reducible refine kQ 117 ?_);refine cL h40' I8 ?_))<;>with_reducible refine wK ?_)
  |apply  trivial));all_goals clear fct)
      | true=>
        cases q4:o3 l k ⟨a1,a2,a3,a4,a5,a6,a7,a8,a9,a10⟩ with
        | false=>
          rw[bad (by unfold dM;rw[q1,q2,q3,q4];rfl),Bool.false_and]
          (have fct:=And.intro q1 (And.intro q2 (And.intro q3 (q4)));(repeat' (first
  |refine gF ?_|refine aE ?_ ?_
  | ((first
   |((with_reducible refine kQ 115 ?_);refine cL h38' CT ?_)
   |((with_reducible refine kQ 116 ?_);refine cL h39' Fe ?_)
   |((with_reducible refine kQ 117 ?_);refine cL h40' I8 ?_)
   |((with_reducible refine kQ 118 ?_);refine cL h41' Kx ?_))<;>with_reducible refine wK ?_)
  |apply  trivial));all_goals clear fct)
        | true=>
          cases q5:kJ l k ⟨a1,a2,a3,a4,a5,a6,a7,a8,a9,a10⟩ with
          | false=>
            rw[bad (by unfold dM;rw[q1,q2,q3,q4,q5];rfl),Bool.false_and]
            (have fct:=And.intro q1 (And.intro q2 (And.intro q3 (And.intro q4 (q5))));(repeat' (first
  |refine gF ?_|refine aE ?_ ?_
  | ((first
   |((with_reducible refine kQ 115 ?_);refine cL h38' CT ?_)
   |((with_reducible refine kQ 116 ?_);refine cL h39' Fe ?_)
   |((with_reducible refine kQ 117 ?_);refine cL h40' I8 ?_)
   |((with_reducible refine kQ 118 ?_);refine cL h41' Kx ?_)
   |((with_reducible refine kQ 119 ?_);refine cL h42' Md ?_))<;>with_reducible refine wK ?_)
  |apply  trivial));all_goals clear fct)
          | true=>
            have hnx:=good (by unfold dM;rw[q1,q2,q3,q4,q5];rfl)
            (have fct:=And.intro q1 (And.intro q2 (And.intro q3 (And.intro q4 (q5))));(repeat' (first
  |refine gF ?_|refine aE ?_ ?_
  | ((first
   |((with_reducible refine kQ 115 ?_);refine cL h38' CT ?_)
   |((with_reducible refine kQ 116 ?_);refine cL h39' Fe ?_)
   |((with_reducible refine kQ 117 ?_);refine cL h40' I8 ?_)
   |((with_reducible refine kQ 118 ?_);refine cL h41' Kx ?_)
   |((with_reducible refine kQ 119 ?_);refine cL h42' Md ?_)
   |((with_reducible show bZ _ _);refine bZ.mk (k+1) ⟨by omega,hnx⟩ (by omega) ⟨⟨rfl,rfl⟩,⟨⟨rfl,rfl⟩,rfl,rfl,by show((k+1:Nat):Int)=(k:Int)+1;omega,trivial⟩,⟨⟨rfl,rfl,trivial⟩,trivial⟩,trivial⟩))<;>with_reducible refine wK ?_)
  |apply trivial));all_goals clear fct)
 ·have hkl:k=l.length:=by simp only[c9] at g1;omega
  have hall:∀ (j:Nat) (x:ai),l[j]? =some x→dM l j x=true:=fun j x hx=>hok j x (by have:=(bj hx).1;omega) hx
  rw[wO hall,Bool.true_and]
  have h43':=h43 fun n hn=>by
   obtain⟨k,x,rfl,hk,hx⟩:=aW.1 hn
   rw[hx];exact hall k x hk
  refine bW.use G au (fun(k:Nat)=>[(1,.ptr 10 0 0),(82,ah l.length),(83,ah k)]) (fun _=>[(10,.live 2 [aR ⟨l,m⟩] false)])
   (fun k=>k≤l.length∧∀ (j:Nat) (x:ai),j<k→l[j]? =some x→gp l l.length j=true) (fun k=>l.length-k) 0 ⟨Nat.zero_le _,fun j x h=>by omega⟩
   ⟨⟨rfl,rfl⟩,⟨⟨rfl,rfl⟩,by show(l.length:Int)=((l.map bM).length:Int);rw[hlm],rfl,trivial⟩,⟨⟨rfl,rfl,trivial⟩,trivial⟩,trivial⟩ ?_
  rintro i ⟨hi,hends⟩
  with_reducible refine wK ?_
  refine bq.mk (fun g2=>?_) (fun g2=>?_)<;>(try simp only[az] at g2)<;>with_reducible refine wK ?_
  ·have hi':i<l.length:=by simp only[bE] at g2;omega
   obtain⟨y,hy⟩:∃y,l[i]? =some y:=⟨_,bA hi'⟩
   have h43'':=h43' i hi'
   refine cL h43'' Ox ?_;with_reducible refine wK ?_
   cases q:gp l l.length i with
   | false=>
     rw[Ba hy q]
     (have fct:=q;(repeat' (first
  |refine gF ?_|refine aE ?_ ?_
  | apply trivial));all_goals clear fct)
   | true=>
     (have fct:=q;(repeat' (first
  |refine gF ?_|refine aE ?_ ?_
  |(((with_reducible show bZ _ _);refine bZ.mk (i+1) ⟨by omega,fun j x hj hx=>?_⟩ (by omega) ⟨⟨rfl,rfl⟩,⟨⟨rfl,rfl⟩,rfl,by show((i+1:Nat):Int)=(i:Int)+1;omega,trivial⟩,⟨⟨rfl,rfl,trivial⟩,trivial⟩,trivial⟩)<;>with_reducible refine wK ?_)
  |apply trivial));all_goals clear fct)
     rcases Nat.lt_or_ge j i with h6|h6
     ·exact hends j x h6 hx
     ·have:j=i:=by omega
      rw[this];exact q
  ·have hil:i=l.length:=by simp only[c9] at g2;omega
   rw[wO fun j x hx=>hends j x (by have:=(bj hx).1;omega) hx]
   (refine eK ?_ ?_<;>with_reducible repeat' (first|exact trivial|(show _∧_;refine aK ?_ ?_)))
theorem o4 (f:ForM)(hs:bC f.nodes):aj Tryz.prog 17 [] [aR f] [] (bG (bw f)):=by
 have h23:=LS f hs
 obtain⟨l,m⟩:=f
 refine aj.aD (rvs:=[.tmp 2]) G au Tryz.func17 rfl Tryz.ntmps17 rfl rfl ?_;with_reducible refine wD ?_
 refine cL h23 PO ?_;with_reducible refine wK ?_
 (refine eK ?_ ?_<;>with_reducible repeat' (first|exact trivial|(show _∧_;refine aK ?_ ?_)))
theorem aa (l:List Int):bu (l.map bt)=true:=by
 rw[c7];intro x hx
 obtain⟨a,_,rfl⟩:=List.mem_map.1 hx
 rfl
theorem fA (l:List Int):jP (flat (l.map bt))=true:=nD bt (fun _=>rfl) l
theorem bY {m:ML}{fz:Nat→Bool}{tab:List (Nat×Nat)}{n t len:Nat}{ro:Bool}{rows:List AV}{l:List Int}(h1:eG m t=.live 1 rows ro)(h2:fz t=true)(h3:rows=l.map bt)(h4:len=l.length):zm m fz (MF tab fz m n) (cq l) t 0 len:=by
 subst h3;subst h4
 have e:(l.map bt).length=l.length:=bN ..
 exact .cut h1 h2 (by omega) (by rw[List.drop_zero,sn (by omega)]) (aa l)
@[reducible] def jR (l : List Int) : MS := .live 1 (l.map bt) false
theorem Ct {l:List Int}{n c:Int}{k:Nat}(h:l[k]? =some c):(l.take (k+1)).count n=(l.take k).count n+if c=n then 1 else 0:=by
 rw[mD h,List.count_append,List.count_singleton]
 by_cases e:c=n<;>simp[e]
theorem uG (l:List Int)(hl:l.length≤100000)(n:Int):aj Tryz.prog 31 [] [cq l,ah n] [] (ah (l.count n)):=by
 have hlm:(l.map bt).length=l.length:=bN ..
 refine aj.aD (rvs:=[.tmp 4]) G au Tryz.func31 rfl Tryz.ntmps31 rfl rfl ?_;with_reducible refine wD ?_
 refine bW.use G au (fun(k:Nat)=>[(0,cq l),(1,ah n),(5,ah ((l.take k).count n)),(6,ah k)]) (fun _=>[]) (fun k=>k≤l.length) (fun k=>l.length-k) 0 (Nat.zero_le _)
  ⟨⟨rfl,rfl⟩,⟨rfl,rfl,rfl,rfl,trivial⟩,trivial⟩ ?_
 rintro k hk
 with_reducible refine wK ?_
 refine bq.mk (fun h1=>?_) (fun h1=>?_)<;>(try simp only[az] at h1)<;>with_reducible refine wK ?_
 ·have hk':k<l.length:=by simp only[bE] at h1;omega
  obtain⟨c,hc⟩:∃a,l[k]? =some a:=⟨_,bA hk'⟩
  have hst:=Ct (n:=n) hc
  have hle:(l.take k).count n≤k:=Nat.le_trans List.count_le_length (by simp;omega)
  refine aN.mk k (ah c) rfl (cR hc) ?_;with_reducible refine wK ?_
  by_cases e:c=n
  ·rw[if_pos e] at hst
   (have fct:=e;(repeat' (first
  |refine gF ?_|refine aE ?_ ?_
  |(((with_reducible show bZ _ _);refine bZ.mk (k+1) (by omega) (by omega) ⟨⟨rfl,rfl⟩,⟨rfl,rfl,by show(((l.take (k+1)).count n:Nat):Int)=_;rw[hst];rfl,by show((k+1:Nat):Int)=(k:Int)+1;omega,trivial⟩,trivial⟩)<;>with_reducible refine wK ?_)
  |apply trivial));all_goals clear fct)
  ·rw[if_neg e] at hst
   (have fct:=(eq_false e);(repeat' (first
  |refine gF ?_|refine aE ?_ ?_
  |(((with_reducible show bZ _ _);refine bZ.mk (k+1) (by omega) (by omega) ⟨⟨rfl,rfl⟩,⟨rfl,rfl,by show(((l.take (k+1)).count n:Nat):Int)=_;rw[hst];simp,by show((k+1:Nat):Int)=(k:Int)+1;omega,trivial⟩,trivial⟩)<;>with_reducible refine wK ?_)
  |apply trivial));all_goals clear fct)
 ·(refine eK ?_ ?_<;>with_reducible repeat' (first|exact trivial|(show _∧_;refine aK ?_ ?_)))
  have:k=l.length:=by simp only[c9] at h1;omega
  rw[this,List.take_length]
@[reducible] def cJ (l : List ai) : MS := .live 10 (l.map bM) false
@[reducible] def aP (most : Int) (n : Nat) (t : Nat) (notes : AV) : MS := .live 3 [.agg [.own t 0 n, ah most, notes]] false
theorem Be (x:ai):bD (bM x)=true:=by
  show bD (.agg [ah x.kind,bX x.name,bX x.is,bX x.data,cV x.attrs,ah x.parent,cq x.kids,ah x.host,ah x.under,ah x.doc])=true
  have h1:bu (x.attrs.map dg)=true:=iJ dg (fun _=>rfl) _
  have h2:bu (x.kids.map bt)=true:=iJ bt (fun _=>rfl) _
  simp[bD,bu,h1,h2]
theorem aM (l:List ai):bu (l.map bM)=true:=iJ bM Be l
theorem vJ (l:List ai):jX [cJ l]:=⟨bJ.jk fun x hx=>by
  obtain⟨a,_,rfl⟩:=List.mem_map.1 hx;rfl,aM l,trivial⟩
theorem Fv (l:List ai):jP (flat (l.map bM))=true:=nD bM (fun _=>rfl) l
theorem As (l:List ai)(hl:l.length≤100000):aj Tryz.prog 137 [] [rT l] [cJ l] (.own 0 0 l.length):=by
  have hlm:(l.map bM).length=l.length:=bN ..
  refine aj.aD (rvs:=[.tmp 2]) G au Tryz.func137 rfl Tryz.ntmps137 rfl rfl ?_;with_reducible refine wD ?_
  refine kZ.mk (fun h=>?_) (fun _=>?_)<;>with_reducible refine wK ?_
  · obtain rfl:l=[]:=by simpa using h
    (refine eK ?_ ?_<;>with_reducible repeat' (first|exact trivial|(show _∧_;refine aK ?_ ?_)))
    all_goals first|rfl|trivial
  · refine dZ.mk [] (l.map bM) ⟨rfl,rfl,rfl⟩ ⟨rfl,rfl,rfl⟩ (Fv l) (by simp;omega) (by simp;omega) ?_;with_reducible refine wK ?_
    (refine eK ?_ ?_<;>with_reducible repeat' (first|exact trivial|(show _∧_;refine aK ?_ ?_)))
    ·exact hlm.symm
    ·exact bS (aM l)
theorem Ia (l:List Int)(hl:l.length≤100000):aj Tryz.prog 72 [] [cq l] [] (cq l):=by
  have hlm:(l.map bt).length=l.length:=bN ..
  refine aj.aD (rvs:=[.tmp 2]) G au Tryz.func72 rfl Tryz.ntmps72 rfl rfl ?_;with_reducible refine wD ?_
  refine kZ.mk (fun h=>?_) (fun _=>?_)<;>with_reducible refine wK ?_
  · obtain rfl:l=[]:=by simpa using h
    (refine eK ?_ ?_<;>with_reducible repeat' (first|exact trivial|(show _∧_;refine aK ?_ ?_)))
    all_goals first|rfl|exact .inr (.inr ⟨1,rfl⟩)|trace_state
  · refine dZ.mk [] (l.map bt) ⟨rfl,rfl,rfl⟩ ⟨rfl,rfl,rfl⟩ (nD bt (fun _=>rfl) l) (by simp;omega) (by simp;omega) ?_;with_reducible refine wK ?_
    (refine eK ?_ ?_<;>with_reducible repeat' (first|exact trivial|(show _∧_;refine aK ?_ ?_)))
    all_goals first|exact bY rfl rfl rfl rfl|(refine bY rfl rfl ?_ ?_<;>simp)|trace_state
theorem tQ (f:ForM)(hs:bC f.nodes):aj Tryz.prog 121 [] [aR f] [aP f.most f.nodes.length 1 (.lit (.slice none 0 0)),cJ f.nodes] (.ptr 0 0 0):=by
  have h137:=As f.nodes (by have:=hs.len;omega)
  have h60:=hs.len
  have h182:∀ (k:Nat) (y:ai),f.nodes[k]? =some y→aj Tryz.prog 72 [] [cq y.kids] [] (cq y.kids):=fun k y hy=>Ia y.kids (by have:=hs.kids y (bV hy);omega)
  have hset:∀ (k:Nat) (y:ai),f.nodes[k]? =some y→f.nodes.set k y=f.nodes:=fun k y hy=>by
    apply List.ext_getElem?
    intro n
    rw[List.getElem?_set]
    by_cases e:k=n
    · subst e
      have:=(bj hy).1
      rw[if_pos rfl,if_pos this,hy]
    ·rw[if_neg e]
  have hlm:(f.nodes.map bM).length=f.nodes.length:=bN ..
  obtain⟨l,m⟩:=f
  simp only at h137 h60 h182 hset hlm
  refine aj.aD (rvs:=[.tmp 2]) G au Tryz.func121 rfl Tryz.ntmps121 rfl rfl ?_;with_reducible refine wD ?_
  repeat' (first
    |refine gK ?_
    | ((first
      |((with_reducible show ae _ _ 137 _ _ _ _);refine ae.new 71 [] h137 Km ⟨rfl,trivial⟩ rfl rfl rfl (vJ l) rfl ?_)
      |((with_reducible show aI _ _ _ _);refine dK ?_))<;>with_reducible refine wK ?_)
    |((with_reducible show(_∧_)∧_∧_);(refine eK ?_ ?_<;>with_reducible repeat' (first|exact trivial|(show _∧_;refine aK ?_ ?_)))))
  refine bW.use G au (fun(k:Nat)=>[(3,.ptr 120 0 0),(18,ah l.length),(19,ah k)])
    (fun _=>[(120,aP m l.length 71 (.lit (.slice none 0 0))),(71,cJ l)])
    (fun k=>k≤l.length) (fun k=>l.length-k) 0 (Nat.zero_le _) ?_ ?_
  · (refine fK ?_;(with_reducible repeat' (first|exact trivial|(show _∧_;refine aK ?_ ?_)));(all_goals try rfl))
    all_goals first
      |exact⟨.refl rfl,rfl⟩
      |exact .inl rfl
      |exact⟨.refl (aM _),aM _⟩
      |trace_state
  intro k hk
  with_reducible refine wK ?_
  refine bq.mk (fun h1=>?_) (fun h1=>?_)<;>(try simp only[az] at h1)<;>with_reducible refine wK ?_
  · have hkl:k<l.length:=by simp only[bE,az] at h1;omega
    obtain⟨y,hy⟩:∃y,l[k]? =some y:=⟨_,bA hkl⟩
    have h182k:=h182 k y hy
    have hrow:(l.map bM).set (0+k) (bM y)=l.map bM:=by
      rw[Nat.zero_add,←List.map_set,hset k y hy]
    obtain⟨y1,y2,y3,y4,y5,y6,y7,y8,y9,y10⟩:=y
    simp only at h182k
    repeat' (first
    |refine gK ?_
    | ((first
      |((with_reducible show eY _ _ _ _ _);refine eY.mk k rfl hkl ?_)
      |((with_reducible show bh _ _ _ _ _);first|refine bh.mk (aL ⟨y1,y2,y3,y4,y5,y6,y7,y8,y9,y10⟩) (by first|exact ay hy|(rw[Nat.zero_add];exact ay hy)) ?_|refine bh.mk _ rfl ?_)
      |((with_reducible show ae _ _ 72 _ _ _ _);refine ae.val [] h182k F2 ⟨rfl,trivial⟩ rfl rfl rfl ?_)
      |((with_reducible show aI _ _ _ _);refine dK ?_))<;>with_reducible refine wK ?_)
    |((with_reducible show(_∧_)∧_∧_);(refine eK ?_ ?_<;>with_reducible repeat' (first|exact trivial|(show _∧_;refine aK ?_ ?_)))))
    refine bZ.mk (k+1) (by omega) (by omega) ?_
    (refine fK ?_;(with_reducible repeat' (first|exact trivial|(show _∧_;refine aK ?_ ?_)));(all_goals try rfl))
    all_goals first
      |exact⟨.refl rfl,rfl⟩
      |exact .inl rfl
      |exact⟨.refl (aM _),aM _⟩
      |(refine cast (congrArg (tu _ _) hrow.symm) ?_;exact⟨.refl (aM _),aM _⟩)
      |(simp;done)
      |trace_state
  · have hjl:k=l.length:=by simp only[c9,az] at h1;omega
    subst hjl
    repeat' (first
    |refine gK ?_
    |(((with_reducible show aI _ _ _ _);refine dK ?_)<;>with_reducible refine wK ?_)
    |((with_reducible show(_∧_)∧_∧_);(refine eK ?_ ?_<;>with_reducible repeat' (first|exact trivial|(show _∧_;refine aK ?_ ?_)))))
    all_goals first|rfl|exact .inl rfl|exact⟨.refl (aM _),aM _⟩|trace_state
end Go.Proofs.Heir
namespace Go.Proofs.Heir
open Go Go.Am Go.RowKit Go.Lib
set_option maxRecDepth 100000

end Go.Proofs.Heir
namespace Go.Proofs.Heir
open Go Go.Am Go.RowKit Go.Lib
set_option maxRecDepth 100000
set_option maxHeartbeats 8000000
def Fk (x:ai):List Int:=(if x.under=-1 then[] else[x.under])++x.kids
namespace U
def j3 (l:List ai):Nat→Int→Bool
 |0,_=>false
 |m+1,n=>if(dJ (nd l n))=-1 then true else j3 l m (dJ (nd l n))
def wq (l:List ai):Nat→Int→List Int
 |0,_=>[]
 |m+1,n=>n::if(dJ (nd l n))=-1 then[] else wq l m (dJ (nd l n))
def cm (l:List ai):Nat→Int→List Int
 |0,_=>[]
 |m+1,n=>n::(Fk (nd l n)).flatMap (cm l m)
def bL (l:List ai)(n:Int):List Int:=wq l l.length n
theorem iW {l:List ai}:∀ {m:Nat} {n:Int},gp l m n=true→j3 l m n=true
 |0,n,h=>by simp[gp] at h
 | m+1,n,h=>by
   unfold j3;unfold gp at h
   by_cases hp:dJ (nd l n)=-1
   ·rw[if_pos hp]
   ·rw[if_neg hp] at h ⊢;exact iW h
theorem vu (l:List ai):∀ (m:Nat) (n:Int),(wq l m n).length≤m
 |0,_=>Nat.le_refl _
 | m +1,n=>by
   unfold wq
   split
   ·simp
   ·have:=vu l m (dJ (nd l n))
    simp;omega
theorem qk {l:List ai}:∀ {m k:Nat} {n:Int},j3 l m n=true→m≤k→wq l k n=wq l m n
 |0,k,n,h,_=>by simp[j3] at h
 | m +1,k,n,h,hk=>by
   obtain⟨k,rfl⟩:∃j,k=j+1:=⟨k-1,by omega⟩
   unfold j3 at h
   unfold wq
   by_cases hp:(dJ (nd l n))=-1
   ·rw[if_pos hp,if_pos hp]
   ·rw[if_neg hp] at h
    rw[if_neg hp,if_neg hp,qk h (by omega)]
structure Tree (l:List ai):Prop where
 par:∀n,af l n=true→(dJ (nd l n))≠-1→af l (dJ (nd l n))=true∧n∈ (Fk (nd l (dJ (nd l n))))
 kid:∀n,af l n=true→∀k∈ (Fk (nd l n)),af l k=true∧(dJ (nd l k))=n
 dup:∀n,af l n=true→(Fk (nd l n)).Nodup
 fin:∀n,af l n=true→j3 l l.length n=true
variable {l : List ai}
theorem iO (T:Tree l){P:Int→Prop}(h0:∀n,af l n=true→(dJ (nd l n))=-1→P n)(h1:∀n,af l n=true→(dJ (nd l n))≠-1→af l (dJ (nd l n))=true→P (dJ (nd l n))→P n):∀n,af l n=true→P n:=by
 have H:∀ (m:Nat) (n:Int),af l n=true→j3 l m n=true→P n:=by
  intro m
  induction m with
  |zero=>intro n _ h;simp[j3] at h
  | succ m ih=>
    intro n hn h
    unfold j3 at h
    by_cases hp:(dJ (nd l n))=-1
    ·exact h0 n hn hp
    ·rw[if_neg hp] at h
     have hq:=(T.par n hn hp).1
     exact h1 n hn hp hq (ih _ hq h)
 exact fun n hn=>H _ n hn (T.fin n hn)
theorem eJ (T:Tree l){n:Int}(hn:af l n=true)(hp:(dJ (nd l n))=-1):bL l n=[n]:=by
 have:=bf hn
 obtain⟨m,hm⟩:∃m,l.length=m+1:=⟨l.length-1,by omega⟩
 unfold bL;rw[hm];unfold wq;rw[if_pos hp]
theorem cn (T:Tree l){n:Int}(hn:af l n=true)(hp:(dJ (nd l n))≠-1):bL l n=n::bL l (dJ (nd l n)):=by
 have:=bf hn
 obtain⟨m,hm⟩:∃m,l.length=m+1:=⟨l.length-1,by omega⟩
 have hf:=T.fin n hn
 unfold bL;rw[hm] at hf ⊢
 unfold j3 at hf
 rw[if_neg hp] at hf
 rw[wq,if_neg hp,qk hf (Nat.le_succ m)]
theorem eM (T:Tree l){n k:Int}(hn:af l n=true)(hk:k∈ (Fk (nd l n))):bL l k=k::bL l n:=by
 have h:=T.kid n hn k hk
 have h0:=bf hn
 have hp:(dJ (nd l k))≠-1:=by rw[h.2];omega
 rw[cn T h.1 hp,h.2]
theorem eB (T:Tree l){n:Int}(hn:af l n=true):∃r,bL l n=n::r:=by
 by_cases hp:(dJ (nd l n))=-1
 ·exact⟨[],eJ T hn hp⟩
 ·exact⟨_,cn T hn hp⟩
theorem cI (T:Tree l){n:Int}(hn:af l n=true):n∈bL l n:=by
 obtain⟨r,hr⟩:=eB T hn;rw[hr];exact eS
theorem l9 (n:Int):(bL l n).length≤l.length:=vu l _ n
theorem jJ (T:Tree l):∀n,af l n=true→∀a∈bL l n,af l a=true:=by
 refine iO T (fun n hn hp a ha=>?_) (fun n hn hp hq ih a ha=>?_)
 ·rw[eJ T hn hp] at ha;rw[ic.1 ha];exact hn
 ·rw[cn T hn hp] at ha
  rcases dP.1 ha with rfl|h
  ·exact hn
  ·exact ih a h
theorem ik (T:Tree l):∀n,af l n=true→∀a∈bL l n,∃t,bL l n=t++bL l a:=by
 refine iO T (fun n hn hp a ha=>?_) (fun n hn hp hq ih a ha=>?_)
 ·have h:=ha;rw[eJ T hn hp] at h;rw[ic.1 h];exact⟨[],rfl⟩
 ·have h:=ha
  rw[cn T hn hp] at h
  rcases dP.1 h with rfl|h
  ·exact⟨[],rfl⟩
  ·obtain⟨t,ht⟩:=ih a h
   exact⟨n::t,by rw[cn T hn hp,ht];rfl⟩
theorem oy (T:Tree l){a b c:Int}(hc:af l c=true)(h1:a∈bL l b)(h2:b∈bL l c):a∈bL l c:=by
 obtain⟨t,ht⟩:=ik T c hc b h2
 rw[ht];exact List.mem_append_right _ h1
theorem Cz (T:Tree l){n a b:Int}(hn:af l n=true)(ha:a∈bL l n)(hb:b∈bL l n)(he:(bL l a).length=(bL l b).length):a=b:=by
 obtain⟨t,ht⟩:=ik T n hn a ha
 obtain⟨s,hs⟩:=ik T n hn b hb
 rw[ht] at hs
 have h:=(List.append_inj' hs he).2
 obtain⟨r,hr⟩:=eB T (jJ T n hn a ha)
 obtain⟨q,hq⟩:=eB T (jJ T n hn b hb)
 rw[hr,hq] at h
 exact(List.cons.inj h).1
theorem eP (T:Tree l):∀ (m:Nat) (n:Int),af l n=true→∀b∈cm l m n,af l b=true∧n∈bL l b
 |0,n,_,b,hb=>by simp[cm] at hb
 | m +1,n,hn,b,hb=>by
   unfold cm at hb
   rcases dP.1 hb with rfl|h
   ·exact⟨hn,cI T hn⟩
   ·obtain⟨k,hk,hbk⟩:=List.mem_flatMap.1 h
    have hkk:=T.kid n hn k hk
    obtain⟨h1,h2⟩:=eP T m k hkk.1 b hbk
    refine⟨h1,oy T h1 ?_ h2⟩
    rw[eM T hn hk]
    exact dQ _ (cI T hn)
theorem qQ (T:Tree l):∀ (m:Nat) (n:Int),af l n=true→l.length+1≤m+ (bL l n).length→∀x∈cm l m n,∀k∈ (Fk (nd l x)),k∈cm l m n
 |0,n,_,_,x,hx,_,_=>by simp[cm] at hx
 | m +1,n,hn,hm,x,hx,k,hk=>by
   unfold cm at hx ⊢
   refine dQ _ (List.mem_flatMap.2 ?_)
   rcases dP.1 hx with rfl|h
   ·have hkk:=T.kid x hn k hk
    have h1:=l9 (l:=l) k
    rw[eM T hn hk] at h1
    have h2:(bL l x).length+1≤l.length:=h1
    obtain⟨j,hj⟩:∃j,m=j+1:=⟨m-1,by omega⟩
    refine⟨k,hk,?_⟩
    rw[hj];unfold cm;exact eS
   ·obtain⟨c,hc,hxc⟩:=List.mem_flatMap.1 h
    have hcc:=T.kid n hn c hc
    refine⟨c,hc,qQ T m c hcc.1 ?_ x hxc k hk⟩
    rw[eM T hn hc];simp;omega
theorem yV (T:Tree l){m:Nat}{n:Int}(hn:af l n=true)(hm:l.length+1≤m+ (bL l n).length):∀b,af l b=true→n∈bL l b→b∈cm l m n:=by
 have hself:n∈cm l m n:=by
  have:=l9 (l:=l) n
  obtain⟨j,hj⟩:∃j,m=j+1:=⟨m-1,by omega⟩
  rw[hj];unfold cm;exact eS
 refine iO T (fun b hb hp h=>?_) (fun b hb hp hq ih h=>?_)
 ·rw[eJ T hb hp] at h;rw[←ic.1 h];exact hself
 ·rw[cn T hb hp] at h
  rcases dP.1 h with rfl|h
  ·exact hself
  ·exact qQ T m n hn hm _ (ih h) _ (T.par b hb hp).2
theorem vA (T:Tree l){n:Int}(hn:af l n=true):l.length+1≤l.length+ (bL l n).length:=by
 obtain⟨r,hr⟩:=eB T hn
 rw[hr];simp
theorem mL (T:Tree l){a b:Int}(ha:af l a=true)(hb:af l b=true):b∈cm l l.length a↔a∈bL l b:=
 ⟨fun h=>(eP T _ a ha b h).2,fun h=>yV T ha (vA T ha) b hb h⟩
theorem lu (T:Tree l):∀ (m:Nat) (n:Int),af l n=true→(cm l m n).Nodup
 |0,_,_=>List.nodup_nil
 | m +1,n,hn=>by
   unfold cm
   refine List.nodup_cons.2 ⟨fun h=>?_,?_⟩
   ·obtain⟨k,hk,hnk⟩:=List.mem_flatMap.1 h
    have hkk:=T.kid n hn k hk
    have h1:=(eP T m k hkk.1 n hnk).2
    obtain⟨t,ht⟩:=ik T n hn k h1
    have h2:=congrArg List.length ht
    rw[eM T hn hk] at h2
    simp at h2
    omega
   ·refine List.pairwise_flatMap.2 ⟨fun k hk=>lu T m k (T.kid n hn k hk).1,?_⟩
    refine List.Pairwise.imp_of_mem (fun{a b} ha hb hab x hx y hy e=>?_) (T.dup n hn)
    subst e
    have h1:=eP T m a (T.kid n hn a ha).1 x hx
    have h2:=eP T m b (T.kid n hn b hb).1 x hy
    refine hab (Cz T h1.1 h1.2 h2.2 ?_)
    rw[eM T hn ha,eM T hn hb];rfl
theorem tE (T:Tree l)(m:Nat){n:Int}(hn:af l n=true):(cm l m n).length≤l.length:=
 qm (lu T m n hn) fun x hx=>bf (eP T m n hn x hx).1
theorem jx {f:ForM}(h:bw f=true):Tree f.nodes:=by
 have hN:=sU h
 have T:=Heir.jx h
 have kidK:∀n,af f.nodes n=true→∀c∈ (nd f.nodes n).kids,(nd f.nodes c).kind=1∨(nd f.nodes c).kind=2:=by
  intro n hn c hc
  have h1:=hN n hn
  unfold dM o3 at h1
  simp only[bO] at h1
  have h2:=(my.1 h1.2.2.2.1.1).1 c hc
  unfold AB at h2
  simp only[bO,kg,bE] at h2
  rcases h2.2.2.2 with h3|h3
  ·exact .inl h3
  ·exact .inr h3.1
 have und:∀n,af f.nodes n=true→(nd f.nodes n).under≠-1→af f.nodes (nd f.nodes n).under=true∧(nd f.nodes (nd f.nodes n).under).kind=4∧(nd f.nodes (nd f.nodes n).under).host=n:=by
  intro n hn hu
  have h1:=hN n hn
  unfold dM kJ kR at h1
  simp only[bO,kg,bE] at h1
  rcases h1.2.2.2.2.2 with h2|h2
  ·exact absurd h2 hu
  ·exact⟨h2.1.2.1,h2.1.2.2,h2.2⟩
 have top4:∀n,af f.nodes n=true→(nd f.nodes n).kind=4→(nd f.nodes n).parent=-1:=by
  intro n hn hk
  have h1:=hN n hn
  unfold dM s4 at h1
  simp only[bO,kg,bE] at h1
  rcases h1.2.2.1 with h2|h2
  ·exact h2
  ·rcases h2.1.1.1 with h3|h3<;>(rw[hk] at h3;cases h3)
 have mem:∀ (x:ai) (k:Int),k∈Fk x↔ (x.under≠-1∧k=x.under)∨k∈x.kids:=by
  intro x k
  unfold Fk
  rw[List.mem_append]
  by_cases hu:x.under=-1
  ·simp[hu]
  ·simp[hu]
 refine⟨fun n hn hp=>?_,fun n hn k hk=>?_,fun n hn=>?_,fun n hn=>iW (uX h n hn)⟩
 ·unfold dJ at hp ⊢
  by_cases hq:(nd f.nodes n).parent=-1
  ·rw[if_pos hq] at hp ⊢
   have h1:=hN n hn
   unfold dM kJ at h1
   simp only[bO] at h1
   have h2:=h1.2.2.2.2.1
   by_cases hk:(nd f.nodes n).kind=4
   ·rw[if_pos hk] at h2
    unfold kR at h2
    simp only[bO,bE] at h2
    refine⟨h2.1.1.1,(mem _ _).2 (.inl ⟨?_,h2.1.2.symm⟩)⟩
    rw[h2.1.2]
    have:=bf hn
    omega
   ·rw[if_neg hk] at h2
    exact absurd (by simpa using h2) hp
  ·rw[if_neg hq]
   have h1:=T.par n hn hq
   exact⟨h1.1,(mem _ _).2 (.inr h1.2)⟩
 ·have hn0:=bf hn
  rcases(mem _ _).1 hk with⟨h1,rfl⟩|h1
  ·obtain⟨h2,h3,h4⟩:=und n hn h1
   exact⟨h2,by unfold dJ;rw[if_pos (top4 _ h2 h3)];exact h4⟩
  ·obtain⟨h2,h3⟩:=T.kid n hn k h1
   exact⟨h2,by unfold dJ;rw[if_neg (by rw[h3];omega)];exact h3⟩
 ·unfold Fk
  by_cases hu:(nd f.nodes n).under=-1
  ·rw[if_pos hu];exact T.dup n hn
  ·rw[if_neg hu]
   refine List.nodup_cons.2 ⟨fun hm=>?_,T.dup n hn⟩
   have h1:=(und n hn hu).2.1
   rcases kidK n hn _ hm with h2|h2<;>(rw[h1] at h2;cases h2)
end U
theorem dZ.take {rb rs:List AV}{off len off' len' bytes:Nat}{acc:Tk}{sl:SL}{m:ML}{A:List AV→Tk→SL→ML→Prop}(rows0 news:List AV)(h0:off=0∧len≤rb.length∧rows0=rb.take len)(h1:off'=0∧len'=rs.length∧news=rs)(h2:jP (flat news)=true)
  (h3:(rows0.length+news.length)*bytes≤140737488355328) (h4:rows0.length+news.length≤9223372036854775807) (h:A (rows0++news) acc sl m):dZ rb off len rs off' len' bytes acc sl m (A:=A):=by
 obtain⟨rfl,hl,rfl⟩:=h0
 obtain⟨rfl,rfl,rfl⟩:=h1
 exact⟨_,_,by omega,by simp,by omega,by simp,h2,h3,h4,h⟩
theorem gB {α β:Type}{f g:α→List β}:∀ {l:List α},(∀a∈l,f a=g a)→l.flatMap f=l.flatMap g
 |[],_=>rfl
 |a::r,h=>by rw[List.flatMap_cons,List.flatMap_cons,h a eS,gB fun b hb=>h b (dQ _ hb)]
namespace U
variable {l : List ai}
theorem nW (T:Tree l):∀ (m:Nat) (n:Int),af l n=true→l.length+1≤m+ (bL l n).length→cm l (m+1) n=cm l m n
 |0,n,_,h=>by have:=l9 (l:=l) n;omega
 | m+1,n,hn,h=>by
   rw[cm,cm]
   congr 1
   refine gB fun k hk=>?_
   refine nW T m k (T.kid n hn k hk).1 ?_
   rw[eM T hn hk];simp;omega
theorem ord_eq (T:Tree l){n:Int}(hn:af l n=true):cm l l.length n=n::(Fk (nd l n)).flatMap (cm l l.length):=by
 have h0:=bf hn
 obtain⟨m,hm⟩:∃m,l.length=m+1:=⟨l.length-1,by omega⟩
 have h1:∀k∈Fk (nd l n),cm l l.length k=cm l m k:=fun k hk=>by
  rw[hm]
  refine nW T m k (T.kid n hn k hk).1 ?_
  obtain⟨r,hr⟩:=eB T hn
  rw[eM T hn hk,hr];simp;omega
 conv=>lhs;rw[hm,cm]
 congr 1
 exact gB fun k hk=>(h1 k hk).symm
def rest (l:List ai)(st:List Int):List Int:=st.reverse.flatMap (cm l l.length)
theorem AY (T:Tree l){st:List Int}{t:Int}(ht:af l t=true):rest l (st++ [t])=t::rest l (st++ (Fk (nd l t)).reverse):=by
 unfold rest
 rw[List.reverse_append,List.reverse_append,List.reverse_reverse]
 simp only[List.reverse_cons,List.reverse_nil,List.nil_append,List.cons_append,List.flatMap_cons,List.flatMap_append]
 rw[ord_eq T ht];rfl
theorem Bh (T:Tree l):∀ {st:List Int},(∀c∈st,af l c=true)→st.length≤ (rest l st).length:=by
 intro st h
 unfold rest
 have:∀s:List Int,(∀c∈s,af l c=true)→s.length≤ (s.flatMap (cm l l.length)).length:=by
  intro s
  induction s with
  |nil=>intro _;exact Nat.le_refl _
  | cons a r ih=>
    intro h
    have h1:=ih fun c hc=>h c (dQ _ hc)
    rw[List.flatMap_cons,jz,ord_eq T (h a eS),List.length_cons,List.length_cons]
    omega
 have:=this st.reverse fun c hc=>h c (by simpa using hc)
 simpa using this
end U

def pL (x:ai):Bool:=decide (x.kids.length≤60)&&decide (x.attrs.length≤60)&&decide (x.name.size≤300)
theorem qz (f:ForM):oV f=(decide (f.nodes.length≤60)&&f.nodes.all pL):=rfl
theorem MC {α:Type}{p:α→Bool}{l:List α}{k:Nat}{x:α}(h:l[k]? =some x)(hp:p x=false):l.all p=false:=by
 rw[Bool.eq_false_iff]
 intro h1
 rw[List.all_eq_true] at h1
 rw[h1 x (bV h)] at hp;cases hp
theorem Jy {α:Type}{p:α→Bool}{l:List α}(h:∀ (k:Nat) (x:α),l[k]? =some x→p x=true):l.all p=true:=by
 rw[List.all_eq_true]
 intro x hx
 obtain⟨k,hk⟩:=List.getElem?_of_mem hx
 exact h k x hk
theorem Dc (f:ForM):aj Tryz.prog 16 [] [aR f] [] (bG (oV f)):=by
 rw[qz]
 obtain⟨l,m⟩:=f
 simp only
 have hlm:(l.map bM).length=l.length:=bN ..
 refine aj.aD (rvs:=[.tmp 2]) G au Tryz.func16 rfl Tryz.ntmps16 rfl rfl ?_;with_reducible refine wD ?_
 by_cases e0:(60:Int)< (l.length:Int)
 ·rw[dy (show ¬l.length≤60 by omega)]
  (have fct:=And.intro hlm (e0);(repeat' (first
  |refine gF ?_|refine aE ?_ ?_
  |apply trivial));all_goals clear fct)
  all_goals rfl
 rw[dG (show l.length≤60 by omega),Bool.true_and]
 (have fct:=And.intro hlm ((eq_false e0));(repeat' (first
  |refine gF ?_|refine aE ?_ ?_
  |apply trivial));all_goals clear fct)
 refine bW.use G au (fun(k:Nat)=>[(1,.ptr 10 0 0),(3,ah k)]) (fun _=>[(10,.live 2 [aR ⟨l,m⟩] false)])
  (fun k=>k≤l.length∧∀ (j:Nat) (y:ai),j<k→l[j]? =some y→pL y=true) (fun k=>l.length-k) 0 ⟨Nat.zero_le _,fun j y h=>by omega⟩
  ⟨⟨rfl,rfl⟩,⟨⟨rfl,rfl⟩,rfl,trivial⟩,⟨⟨rfl,rfl,trivial⟩,trivial⟩,trivial⟩ ?_
 rintro k ⟨hk,hok⟩
 with_reducible refine wK ?_
 refine bq.mk (fun h1=>?_) (fun h1=>?_)<;>(try simp only[az] at h1)<;>with_reducible refine wK ?_
 ·have hk':k<l.length:=by simp only[bE] at h1;omega
  obtain⟨x,hx⟩:∃x,l[k]? =some x:=⟨_,bA hk'⟩
  have bad:pL x=false→l.all pL=false:=fun h=>MC hx h
  have good:pL x=true→∀ (j:Nat) (y:ai),j<k+1→l[j]? =some y→pL y=true:=fun h j y hj hy=>by
   rcases Nat.lt_or_ge j k with h6|h6
   ·exact hok j y h6 hy
   ·have:j=k:=by omega
    subst this
    rw[hx] at hy;cases hy;exact h
  obtain⟨a1,a2,a3,a4,a5,a6,a7,a8,a9,a10⟩:=x
  have hla:(a5.map dg).length=a5.length:=bN ..
  have hlk:(a7.map bt).length=a7.length:=bN ..
  have sm:pL ⟨a1,a2,a3,a4,a5,a6,a7,a8,a9,a10⟩=(decide (a7.length≤60)&&decide (a5.length≤60)&&decide (a2.size≤300)):=rfl
  rw[sm] at bad good
  refine aN.mk k (aL _) rfl (ay hx) ?_;with_reducible refine wK ?_
  by_cases e1:(60:Int)< (a7.length:Int)
  ·rw[bad (by rw[dy (show ¬a7.length≤60 by omega)];rfl)]
   (have fct:=And.intro hlk (e1);(repeat' (first
  |refine gF ?_|refine aE ?_ ?_
  |apply trivial));all_goals clear fct)
  by_cases e2:(60:Int)< (a5.length:Int)
  ·rw[bad (by rw[dy (show ¬a5.length≤60 by omega),Bool.and_false];rfl)]
   (have fct:=And.intro hlk (And.intro hla (And.intro (eq_false e1) (e2)));(repeat' (first
  |refine gF ?_|refine aE ?_ ?_
  |((refine aN.mk k (aL _) rfl (ay hx) ?_)<;>with_reducible refine wK ?_)
  |apply trivial));all_goals clear fct)
  by_cases e3:(300:Int)< (a2.size:Int)
  ·rw[bad (by rw[dy (show ¬a2.size≤300 by omega),Bool.and_false])]
   (have fct:=And.intro hlk (And.intro hla (And.intro (eq_false e1) (And.intro (eq_false e2) (e3))));(repeat' (first
  |refine gF ?_|refine aE ?_ ?_
  |((refine aN.mk k (aL _) rfl (ay hx) ?_)<;>with_reducible refine wK ?_)
  |apply trivial));all_goals clear fct)
  have hnx:=good (by simp only[bO,bE];omega)
  (have fct:=And.intro hlk (And.intro hla (And.intro (eq_false e1) (And.intro (eq_false e2) ((eq_false e3)))));(repeat' (first
  |refine gF ?_|refine aE ?_ ?_
  | ((first
   |(refine aN.mk k (aL _) rfl (ay hx) ?_)
   |((with_reducible show bZ _ _);refine bZ.mk (k+1) ⟨by omega,hnx⟩ (by omega) ⟨⟨rfl,rfl⟩,⟨⟨rfl,rfl⟩,by show((k+1:Nat):Int)=(k:Int)+1;omega,trivial⟩,⟨⟨rfl,rfl,trivial⟩,trivial⟩,trivial⟩))<;>with_reducible refine wK ?_)
  |apply trivial));all_goals clear fct)
 ·have hkl:k=l.length:=by simp only[c9] at h1;omega
  rw[Jy fun j y hy=>hok j y (by have:=(bj hy).1;omega) hy]
  (refine eK ?_ ?_<;>with_reducible repeat' (first|exact trivial|(show _∧_;refine aK ?_ ?_)))
theorem tG {l:List ai}{n:Int}(h:0≤n∧n< (l.length:Int)):∃ (i:Nat) (y:ai),n=(i:Int)∧l[i]? =some y∧nd l n=y:=by
  obtain⟨i,y,h1,h2,h3⟩:=aW.1 (show af l n=true by unfold af;simp;omega)
  exact⟨i,y,h1,h2,h3⟩
theorem BN {P:Program}{N nL:Nat}{sl:SL}{m:ML}{c:Code}{Q:Exit→SL→ML→Prop}{F G:Prop}(main:(F→bW P N nL sl m (c:=c) (Q:=Q))→G)(rest:F→bW P N nL sl m (c:=c) (Q:=Q)):G:=main rest

theorem Kn (g:Nat)(cg:ak Tryz.prog g)(caps:List AV)(hcaps:bu caps=true)(p:Int→Bool)(l:List Int)(hl:l.length≤100000)(hf:∀a,a∈l→aj Tryz.prog g [] (ah a::caps) [] (bG (p a))):
  aj Tryz.prog 125 [] [cq l,.clo (.func g) [] caps] [] (ah (gq p l)):=by
 have hlm:(l.map bt).length=l.length:=bN ..
 refine aj.aD (rvs:=[.tmp 4]) G au Tryz.func125 rfl Tryz.ntmps125 rfl rfl ?_;with_reducible refine wD ?_
 refine bW.use G au (fun(k:Nat)=>[(0,cq l),(1,.clo (.func g) [] caps),(7,ah l.length),(8,ah k)]) (fun _=>[]) (fun k=>k≤l.length∧∀j x,j<k→l[j]? =some x→p x=false) (fun k=>l.length-k) 0 ⟨Nat.zero_le _,fun j x h=>by omega⟩
  ⟨⟨rfl,rfl⟩,⟨rfl,⟨rfl,trivial,bS hcaps⟩,by show(l.length:Int)=((l.map bt).length:Int);rw[hlm],rfl,trivial⟩,trivial⟩ ?_
 rintro k ⟨hk,hno⟩
 with_reducible refine wK ?_
 refine bq.mk (fun h1=>?_) (fun h1=>?_)<;>(try simp only[az] at h1)<;>with_reducible refine wK ?_
 ·simp only[bE] at h1
  have hk':k<l.length:=by omega
  obtain⟨a,ha⟩:∃a,l[k]? =some a:=⟨_,bA hk'⟩
  refine aN.mk k (ah a) rfl (cR ha) ?_;with_reducible refine wK ?_
  refine ae.lit [] (hf a (bV ha)) cg ⟨rfl,bS hcaps⟩ rfl rfl ?_;with_reducible refine wK ?_
  refine bq.mk (fun h2=>?_) (fun h2=>?_)<;>(try simp only[az] at h2)<;>with_reducible refine wK ?_
  ·(refine eK ?_ ?_<;>with_reducible repeat' (first|exact trivial|(show _∧_;refine aK ?_ ?_)))
   exact gr ha h2 hno
  ·refine nK ?_;with_reducible refine wK ?_
   refine bZ.mk (k+1) ⟨by omega,fun j x hj hx=>?_⟩ (by omega) ⟨⟨rfl,rfl⟩,⟨rfl,⟨rfl,trivial,bS hcaps⟩,rfl,by show((k+1:Nat):Int)=(k:Int)+1;omega,trivial⟩,trivial⟩
   rcases Nat.lt_or_ge j k with h6|h6
   ·exact hno j x h6 hx
   ·have:j=k:=by omega
    subst this
    rw[ha] at hx;cases hx;exact h2
 ·(refine eK ?_ ?_<;>with_reducible repeat' (first|exact trivial|(show _∧_;refine aK ?_ ?_)))
  have:k=l.length:=by simp only[c9] at h1;omega
  exact jF fun j x hx=>hno j x (by have:=(bj hx).1;omega) hx
theorem Eh (g:Nat)(cg:ak Tryz.prog g)(caps:List AV)(hcaps:bu caps=true)(p:Int→Bool)(l:List Int)(hl:l.length≤100000)(hf:∀a,a∈l→aj Tryz.prog g [] (ah a::caps) [] (bG (p a))):
  aj Tryz.prog 127 [] [cq l,.clo (.func g) [] caps] [] (bG (decide (0≤gq p l))):=by
 have h34:=Kn g cg caps hcaps p l hl hf
 refine aj.aD (rvs:=[.tmp 4]) G au Tryz.func127 rfl Tryz.ntmps127 rfl rfl ?_;with_reducible refine wD ?_
 refine ae.lit [] h34 J1 ⟨rfl,⟨rfl,trivial,bS hcaps⟩,trivial⟩ rfl rfl ?_;with_reducible refine wK ?_
 (refine eK ?_ ?_<;>with_reducible repeat' (first|exact trivial|(show _∧_;refine aK ?_ ?_)))
 all_goals rfl
end Go.Proofs.Heir
namespace Go.Proofs.Heir
open Go Go.Am Go.RowKit Go.Shelf
set_option maxRecDepth 100000
set_option maxHeartbeats 8000000
theorem Hi {Wn:Nat→Prop}{μ:Mu}{W:World}{l:List Int}{b o:Nat}(h:cD Wn μ W (.fptr (.sl 1 (l.map bt)) 0) (.pointer (some ⟨b,o,none⟩))):
  ∃ad cap,W.cell? ⟨b,o,none⟩=some (.slice ad l.length cap)∧l.length≤cap∧∀ (j:Nat) (x:Int),l[j]? =some x→∃b2 o2,ad=some ⟨b2,o2,none⟩∧W.cell? ⟨b2,o2+j,none⟩=some (.int .i64 x):=by
 generalize hv:Value.pointer (some ⟨b,o,none⟩)=v at h
 cases h with
 | @fptr _ _ b' o' f h1 h2 h3 h4 h5=>
   cases hv
   have k3:=h3 0 _ rfl
   have k4:=h4 0 _ rfl
   rw[Nat.add_zero] at k3
   rw[Nat.add_zero,k3]
   generalize f 0=s at k4
   cases hl:l with
   | nil=>
     subst hl
     cases k4 with
     |slNil=>exact⟨_,_,rfl,Nat.zero_le _,fun j x h=>by simp at h⟩
     |sl a1 a2 a3 a4 a5 a6 a7 a8=>subst a3;exact⟨_,_,rfl,Nat.zero_le _,fun j x h=>by simp at h⟩
   | cons y r=>
     rw[←hl]
     generalize hrows:l.map bt=rows at k4
     have hne:rows≠ []:=by rw[←hrows,hl];simp
     cases k4 with
     |slNil=>exact absurd rfl hne
     | sl a1 a2 a3 a4 a5 a6 a7 a8=>
       subst a3
       have hlen:rows.length=l.length:=by rw[←hrows];simp
       refine⟨_,_,by rw[hlen],by rw[←hlen];exact a4,fun j x hx=>⟨_,_,rfl,?_⟩⟩
       have hr:rows[j]? =some (bt x):=by rw[←hrows,fI,hx];rfl
       have hq:=eN (wd:=1) (fun i r hr=>a5 i r hr) hr (show(cells (bt x))[0]? =some (bt x) from rfl)
       rw[Nat.mul_one,Nat.add_zero] at hq
       have c1:=a6 j _ hq
       have c2:=a7 j _ hq
       have one:∀v,cD Wn μ W (bt x) v→v=.int .i64 x:=by intro v hv;unfold bt at hv;cases hv;rfl
       rw[c1,one _ c2]
theorem JE (l:List Int)(hl:l.length≤100000):MH Tryz.prog 193 [.fptr (.sl 1 (l.map bt)) 0] l.length (fun k=>[bt ((l.length:Int)-1-k),bt ((l.reverse[k]?).getD 0)]):=by
 intro vals y J Jx hJ hJm hJxm _ hY Wn w h0
 obtain⟨⟨μ,hr⟩,_⟩:=hJ 0 Wn w h0
 obtain⟨vb,us,rfl,hvb,hus⟩:=cN.CX hr
 obtain rfl:=cN.LI hus
 obtain⟨b,o,rfl⟩:∃b o,vb=.pointer (some ⟨b,o,none⟩):=by cases hvb;exact⟨_,_,rfl⟩
 have box:∀k Wn W,J k Wn W→∃ad cap,W.cell? ⟨b,o,none⟩=some (.slice ad l.length cap)∧l.length≤cap∧∀ (j:Nat) (x:Int),l[j]? =some x→∃b2 o2,ad=some ⟨b2,o2,none⟩∧W.cell? ⟨b2,o2+j,none⟩=some (.int .i64 x):=by
  intro k Wn W hJk
  obtain⟨⟨μ,hr⟩,_⟩:=hJ k Wn W hJk
  obtain⟨v1,us,e,hv1,_⟩:=cN.CX hr
  cases e
  exact Hi hv1
 refine(callsIn_wide (n:=1)).1 ?_
 refine callsIn_of_wp Tryz.func193 rfl trivial ?_ rfl
 simp only[Tryz.ntmps193,List.size_toArray,List.length_cons,List.length_nil,Nat.reduceAdd,Nat.reduceSub,Array.replicate_succ,Array.replicate_zero,List.push_toArray,List.append_toArray,List.nil_append,List.cons_append]
 obtain⟨ad,cap,hbx,hcap,hel⟩:=box 0 Wn w h0
 gi_wp2
 gi_loopw [3] (fun i wr=> ∃k:Nat,k≤l.length∧i=.int .i64 ((l.length:Int)-1-k)∧∃Wn,J k Wn wr) (fun i _=>(intOf i+1).toNat)
 case atStart=>exact⟨0,Nat.zero_le _,by simp,Wn,h0⟩
 case round=>
  obtain⟨k,hk,rfl,Wn',hJk⟩:=hrel
  obtain⟨ad',cap',hbx',hcap',hel'⟩:=box k Wn' wr hJk
  by_cases hlt:k<l.length
  ·have hix:l.length-1-k<l.length:=by omega
   obtain⟨b2,o2,rfl,hcx⟩:=hel' (l.length-1-k) l[l.length-1-k] (bA hix)
   have hrev:(l.reverse[k]?).getD 0=l[l.length-1-k]:=by
    rw[bA (by simpa using hlt)];simp
   obtain⟨fn,tmps,assign,body,hy,hR⟩:=hY k Wn' wr [.int .i64 ((l.length:Int)-1-k),.int .i64 (l[l.length-1-k])] hlt hJk (fun _ _ _=>by rw[hrev];exact .cons .lit (.cons .lit .nil))
   have hz:((l.length:Int)-1-k).toNat=l.length-1-k:=by omega
   gi_wp2
   refine hR.mono ?_
   rintro e W3 (⟨rfl,Wn3,hJ3,_⟩|⟨rfl,hJx3⟩)
   ·gi_wp2
    go_roundw
    case rel=>exact⟨k+1,by omega,by congr 1;omega,Wn3,hJ3⟩
    case measure=>simp[intOf];omega
   ·gi_wp2
    refine bodyPost_ret (results_none rfl _ _ _) rfl ?_
    exact⟨⟨_,rfl⟩,.inr hJx3⟩
  ·obtain rfl:k=l.length:=by omega
   gi_wp2
   go_end0
   exact⟨⟨_,rfl⟩,.inl ⟨_,hJk⟩⟩
end Go.Proofs.Heir
namespace Go.Proofs.Heir
open Go Go.Am Go.RowKit Go.Lib
set_option maxRecDepth 100000
set_option maxHeartbeats 8000000
theorem K6 (f:ForM)(n:Int):aj Tryz.prog 192 [] [ah n,.fptr (aR f) 0] [] (bG (!af f.nodes n)):=by
 obtain⟨l,m⟩:=f
 have hlm:(l.map bM).length=l.length:=bN ..
 refine aj.aD (rvs:=[.tmp 3]) G au Tryz.func192 rfl Tryz.ntmps192 rfl rfl ?_;with_reducible refine wD ?_
 repeat' (first
  |refine pK ?_|refine aE ?_ ?_
  | ((first
   |((with_reducible show bq _ _ _ _);(refine bq.mk (fun hp=>?_) (fun hp=>?_)<;>(try simp only[az,bE,c9,Bool.not_eq_true',Bool.not_eq_false',Decidable.not_not,Int.not_lt,Int.not_le] at hp))))<;>with_reducible refine wK ?_)
  |apply trivial)
 ·unfold af;rw[dy (show ¬0≤n by omega)];rfl
 ·unfold af;rw[dG hp,hlm,Bool.true_and,←decide_not]
  exact decide_eq_decide.2 Int.not_lt
theorem yF (f:ForM)(hs:bC f.nodes)(l:List Int)(hl:l.length≤100000):aj Tryz.prog 147 [] [aR f,cq l] [] (bG (bw f&& !decide (0≤gq (fun n=> !af f.nodes n) l))):=by
 have h48:=o4 f hs
 have h106:=Eh 192 OC [.fptr (aR f) 0] rfl (fun n=> !af f.nodes n) l hl (fun a _=>K6 f a)
 obtain⟨ns,m⟩:=f
 simp only at h48 h106 ⊢
 refine aj.aD (rvs:=[.tmp 4]) G au Tryz.func147 rfl Tryz.ntmps147 rfl rfl ?_;with_reducible refine wD ?_
 refine cL h48 qy ?_;with_reducible refine wK ?_
 cases h0:bw ⟨ns,m⟩ with
 | false=>
   repeat' (first
  |refine gK ?_|refine aE ?_ ?_
  | apply trivial)
   all_goals rfl
 | true=>
   repeat' (first
  |refine gK ?_|refine aE ?_ ?_
  | apply trivial)
   refine ae.lit [20] h106 LY ⟨rfl,⟨rfl,trivial,⟨_,_,_,_,_,rfl,rfl,rfl,rfl,rfl,⟨rfl,rfl,trivial⟩⟩,trivial⟩,trivial⟩ rfl rfl ?_;with_reducible refine wK ?_
   repeat' (first
  |refine gK ?_|refine aE ?_ ?_
  | apply trivial)
   all_goals rfl
theorem J0 (l:List Int):aj Tryz.prog 148 [] [cq l] [] (.clo (.func 193) [] [.fptr (cq l) 0]):=by
 refine aj.aD (rvs:=[.tmp 2]) G au Tryz.func148 rfl Tryz.ntmps148 rfl rfl ?_;with_reducible refine wD ?_
 refine⟨⟨rfl,rfl⟩,⟨rfl,trivial,⟨_,_,_,_,_,rfl,rfl,rfl,rfl,rfl,rfl⟩,trivial⟩,?_⟩
 exact trivial
def kP (f:ForM)(n:Int):List Int:=if(bw f&&af f.nodes n)=true then U.cm f.nodes f.nodes.length n else[]
end Go.Proofs.Heir
namespace Go.Proofs.Heir
open Go Go.Am Go.RowKit Go.Shelf
set_option maxRecDepth 100000
set_option maxHeartbeats 8000000

theorem aj.at {P:Program}{f:FuncId}{args:List AV}{vs:List Value}{res:AV}{w:World}{Wn:Nat→Prop}{μ:Mu}(h:aj P f [] args [] res)(ha:bu args=true)(hr:bD res=true)(hv:cN Wn μ w args vs)(hlt:∀b,Wn b→b<w.heap.size)(ht:ku P w fun _=>none):
  Calls P f vs.toArray w fun e w'=> ∃v μ',e=.returned v∧kX w w'∧cD Wn μ' w' res v:=by
 have hW:∀b,Wr Wn (fun _=>none) (aH []) b→Wn b:=by
  rintro b (h|⟨t,B,wd,rows,_,h,_⟩)
  ·exact h
  ·cases h
 have hs:cz P 0 w Wn (fun _=>none) (fun _=>none) (bare []) iA w:=by
  refine⟨rfl,.nil,rfl,rfl,rfl,Nat.le_refl _,fun _ _ _ h=>h,fun _ _ _=>rfl,hlt,fun _ _ _ h=>h,fun t=>by simp[bare,aH],fun _=>.any,fun t wd rows ro h=>?_,fun t t' wd rows wd' rows' ro' B B' _ h=>?_,fun t wd rows ro B h=>?_,ht⟩<;>simp[bare,aH] at h
 refine(h w Wn (fun _=>none) vs (fun _ _=>rfl) hs ?_).mono ?_
 ·exact⟨hv.1,fun j c v hc hv'=>(hv.2 j c v hc hv').bD (fun b _ hb=>hW b hb) (c7.1 ha c (bV hc))⟩
 rintro e w' ⟨v,μ',rfl,hs',hv'⟩
 refine⟨v,μ',rfl,⟨hs'.os,hs'.tape,hs'.output,hs'.hsize,fun b hb=>hs'.keep b hb ?_⟩,hv'.bD (fun b _ hb=>.inl hb) hr⟩
 rintro⟨t,B,h,_⟩
 cases h
end Go.Proofs.Heir
section
namespace Go.Proofs.Heir
open Go Go.Am Go.RowKit Go.Lib
set_option maxRecDepth 100000
set_option maxHeartbeats 8000000
theorem Fc {α:Type}{x y:List α}(hl:x.length=y.length)(h:∀j,j<x.length→x[j]? =y[j]?):x=y:=by
 refine List.ext_getElem? fun j=>?_
 rcases Nat.lt_or_ge j x.length with h6|h6
 ·exact h j h6
 ·rw[oF h6,oF (by omega)]
theorem FG {α:Type}{x y:List α}{k:Nat}(h:∀j,j<k→x[j]? =y[j]?)(hk:x[k]? =y[k]?):∀j,j<k+1→x[j]? =y[j]? :=fun j hj=>by
 by_cases e:j=k
 ·rw[e];exact hk
 ·exact h j (by omega)
set_option maxHeartbeats 8000000
theorem G7 (a b:List Int)(ha:a.length≤100000):aj Tryz.prog 25 [] [cq a,cq b] [] (bG (decide (a=b))):=by
 have hlm:(a.map bt).length=a.length:=bN ..
 have hlm':(b.map bt).length=b.length:=bN ..
 refine aj.aD (rvs:=[.tmp 4]) G au Tryz.func25 rfl Tryz.ntmps25 rfl rfl ?_;with_reducible refine wD ?_
 by_cases g1:a.length=b.length
 ·(have fct:=And.intro hlm (And.intro hlm' (g1));(repeat' (first
  |refine gF ?_|refine aE ?_ ?_
  |apply trivial));all_goals clear fct)
  refine bW.use G au (fun(k:Nat)=>[(0,cq a),(1,cq b),(5,ah k)]) (fun _=>[]) (fun k=>k≤a.length∧∀j,j<k→a[j]? =b[j]?) (fun k=>a.length-k) 0 ⟨Nat.zero_le _,fun j hj=>by omega⟩
   ⟨⟨rfl,rfl⟩,⟨rfl,rfl,rfl,trivial⟩,trivial⟩ ?_
  intro k ⟨hk,hno⟩
  with_reducible refine wK ?_
  refine bq.mk (fun h1=>?_) (fun h1=>?_)<;>(try simp only[az] at h1)<;>with_reducible refine wK ?_
  ·simp only[hlm,bE] at h1
   have hk':k<a.length:=by omega
   obtain⟨x,hx⟩:∃x,a[k]? =some x:=⟨_,bA hk'⟩
   obtain⟨y,hy⟩:∃y,b[k]? =some y:=⟨_,bA (by omega)⟩
   refine aN.mk k (ah x) rfl (cR hx) ?_;with_reducible refine wK ?_
   refine aN.mk k (ah y) rfl (cR hy) ?_;with_reducible refine wK ?_
   by_cases e:x=y
   ·(have fct:=e;(repeat' (first
  |refine gF ?_|refine aE ?_ ?_
  |(((with_reducible show bZ _ _);refine bZ.mk (k+1) ⟨by omega,FG hno (by rw[hx,hy,e])⟩ (by omega) ⟨⟨rfl,rfl⟩,⟨rfl,rfl,by show((k+1:Nat):Int)=(k:Int)+1;omega,trivial⟩,trivial⟩)<;>with_reducible refine wK ?_)
  | apply trivial));all_goals clear fct)
   ·rw[show decide (a=b)=false from dy fun h=>e (by rw[h] at hx;rw[hx] at hy;exact Option.some.inj hy)]
    (have fct:=e;(repeat' (first
  |refine gF ?_|refine aE ?_ ?_
  |apply trivial));all_goals clear fct)
  ·have hkl:k=a.length:=by simp only[hlm,c9] at h1;omega
   subst hkl
   rw[show decide (a=b)=true from dG (Fc g1 hno)]
   (have fct:=hlm;(repeat' (first
  |refine gF ?_|refine aE ?_ ?_
  |apply trivial));all_goals clear fct)
 ·rw[show decide (a=b)=false from dy fun h=>g1 (by rw[h])]
  (have fct:=And.intro hlm (And.intro hlm' (g1));(repeat' (first
  |refine gF ?_|refine aE ?_ ?_
  |apply trivial));all_goals clear fct)
end Go.Proofs.Heir
end
namespace Go.Proofs.Heir
open Go Go.Am Go.RowKit Go.Lib
set_option maxRecDepth 100000
set_option maxHeartbeats 8000000
structure tj where
 name:ByteArray
 locl:ByteArray
 cls:Int
 deriving DecidableEq
structure Gf where
 name:ByteArray
 ticket:Int
 deriving DecidableEq
structure LM where
 defs:List tj
 waits:List Gf
 next:Int
 busy:Bool
 deriving DecidableEq
def OF (s:ByteArray):Bool:=E8 On s
def L2 (x:tj):Bool:=decide (x.locl=x.name)||OF x.locl
def NM (x:tj):Bool:=kM x.name&&L2 x&&decide (0≤x.cls)&&decide (x.cls<12)
def Ph (s:ByteArray)(x:tj):Bool:=decide (x.name=s)
def P5 {α:Type}(p:α→Bool)(l:List α):Int:=match l.findIdx? p with
 |some k=>(k:Int)
 |none=> -1
def Pb (l:List tj)(s:ByteArray):Int:=P5 (Ph s) l
def okW (l:List tj)(next:Int)(w:Gf)(last:Int):Bool:=kM w.name&&decide (Pb l w.name=-1)&&decide (last<w.ticket)&&decide (w.ticket<next)
def HJ (l:List tj)(next:Int):Int→List Gf→Bool
 |_,[]=>true
 |last,w::r=>okW l next w last&&HJ l next w.ticket r
def NN (l:List tj):Bool:=l.all NM&&decide ((l.map tj.name).Nodup)&&decide ((l.map tj.cls).Nodup)
def MN (d:LM):Bool:=NN d.defs&&HJ d.defs d.next (-1) d.waits&&decide (0≤d.next)&&decide (d.next≤100000)

def xk (k:Nat):ByteArray:=⟨#[120,45,UInt8.ofNat (97+k)]⟩
structure Dk (d:LM) (i:Nat):Prop where
 right:MN d=true
 busy:d.busy=false
 names:∀w∈d.waits,∃k<6,w.name=xk k
 next:d.next≤i
theorem Dk.first:Dk ⟨[],[],0,false⟩ 0:=⟨by decide,rfl,fun w h=>by simp at h,by decide⟩
section
variable {K : Type} [DecidableEq K] (key : tj → K)
end
def kC (x:tj):Int:=x.cls





end Go.Proofs.Heir
namespace Go.Proofs.Heir
open Go Go.Am Go.RowKit Go.Lib
set_option maxRecDepth 100000

end Go.Proofs.Heir
namespace Go.Proofs.Heir
open Go Go.Am Go.RowKit Go.Lib
set_option maxRecDepth 100000
set_option maxHeartbeats 8000000

end Go.Proofs.Heir
namespace Go.Proofs.Heir
open Go Go.Am Go.RowKit Go.Lib
set_option maxRecDepth 100000

end Go.Proofs.Heir
namespace Go.Proofs.Heir
open Go Go.Am Go.RowKit Go.Lib
set_option maxRecDepth 100000
set_option maxHeartbeats 8000000
theorem vg {f:ForM}{n:Int}:∀c∈kP f n,af f.nodes c=true:=by
 intro c hc
 unfold kP at hc
 split at hc
 ·rename_i h
  obtain⟨hr,hn⟩:bw f=true∧af f.nodes n=true:=by simpa using h
  exact(U.eP (U.jx hr) _ n hn c hc).1
 ·simp at hc






def sr (l:List ai)(n:Int):Int:=((U.bL l n).getLast?).getD n
theorem Ey {l:List ai}(T:U.Tree l){n:Int}(hn:af l n=true)(hp:dJ (nd l n)=-1):sr l n=n:=by
 unfold sr;rw[U.eJ T hn hp];rfl
theorem AL {l:List ai}(T:U.Tree l){n:Int}(hn:af l n=true)(hp:dJ (nd l n)≠-1)(hu:af l (dJ (nd l n))=true):sr l n=sr l (dJ (nd l n)):=by
 obtain⟨r,hr⟩:=U.eB T hu
 unfold sr;rw[U.cn T hn hp,hr,List.getLast?_cons_cons]
 cases h:(dJ (nd l n)::r).getLast? with
 |none=>simp at h
 |some a=>rfl
theorem vz {l:List ai}(T:U.Tree l):∀n,af l n=true→dJ (nd l n)≠-1→af l (dJ (nd l n))=true:=by
 refine U.iO T (P:=fun n=>dJ (nd l n)≠-1→af l (dJ (nd l n))=true) (fun n hn h0 h=>absurd h0 h) (fun n hn h0 h1 _ _=>h1)
theorem FR {l:List ai}(T:U.Tree l):∀n,af l n=true→af l (sr l n)=true:=by
 refine U.iO T (fun n hn h=>?_) (fun n hn h hu ih=>?_)
 ·rw[Ey T hn h];exact hn
 ·rw[AL T hn h hu];exact ih
theorem Dl (f:ForM)(k:Nat)(x:ai)(hx:f.nodes[k]? =some x):aj Tryz.prog 149 [] [aR f,ah k] [] (ah (dJ x)):=by
 obtain⟨l,m⟩:=f
 obtain⟨a1,a2,a3,a4,a5,a6,a7,a8,a9,a10⟩:=x
 unfold dJ
 refine aj.aD (rvs:=[.tmp 4]) G au Tryz.func149 rfl Tryz.ntmps149 rfl rfl ?_;with_reducible refine wD ?_
 by_cases e:a6=-1
 ·subst e
  rw[if_pos rfl]
  repeat' (first
  |refine gK ?_|refine aE ?_ ?_
  |(((with_reducible show aN _ _ _ _ _);refine aN.mk k (aL _) rfl (ay hx) ?_)<;>with_reducible refine wK ?_)
  |apply trivial)
 ·rw[if_neg e]
  (have fct:=(eq_false e);(repeat' (first
  |refine gF ?_|refine aE ?_ ?_
  |(((with_reducible show aN _ _ _ _ _);refine aN.mk k (aL _) rfl (ay hx) ?_)<;>with_reducible refine wK ?_)
  |apply trivial));all_goals clear fct)
def Ma (f:ForM)(n:Int):Int:=if(bw f&&af f.nodes n)=true then sr f.nodes n else-1
theorem L3 (f:ForM)(hs:bC f.nodes)(n:Int):aj Tryz.prog 84 [] [aR f,ah n] [] (ah (Ma f n)):=by
 have h86:=yF f hs [n] (by simp)
 have e1:(bw f&& !decide (0≤gq (fun n=> !af f.nodes n) [n]))=(bw f&&af f.nodes n):=by
  congr 1
  unfold gq
  cases h:af f.nodes n<;>simp[List.findIdx?_cons,h]
 rw[e1] at h86
 have h87:=fun k x hx=>Dl f k x hx
 obtain⟨l,m⟩:=f
 unfold Ma
 simp only at h86 h87 ⊢
 refine aj.aD (rvs:=[.tmp 4]) G au Tryz.func84 rfl Tryz.ntmps84 rfl rfl ?_;with_reducible refine wD ?_
 cases e0:(bw ⟨l,m⟩&&af l n) with
 | false=>
   rw[e0] at h86
   refine ae.lit [71] h86 IM ⟨⟨rfl,rfl,trivial⟩,bY (l:=[n]) rfl rfl rfl rfl,trivial⟩ rfl rfl ?_;with_reducible refine wK ?_
   repeat' (first
  |refine gK ?_|refine aE ?_ ?_
  | apply trivial)
   all_goals rfl
 | true=>
   rw[e0] at h86
   refine ae.lit [71] h86 IM ⟨⟨rfl,rfl,trivial⟩,bY (l:=[n]) rfl rfl rfl rfl,trivial⟩ rfl rfl ?_;with_reducible refine wK ?_
   rw[if_pos rfl]
   obtain⟨hr,hn⟩:bw ⟨l,m⟩=true∧af l n=true:=by simpa using e0
   have T:=U.jx hr
   simp only at T
   repeat' (first
  |refine gK ?_|refine aE ?_ ?_
  | apply trivial)
   refine bW.use G au (fun(c:Int)=>[(1,ah c),(2,.ptr 20 0 0)]) (fun c=>[(20,.live 2 [aR ⟨l,m⟩] false)])
    (fun c=>af l c=true∧sr l c=sr l n) (fun c=>(U.bL l c).length) n ⟨hn,rfl⟩
    (by refine⟨⟨rfl,rfl⟩,⟨rfl,⟨rfl,rfl⟩,trivial⟩,⟨⟨rfl,rfl,trivial⟩,trivial⟩,trivial⟩) ?_
   rintro c ⟨hc,htop⟩
   with_reducible refine wK ?_
   obtain⟨i,y,rfl,hy,hny⟩:=aW.1 hc
   have h:=h87 i y hy
   by_cases e:dJ y=-1
   ·rw[e] at h
    rw[Ey T hc (by rw[hny];exact e)] at htop
    repeat' (first
  |refine gK ?_|refine aE ?_ ?_
  |(((with_reducible refine kQ 149 ?_);refine cL h Gu ?_)<;>with_reducible refine wK ?_)
  | apply trivial)
    all_goals exact htop.symm
   ·have hu:=vz T _ hc (by rw[hny];exact e)
    have hst:=AL T hc (by rw[hny];exact e) hu
    have hway:=U.cn T hc (by rw[hny];exact e)
    rw[hny] at hu hst hway
    generalize dJ y=u at h e hu hst hway
    (have fct:=(eq_false e);(repeat' (first
  |refine gF ?_|refine aE ?_ ?_
  |(((with_reducible refine kQ 149 ?_);refine cL h Gu ?_)<;>with_reducible refine wK ?_)
  | apply trivial));all_goals clear fct)
    refine bZ.mk u ⟨hu,by rw[←hst,htop]⟩ (by rw[hway];simp) ⟨⟨rfl,rfl⟩,⟨rfl,⟨rfl,rfl⟩,trivial⟩,⟨⟨rfl,rfl,trivial⟩,trivial⟩,trivial⟩
def EA (f:ForM)(n:Int):Bool:=(bw f&&af f.nodes n)&&decide ((nd f.nodes (sr f.nodes n)).kind=0)
theorem HG (f:ForM)(hs:bC f.nodes)(n:Int):aj Tryz.prog 35 [] [aR f,ah n] [] (bG (EA f n)):=by
 have h63:=L3 f hs n
 unfold Ma at h63
 unfold EA
 cases e0:(bw f&&af f.nodes n) with
 | false=>
   rw[e0,if_neg (by simp)] at h63
   obtain⟨l,m⟩:=f
   refine aj.aD (rvs:=[.tmp 4]) G au Tryz.func35 rfl Tryz.ntmps35 rfl rfl ?_;with_reducible refine wD ?_
   repeat' (first
  |refine gK ?_|refine aE ?_ ?_
  |(((with_reducible refine kQ 84 ?_);refine cL h63 O0 ?_)<;>with_reducible refine wK ?_)
  | apply trivial)
   all_goals rfl
 | true=>
   rw[e0,if_pos rfl] at h63
   obtain⟨hr,hn⟩:bw f=true∧af f.nodes n=true:=by simpa using e0
   have ht:=FR (U.jx hr) n hn
   obtain⟨l,m⟩:=f
   simp only at h63 ht ⊢
   generalize sr l n=t at h63 ht ⊢
   obtain⟨i,y,rfl,hy,hny⟩:=aW.1 ht
   rw[hny]
   obtain⟨a1,a2,a3,a4,a5,a6,a7,a8,a9,a10⟩:=y
   refine aj.aD (rvs:=[.tmp 4]) G au Tryz.func35 rfl Tryz.ntmps35 rfl rfl ?_;with_reducible refine wD ?_
   refine cL h63 O0 ?_;with_reducible refine wK ?_
   (have fct:=(show ¬ (i:Int)=-1 by omega);(repeat' (first
  |refine gF ?_|refine aE ?_ ?_
  |(((with_reducible show aN _ _ _ _ _);refine aN.mk i (aL _) rfl (ay hy) ?_)<;>with_reducible refine wK ?_)
  | apply trivial));all_goals clear fct)
   all_goals simp
end Go.Proofs.Heir
namespace Go.Proofs.Heir
open Go Go.Am Go.RowKit Go.Lib
set_option maxRecDepth 100000
set_option maxHeartbeats 8000000
set_option maxHeartbeats 8000000
structure RF (l:List ai) (m:Int):Prop where
  head:me ⟨l,m⟩=true
  Je:∀n,af l n=true→gg (nd l n)=true
  own:∀n,af l n=true→kR l (nd l n).doc 0=true∧((nd l n).kind=0→(nd l n).doc=n)
  par:∀n,af l n=true→(nd l n).parent≠-1→((nd l n).kind=1∨(nd l n).kind=2)∧af l (nd l n).parent=true∧eA (nd l (nd l n).parent).kind=true∧n∈ (nd l (nd l n).parent).kids
  kid:∀n,af l n=true→∀c∈ (nd l n).kids,af l c=true∧(nd l c).parent=n∧(nd l c).doc=(nd l n).doc∧((nd l c).kind=1∨(nd l c).kind=2∧(nd l n).kind≠0)
  dup:∀n,af l n=true→(nd l n).kids.Nodup
  hold:∀n,af l n=true→(nd l n).kids≠ []→eA (nd l n).kind=true
  elems:∀n,af l n=true→(nd l n).kind=0→cu l (nd l n).kids≤1
  host:∀n,af l n=true→(nd l n).kind=4→kR l (nd l n).host 1=true∧(nd l (nd l n).host).under=n∧(nd l (nd l n).host).doc=(nd l n).doc
  noh:∀n,af l n=true→(nd l n).kind≠4→(nd l n).host=-1
  und:∀n,af l n=true→(nd l n).under≠-1→(nd l n).kind=1∧kR l (nd l n).under 4=true∧(nd l (nd l n).under).host=n
  ends:∀n,af l n=true→gp l l.length n=true
theorem Cj {l:List ai}{n:Int}{x:ai}:dM l n x=true↔gg x=true∧(kR l x.doc 0=true∧(x.kind=0→x.doc=n))∧(x.parent≠-1→(x.kind=1∨x.kind=2)∧af l x.parent=true∧eA (nd l x.parent).kind=true∧n∈ (nd l x.parent).kids)∧
    (∀c∈x.kids,af l c=true∧(nd l c).parent=n∧(nd l c).doc=x.doc∧((nd l c).kind=1∨(nd l c).kind=2∧x.kind≠0))∧x.kids.Nodup∧(x.kids≠ []→eA x.kind=true)∧(x.kind=0→cu l x.kids≤1)∧
    (x.kind=4→kR l x.host 1=true∧(nd l x.host).under=n∧(nd l x.host).doc=x.doc)∧(x.kind≠4→x.host=-1)∧(x.under≠-1→x.kind=1∧kR l x.under 4=true∧(nd l x.under).host=n):=by
  unfold dM ug s4 o3 kJ gR
  simp only[bO,kg,bE]
  rw[my]
  have hk:∀c,AB l n x c=true↔af l c=true∧(nd l c).parent=n∧(nd l c).doc=x.doc∧((nd l c).kind=1∨(nd l c).kind=2∧x.kind≠0):=fun c=>by
    unfold AB
    simp only[bO,kg,bE]
  simp only[hk]
  by_cases e4:x.kind=4
  · rw [if_pos e4]
    simp only[bO,bE]
    constructor
    · rintro⟨a,⟨b1,b2⟩,c,⟨⟨d1,d2,_⟩,e1,e2⟩,f,g⟩
      exact⟨a,⟨b1,fun h=>b2.resolve_left (fun q=>q h)⟩,fun h=>let q:=c.resolve_left h;⟨q.1.1.1,q.1.1.2,q.1.2,q.2⟩,d1,d2,fun h=>e1.resolve_right h,fun h=>e2.resolve_left (fun q=>q h),fun _=>⟨f.1.1,f.1.2,f.2⟩,fun h=>absurd e4 h,fun h=>let q:=g.resolve_left h;⟨q.1.1,q.1.2,q.2⟩⟩
    · rintro⟨a,⟨b1,b2⟩,c,d1,d2,e1,e2,f,_,g⟩
      refine⟨a,⟨b1,?_⟩,?_,⟨⟨d1,d2,fun _ _=>by simp⟩,?_,?_⟩,?_,?_⟩
      · by_cases h:x.kind=0
        ·exact .inr (b2 h)
        ·exact .inl h
      · by_cases h:x.parent=-1
        ·exact .inl h
        ·have q:=c h;exact .inr ⟨⟨⟨q.1,q.2.1⟩,q.2.2.1⟩,q.2.2.2⟩
      · by_cases h:x.kids=[]
        ·exact .inr h
        ·exact .inl (e1 h)
      · by_cases h:x.kind=0
        ·exact .inr (e2 h)
        ·exact .inl h
      ·have q:=f e4;exact⟨⟨q.1,q.2.1⟩,q.2.2⟩
      · by_cases h:x.under=-1
        ·exact .inl h
        ·have q:=g h;exact .inr ⟨⟨q.1,q.2.1⟩,q.2.2⟩
  · rw [if_neg e4]
    simp only[bE]
    constructor
    · rintro⟨a,⟨b1,b2⟩,c,⟨⟨d1,d2,_⟩,e1,e2⟩,f,g⟩
      exact⟨a,⟨b1,fun h=>b2.resolve_left (fun q=>q h)⟩,fun h=>let q:=c.resolve_left h;⟨q.1.1.1,q.1.1.2,q.1.2,q.2⟩,d1,d2,fun h=>e1.resolve_right h,fun h=>e2.resolve_left (fun q=>q h),fun h=>absurd h e4,fun _=>f,fun h=>let q:=g.resolve_left h;⟨q.1.1,q.1.2,q.2⟩⟩
    · rintro⟨a,⟨b1,b2⟩,c,d1,d2,e1,e2,_,f,g⟩
      refine⟨a,⟨b1,?_⟩,?_,⟨⟨d1,d2,fun _ _=>by simp⟩,?_,?_⟩,f e4,?_⟩
      · by_cases h:x.kind=0
        ·exact .inr (b2 h)
        ·exact .inl h
      · by_cases h:x.parent=-1
        ·exact .inl h
        ·have q:=c h;exact .inr ⟨⟨⟨q.1,q.2.1⟩,q.2.2.1⟩,q.2.2.2⟩
      · by_cases h:x.kids=[]
        ·exact .inr h
        ·exact .inl (e1 h)
      · by_cases h:x.kind=0
        ·exact .inr (e2 h)
        ·exact .inl h
      · by_cases h:x.under=-1
        ·exact .inl h
        ·have q:=g h;exact .inr ⟨⟨q.1,q.2.1⟩,q.2.2⟩
theorem dI {l:List ai}{m:Int}:bw ⟨l,m⟩=true↔RF l m:=by
  unfold bw
  simp only[bO]
  rw[wN (fun n x=>dM l n x),wN (fun n _=>gp l l.length n)]
  simp only[Cj]
  constructor
  · rintro⟨h1,h2,h3⟩
    exact⟨h1,fun n hn=>(h2 n hn).1,fun n hn=>(h2 n hn).2.1,fun n hn=>(h2 n hn).2.2.1,fun n hn=>(h2 n hn).2.2.2.1,fun n hn=>(h2 n hn).2.2.2.2.1,fun n hn=>(h2 n hn).2.2.2.2.2.1,fun n hn=>(h2 n hn).2.2.2.2.2.2.1,fun n hn=>(h2 n hn).2.2.2.2.2.2.2.1,fun n hn=>(h2 n hn).2.2.2.2.2.2.2.2.1,fun n hn=>(h2 n hn).2.2.2.2.2.2.2.2.2,h3⟩
  · intro R
    exact⟨R.head,fun n hn=>⟨R.Je n hn,R.own n hn,R.par n hn,R.kid n hn,R.dup n hn,R.hold n hn,R.elems n hn,R.host n hn,R.noh n hn,R.und n hn⟩,R.ends⟩
def oH (l:List ai)(n:Int)(g:ai→ai):List ai:=l.set n.toNat (g (nd l n))
theorem iE (l:List ai)(n:Int)(g:ai→ai):(oH l n g).length=l.length:=List.length_set ..
theorem aY {l l':List ai}(h:l'.length=l.length)(n:Int):af l' n=af l n:=by unfold af;rw[h]
theorem nO {l:List ai}{n x:Int}(g:ai→ai)(hn:af l n=true)(hx:af l x=true):nd (oH l n g) x=if x=n then g (nd l n) else nd l x:=by
  have h1:=bf hn
  have h2:=bf hx
  show((l.set n.toNat (g (nd l n)))[x.toNat]?).getD HP=_
  rw[List.getElem?_set]
  by_cases e:x=n
  · subst e
    rw[if_pos rfl,if_pos (by omega),if_pos rfl];rfl
  ·rw[if_neg (by omega),if_neg e];rfl
structure iB (x y:ai):Prop where
  kind:x.kind=y.kind
  name:x.name=y.name
  is:x.is=y.is
  data:x.data=y.data
  attrs:x.attrs=y.attrs
  host:x.host=y.host
  under:x.under=y.under
theorem iB.refl (x:ai):iB x x:=⟨rfl,rfl,rfl,rfl,rfl,rfl,rfl⟩
theorem iB.trans {x y z:ai}(h:iB x y)(k:iB y z):iB x z:=⟨h.1.trans k.1,h.2.trans k.2,h.3.trans k.3,h.4.trans k.4,h.5.trans k.5,h.6.trans k.6,h.7.trans k.7⟩
theorem iB.Je {x y:ai}(h:iB x y):gg x=gg y:=by unfold gg;rw[h.kind,h.name,h.is,h.data,h.attrs]
section
variable {l l' : List ai} {m : Int}
theorem Eb (hl:l'.length=l.length)(hs:∀x,af l x=true→iB (nd l' x) (nd l x))(a k:Int):kR l' a k=kR l a k:=by
  unfold kR
  rw[aY hl]
  cases h:af l a with
  |false=>rfl
  |true=>rw[(hs a h).kind]
theorem k9 (hs:∀x,af l x=true→iB (nd l' x) (nd l x)){cs:List Int}(h:∀c∈cs,af l c=true):cu l' cs=cu l cs:=by
  unfold cu
  exact List.countP_congr fun c hc=>by rw[(hs c (h c hc)).kind]
theorem RF.pos (R:RF l m):af l 0=true:=by
  have:=R.head
  unfold me at this
  simp only[bO,bE] at this
  unfold af
  simp;omega
theorem RF.j6 (R:RF l m)(hl:l'.length=l.length)(hs:∀x,af l x=true→iB (nd l' x) (nd l x))
    (own:∀n,af l n=true→kR l (nd l' n).doc 0=true∧((nd l n).kind=0→(nd l' n).doc=n))
    (par:∀n,af l n=true→(nd l' n).parent≠-1→((nd l n).kind=1∨(nd l n).kind=2)∧af l (nd l' n).parent=true∧eA (nd l (nd l' n).parent).kind=true∧n∈ (nd l' (nd l' n).parent).kids)
    (kid:∀n,af l n=true→∀c∈ (nd l' n).kids,af l c=true∧(nd l' c).parent=n∧(nd l' c).doc=(nd l' n).doc∧((nd l c).kind=1∨(nd l c).kind=2∧(nd l n).kind≠0))
    (dup:∀n,af l n=true→(nd l' n).kids.Nodup) (hold:∀n,af l n=true→(nd l' n).kids≠ []→eA (nd l n).kind=true)
    (elems:∀n,af l n=true→(nd l n).kind=0→cu l (nd l' n).kids≤1)
    (hdoc:∀n,af l n=true→(nd l n).kind=4→(nd l' (nd l n).host).doc=(nd l' n).doc)
    (ends:∀n,af l n=true→gp l' l.length n=true):RF l' m:=by
  have T:=aY hl
  have I:=Eb hl hs
  have isT:∀ {a k:Int},kR l a k=true→af l a=true:=fun h=>by unfold kR at h;rw[bO] at h;exact h.1
  refine⟨?_,fun n hn=>?_,fun n hn=>?_,fun n hn h=>?_,fun n hn c hc=>?_,fun n hn=>?_,fun n hn h=>?_,fun n hn h=>?_,fun n hn h=>?_,fun n hn h=>?_,fun n hn h=>?_,fun n hn=>?_⟩
  · have:=R.head
    unfold me at this ⊢
    rw[hl,(hs 0 R.pos).kind];exact this
  all_goals rw[T] at hn
  ·rw[(hs n hn).Je];exact R.Je n hn
  ·rw[I,(hs n hn).kind];exact own n hn
  · have q:=par n hn h
    rw[T,(hs n hn).kind,(hs _ q.2.1).kind];exact q
  · have q:=kid n hn c hc
    rw[T,(hs n hn).kind,(hs c q.1).kind];exact q
  ·exact dup n hn
  ·rw[(hs n hn).kind];exact hold n hn h
  · rw[(hs n hn).kind] at h
    rw[k9 hs fun c hc=>(kid n hn c hc).1];exact elems n hn h
  · rw[(hs n hn).kind] at h
    have q:=R.host n hn h
    rw[I,(hs n hn).host,(hs _ (isT q.1)).under]
    exact⟨q.1,q.2.1,hdoc n hn h⟩
  · rw[(hs n hn).kind] at h
    rw[(hs n hn).host];exact R.noh n hn h
  · rw[(hs n hn).under] at h
    have q:=R.und n hn h
    rw[I,(hs n hn).kind,(hs n hn).under,(hs _ (isT q.2.1)).host];exact q
  ·rw[hl];exact ends n hn
theorem RF.tree (R:RF l m):U.Tree l:=U.jx (f:=⟨l,m⟩) (dI.2 R)
theorem RF.up (R:RF l m){n:Int}(hn:af l n=true)(h:dJ (nd l n)≠-1):af l (dJ (nd l n))=true:=vz R.tree n hn h
theorem tH {g g':Int→Int}{P:Int→Prop}(hg:∀x,P x→g' x=g x∨g' x=-1)(hP:∀x,P x→g x≠-1→P (g x)):∀ {k:Nat} {x:Int},P x→gu g k x=true→gu g' k x=true
  |0,_,_,h=>by simp[gu] at h
  | k +1,x,hx,h=>by
    unfold gu at h ⊢
    rcases hg x hx with e|e
    · rw[e]
      by_cases c:g x=-1
      ·rw[if_pos c]
      ·rw[if_neg c] at h ⊢;exact tH hg hP (hP x hx c) h
    ·rw[if_pos e]
theorem rC {g g':Int→Int}{P:Int→Prop}{k:Int}(hg:∀x,P x→x≠k→g' x=g x)(hP:∀x,P x→g x≠-1→P (g x)):∀ {j:Nat} {x:Int},P x→gu g j x=true→k∉tD g j x→gu g' j x=true∧tD g' j x=tD g j x
  |0,_,_,h,_=>by simp[gu] at h
  | j +1,x,hx,h,hk=>by
    unfold gu at h ⊢
    unfold tD at hk ⊢
    have hne:x≠k:=fun e=>hk (e▸eS)
    rw[hg x hx hne]
    by_cases c:g x=-1
    ·rw[if_pos c,if_pos c,if_pos c];exact⟨rfl,rfl⟩
    · rw[if_neg c] at h hk ⊢
      rw[if_neg c,if_neg c]
      have:=rC hg hP (hP x hx c) h (fun q=>hk (dQ _ q))
      exact⟨this.1,by rw[this.2]⟩
theorem El {g g':Int→Int}{P:Int→Prop}{k:Int}(hg:∀x,P x→x≠k→g' x=g x)(hP:∀x,P x→g x≠-1→P (g x)){M:Nat}(hk:gu g' M k=true):∀ {j:Nat} {x:Int},P x→gu g j x=true→gu g' (j+M) x=true
  |0,_,_,h=>by simp[gu] at h
  | j +1,x,hx,h=>by
    by_cases e:x=k
    ·subst e;exact(Az hk (by omega)).2
    · unfold gu at h
      rw[show j+1+M=(j+M)+1 by omega]
      unfold gu
      rw[hg x hx e]
      by_cases c:g x=-1
      ·rw[if_pos c]
      ·rw[if_neg c] at h ⊢;exact El hg hP hk (hP x hx c) h
theorem NI (l:List ai):∀ (m:Nat) (n:Int),U.wq l m n=tD (fun n=>dJ (nd l n)) m n
  |0,_=>rfl
  |m+1,n=>by unfold U.wq tD;rw[NI l m]
theorem Ex (l:List ai)(n:Int):U.bL l n=tD (fun n=>dJ (nd l n)) l.length n:=NI l l.length n
theorem FX {k:Nat}(hup:∀n,af l n=true→dJ (nd l n)≠-1→af l (dJ (nd l n))=true){n:Int}(hn:af l n=true)(h:gp l k n=true):gp l l.length n=true:=by
  rw[ji] at h ⊢
  exact NZ h (qm (OE h) fun a ha=>bf (PR (P:=fun n=>af l n=true) (fun n hn hne=>hup n hn hne) hn a ha))
theorem RF.jY (R:RF l m){n:Int}(hn:af l n=true):dJ (nd l n)≠n:=fun e=>by
  have hp:=bf hn
  have h:=U.cn R.tree hn (by rw[e];omega)
  rw[e] at h
  have:=congrArg List.length h
  simp at this
theorem RF.KH (R:RF l m){n:Int}(hn:af l n=true)(h:(nd l n).kind=1∨(nd l n).kind=2):dJ (nd l n)=(nd l n).parent:=by
  unfold dJ
  split
  ·rename_i e;rw[e];exact R.noh n hn (by omega)
  ·rfl
theorem RF.fW (R:RF l m){n:Int}(hn:af l n=true)(h:(nd l n).parent≠-1):dJ (nd l n)=(nd l n).parent:=by
  unfold dJ;rw[if_neg h]
def bg (l:List ai)(n:Int):List ai:=if(nd l n).parent=-1 then l else oH (oH l (nd l n).parent fun x=>{x with kids:=x.kids.erase n}) n fun x=>{x with parent:=-1}
theorem cW (l:List ai)(n:Int):(bg l n).length=l.length:=by
  unfold bg;split
  ·rfl
  ·rw[iE,iE]
theorem Nd (R:RF l m){n x:Int}(hn:af l n=true)(hp:(nd l n).parent≠-1)(hx:af l x=true):
    nd (bg l n) x=if x=n then{nd l n with parent:=-1} else if x=(nd l n).parent then{nd l x with kids:=(nd l x).kids.erase n} else nd l x:=by
  have hpt:=(R.par n hn hp).2.1
  have hne:(nd l n).parent≠n:=by have:=R.jY hn;rwa [R.fW hn hp] at this
  unfold bg
  rw[if_neg hp,nO _ (by rw[aY (iE ..)];exact hn) (by rw[aY (iE ..)];exact hx)]
  by_cases e:x=n
  ·rw[if_pos e,if_pos e,nO _ hpt hn,if_neg (fun q=>hne q.symm)]
  · rw[if_neg e,if_neg e,nO _ hpt hx]
    by_cases c:x=(nd l n).parent
    ·rw[if_pos c,if_pos c,←c]
    ·rw[if_neg c,if_neg c]
theorem dR (R:RF l m){n:Int}(hn:af l n=true)(x:Int)(hx:af l x=true):iB (nd (bg l n) x) (nd l x)∧(nd (bg l n) x).doc=(nd l x).doc∧((nd (bg l n) x).parent=if x=n then-1 else(nd l x).parent)∧((nd (bg l n) x).kids=if x=(nd l n).parent then(nd l x).kids.erase n else(nd l x).kids):=by
  by_cases hp:(nd l n).parent=-1
  · have h0:=bf hx
    unfold bg
    rw[if_pos hp]
    refine⟨.refl _,rfl,?_,?_⟩
    · split
      ·rename_i e;rw[e,hp]
      ·rfl
    ·rw[if_neg (by omega)]
  · have hne:(nd l n).parent≠n:=by have:=R.jY hn;rwa [R.fW hn hp] at this
    rw[Nd R hn hp hx]
    by_cases e:x=n
    · subst e
      rw[if_pos rfl,if_pos rfl,if_neg (fun q=>hne q.symm)]
      exact⟨⟨rfl,rfl,rfl,rfl,rfl,rfl,rfl⟩,rfl,rfl,rfl⟩
    · rw [if_neg e,if_neg e]
      by_cases c:x=(nd l n).parent
      · rw[if_pos c,if_pos c]
        exact⟨⟨rfl,rfl,rfl,rfl,rfl,rfl,rfl⟩,rfl,rfl,rfl⟩
      · rw[if_neg c,if_neg c]
        exact⟨.refl _,rfl,rfl,rfl⟩
theorem GG (R:RF l m){n:Int}(hn:af l n=true)(hk:(nd l n).kind=1∨(nd l n).kind=2∨(nd l n).parent=-1)(x:Int)(hx:af l x=true):dJ (nd (bg l n) x)=if x=n∧(nd l n).parent≠-1 then-1 else dJ (nd l x):=by
  obtain⟨h1,_,h3,_⟩:=dR R hn x hx
  by_cases e:x=n
  · subst e
    by_cases hp:(nd l x).parent=-1
    · rw[if_neg (fun q=>q.2 hp)]
      unfold dJ
      rw[h3,if_pos rfl,if_pos rfl,if_pos hp,h1.host]
    · rw[if_pos ⟨rfl,hp⟩]
      unfold dJ
      rw[h3,if_pos rfl,if_pos rfl,h1.host]
      exact R.noh x hx (by have:=(R.par x hx hp).1;omega)
  · rw[if_neg (fun q=>e q.1)]
    unfold dJ
    rw[h3,if_neg e,h1.host]
theorem dS (R:RF l m){n:Int}(hn:af l n=true):RF (bg l n) m:=by
  by_cases hp:(nd l n).parent=-1
  · have e:bg l n=l:=by unfold bg;rw[if_pos hp]
    rw[e];exact R
  have L:=dR R hn
  have hpt:=(R.par n hn hp).2.1
  have hkn:=(R.par n hn hp).1
  refine R.j6 (cW l n) (fun x hx=>(L x hx).1) (fun x hx=>?_) (fun x hx h=>?_) (fun x hx c hc=>?_) (fun x hx=>?_) (fun x hx h=>?_) (fun x hx h=>?_) (fun x hx h=>?_) (fun x hx=>?_)
  ·rw[(L x hx).2.1];exact R.own x hx
  · rw [(L x hx).2.2.1] at h ⊢
    by_cases e:x=n
    ·rw[if_pos e] at h;exact absurd rfl h
    · rw[if_neg e] at h ⊢
      obtain⟨q1,q2,q3,q4⟩:=R.par x hx h
      refine⟨q1,q2,q3,?_⟩
      rw[(L _ q2).2.2.2]
      split
      ·exact(List.mem_erase_of_ne e).2 q4
      ·exact q4
  · have hc':c∈ (nd l x).kids:=by
      rw[(L x hx).2.2.2] at hc
      split at hc
      ·exact List.mem_of_mem_erase hc
      ·exact hc
    obtain⟨q1,q2,q3,q4⟩:=R.kid x hx c hc'
    have hcn:c≠n:=fun e=>by
      subst e
      rw[(L x hx).2.2.2,if_pos q2.symm] at hc
      exact(List.Nodup.mem_erase_iff (R.dup x hx)).1 hc|>.1 rfl
    rw[(L c q1).2.2.1,if_neg hcn,(L c q1).2.1,(L x hx).2.1]
    exact⟨q1,q2,q3,q4⟩
  · rw[(L x hx).2.2.2]
    split
    ·exact(R.dup x hx).erase _
    ·exact R.dup x hx
  · refine R.hold x hx fun e=>h ?_
    rw[(L x hx).2.2.2,e];simp
  · rw[(L x hx).2.2.2]
    split
    ·exact Nat.le_trans (List.Sublist.countP_le List.erase_sublist) (R.elems x hx h)
    ·exact R.elems x hx h
  · have q:=(R.host x hx h).1
    have ht:af l (nd l x).host=true:=by unfold kR at q;rw[bO] at q;exact q.1
    rw[(L _ ht).2.1,(L x hx).2.1];exact(R.host x hx h).2.2
  · rw[ji]
    refine tH (g:=fun n=>dJ (nd l n)) (P:=fun x=>af l x=true) (fun y hy=>?_) (fun y hy h=>R.up hy h) hx (by rw[←ji];exact R.ends x hx)
    have:=GG R hn (by rcases hkn with k|k<;>simp[k]) y hy
    simp only[this]
    split
    ·exact .inr rfl
    ·exact .inl rfl
def nS (cs:List Int)(b k:Int):List Int:=if b=-1 then cs++ [k] else cs.takeWhile (fun c=>decide (c≠b))++k::cs.dropWhile (fun c=>decide (c≠b))
theorem vD (cs:List Int)(b k:Int):(nS cs b k).Perm (k::cs):=by
  unfold nS
  split
  ·exact List.perm_append_singleton k cs
  · refine List.perm_middle.trans ?_
    rw[List.takeWhile_append_dropWhile]
theorem tO {cs:List Int}{b k c:Int}:c∈nS cs b k↔c=k∨c∈cs:=by rw[(vD cs b k).mem_iff,dP]
def gV (l:List ai)(k p b:Int):List ai:=oH (oH l p fun x=>{x with kids:=nS x.kids b k}) k fun x=>{x with parent:=p}
theorem lD (l:List ai)(k p b:Int):(gV l k p b).length=l.length:=by unfold gV;rw[iE,iE]
theorem rS {k p b:Int}(hk:af l k=true)(hp:af l p=true)(hne:k≠p)(x:Int)(hx:af l x=true):iB (nd (gV l k p b) x) (nd l x)∧(nd (gV l k p b) x).doc=(nd l x).doc∧((nd (gV l k p b) x).parent=if x=k then p else(nd l x).parent)∧((nd (gV l k p b) x).kids=if x=p then nS (nd l x).kids b k else(nd l x).kids):=by
  unfold gV
  rw[nO _ (by rw[aY (iE ..)];exact hk) (by rw[aY (iE ..)];exact hx)]
  by_cases e:x=k
  · subst e
    rw[if_pos rfl,if_pos rfl,nO _ hp hx,if_neg hne,if_neg hne]
    exact⟨⟨rfl,rfl,rfl,rfl,rfl,rfl,rfl⟩,rfl,rfl,rfl⟩
  · rw [if_neg e,if_neg e,nO _ hp hx]
    by_cases c:x=p
    · subst c
      rw[if_pos rfl,if_pos rfl]
      exact⟨⟨rfl,rfl,rfl,rfl,rfl,rfl,rfl⟩,rfl,rfl,rfl⟩
    · rw[if_neg c,if_neg c]
      exact⟨.refl _,rfl,rfl,rfl⟩
theorem J5 (R:RF l m){k p b:Int}(hk:af l k=true)(hp:af l p=true)(hne:k≠p)(x:Int)(hx:af l x=true):dJ (nd (gV l k p b) x)=if x=k then p else dJ (nd l x):=by
  obtain⟨h1,_,h3,_⟩:=rS (b:=b) hk hp hne x hx
  have:=bf hp
  unfold dJ
  rw[h3,h1.host]
  by_cases e:x=k
  ·rw[if_pos e,if_pos e,if_neg (by omega)]
  ·rw[if_neg e,if_neg e]
theorem CE (R:RF l m){k p b:Int}(hk:af l k=true)(hp:af l p=true)(h1:(nd l k).parent=-1)(h2:(nd l k).kind=1∨(nd l k).kind=2)(h3:(nd l k).doc=(nd l p).doc)(h4:eA (nd l p).kind=true)
    (h5:(nd l p).kind=0→(nd l k).kind=1∧cu l (nd l p).kids=0) (h6:k∉U.bL l p):RF (gV l k p b) m:=by
  have hne:k≠p:=fun e=>h6 (by rw[e];exact U.cI R.tree hp)
  have L:=rS (b:=b) hk hp hne
  have hpp:=bf hp
  have hkk:k∉ (nd l p).kids:=fun h=>by have:=(R.kid p hp k h).2.1;omega
  have hupL:∀x,af l x=true→dJ (nd (gV l k p b) x)=if x=k then p else dJ (nd l x):=J5 R hk hp hne
  refine R.j6 (lD l k p b) (fun x hx=>(L x hx).1) (fun x hx=>?_) (fun x hx h=>?_) (fun x hx c hc=>?_) (fun x hx=>?_) (fun x hx h=>?_) (fun x hx h=>?_) (fun x hx h=>?_) (fun x hx=>?_)
  ·rw[(L x hx).2.1];exact R.own x hx
  · rw [(L x hx).2.2.1] at h ⊢
    by_cases e:x=k
    · subst e
      rw[if_pos rfl,(L p hp).2.2.2,if_pos rfl]
      exact⟨h2,hp,h4,tO.2 (.inl rfl)⟩
    · rw[if_neg e] at h ⊢
      obtain⟨q1,q2,q3,q4⟩:=R.par x hx h
      refine⟨q1,q2,q3,?_⟩
      rw[(L _ q2).2.2.2]
      split
      ·exact tO.2 (.inr q4)
      ·exact q4
  · rw [(L x hx).2.2.2] at hc
    have hc':(x=p∧c=k)∨c∈ (nd l x).kids:=by
      split at hc
      · rename_i e
        rcases tO.1 hc with q|q
        ·exact .inl ⟨e,q⟩
        ·exact .inr q
      ·exact .inr hc
    rcases hc' with⟨rfl,rfl⟩|hc'
    · rw [(L c hk).2.2.1,if_pos rfl,(L c hk).2.1,(L x hx).2.1]
      refine⟨hk,rfl,h3,?_⟩
      by_cases e:(nd l x).kind=0
      ·exact .inl (h5 e).1
      · rcases h2 with q|q
        ·exact .inl q
        ·exact .inr ⟨q,e⟩
    · obtain⟨q1,q2,q3,q4⟩:=R.kid x hx c hc'
      have hck:c≠k:=fun e=>by subst e;have:=bf hx;omega
      rw[(L c q1).2.2.1,if_neg hck,(L c q1).2.1,(L x hx).2.1]
      exact⟨q1,q2,q3,q4⟩
  · rw [(L x hx).2.2.2]
    split
    · rename_i e
      subst e
      exact((vD _ b k).nodup_iff).2 (List.nodup_cons.2 ⟨hkk,R.dup x hx⟩)
    ·exact R.dup x hx
  · by_cases e:x=p
    ·rw[e];exact h4
    ·rw[(L x hx).2.2.2,if_neg e] at h;exact R.hold x hx h
  · rw [(L x hx).2.2.2]
    split
    · rename_i e
      subst e
      unfold cu
      rw[(vD _ b k).countP_eq]
      have:=(h5 h).2
      unfold cu at this
      rw[List.countP_cons,this]
      split<;>omega
    ·exact R.elems x hx h
  · have q:=(R.host x hx h).1
    have ht:af l (nd l x).host=true:=by unfold kR at q;rw[bO] at q;exact q.1
    rw[(L _ ht).2.1,(L x hx).2.1];exact(R.host x hx h).2.2
  · have hup':∀n,af (gV l k p b) n=true→dJ (nd (gV l k p b) n)≠-1→af (gV l k p b) (dJ (nd (gV l k p b) n))=true:=fun n hn h=>by
      rw[aY (lD ..)] at hn
      rw[hupL n hn] at h ⊢
      rw[aY (lD ..)]
      split
      ·exact hp
      ·rename_i e;rw[if_neg e] at h;exact R.up hn h
    have hg:∀x,af l x=true→x≠k→(fun n=>dJ (nd (gV l k p b) n)) x=(fun n=>dJ (nd l n)) x:=fun x hx e=>by
      show dJ _=dJ _
      rw[hupL x hx,if_neg e]
    have hP:∀x,af l x=true→(fun n=>dJ (nd l n)) x≠-1→af l ((fun n=>dJ (nd l n)) x)=true:=fun x hx h=>R.up hx h
    have hfp:gu (fun n=>dJ (nd (gV l k p b) n)) l.length p=true:=
      (rC (P:=fun x=>af l x=true) (k:=k) hg hP hp (by rw[←ji];exact R.ends p hp) (by rw[←Ex];exact h6)).1
    have hfk:gu (fun n=>dJ (nd (gV l k p b) n)) (l.length+1) k=true:=by
      unfold gu
      simp only[hupL k hk,if_true]
      rw[if_neg (by omega)];exact hfp
    have:=El (P:=fun x=>af l x=true) (k:=k) hg hP hfk hx (by rw[←ji];exact R.ends x hx)
    rw[←ji] at this
    have:=FX hup' (by rw[aY (lD ..)];exact hx) this
    rwa [lD] at this
def rI (l:List ai)(s:List Int)(d:Int):List ai:=s.foldl (fun l k=>oH l k fun x=>{x with doc:=d}) l
theorem yC (d:Int):∀ (s:List Int) (l:List ai),(rI l s d).length=l.length
  |[],_=>rfl
  | k::s,l=>by
    show(rI (oH l k fun x=>{x with doc:=d}) s d).length=_
    rw[yC d s,iE]
theorem Gn (d:Int):∀ (s:List Int) (l:List ai),(∀k∈s,af l k=true)→∀x,af l x=true→nd (rI l s d) x=if x∈s then{nd l x with doc:=d} else nd l x
  |[],l,_,x,_=>by rw[if_neg (by simp)];rfl
  | k ::s,l,h,x,hx=>by
    have T:=aY (iE l k fun x=>{x with doc:=d})
    have hk:=h k eS
    show nd (rI (oH l k fun x=>{x with doc:=d}) s d) x=_
    rw[Gn d s _ (fun j hj=>by rw[T];exact h j (dQ _ hj)) x (by rw[T];exact hx),nO _ hk hx]
    by_cases e:x=k
    · subst e
      rw[if_pos rfl,if_pos (eS)]
      split<;>rfl
    · rw[if_neg e]
      by_cases c:x∈s
      ·rw[if_pos c,if_pos (dQ _ c)]
      ·rw[if_neg c,if_neg (fun q=>(dP.1 q).elim e c)]
theorem vR {s:List Int}{d:Int}(h:∀k∈s,af l k=true)(x:Int)(hx:af l x=true):iB (nd (rI l s d) x) (nd l x)∧((nd (rI l s d) x).doc=if x∈s then d else(nd l x).doc)∧(nd (rI l s d) x).parent=(nd l x).parent∧(nd (rI l s d) x).kids=(nd l x).kids:=by
  rw[Gn d s l h x hx]
  by_cases c:x∈s
  ·rw[if_pos c,if_pos c];exact⟨⟨rfl,rfl,rfl,rfl,rfl,rfl,rfl⟩,rfl,rfl,rfl⟩
  ·rw[if_neg c,if_neg c];exact⟨.refl _,rfl,rfl,rfl⟩
theorem RF.Mv (R:RF l m){n:Int}(hn:af l n=true)(h:(nd l n).kind=0):dJ (nd l n)=-1:=by
  unfold dJ
  by_cases hp:(nd l n).parent=-1
  ·rw[if_pos hp];exact R.noh n hn (by omega)
  ·have:=(R.par n hn hp).1;omega
theorem Kv (R:RF l m){n:Int}(hn:af l n=true)(htop:dJ (nd l n)=-1){x:Int}(hx:af l x=true)(hu:dJ (nd l x)≠-1):x∈U.cm l l.length n↔dJ (nd l x)∈U.cm l l.length n:=by
  rw[U.mL R.tree hn hx,U.mL R.tree hn (R.up hx hu),U.cn R.tree hx hu,dP]
  constructor
  · rintro(e|h)
    ·rw[←e] at hu;exact absurd htop hu
    ·exact h
  ·exact .inr
theorem EE (R:RF l m){n d:Int}(hn:af l n=true)(htop:dJ (nd l n)=-1)(hk:(nd l n).kind≠0)(hd:kR l d 0=true):RF (rI l (U.cm l l.length n) d) m:=by
  have hs:∀k∈U.cm l l.length n,af l k=true:=fun k h=>(U.eP R.tree _ n hn k h).1
  have L:=vR (d:=d) hs
  have I:=fun{x:Int} (hx:af l x=true)=>Kv R hn htop (x:=x) hx
  refine R.j6 (yC d _ l) (fun x hx=>(L x hx).1) (fun x hx=>?_) (fun x hx h=>?_) (fun x hx c hc=>?_) (fun x hx=>?_) (fun x hx h=>?_) (fun x hx h=>?_) (fun x hx h=>?_) (fun x hx=>?_)
  · rw [(L x hx).2.1]
    split
    · rename_i e
      refine⟨hd,fun h0=>?_⟩
      have:=(U.mL R.tree hn hx).1 e
      rw[U.eJ R.tree hx (R.Mv hx h0),ic] at this
      rw[←this] at h0;exact absurd h0 hk
    ·exact R.own x hx
  · rw[(L x hx).2.2.1] at h ⊢
    obtain⟨q1,q2,q3,q4⟩:=R.par x hx h
    exact⟨q1,q2,q3,by rw[(L _ q2).2.2.2];exact q4⟩
  · rw[(L x hx).2.2.2] at hc
    obtain⟨q1,q2,q3,q4⟩:=R.kid x hx c hc
    have h0:=bf hx
    have hu:dJ (nd l c)=x:=by rw[R.fW q1 (by omega),q2]
    have hi:=I q1 (by omega)
    rw[hu] at hi
    rw[(L c q1).2.2.1,(L c q1).2.1,(L x hx).2.1]
    refine⟨q1,q2,?_,q4⟩
    by_cases e:x∈U.cm l l.length n
    ·rw[if_pos e,if_pos (hi.2 e)]
    ·rw[if_neg e,if_neg (fun q=>e (hi.1 q))];exact q3
  ·rw[(L x hx).2.2.2];exact R.dup x hx
  ·rw[(L x hx).2.2.2] at h;exact R.hold x hx h
  ·rw[(L x hx).2.2.2];exact R.elems x hx h
  · obtain⟨q1,q2,q3⟩:=R.host x hx h
    have ht:af l (nd l x).host=true:=by unfold kR at q1;rw[bO] at q1;exact q1.1
    have hp:(nd l x).parent=-1:=Classical.byContradiction fun c=>by have:=(R.par x hx c).1;omega
    have h0:=bf ht
    have hu:dJ (nd l x)=(nd l x).host:=by unfold dJ;rw[if_pos hp]
    have hi:=I hx (by omega)
    rw[hu] at hi
    rw[(L _ ht).2.1,(L x hx).2.1]
    by_cases e:x∈U.cm l l.length n
    ·rw[if_pos e,if_pos (hi.1 e)]
    ·rw[if_neg e,if_neg (fun q=>e (hi.2 q))];exact q3
  · rw[ji]
    refine tH (g:=fun n=>dJ (nd l n)) (P:=fun x=>af l x=true) (fun y hy=>.inl ?_) (fun y hy h=>R.up hy h) hx (by rw[←ji];exact R.ends x hx)
    show dJ _=dJ _
    unfold dJ
    rw[(L y hy).2.2.1,(L y hy).1.host]
end
end Go.Proofs.Heir
namespace Go.Proofs.Heir
open Go Go.Am Go.RowKit Go.Lib
set_option maxRecDepth 100000
set_option maxHeartbeats 8000000
structure aQ where
 kind:Int
 node:Int
 src:Int
 dst:Int
 name:ByteArray
 had:Bool
 has:Bool
 old:ByteArray
 new:ByteArray
 deriving DecidableEq
@[reducible] def je (x : aQ) : AV := .agg [ah x.kind, ah x.node, ah x.src, ah x.dst, bX x.name, bG x.had, bG x.has, bX x.old, bX x.new]
def gm (x:aQ):AV:=je x
theorem Bx {l:List aQ}{k:Nat}{x:aQ}(h:l[k]? =some x):(l.map gm)[k]? =some (je x):=by rw[fI,h];rfl
end Go.Proofs.Heir
