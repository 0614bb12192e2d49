/- Models, plain laws and contracts of functions of the given program; conditions as stated in each theorem. By an AI agent. -/
import Derived.Test.YtkhjcnjicjgfiaaGreatDoorWD11
import Derived.Test.YtkhjcnjicjgfiaaGreatDoorChecked
import Derived.Test.YtkhjcnjicjgfiaaGreatDoorWD6
import Derived.Shelf.GgClosure.StringsIndexFunc
import Derived.Deep.LoopGhost
import Derived.WalkKit
import Derived.Laws.IdiomStrings
import Derived.IntWalk
import Derived.Outline
import Derived.Lib.Hide
import Derived.Lib.MapLaws
set_option linter.unusedSimpArgs false
set_option linter.unusedVariables false
namespace Go.Proofs.Heir
open Go.Am
set_option maxRecDepth 100000
@[reducible] def G : bL := [(1, .sc .nilFunc), (2, .sc (.int .i64 0)), (3, .sc (.int .i64 0)), (4, .bl), (5, .sc (.int .u8 0)), (9, .str), (12, .sc (.int .u64 0)), (15, .sc (.pointer none)), (16, .sc (.pointer none)), (17, .sc (.pointer none)), (20, .sc .nilIface), (21, .sc (.int .i32 0)), (22, .sl 35 10 136), (24, .st 2 [(0, 22), (1, 3)] (Array.mk [(.slice none 0 0), (.int .i64 0)]) [1, 1]), (25, .sc .nilFunc), (26, .sc .nilFunc), (27, .sl 53 9 88), (28, .sc (.int .i64 0)), (30, .sc .nilFunc), (31, .sc .nilFunc), (32, .sl 90 2 32), (33, .sl 3 1 8), (35, .st 10 [(0, 3), (1, 9), (2, 9), (3, 9), (4, 32), (5, 3), (6, 33), (7, 3), (8, 3), (9, 3)] (Array.mk [(.int .i64 0), (.string ByteArray.empty), (.string ByteArray.empty), (.string ByteArray.empty), (.slice none 0 0), (.int .i64 0), (.slice none 0 0), (.int .i64 0), (.int .i64 0), (.int .i64 0)]) [1, 1, 1, 1, 1, 1, 1, 1, 1, 1]), (36, .sc .nilFunc), (37, .sc .nilFunc), (38, .sc .nilFunc), (39, .sc .nilFunc), (41, .sc .nilFunc), (42, .sc .nilFunc), (43, .sc .nilFunc), (44, .sc .nilFunc), (45, .sc .nilFunc), (46, .sc .nilFunc), (47, .sc .nilFunc), (48, .sc .nilFunc), (49, .sc .nilFunc), (50, .sc .nilFunc), (51, .sc .nilFunc), (53, .st 9 [(0, 3), (1, 3), (2, 3), (3, 3), (4, 9), (5, 4), (6, 4), (7, 9), (8, 9)] (Array.mk [(.int .i64 0), (.int .i64 0), (.int .i64 0), (.int .i64 0), (.string ByteArray.empty), (.bool false), (.bool false), (.string ByteArray.empty), (.string ByteArray.empty)]) [1, 1, 1, 1, 1, 1, 1, 1, 1]), (54, .sc .nilFunc), (56, .st 3 [(0, 24), (2, 27)] (Array.mk [(.slice none 0 0), (.int .i64 0), (.slice none 0 0)]) [2, 1]), (58, .sc .nilFunc), (59, .sc .nilFunc), (60, .sc .nilFunc), (61, .sc .nilFunc), (62, .sc .nilFunc), (63, .sc .nilFunc), (64, .sc .nilFunc), (65, .sc .nilFunc), (66, .sc .nilFunc), (67, .sc .nilFunc), (68, .sl 70 6 6), (70, .st 6 [(0, 5), (1, 5), (2, 5), (3, 5), (4, 5), (5, 5)] (Array.mk [(.int .u8 0), (.int .u8 0), (.int .u8 0), (.int .u8 0), (.int .u8 0), (.int .u8 0)]) [1, 1, 1, 1, 1, 1]), (71, .sl 5 1 1), (72, .sc .nilFunc), (73, .sc .nilFunc), (74, .sc .nilFunc), (75, .sl 156 4 32), (76, .sl 147 3 40), (77, .sl 205 2 24), (79, .st 4 [(0, 76), (1, 77), (2, 3), (3, 4)] (Array.mk [(.slice none 0 0), (.slice none 0 0), (.int .i64 0), (.bool false)]) [1, 1, 1, 1]), (80, .sl 154 5 104), (81, .sc .nilFunc), (82, .sl 88 11 104), (84, .sc .nilFunc), (86, .st 10 [(0, 3), (1, 3), (2, 9), (3, 4), (4, 4), (5, 9), (6, 9), (7, 3), (8, 3), (9, 4)] (Array.mk [(.int .i64 0), (.int .i64 0), (.string ByteArray.empty), (.bool false), (.bool false), (.string ByteArray.empty), (.string ByteArray.empty), (.int .i64 0), (.int .i64 0), (.bool false)]) [1, 1, 1, 1, 1, 1, 1, 1, 1, 1]), (88, .st 11 [(0, 3), (1, 86)] (Array.mk [(.int .i64 0), (.int .i64 0), (.int .i64 0), (.string ByteArray.empty), (.bool false), (.bool false), (.string ByteArray.empty), (.string ByteArray.empty), (.int .i64 0), (.int .i64 0), (.bool false)]) [1, 10]), (90, .st 2 [(0, 9), (1, 9)] (Array.mk [(.string ByteArray.empty), (.string ByteArray.empty)]) [1, 1]), (91, .sc .nilFunc), (93, .sc .nilFunc), (95, .st 2 [(0, 24)] (Array.mk [(.slice none 0 0), (.int .i64 0)]) [2]), (96, .sc .nilFunc), (97, .sc .nilIface), (98, .sc .nilIface), (99, .sc .nilFunc), (100, .sc (.pointer none)), (102, .sc .nilFunc), (104, .st 3 [(0, 24), (2, 27)] (Array.mk [(.slice none 0 0), (.int .i64 0), (.slice none 0 0)]) [2, 1]), (105, .sc .nilFunc), (106, .sc .nilFunc), (107, .sc .nilFunc), (108, .sc .nilFunc), (110, .sc .nilFunc), (112, .sc .nilFunc), (114, .sc .nilFunc), (116, .sc .nilFunc), (117, .sc .nilFunc), (118, .sc .nilFunc), (119, .sc .nilFunc), (121, .st 5 [(0, 24), (2, 3), (3, 3), (4, 3)] (Array.mk [(.slice none 0 0), (.int .i64 0), (.int .i64 0), (.int .i64 0), (.int .i64 0)]) [2, 1, 1, 1]), (122, .sc .nilFunc), (123, .sc .nilFunc), (124, .sc .nilFunc), (125, .sc .nilFunc), (126, .sc .nilFunc), (127, .sc .nilFunc), (128, .sc .nilFunc), (129, .sc .nilFunc), (130, .sc .nilFunc), (131, .sc .nilFunc), (133, .sc .nilFunc), (135, .sc .nilFunc), (136, .sc .nilFunc), (137, .sc .nilFunc), (139, .sc .nilFunc), (140, .sc .nilFunc), (141, .sc (.map none)), (143, .st 3 [(0, 24), (2, 141)] (Array.mk [(.slice none 0 0), (.int .i64 0), (.map none)]) [2, 1]), (144, .sc .nilFunc), (145, .sc .nilFunc), (147, .st 3 [(0, 9), (1, 9), (2, 3)] (Array.mk [(.string ByteArray.empty), (.string ByteArray.empty), (.int .i64 0)]) [1, 1, 1]), (148, .sl 321 7 72), (150, .st 2 [(0, 3), (1, 148)] (Array.mk [(.int .i64 0), (.slice none 0 0)]) [1, 1]), (151, .sl 150 2 32), (152, .sl 9 1 16), (154, .st 5 [(0, 4), (1, 152), (2, 148), (3, 148), (4, 151)] (Array.mk [(.bool false), (.slice none 0 0), (.slice none 0 0), (.slice none 0 0), (.slice none 0 0)]) [1, 1, 1, 1, 1]), (156, .st 4 [(0, 3), (1, 3), (2, 3), (3, 4)] (Array.mk [(.int .i64 0), (.int .i64 0), (.int .i64 0), (.bool false)]) [1, 1, 1, 1]), (157, .sc .nilFunc), (158, .sc .nilFunc), (159, .sc .nilFunc), (160, .sc .nilFunc), (161, .sc (.pointer none)), (163, .sc .nilFunc), (165, .st 9 [(0, 24), (2, 75), (3, 79), (7, 80), (8, 82)] (Array.mk [(.slice none 0 0), (.int .i64 0), (.slice none 0 0), (.slice none 0 0), (.slice none 0 0), (.int .i64 0), (.bool false), (.slice none 0 0), (.slice none 0 0)]) [2, 1, 4, 1, 1]), (167, .sc .nilFunc), (168, .sc (.pointer none)), (169, .sc .nilFunc), (170, .sc .nilFunc), (171, .sc .nilFunc), (172, .sc .nilFunc), (173, .sc .nilFunc), (174, .sc .nilFunc), (176, .st 1 [(0, 28)] (Array.mk [(.int .i64 0)]) [1]), (178, .st 2 [(0, 9), (1, 98)] (Array.mk [(.string ByteArray.empty), .nilIface]) [1, 1]), (179, .sc .nilFunc), (180, .sc .nilFunc), (181, .sc .nilFunc), (182, .sc .nilFunc), (183, .sc .nilFunc), (184, .sc .nilFunc), (185, .sc .nilFunc), (186, .sc .nilFunc), (187, .sc .nilFunc), (188, .sc .nilFunc), (189, .sc .nilFunc), (190, .sc .nilFunc), (191, .sc .nilFunc), (192, .sc .nilFunc), (193, .sc .nilFunc), (194, .sc .nilFunc), (195, .sc .nilFunc), (196, .sc .nilFunc), (197, .sc .nilFunc), (198, .sc .nilFunc), (199, .sc .nilFunc), (200, .sc .nilFunc), (202, .sc (.map none)), (203, .sc .nilFunc), (205, .st 2 [(0, 9), (1, 3)] (Array.mk [(.string ByteArray.empty), (.int .i64 0)]) [1, 1]), (206, .sc (.map none)), (208, .st 2 [(0, 202), (1, 206)] (Array.mk [(.map none), (.map none)]) [1, 1]), (210, .sc .nilFunc), (211, .sc .nilFunc), (212, .sc .nilFunc), (213, .sc .nilFunc), (214, .sc (.pointer none)), (216, .st 5 [(0, 24), (2, 3), (3, 9), (4, 4)] (Array.mk [(.slice none 0 0), (.int .i64 0), (.int .i64 0), (.string ByteArray.empty), (.bool false)]) [2, 1, 1, 1]), (217, .sc .nilFunc), (218, .sc .nilFunc), (219, .sc .nilFunc), (220, .sc (.pointer none)), (221, .sc .nilFunc), (222, .sc .nilFunc), (223, .sc .nilFunc), (224, .sc (.map none)), (225, .sc .nilFunc), (226, .sc .nilFunc), (227, .sc .nilFunc), (228, .sc .nilFunc), (229, .sc .nilFunc), (232, .sc (.map none)), (233, .sc .nilFunc), (234, .sc .nilFunc), (235, .sc .nilFunc), (236, .sc .nilFunc), (237, .sc .nilFunc), (238, .sc .nilFunc), (243, .sc .nilFunc), (244, .sc .nilIface), (246, .sc .nilFunc), (248, .sc .nilFunc), (249, .sc .nilFunc), (250, .sc .nilFunc), (251, .sc .nilFunc), (252, .sc .nilFunc), (253, .sc .nilFunc), (254, .sc .nilFunc), (255, .sc .nilFunc), (256, .sc .nilFunc), (257, .sc (.pointer none)), (259, .st 2 [(0, 257), (1, 71)] (Array.mk [(.pointer none), (.slice none 0 0)]) [1, 1]), (260, .sc .nilFunc), (261, .sc .nilFunc), (262, .sc .nilFunc), (265, .sc (.pointer none)), (266, .sc .nilFunc), (267, .sc .nilFunc), (268, .sc .nilFunc), (269, .sc .nilIface), (271, .sc .nilFunc), (272, .sc .nilIface), (273, .sc .nilFunc), (274, .sc .nilIface), (275, .sl 98 1 16), (276, .sc .nilFunc), (277, .sc .nilFunc), (278, .sc .nilFunc), (279, .sc .nilFunc), (280, .sc (.pointer none)), (281, .sc .nilFunc), (282, .sc .nilFunc), (283, .sc .nilFunc), (284, .sc (.int .u64 0)), (286, .sc .nilFunc), (287, .sc (.int .u32 0)), (289, .sc .nilFunc), (290, .sl 292 2 16), (292, .st 2 [(0, 3), (1, 3)] (Array.mk [(.int .i64 0), (.int .i64 0)]) [1, 1]), (293, .sc .nilFunc), (294, .sc (.pointer none)), (295, .sl 301 3 6), (296, .sl 304 3 12), (298, .st 3 [(0, 295), (1, 296), (2, 3)] (Array.mk [(.slice none 0 0), (.slice none 0 0), (.int .i64 0)]) [1, 1, 1]), (299, .sc (.int .u16 0)), (301, .st 3 [(0, 299), (1, 299), (2, 299)] (Array.mk [(.int .u16 0), (.int .u16 0), (.int .u16 0)]) [1, 1, 1]), (302, .sc .nilFunc), (304, .st 3 [(0, 287), (1, 287), (2, 287)] (Array.mk [(.int .u32 0), (.int .u32 0), (.int .u32 0)]) [1, 1, 1]), (305, .sc .nilFunc), (306, .sc (.pointer none)), (307, .sc (.pointer none)), (313, .sc .nilFunc), (315, .sc .nilFunc), (321, .st 7 [(0, 3), (1, 3), (2, 3), (3, 3), (4, 9), (5, 9), (6, 4)] (Array.mk [(.int .i64 0), (.int .i64 0), (.int .i64 0), (.int .i64 0), (.string ByteArray.empty), (.string ByteArray.empty), (.bool false)]) [1, 1, 1, 1, 1, 1, 1]), (322, .sc .nilFunc), (323, .sc .nilFunc), (326, .sc (.pointer none)), (327, .sc .nilFunc), (330, .sl 333 4 16), (334, .sc (.pointer none))]
theorem aq:G.Good Tryz.prog:=fS<|fS<|fS<|fB<|fS<|fG<|fS<|fS<|fS<|fS<|fS<|fS<|fL<|fT Tryz.underlying24<|fS<|fS<|fL<|fS<|fS<|fS<|fL<|fL<|fT Tryz.underlying35<|fS<|fS<|fS<|fS<|fS<|fS<|fS<|fS<|fS<|fS<|fS<|fS<|fS<|fS<|fS<|fT Tryz.underlying53<|fS<|fT Tryz.underlying56<|fS<|fS<|fS<|fS<|fS<|fS<|fS<|fS<|fS<|fS<|fL<|fT Tryz.underlying70<|fL<|fS<|fS<|fS<|fL<|fL<|fL<|fT Tryz.underlying79<|fL<|fS<|fL<|fS<|fT Tryz.underlying86<|fT Tryz.underlying88<|fT Tryz.underlying90<|fS<|fS<|fT Tryz.underlying95<|fS<|fS<|fS<|fS<|fS<|fS<|fT Tryz.underlying104<|fS<|fS<|fS<|fS<|fS<|fS<|fS<|fS<|fS<|fS<|fS<|fT Tryz.underlying121<|fS<|fS<|fS<|fS<|fS<|fS<|fS<|fS<|fS<|fS<|fS<|fS<|fS<|fS<|fS<|fS<|fS<|fT Tryz.underlying143<|fS<|fS<|fT Tryz.underlying147<|fL<|fT Tryz.underlying150<|fL<|fL<|fT Tryz.underlying154<|fT Tryz.underlying156<|fS<|fS<|fS<|fS<|fS<|fS<|fT Tryz.underlying165<|fS<|fS<|fS<|fS<|fS<|fS<|fS<|fS<|fT Tryz.underlying176<|fT Tryz.underlying178<|fS<|fS<|fS<|fS<|fS<|fS<|fS<|fS<|fS<|fS<|fS<|fS<|fS<|fS<|fS<|fS<|fS<|fS<|fS<|fS<|fS<|fS<|fS<|fS<|fT Tryz.underlying205<|fS<|fT Tryz.underlying208<|fS<|fS<|fS<|fS<|fS<|fT Tryz.underlying216<|fS<|fS<|fS<|fS<|fS<|fS<|fS<|fS<|fS<|fS<|fS<|fS<|fS<|fS<|fS<|fS<|fS<|fS<|fS<|fS<|fS<|fS<|fS<|fS<|fS<|fS<|fS<|fS<|fS<|fS<|fS<|fS<|fS<|fT Tryz.underlying259<|fS<|fS<|fS<|fS<|fS<|fS<|fS<|fS<|fS<|fS<|fS<|fS<|fL<|fS<|fS<|fS<|fS<|fS<|fS<|fS<|fS<|fS<|fS<|fS<|fS<|fL<|fT Tryz.underlying292<|fS<|fS<|fL<|fL<|fT Tryz.underlying298<|fS<|fT Tryz.underlying301<|fS<|fT Tryz.underlying304<|fS<|fS<|fS<|fS<|fS<|fT Tryz.underlying321<|fS<|fS<|fS<|fS<|fL<|fS<|fN
theorem c3:af Tryz.prog 3:=fun _ _=>by kernel_rfl
theorem c4:af Tryz.prog 4:=fun _ _=>by kernel_rfl
theorem c5:af Tryz.prog 5:=fun _ _=>by kernel_rfl
theorem c6:af Tryz.prog 6:=fun _ _=>by kernel_rfl
theorem c7:af Tryz.prog 7:=fun _ _=>by kernel_rfl
theorem c8:af Tryz.prog 8:=fun _ _=>by kernel_rfl
theorem c9:af Tryz.prog 9:=fun _ _=>by kernel_rfl
theorem NS:af Tryz.prog 10:=fun _ _=>by kernel_rfl
theorem Kq:af Tryz.prog 16:=fun _ _=>by kernel_rfl
theorem yg:af Tryz.prog 17:=fun _ _=>by kernel_rfl
theorem CK:af Tryz.prog 20:=fun _ _=>by kernel_rfl
theorem Mr:af Tryz.prog 21:=fun _ _=>by kernel_rfl
theorem M1:af Tryz.prog 23:=fun _ _=>by kernel_rfl
theorem PA:af Tryz.prog 25:=fun _ _=>by kernel_rfl
theorem Pk:af Tryz.prog 32:=fun _ _=>by kernel_rfl
theorem Pq:af Tryz.prog 34:=fun _ _=>by kernel_rfl
theorem NM:af Tryz.prog 35:=fun _ _=>by kernel_rfl
theorem PC:af Tryz.prog 50:=fun _ _=>by kernel_rfl
theorem N0:af Tryz.prog 51:=fun _ _=>by kernel_rfl
theorem N1:af Tryz.prog 52:=fun _ _=>by kernel_rfl
theorem Nh:af Tryz.prog 53:=fun _ _=>by kernel_rfl
theorem Pd:af Tryz.prog 54:=fun _ _=>by kernel_rfl
theorem O2:af Tryz.prog 56:=fun _ _=>by kernel_rfl
theorem NQ:af Tryz.prog 60:=fun _ _=>by kernel_rfl
theorem Pn:af Tryz.prog 62:=fun _ _=>by kernel_rfl
theorem NN:af Tryz.prog 63:=fun _ _=>by kernel_rfl
theorem Pv:af Tryz.prog 64:=fun _ _=>by kernel_rfl
theorem Pr:af Tryz.prog 65:=fun _ _=>by kernel_rfl
theorem E2:af Tryz.prog 67:=fun _ _=>by kernel_rfl
theorem Pu:af Tryz.prog 69:=fun _ _=>by kernel_rfl
theorem HU:af Tryz.prog 72:=fun _ _=>by kernel_rfl
theorem Ow:af Tryz.prog 73:=fun _ _=>by kernel_rfl
theorem Ol:af Tryz.prog 77:=fun _ _=>by kernel_rfl
theorem Pj:af Tryz.prog 78:=fun _ _=>by kernel_rfl
theorem Pf:af Tryz.prog 81:=fun _ _=>by kernel_rfl
theorem PE:af Tryz.prog 82:=fun _ _=>by kernel_rfl
theorem Pg:af Tryz.prog 83:=fun _ _=>by kernel_rfl
theorem Pe:af Tryz.prog 84:=fun _ _=>by kernel_rfl
theorem OX:af Tryz.prog 103:=fun _ _=>by kernel_rfl
theorem M0:af Tryz.prog 104:=fun _ _=>by kernel_rfl
theorem N5:af Tryz.prog 106:=fun _ _=>by kernel_rfl
theorem O7:af Tryz.prog 107:=fun _ _=>by kernel_rfl
theorem EK:af Tryz.prog 108:=fun _ _=>by kernel_rfl
theorem F7:af Tryz.prog 109:=fun _ _=>by kernel_rfl
theorem Ly:af Tryz.prog 110:=fun _ _=>by kernel_rfl
theorem A0:af Tryz.prog 111:=fun _ _=>by kernel_rfl
theorem Oh:af Tryz.prog 114:=fun _ _=>by kernel_rfl
theorem Bl:af Tryz.prog 115:=fun _ _=>by kernel_rfl
theorem LL:af Tryz.prog 121:=fun _ _=>by kernel_rfl
theorem Nd:af Tryz.prog 122:=fun _ _=>by kernel_rfl
theorem M8:af Tryz.prog 124:=fun _ _=>by kernel_rfl
theorem AL:af Tryz.prog 125:=fun _ _=>by kernel_rfl
theorem Om:af Tryz.prog 126:=fun _ _=>by kernel_rfl
theorem LI:af Tryz.prog 127:=fun _ _=>by kernel_rfl
theorem O6:af Tryz.prog 128:=fun _ _=>by kernel_rfl
theorem HV:af Tryz.prog 130:=fun _ _=>by kernel_rfl
theorem HZ:af Tryz.prog 131:=fun _ _=>by kernel_rfl
theorem OQ:af Tryz.prog 132:=fun _ _=>by kernel_rfl
theorem Hv:af Tryz.prog 133:=fun _ _=>by kernel_rfl
theorem Oe:af Tryz.prog 135:=fun _ _=>by kernel_rfl
theorem LF:af Tryz.prog 137:=fun _ _=>by kernel_rfl
theorem N7:af Tryz.prog 145:=fun _ _=>by kernel_rfl
theorem L6:af Tryz.prog 147:=fun _ _=>by kernel_rfl
theorem M6:af Tryz.prog 148:=fun _ _=>by kernel_rfl
theorem Nf:af Tryz.prog 149:=fun _ _=>by kernel_rfl
theorem Ei:af Tryz.prog 163:=fun _ _=>by kernel_rfl
theorem NC:af Tryz.prog 164:=fun _ _=>by kernel_rfl
theorem MO:af Tryz.prog 165:=fun _ _=>by kernel_rfl
theorem My:af Tryz.prog 166:=fun _ _=>by kernel_rfl
theorem OJ:af Tryz.prog 169:=fun _ _=>by kernel_rfl
theorem O1:af Tryz.prog 170:=fun _ _=>by kernel_rfl
theorem Nx:af Tryz.prog 171:=fun _ _=>by kernel_rfl
theorem J2:af Tryz.prog 172:=fun _ _=>by kernel_rfl
theorem mZ:af Tryz.prog 174:=fun _ _=>by kernel_rfl
theorem D2:af Tryz.prog 175:=fun _ _=>by kernel_rfl
theorem Mg:af Tryz.prog 176:=fun _ _=>by kernel_rfl
theorem JW:af Tryz.prog 179:=fun _ _=>by kernel_rfl
theorem Nl:af Tryz.prog 180:=fun _ _=>by kernel_rfl
theorem MT:af Tryz.prog 181:=fun _ _=>by kernel_rfl
theorem MB:af Tryz.prog 182:=fun _ _=>by kernel_rfl
theorem LC:af Tryz.prog 183:=fun _ _=>by kernel_rfl
theorem N9:af Tryz.prog 184:=fun _ _=>by kernel_rfl
theorem NH:af Tryz.prog 185:=fun _ _=>by kernel_rfl
theorem O9:af Tryz.prog 186:=fun _ _=>by kernel_rfl
theorem MN:af Tryz.prog 187:=fun _ _=>by kernel_rfl
theorem Mf:af Tryz.prog 188:=fun _ _=>by kernel_rfl
theorem OY:af Tryz.prog 192:=fun _ _=>by kernel_rfl
theorem Nt:af Tryz.prog 193:=fun _ _=>by kernel_rfl
theorem OW:af Tryz.prog 198:=fun _ _=>by kernel_rfl
theorem OF:af Tryz.prog 199:=fun _ _=>by kernel_rfl
theorem OU:af Tryz.prog 200:=fun _ _=>by kernel_rfl
theorem OD:af Tryz.prog 206:=fun _ _=>by kernel_rfl
theorem Nq:af Tryz.prog 207:=fun _ _=>by kernel_rfl
theorem Nr:af Tryz.prog 208:=fun _ _=>by kernel_rfl
theorem Oc:af Tryz.prog 213:=fun _ _=>by kernel_rfl
theorem HC:af Tryz.prog 215:=fun _ _=>by kernel_rfl
theorem OI:af Tryz.prog 216:=fun _ _=>by kernel_rfl
theorem N3:af Tryz.prog 217:=fun _ _=>by kernel_rfl
theorem MW:af Tryz.prog 223:=fun _ _=>by kernel_rfl
theorem Oz:af Tryz.prog 230:=fun _ _=>by kernel_rfl
theorem Pb:af Tryz.prog 231:=fun _ _=>by kernel_rfl
theorem Ok:af Tryz.prog 236:=fun _ _=>by kernel_rfl
theorem NY:af Tryz.prog 55:=fun _ _=>by kernel_rfl
theorem Pp:af Tryz.prog 79:=fun _ _=>by kernel_rfl
theorem MK:af Tryz.prog 105:=fun _ _=>by kernel_rfl
theorem Lg:af Tryz.prog 112:=fun _ _=>by kernel_rfl
theorem rV:af Tryz.prog 113:=fun _ _=>by kernel_rfl
theorem ET:af Tryz.prog 116:=fun _ _=>by kernel_rfl
theorem Gb:af Tryz.prog 117:=fun _ _=>by kernel_rfl
theorem J6:af Tryz.prog 118:=fun _ _=>by kernel_rfl
theorem LN:af Tryz.prog 119:=fun _ _=>by kernel_rfl
theorem NB:af Tryz.prog 120:=fun _ _=>by kernel_rfl
theorem uN:af Tryz.prog 129:=fun _ _=>by kernel_rfl
theorem pL:af Tryz.prog 136:=fun _ _=>by kernel_rfl
theorem Oi:af Tryz.prog 141:=fun _ _=>by kernel_rfl
theorem M9:af Tryz.prog 167:=fun _ _=>by kernel_rfl
theorem NW:af Tryz.prog 168:=fun _ _=>by kernel_rfl
theorem NZ:af Tryz.prog 173:=fun _ _=>by kernel_rfl
theorem Na:af Tryz.prog 177:=fun _ _=>by kernel_rfl
theorem OB:af Tryz.prog 201:=fun _ _=>by kernel_rfl
theorem N8:af Tryz.prog 202:=fun _ _=>by kernel_rfl
theorem ON:af Tryz.prog 203:=fun _ _=>by kernel_rfl
theorem OL:af Tryz.prog 204:=fun _ _=>by kernel_rfl
theorem MV:af Tryz.prog 205:=fun _ _=>by kernel_rfl
theorem N2:af Tryz.prog 218:=fun _ _=>by kernel_rfl
theorem OR:af Tryz.prog 219:=fun _ _=>by kernel_rfl
theorem N6:af Tryz.prog 220:=fun _ _=>by kernel_rfl
theorem NL:af Tryz.prog 232:=fun _ _=>by kernel_rfl
theorem JS:gj Tryz.prog 206 (.int .i64) (.int .i64 0):=⟨3,3,by kernel_rfl,by kernel_rfl,fun w=>Tryz.zeroValue3 w⟩
end Go.Proofs.Heir
namespace Go.Proofs.Heir
open Go.Am
set_option maxRecDepth 100000
set_option maxHeartbeats 8000000
def ko (c:Int):Bool:=decide (97≤c)&&decide (c≤122)
def mD (c:Int):Bool:=decide (65≤c)&&decide (c≤90)
def jx (c:Int):Bool:=ko c||mD c||(decide (48≤c)&&decide (c≤57))||decide (c=45)||decide (c=95)||decide (c=46)
@[reducible] def zR (c : Int) : AV := .lit (.int .i32 c)
@[reducible] def aX (b : Bool) : AV := .lit (.bool b)
@[reducible] def cw (s : ByteArray) : AV := .lit (.string s)
@[reducible] def ay (n : Int) : AV := .lit (.int .i64 n)
theorem xj (c:Int):an Tryz.prog 188 [] [zR c] [] (aX (ko c)):=by
 refine an.aF (rvs:=[.tmp 2]) G aq Tryz.func188 rfl Tryz.ntmps188 rfl rfl ?_;with_reducible refine wD ?_
 refine aL.mk (fun h=>?_) (fun h=>?_)<;>(try simp only[ak] at h)<;>with_reducible refine wK ?_
 ·(refine eK ?_ ?_<;>with_reducible repeat' (first|exact trivial|(show _∧_;refine aK ?_ ?_)))
  unfold ko
  simp at h;simp[h]
 ·(refine eK ?_ ?_<;>with_reducible repeat' (first|exact trivial|(show _∧_;refine aK ?_ ?_)))
  unfold ko
  simp at h;simp;omega
theorem pW (c:Int):an Tryz.prog 179 [] [zR c] [] (aX (mD c)):=by
 refine an.aF (rvs:=[.tmp 2]) G aq Tryz.func179 rfl Tryz.ntmps179 rfl rfl ?_;with_reducible refine wD ?_
 refine aL.mk (fun h=>?_) (fun h=>?_)<;>(try simp only[ak] at h)<;>with_reducible refine wK ?_
 ·(refine eK ?_ ?_<;>with_reducible repeat' (first|exact trivial|(show _∧_;refine aK ?_ ?_)))
  unfold mD
  simp at h;simp[h]
 ·(refine eK ?_ ?_<;>with_reducible repeat' (first|exact trivial|(show _∧_;refine aK ?_ ?_)))
  unfold mD
  simp at h;simp;omega
theorem I0 (c:Int):an Tryz.prog 187 [] [zR c] [] (aX (jx c)):=by
 refine an.aF (rvs:=[.tmp 2]) G aq Tryz.func187 rfl Tryz.ntmps187 rfl rfl ?_;with_reducible refine wD ?_
 refine cL (xj c) Mf ?_;with_reducible refine wK ?_
 repeat' (first
  |refine aE ?_ ?_
  |((with_reducible show aL _ _ _ _);first|refine iK ?_|(refine aL.mk (fun _=>?_) (fun _=>?_)<;>with_reducible refine wK ?_))
  |((with_reducible refine kQ 179 ?_);refine cL (pW c) JW ?_;with_reducible refine wK ?_)
  |apply trivial)
 all_goals (simp_all[jx,ko,mD]<;>omega)
theorem Jj (c:Int):an Tryz.prog 186 [] [zR c] [] (aX (!jx c)):=by
 refine an.aF (rvs:=[.tmp 2]) G aq Tryz.func186 rfl Tryz.ntmps186 rfl rfl ?_;with_reducible refine wD ?_
 refine cL (I0 c) MN ?_;with_reducible refine wK ?_
 (refine eK ?_ ?_<;>with_reducible repeat' (first|exact trivial|(show _∧_;refine aK ?_ ?_)))
open Go.RowKit Go.Lib in
theorem B3 (g:Nat)(eg:∀args w,(callFunc g args).run Tryz.prog w=.ok (.enter g args) w)(p:Nat→Bool)(s:ByteArray)(w:World)(ht:jc Tryz.prog w fun _=>none)(hp:∀ (W:World) (x:Nat),(jc Tryz.prog W fun _=>none)→x≤1114111→Calls Tryz.prog g #[.int .i32 (x:Int)] W fun e w'=>e=.returned (.bool (p x))∧Below W.heap.size W w'):
  Calls Tryz.prog 227 #[.string s,.func (.func g) #[] #[],.bool true] w fun e w'=>e=.returned (.int .i64 (Lib.idxFunc p true s))∧Below w.heap.size w w':=by
 go_enter Tryz.func227,Tryz.ntmps227
 go_wp2
 go_loopg [] s.size (fun gf wx=> ∃pos:Nat,wx.heap[w.heap.size]? =some (.stringIter s pos)∧Below w.heap.size w wx∧Lib.idxFuncFrom p true s gf pos=Lib.idxFunc p true s∧s.size≤pos+gf)
 case atStart=>exact⟨0,World.iter_heap w s 0,(Below.refl _ w).alloc (Nat.le_refl _) _,rfl,by omega⟩
 case round=>
  obtain⟨pos,hit,hbw,hleft,hfu⟩:=hrel
  by_cases hps:pos<s.size
  ·obtain⟨g',rfl⟩:∃g',gk=g'+1:=⟨gk-1,by omega⟩
   have hnx:∀ty,(Instr.next (.pointer (some ⟨w.heap.size,0,none⟩)) true ty).run Tryz.prog wr=_:=fun ty=>Lib.run_next_any_at wr w.heap.size s pos ty hit hps
   have hwd:=Lib.width_pos s pos
   obtain⟨R,hR⟩:∃R,(Utf8.decode s pos).1=R:=⟨_,rfl⟩
   obtain⟨K,hK⟩:∃K,(Utf8.decode s pos).2=K:=⟨_,rfl⟩
   simp only[Lib.idxFuncFrom,hps,if_true,hR,hK] at hleft
   rw[hR,hK] at hnx
   rw[hK] at hwd
   have hit2:=Lib.iterAt_heap wr w.heap.size s pos (pos+K) hit
   have hbw2:=Lib.below_iterAt hbw (k:=w.heap.size) (Nat.le_refl _) s (pos+K)
   obtain⟨W,hWd⟩:∃W,wr.iterAt w.heap.size s (pos+K)=W:=⟨_,rfl⟩
   rw[hWd] at hnx hit2 hbw2
   have hltW:w.heap.size<W.heap.size:=(Array.getElem?_eq_some_iff.1 hit2).1
   have cS:Calls Tryz.prog g #[.int .i32 (R:Int)] W _       :=hp W R (ht.below hbw2) (by rw[←hR];exact Lib.rune_le s pos)
   clear hp
   cases hsp:p R<;>rw[hsp] at cS<;>simp only[hsp,if_true,Bool.false_eq_true,Bool.true_eq_false,if_false] at hleft
   ·go_wp2_with (go_at_fn g;refine cS.mono ?_;rintro e W' ⟨rfl,hbc⟩)
    go_roundg g'
    case measure=>omega
    case rel=>exact⟨pos+K,(hbc.block _ hltW).trans hit2,(hbw2.trans (hbc.mono hbw2.size)),hleft,by omega⟩
   ·go_wp2_with (go_at_fn g;refine cS.mono ?_;rintro e W' ⟨rfl,hbc⟩)
    go_ret
    exact⟨by rw[←hleft]<;>rfl,(hbw2.trans (hbc.mono hbw2.size))⟩
  ·have hnx:∀ty,(Instr.next (.pointer (some ⟨w.heap.size,0,none⟩)) true ty).run Tryz.prog wr=_:=fun ty=>Lib.run_next_end_at wr w.heap.size s pos ty hit hps
   rw[Lib.idxFuncFrom_end p true s gk pos hps] at hleft
   go_wp2
   go_ret
   exact⟨by rw[←hleft]<;>rfl,hbw⟩
end Go.Proofs.Heir
namespace Go.Proofs.Heir
open Go Go.Am Go.RowKit Go.Lib
set_option maxRecDepth 100000
set_option maxHeartbeats 8000000
def xd (c:UInt8):UInt8:=if mD (c.toNat:Int) then c+32 else c
def Ad (l:List UInt8):List UInt8:=l.map xd
def nW (s:ByteArray):ByteArray:=⟨(Ad s.data.toList).toArray⟩
def pC (l:List UInt8)(k:Nat):List UInt8:=(l.take k).map xd++l.drop k
theorem zm (l:List UInt8)(k:Nat):(pC l k).length=l.length:=by simp[pC];omega
theorem AB (l:List UInt8)(k:Nat)(h:k<l.length):(pC l k)[k]? =some l[k]:=by
 simp[pC,List.getElem?_append,List.getElem?_drop,Nat.min_eq_left (Nat.le_of_lt h),h]
theorem zZ (l:List UInt8)(k:Nat)(h:k<l.length):(pC l k).set k (xd l[k])=pC l (k+1):=by
 unfold pC
 have h1:((l.take k).map xd).length=k:=by simp;omega
 rw[List.set_append_right _ _ (by omega),h1,Nat.sub_self,List.take_succ_eq_append_getElem h,List.drop_eq_getElem_cons h]
 simp only[List.set_cons_zero,gL,List.map_cons,List.map_nil,List.append_assoc,List.cons_append,List.nil_append]
theorem Et (l:List UInt8)(k:Nat)(h:k<l.length)(hc:mD (l[k].toNat:Int)=false):pC l k=pC l (k+1):=by
 rw[←zZ l k h]
 have h2:=AB l k h
 apply List.ext_getElem?
 intro j
 rw[List.getElem?_set]
 by_cases hj:k=j
 ·subst hj
  rw[if_pos rfl,if_pos (by rw[zm];exact h),h2]
  simp[xd,hc]
 ·rw[if_neg hj]
def rowOf (l:List UInt8)(z:List Value):Array Value:=(l.map (fun b=>Value.int .u8 b.toNat)++z).toArray
theorem vv (l:List UInt8)(z:List Value)(k:Nat)(b:UInt8)(h:l[k]? =some b):(rowOf l z)[k]? =some (.int .u8 b.toNat):=by
 have hk:=(br h).1
 simp only[rowOf,List.getElem?_toArray]
 rw[List.getElem?_append_left (by simpa using hk),dM,h];rfl
theorem D9 (l:List UInt8)(z:List Value)(k:Nat)(b:UInt8)(h:k<l.length):(rowOf l z).setIfInBounds k (.int .u8 b.toNat)=rowOf (l.set k b) z:=by
 apply Array.ext'
 simp only[rowOf,Array.toList_setIfInBounds,List.map_set]
 rw[List.set_append_left _ _ (by simpa using h)]
theorem G8 (c:UInt8)(h:mD (c.toNat:Int)=true):IntKind.u8.wrap (IntKind.u8.wrap ((c.toNat:Int)-65)+97)=((c+32:UInt8).toNat:Int):=by
 simp only[mD,bJ,bH] at h
 have h1:IntKind.u8.wrap ((c.toNat:Int)-65)=(c.toNat:Int)-65:=by simp[IntKind.wrap_u8];omega
 rw[h1]
 have h2:IntKind.u8.wrap ((c.toNat:Int)-65+97)=(c.toNat:Int)+32:=by simp[IntKind.wrap_u8];omega
 rw[h2]
 have:(c+32:UInt8).toNat=c.toNat+32:=by
  rw[UInt8.toNat_add];simp;omega
 rw[this];rfl
theorem A7 (s:ByteArray)(w:World)(ht:jc Tryz.prog w fun _=>none)(hs:s.size≤100000):Calls Tryz.prog 124 #[.string s] w fun e w'=>e=.returned (.string (nW s))∧Below w.heap.size w w':=by
 obtain⟨l,rfl⟩:∃l:List UInt8,s=⟨l.toArray⟩:=⟨s.data.toList,by obtain⟨⟨l⟩⟩:=s;rfl⟩
 have hsz:(ByteArray.mk l.toArray).size=l.length:=by simp[ByteArray.size]
 have hconv:=run_bytes_of_string (P:=Tryz.prog) w 9 71 5 ⟨l.toArray⟩ Tryz.underlying9 Tryz.underlying71 Tryz.underlying5
 rw[hsz] at hconv hs
 obtain⟨cap,hcap⟩:∃cap,grownCap w l.length 0 5=cap:=⟨_,rfl⟩
 rw[hcap] at hconv
 obtain⟨z,hz⟩:∃z:List Value,bytesRow ⟨l.toArray⟩ cap=rowOf l z:=⟨List.replicate (cap-l.length) (.int .u8 0),by
  apply Array.ext';simp[bytesRow,rowOf,ByteArray.size]⟩
 rw[hz] at hconv
 obtain⟨n,hn⟩:∃n,(rowOf l z).size=n:=⟨_,rfl⟩
 rw[hn] at hconv
 clear hcap hz
 go_enter Tryz.func124,Tryz.ntmps124
 go_wp2
 go_loopw [10] (fun i wr=> ∃k:Nat,k≤l.length∧i=.int .i64 k∧wr.heap[w.heap.size]? =some (.cells (rowOf (pC l k) z) 5 (n,n+1))∧Below w.heap.size w wr) (fun i _=>l.length- (intOf i).toNat)
 case atStart=>exact⟨0,Nat.zero_le _,rfl,(heap_alloc_new w (Obj.cells (rowOf l z) 5 (n,n+1))),((Below.refl _ w).alloc (Nat.le_refl _) _).drew⟩
 case round=>
  obtain⟨k,hk,rfl,hh,hb⟩:=hrel
  by_cases hlt:k<l.length
  ·have hcell:wr.cell? ⟨w.heap.size,k,none⟩=some (.int .u8 (l[k].toNat:Int)):=by
    simp only[World.cell?,hh]
    exact vv _ z k _ (AB l k hlt)
   have hn2:k<n:=by rw[←hn];simp[rowOf];omega
   have hfz:wr.frozen? ⟨w.heap.size,k,none⟩=false:=by
    simp[World.frozen?,hh];omega
   have hbs:w.heap.size<wr.heap.size:=(Array.getElem?_eq_some_iff.1 hh).1
   have hb1:0≤ (l[k].toNat:Int):=Int.natCast_nonneg _
   have hb2:(l[k].toNat:Int)≤255:=by have:=UInt8.toNat_lt l[k];omega
   cases hc:mD (l[k].toNat:Int) with
   | false=>
     go_wp2_with (go_at_call 179;refine((pW (l[k].toNat:Int)).below (vs:=[.int .i32 (l[k].toNat:Int)]) _ (ht.below hb)).mono ?_;rw[hc];rintro e w1 ⟨rfl,hb3⟩)
     go_roundw
     case rel=>exact⟨k+1,by omega,by go_num,by rw[hb3.block _ hbs,hh,Et l k hlt hc],hb.trans (hb3.mono hb.size)⟩
     case measure=>simp[intOf];omega
   | true=>
     have hst:IntKind.u8.wrap (IntKind.u8.wrap ((l[k].toNat:Int)-65)+97)=((xd l[k]).toNat:Int):=by
      rw[G8 _ hc];unfold xd;rw[hc];rfl
     simp only[IntKind.wrap_u8] at hst
     have H:=hid hst
     clear hst
     go_wp2_with (go_at_call 179;refine((pW (l[k].toNat:Int)).below (vs:=[.int .i32 (l[k].toNat:Int)]) _ (ht.below hb)).mono ?_;rw[hc];rintro e w1 ⟨rfl,hb3⟩;have hc1:=(hb3.cell (p:=⟨w.heap.size,k,none⟩) hbs).trans hcell;have hf1:=(hb3.frozen (p:=⟨w.heap.size,k,none⟩) hbs).trans hfz)
     go_roundw
     case rel=>
      refine⟨k+1,by omega,by go_num,?_,hb.trans ((hb3.mono hb.size).setCell (Nat.le_refl _) _)⟩
      have hm:((l[k].toNat:Int)-65+97)%256=((xd l[k]).toNat:Int):=by
       rw[←H.out];omega
      rw[hm]
      have hq:w1.heap[w.heap.size]? =some (.cells (rowOf (pC l k) z) 5 (n,n+1)):=(hb3.block _ hbs).trans hh
      have hs2:w.heap.size<w1.heap.size:=(Array.getElem?_eq_some_iff.1 hq).1
      unfold World.setCell
      simp only[Array.getElem?_modify,hq,if_true,Option.map_some]
      have hrs:=D9 (pC l k) z k (xd l[k]) (by rw[zm];exact hlt)
      rw[zZ l k hlt] at hrs
      simp only[hrs];rfl
     case measure=>simp[intOf];omega
  ·have:k=l.length:=by omega
   subst this
   have hrw:rowOf (pC l l.length) z=rowOf (Ad l) z:=by simp[pC,Ad]
   rw[hrw] at hh
   have hcv:=run_convert_bytes_back (P:=Tryz.prog) wr 71 9 5 ⟨w.heap.size,0,none⟩ cap (Ad l) Tryz.underlying71 Tryz.underlying5 Tryz.underlying9 (fun j hj=>by
    have:=vv (Ad l) z j ((Ad l)[j]) (bh hj)
    have ha:(⟨w.heap.size,0,none⟩:Addr).add j=⟨w.heap.size,j,none⟩:=by
     unfold Addr.add;split<;>simp_all
    rw[ha];simp only[World.cell?,hh,this];rfl)
   rw[show(Ad l).length=l.length from by simp[Ad]] at hcv
   go_wp2
   go_ret
   exact⟨rfl,hb⟩
theorem Ka (s:ByteArray)(hs:s.size≤100000):an Tryz.prog 124 [] [cw s] [] (cw (nW s)):=
 an.iH (vs:=[.string s]) (v:=.string (nW s)) fun w ht=>A7 s w ht hs
def oq (b:UInt8):Bool:=jx (b.toNat:Int)
def Gp:List UInt8→Bool
 |[]=>false
 |b::_=>ko (b.toNat:Int)||mD (b.toNat:Int)||decide ((b.toNat:Int)=95)
def qM (l:List UInt8):Bool:=decide (1≤l.length)&&decide (l.length≤40)&&l.all oq&&Gp l
def cz (s:ByteArray):Bool:=qM s.data.toList
theorem CN (s:ByteArray):∀ (f pos:Nat),s.size≤pos+f→(0≤idxFuncFrom (fun r=> !jx (r:Int)) true s f pos↔ ∃i,pos≤i∧∃b,s.data.toList[i]? =some b∧oq b=false)
 | 0,pos,h=>by
   have:¬ (0:Int)≤idxFuncFrom (fun r=> !jx (r:Int)) true s 0 pos:=by simp[idxFuncFrom]
   refine⟨fun h'=>absurd h' this,?_⟩
   rintro⟨i,h1,b,h2,_⟩
   have:=(br h2).1
   have:i<s.size:=this
   omega
 | f + 1, pos,h=>by
   by_cases hp:pos<s.size
   ·have ih:=CN s f
    have hb:∃b,s.data.toList[pos]? =some b∧s.get! pos=b:=⟨_,bh hp,by show s.data[pos]! =_;rw[getElem!_pos s.data pos hp];rfl⟩
    obtain⟨b,hb1,hb2⟩:=hb
    unfold idxFuncFrom
    rw[if_pos hp,decode_at,hb2]
    have hbn:b.toNat<256:=UInt8.toNat_lt b
    have big:∀r:Nat,128≤r→jx (r:Int)=false:=by
     intro r hr
     have:(128:Int)≤r:=by omega
     simp only[jx,ko,mD,Bool.or_eq_false_iff,Bool.and_eq_false_iff,dG]
     omega
    have bad:∀r w:Nat,128≤r→128≤b.toNat→((0:Int)≤ (if(!jx (r:Int))=true then(pos:Int) else idxFuncFrom (fun r=> !jx (r:Int)) true s f (pos+w))↔ ∃i,pos≤i∧∃b,s.data.toList[i]? =some b∧oq b=false):=by
     intro r w hr hbr
     rw[big r hr]
     exact⟨fun _=>⟨pos,Nat.le_refl _,b,hb1,big _ hbr⟩,fun _=>by simp⟩
    rcases decodeN_shape (s.size-pos) b.toNat (s.get! (pos+1)).toNat (s.get! (pos+2)).toNat (s.get! (pos+3)).toNat with⟨h1,h2⟩|⟨h1,h3,h4,h5,h2⟩|⟨h1,h3,h4,h5,h6,h7,h2⟩|⟨h1,h3,h4,h5,h6,h7,h8,h2⟩|h2
    ·rw [h2]
     show(0:Int)≤ (if(!jx (b.toNat:Int))=true then(pos:Int) else idxFuncFrom _ true s f (pos+1))↔_
     cases hs:jx (b.toNat:Int) with
     |false=>exact⟨fun _=>⟨pos,Nat.le_refl _,b,hb1,hs⟩,fun _=>by simp⟩
     | true=>
       rw[if_neg (by simp),ih (pos+1) (by omega)]
       constructor
       ·rintro⟨i,h3,h4⟩;exact⟨i,by omega,h4⟩
       ·rintro⟨i,h3,b',h4,h5⟩
        rcases Nat.lt_or_ge pos i with h6|h6
        ·exact⟨i,h6,b',h4,h5⟩
        ·have:i=pos:=by omega
         subst this
         rw[hb1] at h4;cases h4
         rw[oq,hs] at h5;cases h5
    ·rw[h2];exact bad _ _ (by omega) (by omega)
    ·rw[h2];exact bad _ _ (by omega) (by omega)
    ·rw[h2];exact bad _ _ (by omega) (by omega)
    ·rw[h2]
     refine bad _ _ (by omega) ?_
     rcases Nat.lt_or_ge b.toNat 128 with h3|h3
     ·rw[decodeN,if_pos h3] at h2;simp only[Prod.mk.injEq] at h2;omega
     ·exact h3
   ·rw[idxFuncFrom_end _ _ _ _ _ hp]
    refine⟨fun h'=>by omega,?_⟩
    rintro⟨i,h1,b,h2,_⟩
    have:=(br h2).1
    have:i<s.size:=this
    omega
theorem JU (s:ByteArray):decide (0≤idxFunc (fun r=> !jx (r:Int)) true s)=!s.data.toList.all oq:=by
 have h:=CN s s.size 0 (by omega)
 cases ha:s.data.toList.all oq with
 | true=>
   simp only[Bool.not_true,dG]
   intro h'
   obtain⟨i,_,b,h1,h2⟩:=h.1 h'
   have:=List.all_eq_true.1 ha b (bN h1)
   rw[this] at h2;cases h2
 | false=>
   simp only[Bool.not_false,bH]
   refine h.2 ?_
   obtain⟨b,h1,h2⟩:=List.all_eq_false.1 ha
   obtain⟨i,h3⟩:=List.getElem?_of_mem h1
   exact⟨i,Nat.zero_le _,b,h3,by simpa using h2⟩
theorem tM (g:Nat)(eg:∀args w,(callFunc g args).run Tryz.prog w=.ok (.enter g args) w)(p:Nat→Bool)(s:ByteArray)(w:World)(ht:jc Tryz.prog w fun _=>none)(hp:∀ (W:World) (x:Nat),(jc Tryz.prog W fun _=>none)→x≤1114111→Calls Tryz.prog g #[.int .i32 (x:Int)] W fun e w'=>e=.returned (.bool (p x))∧Below W.heap.size W w'):
  Calls Tryz.prog 213 #[.string s,.func (.func g) #[] #[]] w fun e w'=>e=.returned (.int .i64 (Lib.idxFunc p true s))∧Below w.heap.size w w':=by
 have h44:=B3 g eg p s w ht hp
 clear hp
 go_enter Tryz.func213,Tryz.ntmps213
 go_wp2_with (go_at_call 227;refine h44.mono ?_;rintro e w1 ⟨rfl,hb⟩)
 go_ret
 exact⟨rfl,hb⟩
theorem ug (g:Nat)(eg:∀args w,(callFunc g args).run Tryz.prog w=.ok (.enter g args) w)(p:Nat→Bool)(s:ByteArray)(w:World)(ht:jc Tryz.prog w fun _=>none)(hp:∀ (W:World) (x:Nat),(jc Tryz.prog W fun _=>none)→x≤1114111→Calls Tryz.prog g #[.int .i32 (x:Int)] W fun e w'=>e=.returned (.bool (p x))∧Below W.heap.size W w'):
  Calls Tryz.prog 185 #[.string s,.func (.func g) #[] #[]] w fun e w'=>e=.returned (.bool (decide (0≤Lib.idxFunc p true s)))∧Below w.heap.size w w':=by
 have h43:=tM g eg p s w ht hp
 clear hp
 go_enter Tryz.func185,Tryz.ntmps185
 go_wp2_with (go_at_call 213;refine h43.mono ?_;rintro e w1 ⟨rfl,hb⟩)
 go_ret
 exact⟨rfl,hb⟩
theorem IN (s:ByteArray):an Tryz.prog 185 [] [cw s,.lit (.func (.func 186) #[] #[])] [] (aX (!s.data.toList.all oq)):=by
 rw[←JU]
 exact an.iH (vs:=[.string s,.func (.func 186) #[] #[]]) fun w ht=>ug 186 O9 (fun r=> !jx (r:Int)) s w ht fun W x ht _=>(Jj (x:Int)).below (vs:=[.int .i32 (x:Int)]) W ht
theorem At (s:ByteArray):s.size=s.data.toList.length:=(Array.length_toList (xs:=s.data)).symm
theorem wH {l:List UInt8}(h:1≤l.length):∃b r,l=b::r∧l[0]? =some b:=by
 cases l with
 |nil=>simp at h
 |cons b r=>exact⟨b,r,rfl,rfl⟩
theorem F0 (b:UInt8):IntKind.i32.wrap (b.toNat:Int)=(b.toNat:Int):=by
 have h:b.toNat<256:=UInt8.toNat_lt b
 rw[IntKind.wrap_i32];omega
theorem sr (s:ByteArray):an Tryz.prog 133 [] [cw s] [] (aX (cz s)):=by
 have hsz:s.size=s.data.toList.length:=At s
 have hb0:1≤s.data.toList.length→∃b r,s.data.toList=b::r∧s.data.toList[0]? =some b:=wH
 refine an.aF (rvs:=[.tmp 2]) G aq Tryz.func133 rfl Tryz.ntmps133 rfl rfl ?_;with_reducible refine wD ?_
 repeat' (first
  |refine aE ?_ ?_
  |((with_reducible show aL _ _ _ _);first|refine iK ?_|(refine aL.mk (fun _=>?_) (fun _=>?_)<;>with_reducible refine wK ?_))
  |((with_reducible refine kQ 185 ?_);refine ah.lit [] (IN _) NH ⟨rfl,je 12 _ rfl,trivial⟩ rfl rfl ?_;with_reducible refine wK ?_)
  |((with_reducible refine kQ 179 ?_);refine cL (pW _) JW ?_;with_reducible refine wK ?_)
  |((with_reducible refine kQ 188 ?_);refine cL (xj _) Mf ?_;with_reducible refine wK ?_)
  |((with_reducible show vH _ _ _ _ _);obtain⟨b,r,hl,hb⟩:=hb0 (by simp only[dG] at*;omega);refine vH.mk 0 b rfl hb ?_;with_reducible refine wK ?_)
  |((with_reducible show ni _ _ _ _ _ _ _);refine ni.int (by kernel_rfl) (by kernel_rfl) (F0 _) ?_;with_reducible refine wK ?_)
  |apply trivial)
 all_goals (simp only[bH,dG,hsz] at*;unfold cz qM)
 ·rw[show decide (1≤s.data.toList.length)=false from dQ (by omega)];rfl
 ·rw[show decide (s.data.toList.length≤40)=false from dQ (by omega)];simp
 ·rw[show s.data.toList.all oq=false from by simp_all];simp
 all_goals rw[show decide (1≤s.data.toList.length)=true from dB (by omega),show decide (s.data.toList.length≤40)=true from dB (by omega),show s.data.toList.all oq=true from by simp_all,hl];simp_all[Gp]
theorem AI {s:ByteArray}(h:cz s=true):s.size≤40:=by
 unfold cz qM at h
 simp only[bJ,bH] at h
 rw[At];exact h.1.1.2
theorem zx {s:ByteArray}(h:(!cz s)=false):s.size≤100000:=by
 have:=AI (s:=s) (by simpa using h)
 omega
theorem xB (s:ByteArray):an Tryz.prog 67 [] [cw s] [] (.tup [cw (if cz s then nW s else⟨#[]⟩),ay (if cz s then 0 else 4)]):=by
 refine an.aF (rvs:=[.tmp 2,.tmp 3]) G aq Tryz.func67 rfl Tryz.ntmps67 rfl rfl ?_;with_reducible refine wD ?_
 repeat' (first
  |refine aE ?_ ?_
  |((with_reducible show aL _ _ _ _);first|refine iK ?_|(refine aL.mk (fun _=>?_) (fun _=>?_)<;>with_reducible refine wK ?_))
  |((with_reducible refine kQ 133 ?_);refine cL (sr _) Hv ?_;with_reducible refine wK ?_)
  |((with_reducible refine kQ 124 ?_);refine ah.lit [] (Ka _ (zx (by assumption))) M8 ⟨rfl,trivial⟩ rfl rfl ?_;with_reducible refine wK ?_)
  |apply trivial)
 all_goals simp_all
def strOf (l:List UInt8):ByteArray:=⟨l.toArray⟩
structure AttrM where
 name:ByteArray
 value:ByteArray
 deriving DecidableEq
@[reducible] def oe (a : AttrM) : AV := .agg [cw a.name, cw a.value]
def gZ (a:AttrM):AV:=oe a
@[reducible] def gT (l : List AttrM) : AV := .sl 2 (l.map gZ)
theorem aQ {tab:List (Nat×Nat)}{fz:Nat→Bool}{m:ML}{n:Nat}:∀ {cs:List AV},aV cs=true→u5 (MF tab fz m n) cs cs
 |[],_=>trivial
 | c::cs,h=>by
   simp only[aV,bJ] at h
   exact⟨je n c h.1,aQ h.2⟩
theorem JB (a:AttrM)(n:ByteArray):an Tryz.prog 184 [] [oe a,.fptr (cw n) 0] [] (aX (decide (a.name=n))):=by
 refine an.aF (rvs:=[.tmp 3]) G aq Tryz.func184 rfl Tryz.ntmps184 rfl rfl ?_;with_reducible refine wD ?_
 (refine eK ?_ ?_<;>with_reducible repeat' (first|exact trivial|(show _∧_;refine aK ?_ ?_)))
def Fa (a:AttrM):Bool:=!(cz a.name&&decide (nW a.name=a.name)&&decide (a.value.size≤200))
theorem IK (a:AttrM):an Tryz.prog 180 [] [oe a] [] (aX (Fa a)):=by
 obtain⟨n,v⟩:=a
 refine an.aF (rvs:=[.tmp 2]) G aq Tryz.func180 rfl Tryz.ntmps180 rfl rfl ?_;with_reducible refine wD ?_
 refine cL (xB _) E2 ?_;with_reducible refine wK ?_
 repeat' (first
  |refine aE ?_ ?_
  |((with_reducible show aL _ _ _ _);first|refine iK ?_|(refine aL.mk (fun _=>?_) (fun _=>?_)<;>with_reducible refine wK ?_))
  |apply trivial)
 all_goals (unfold Fa;cases hr:cz n<;>simp_all)
 by_cases h2:v.size≤200
 ·rw[dB h2,dQ (by(try simp only[ak]);omega)];rfl
 ·rw[dQ h2,dB (by(try simp only[ak]);omega)];rfl
def dI {α:Type}(p:α→Bool)(l:List α):Int:=match l.findIdx? p with|some i=>(i:Int)|none=> -1
theorem kS {α:Type}{p:α→Bool}{l:List α}{k:Nat}{a:α}(h:l[k]? =some a)(hp:p a=true)(hno:∀ (j:Nat) (x:α),j<k→l[j]? =some x→p x=false):dI p l=k:=by
 have:l.findIdx? p=some k:=by
  rw[List.findIdx?_eq_some_iff_getElem]
  obtain⟨hk,hx⟩:=br h
  exact⟨hk,by rw[hx];exact hp,fun j hj=>by simpa using hno j _ hj (bh (by omega))⟩
 rw[dI,this]
theorem jm {α:Type}{p:α→Bool}{l:List α}(hno:∀ (j:Nat) (x:α),l[j]? =some x→p x=false):dI p l=-1:=by
 have:l.findIdx? p=none:=by
  rw[List.findIdx?_eq_none_iff]
  intro x hx
  obtain⟨j,hj⟩:=List.getElem?_of_mem hx
  exact hno j x hj
 rw[dI,this]
theorem p6 {l:List AttrM}{k:Nat}{a:AttrM}(h:l[k]? =some a):(l.map gZ)[k]? =some (oe a):=by rw[dM,h];rfl
theorem Dk (g:Nat)(cg:af Tryz.prog g)(caps:List AV)(hcaps:aV caps=true)(p:AttrM→Bool)(l:List AttrM)(hl:l.length≤100000)(hf:∀a,a∈l→an Tryz.prog g [] (oe a::caps) [] (aX (p a))):
  an Tryz.prog 183 [] [gT l,.clo (.func g) [] caps] [] (ay (dI p l)):=by
 have hlm:(l.map gZ).length=l.length:=bM ..
 refine an.aF (rvs:=[.tmp 4]) G aq Tryz.func183 rfl Tryz.ntmps183 rfl rfl ?_;with_reducible refine wD ?_
 refine bD.use G aq (fun(k:Nat)=>[(0,gT l),(1,.clo (.func g) [] caps),(7,ay l.length),(8,ay k)]) (fun _=>[]) (fun k=>k≤l.length∧∀j x,j<k→l[j]? =some x→p x=false) (fun k=>l.length-k) 0 ⟨Nat.zero_le _,fun j x h=>by omega⟩
  ⟨⟨rfl,rfl⟩,⟨rfl,⟨rfl,trivial,aQ hcaps⟩,by show(l.length:Int)=((l.map gZ).length:Int);rw[hlm],rfl,trivial⟩,trivial⟩ ?_
 rintro k ⟨hk,hno⟩
 with_reducible refine wK ?_
 refine aL.mk (fun h1=>?_) (fun h1=>?_)<;>(try simp only[ak] at h1)<;>with_reducible refine wK ?_
 ·simp only[bH] at h1
  have hk':k<l.length:=by omega
  obtain⟨a,ha⟩:∃a,l[k]? =some a:=⟨_,bh hk'⟩
  refine bn.mk k (oe a) rfl (p6 ha) ?_;with_reducible refine wK ?_
  refine ah.lit [] (hf a (bN ha)) cg ⟨⟨rfl,rfl,trivial⟩,aQ hcaps⟩ rfl rfl ?_;with_reducible refine wK ?_
  refine aL.mk (fun h2=>?_) (fun h2=>?_)<;>(try simp only[ak] at h2)<;>with_reducible refine wK ?_
  ·(refine eK ?_ ?_<;>with_reducible repeat' (first|exact trivial|(show _∧_;refine aK ?_ ?_)))
   exact kS ha h2 hno
  ·refine nK ?_;with_reducible refine wK ?_
   refine aT.mk (k+1) ⟨by omega,fun j x hj hx=>?_⟩ (by omega) ⟨⟨rfl,rfl⟩,⟨rfl,⟨rfl,trivial,aQ hcaps⟩,rfl,by show((k+1:Nat):Int)=(k:Int)+1;omega,trivial⟩,trivial⟩
   rcases Nat.lt_or_ge j k with h6|h6
   ·exact hno j x h6 hx
   ·have:j=k:=by omega
    subst this
    rw[ha] at hx;cases hx;exact h2
 ·(refine eK ?_ ?_<;>with_reducible repeat' (first|exact trivial|(show _∧_;refine aK ?_ ?_)))
  have:k=l.length:=by simp only[dG] at h1;omega
  exact jm fun j x hx=>hno j x (by have:=(br hx).1;omega) hx
theorem Kc (g:Nat)(cg:af Tryz.prog g)(caps:List AV)(hcaps:aV caps=true)(p:AttrM→Bool)(l:List AttrM)(hl:l.length≤100000)(hf:∀a,a∈l→an Tryz.prog g [] (oe a::caps) [] (aX (p a))):
  an Tryz.prog 181 [] [gT l,.clo (.func g) [] caps] [] (aX (l.any p)):=by
 refine an.aF (rvs:=[.tmp 4]) G aq Tryz.func181 rfl Tryz.ntmps181 rfl rfl ?_;with_reducible refine wD ?_
 refine ah.lit [] (Dk g cg caps hcaps p l hl hf) LC ⟨rfl,⟨rfl,trivial,aQ hcaps⟩,trivial⟩ rfl rfl ?_;with_reducible refine wK ?_
 (refine eK ?_ ?_<;>with_reducible repeat' (first|exact trivial|(show _∧_;refine aK ?_ ?_)))
 unfold dI
 cases h:l.findIdx? p with
 | none=>
   rw[List.findIdx?_eq_none_iff] at h
   have:l.any p=false:=by rw[List.any_eq_false];intro x hx;rw[h x hx];simp
   rw[this];rfl
 | some i=>
   rw[List.findIdx?_eq_some_iff_getElem] at h
   obtain⟨hi,h1,_⟩:=h
   have:l.any p=true:=List.any_eq_true.2 ⟨_,List.getElem_mem hi,h1⟩
   rw[this];exact(dB (Int.natCast_nonneg i)).symm
theorem IS (l:List AttrM)(hl:l.length≤100000)(n:ByteArray):an Tryz.prog 132 [] [gT l,cw n] [] (ay (dI (fun a=>decide (a.name=n)) l)):=by
 refine an.aF (rvs:=[.tmp 4]) G aq Tryz.func132 rfl Tryz.ntmps132 rfl rfl ?_;with_reducible refine wD ?_
 refine ah.lit [30] (Dk 184 N9 [.fptr (cw n) 0] rfl (fun a=>decide (a.name=n)) l hl fun a _=>JB a n) LC ⟨rfl,⟨rfl,trivial,⟨_,_,_,_,_,rfl,rfl,rfl,rfl,rfl,rfl⟩,trivial⟩,trivial⟩ rfl rfl ?_;with_reducible refine wK ?_
 (refine eK ?_ ?_<;>with_reducible repeat' (first|exact trivial|(show _∧_;refine aK ?_ ?_)))
def Ms (a:AttrM):Bool:=cz a.name&&decide (nW a.name=a.name)&&decide (a.value.size≤200)
theorem Jw (a:AttrM):Fa a=!Ms a:=rfl
def hasName (n:ByteArray)(a:AttrM):Bool:=decide (a.name=n)
def LG (l:List AttrM)(n:ByteArray):Int:=dI (hasName n) l
def iq (l:List AttrM):Bool:=decide (l.length≤40)&&l.all Ms&&decide ((l.map AttrM.name).Nodup)
def jl (t:List (ByteArray×AttrM))(l:List AttrM):List (ByteArray×AttrM):=l.foldl (fun t a=>dP a.name a t) t
def rQ (l:List AttrM):List (ByteArray×AttrM):=jl [] l
theorem zY {K α:Type}[DecidableEq K](k:K)(x:α):∀t:List (K×α),(dP k x t).length=if(cM k t).isSome then t.length else t.length+1
 |[]=>rfl
 | p::r=>by
   simp only[dP,cM]
   split
   ·simp
   ·rw[List.length_cons,zY k x r];split<;>simp
theorem mR:∀ (l:List AttrM) (t:List (ByteArray×AttrM)),(jl t l).length≤t.length+l.length∧((jl t l).length=t.length+l.length↔ (l.map AttrM.name).Nodup∧∀a∈l,(cM a.name t).isSome=false)
 |[],t=>by simp[jl]
 | a :: r,t=>by
   obtain⟨h1,h2⟩:=mR r (dP a.name a t)
   have hl:=zY a.name a t
   show(jl (dP a.name a t) r).length≤_∧((jl (dP a.name a t) r).length=_↔_)
   cases hg:(cM a.name t).isSome with
   | true=>
     rw[hg,if_pos rfl] at hl
     refine⟨by simp only[List.length_cons];omega,⟨fun h=>?_,fun h=>?_⟩⟩
     ·simp only[List.length_cons] at h;omega
     ·have:=h.2 a (by simp);rw[hg] at this;cases this
   | false=>
     rw[hg,if_neg (by simp)] at hl
     refine⟨by simp only[List.length_cons];omega,?_⟩
     rw[show(jl (dP a.name a t) r).length=t.length+ (a::r).length↔ (jl (dP a.name a t) r).length=(dP a.name a t).length+r.length from by rw[hl,List.length_cons];omega,h2]
     simp only[List.map_cons,List.nodup_cons,dZ,forall_eq_or_imp]
     constructor
     ·rintro⟨k1,k2⟩
      refine⟨⟨fun hm=>?_,k1⟩,hg,fun b hb=>?_⟩
      ·obtain⟨b,hb,he⟩:=List.mem_map.1 hm
       have:=k2 b hb
       rw[eE,he,if_pos rfl] at this;cases this
      ·have:=k2 b hb
       rw[eE] at this
       split at this
       ·cases this
       ·exact this
     ·rintro⟨⟨k1,k2⟩,_,k3⟩
      refine⟨k2,fun b hb=>?_⟩
      rw[eE,if_neg (fun e=>k1 (List.mem_map.2 ⟨b,hb,e.symm⟩))]
      exact k3 b hb
theorem Gf (l:List AttrM):(rQ l).length=l.length↔ (l.map AttrM.name).Nodup:=by
 have:=(mR l []).2
 simp only[List.length_nil,Nat.zero_add] at this
 exact this.trans ⟨fun h=>h.1,fun h=>⟨h,fun _ _=>rfl⟩⟩
theorem JN (l:List AttrM):(rQ l).length≤l.length:=by
 have:=(mR l []).1
 simp only[List.length_nil,Nat.zero_add] at this
 exact this
theorem DP {l:List AttrM}{k:Nat}{a:AttrM}(h:l[k]? =some a):rQ (l.take (k+1))=dP a.name a (rQ (l.take k)):=by
 have hk:=(br h).1
 rw[List.take_succ_eq_append_getElem hk,(br h).2]
 simp[rQ,jl,List.foldl_append]
@[reducible] def Nz (l : List AttrM) : MS := .live 2 (dz Value.string gZ (rQ l)) false
theorem lK (t:List (ByteArray×AttrM)):aV (dz Value.string gZ t)=true:=by
 rw[cr];intro x hx
 obtain⟨a,_,rfl⟩:=List.mem_map.1 hx
 rfl
theorem Ky:gj Tryz.prog 224 .string (.agg #[.string ByteArray.empty,.string ByteArray.empty]):=⟨9,90,by kernel_rfl,by kernel_rfl,fun w=>Tryz.zeroValue90 w⟩
theorem Io (l:List AttrM)(hl:l.length≤100000):an Tryz.prog 182 [] [gT l] [Nz l] (.mapr 0):=by
 have hlm:(l.map gZ).length=l.length:=bM ..
 refine an.aF (rvs:=[.tmp 2]) G aq Tryz.func182 rfl Tryz.ntmps182 rfl rfl ?_;with_reducible refine wD ?_
 refine bD.use G aq (fun(k:Nat)=>[(3,.mapr 61),(7,gT l),(8,ay l.length),(9,ay k)]) (fun k=>[(61,.live 2 (dz Value.string gZ (rQ (l.take k))) false)]) (fun k=>k≤l.length) (fun k=>l.length-k) 0 (Nat.zero_le _)
  ⟨⟨rfl,rfl⟩,⟨trivial,rfl,by show(l.length:Int)=((l.map gZ).length:Int);rw[hlm],rfl,trivial⟩,⟨.refl rfl,rfl⟩,trivial⟩ ?_
 intro k hk
 with_reducible refine wK ?_
 refine aL.mk (fun h1=>?_) (fun h1=>?_)<;>(try simp only[ak] at h1)<;>with_reducible refine wK ?_
 ·simp only[bH] at h1
  have hk':k<l.length:=by omega
  obtain⟨a,ha⟩:∃a,l[k]? =some a:=⟨_,bh hk'⟩
  obtain⟨n,v⟩:=a
  refine bn.mk k (oe ⟨n,v⟩) rfl (p6 ha) ?_;with_reducible refine wK ?_
  have hle:(rQ (l.take k)).length≤k:=Nat.le_trans (JN _) (by simp;omega)
  refine pQ.tab Value.string gZ (rQ (l.take k)) (k:=n) ⟨n,v⟩ Ky rfl nN nM (by unfold maxLen;omega) rfl ?_;with_reducible refine wK ?_
  refine nK ?_;with_reducible refine wK ?_
  refine aT.mk (k+1) (by omega) (by omega) ⟨⟨rfl,rfl⟩,⟨trivial,rfl,rfl,by show((k+1:Nat):Int)=(k:Int)+1;omega,trivial⟩,⟨?_,?_⟩,trivial⟩
  ·rw[DP ha];exact .refl (lK _)
  ·exact lK _
 ·(refine eK ?_ ?_<;>with_reducible repeat' (first|exact trivial|(show _∧_;refine aK ?_ ?_)))
  have:k=l.length:=by simp only[dG] at h1;omega
  rw[this,List.take_length]
  exact aQ (lK _)
theorem an.Py {P:Program}{f g:FuncId}{a:AV}{outs:List MS}{res:AV}(h:an P f [] [a,.clo (.func g) [] []] outs res):an P f [] [a,.lit (.func (.func g) #[] #[])] outs res:=by
 intro w W0 L vs hL hs hr
 refine h w W0 L vs hL hs ⟨hr.1,fun j c v h1 h2=>?_⟩
 match j with
 |0=>exact hr.2 0 c v h1 h2
 | 1=>
   have:=hr.2 1 _ v rfl h2
   cases this
   simp at h1
   subst h1
   exact cm.clo (va:=[]) (vb:=[]) rfl rfl (fun j c v h=>by simp at h) (fun j c v h=>by simp at h)
 |j+2=>simp at h1
theorem wT (l:List AttrM):l.any Fa=!l.all Ms:=by
 induction l with
 |nil=>rfl
 |cons a r ih=>simp[List.any_cons,List.all_cons,ih,Jw]
theorem FD (l:List AttrM):ic [Nz l]:=by
 refine⟨bB.ga fun r hr=>?_,lK _,trivial⟩
 obtain⟨p,_,rfl⟩:=List.mem_map.1 hr
 rfl
theorem CQ (l:List AttrM)(hl:l.length≤100000):an Tryz.prog 131 [] [gT l] [] (aX (iq l)):=by
 have hlm:(l.map gZ).length=l.length:=bM ..
 refine an.aF (rvs:=[.tmp 2]) G aq Tryz.func131 rfl Tryz.ntmps131 rfl rfl ?_;with_reducible refine wD ?_
 repeat' (first
  |refine aE ?_ ?_
  |((with_reducible show aL _ _ _ _);first|refine iK ?_|(refine aL.mk (fun _=>?_) (fun _=>?_)<;>with_reducible refine wK ?_))
  |((with_reducible refine kQ 181 ?_);refine ah.lit [] (an.Py (Kc 180 Nl [] rfl Fa l hl fun a _=>IK a)) MT ⟨rfl,je 12 _ rfl,trivial⟩ rfl rfl ?_;with_reducible refine wK ?_)
  |((with_reducible refine kQ 182 ?_);refine ah.new 151 [] (Io l hl) MB ⟨rfl,trivial⟩ rfl rfl rfl (FD l) rfl ?_;with_reducible refine wK ?_)
  |((with_reducible show eZ _ _ _ _ _ _ _);refine eZ.mk Ky ⟨_,_,rfl⟩ rfl ?_;with_reducible refine wK ?_)
  |apply trivial)
 ·have h2:l.all Ms=true:=by have:=wT l;simp_all
  have e:(dz Value.string gZ (rQ l)).length=(rQ l).length:=bM ..
  have h3:l.length≤40:=by simp only[hlm,bH] at*;omega
  have h4:=Gf l
  unfold iq
  rw[h2,dB h3,e,hlm]
  by_cases hn:(l.map AttrM.name).Nodup
  ·rw[dB hn,h4.2 hn];simp
  ·rw[dQ hn]
   have:¬ (rQ l).length=l.length:=fun h=>hn (h4.1 h)
   rw[dQ (by(try simp only[ak]);omega)];rfl
 ·have h2:l.all Ms=false:=by have:=wT l;simp_all
  unfold iq;rw[h2];simp
 ·have h2:decide (l.length≤40)=false:=by simp only[hlm,dG] at*;omega
  unfold iq;rw[h2];simp
def Mc:ByteArray:=⟨#[]⟩
def rE (l:List AttrM)(n:ByteArray):Int:=if iq l then(if cz n then 0 else 4) else 1
def Kj (l:List AttrM)(n:ByteArray):ByteArray:=if iq l&&cz n then nW n else Mc
def iM (l:List AttrM)(n:ByteArray):Int:=if iq l&&cz n then LG l (nW n) else-1
theorem K7 (l:List AttrM)(hl:l.length≤100000)(n:ByteArray):an Tryz.prog 65 [] [gT l,cw n] [] (.tup [cw (Kj l n),ay (iM l n),ay (rE l n)]):=by
 refine an.aF (rvs:=[.tmp 4,.tmp 5,.tmp 6]) G aq Tryz.func65 rfl Tryz.ntmps65 rfl rfl ?_;with_reducible refine wD ?_
 repeat' (first
  |refine aE ?_ ?_
  |((with_reducible show aL _ _ _ _);first|refine iK ?_|(refine aL.mk (fun _=>?_) (fun _=>?_)<;>with_reducible refine wK ?_))
  |((with_reducible refine kQ 131 ?_);refine cL (CQ l hl) HZ ?_;with_reducible refine wK ?_)
  |((with_reducible refine kQ 67 ?_);refine cL (xB _) E2 ?_;with_reducible refine wK ?_)
  |((with_reducible refine kQ 132 ?_);refine cL (IS l hl _) OQ ?_;with_reducible refine wK ?_)
  |apply trivial)
 all_goals (cases h1:iq l<;>cases h2:cz n<;>simp_all[rE,Kj,iM,Mc])
 rfl
def uS (l:List AttrM)(n:ByteArray):ByteArray:=if 0≤iM l n then((l[(iM l n).toNat]?).map AttrM.value).getD Mc else Mc
theorem um {α:Type}(p:α→Bool)(l:List α):dI p l=-1∨∃ (k:Nat) (a:α),dI p l=k∧l[k]? =some a∧p a=true:=by
 unfold dI
 cases h:l.findIdx? p with
 |none=>exact .inl rfl
 | some k=>
   rw[List.findIdx?_eq_some_iff_getElem] at h
   obtain⟨hk,h1,_⟩:=h
   exact .inr ⟨k,_,rfl,bh hk,h1⟩
theorem q6 (l:List AttrM)(n:ByteArray):iM l n=-1∨∃ (k:Nat) (a:AttrM),iM l n=k∧l[k]? =some a∧a.name=nW n:=by
 unfold iM
 split
 ·rcases um (hasName (nW n)) l with h|⟨k,a,h1,h2,h3⟩
  ·exact .inl h
  ·exact .inr ⟨k,a,h1,h2,by simpa[hasName] using h3⟩
 ·exact .inl rfl
theorem BG (l:List AttrM)(hl:l.length≤100000)(n:ByteArray):an Tryz.prog 23 [] [gT l,cw n] [] (.tup [cw (uS l n),aX (decide (0≤iM l n))]):=by
 refine an.aF (rvs:=[.tmp 4,.tmp 5]) G aq Tryz.func23 rfl Tryz.ntmps23 rfl rfl ?_;with_reducible refine wD ?_
 refine cL (K7 l hl n) Pr ?_;with_reducible refine wK ?_
 rcases q6 l n with h|⟨k,a,h,ha,hn⟩
 ·simp only[h]
  refine aL.yes rfl ?_;with_reducible refine wK ?_
  (refine eK ?_ ?_<;>with_reducible repeat' (first|exact trivial|(show _∧_;refine aK ?_ ?_)))
  ·unfold uS;rw[h];rfl
  ·rfl
 ·simp only[h]
  refine aL.no (dQ (by(try simp only[ak]);omega)) ?_;with_reducible refine wK ?_
  refine bn.mk k (oe a) rfl (p6 ha) ?_;with_reducible refine wK ?_
  (refine eK ?_ ?_<;>with_reducible repeat' (first|exact trivial|(show _∧_;refine aK ?_ ?_)))
  ·unfold uS;rw[h,if_pos (by omega),Int.toNat_natCast,ha];rfl
  ·exact dB (by omega)


end Go.Proofs.Heir
