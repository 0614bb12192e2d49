/- Models, plain laws and contracts of functions of the given program; conditions as stated in each theorem. By an AI agent. -/
import Derived.Test.YtkhjcnjicjgfiaaGreatDoorWN11
import Derived.Test.YtkhjcnjicjgfiaaGreatDoorChecked
import Derived.Test.YtkhjcnjicjgfiaaGreatDoorWN6
import Derived.Shelf.GgClosure.StringsIndexFunc
import Derived.Deep.LoopGhost
import Derived.WalkKit
import Derived.Laws.IdiomStrings
import Derived.IntWalk
import Derived.Outline
import Derived.Lib.Hide
import Derived.Lib.MapLaws
import Derived.Shelf.Strings.Search1
import Derived.Shelf.Strings.Search2
import Derived.Shelf.Strings.Search3
import Derived.Shelf.LaysM
import Derived.Shelf.Strings.Shaped
import Derived.Shelf.Strings.Fields
set_option linter.unusedSimpArgs false
set_option linter.unusedVariables false
namespace Go.Proofs.Heir
open Go.Am
set_option maxRecDepth 100000
@[reducible] def G : cQ := [(1, .sc .nilFunc), (2, .sc (.int .i64 0)), (3, .sc (.int .i64 0)), (4, .bl), (5, .sc (.int .u8 0)), (9, .str), (12, .sc (.int .u64 0)), (15, .sc (.pointer none)), (16, .sc (.pointer none)), (17, .sc (.pointer none)), (20, .sc .nilIface), (21, .sc (.int .i32 0)), (22, .sl 35 10 136), (24, .st 2 [(0, 22), (1, 3)] (Array.mk [(.slice none 0 0), (.int .i64 0)]) [1, 1]), (25, .sc .nilFunc), (26, .sc .nilFunc), (27, .sl 53 9 88), (28, .sc (.int .i64 0)), (30, .sc .nilFunc), (31, .sc .nilFunc), (32, .sl 90 2 32), (33, .sl 3 1 8), (35, .st 10 [(0, 3), (1, 9), (2, 9), (3, 9), (4, 32), (5, 3), (6, 33), (7, 3), (8, 3), (9, 3)] (Array.mk [(.int .i64 0), (.string ByteArray.empty), (.string ByteArray.empty), (.string ByteArray.empty), (.slice none 0 0), (.int .i64 0), (.slice none 0 0), (.int .i64 0), (.int .i64 0), (.int .i64 0)]) [1, 1, 1, 1, 1, 1, 1, 1, 1, 1]), (36, .sc .nilFunc), (37, .sc .nilFunc), (38, .sc .nilFunc), (39, .sc .nilFunc), (41, .sc .nilFunc), (42, .sc .nilFunc), (43, .sc .nilFunc), (44, .sc .nilFunc), (45, .sc .nilFunc), (46, .sc .nilFunc), (47, .sc .nilFunc), (48, .sc .nilFunc), (49, .sc .nilFunc), (50, .sc .nilFunc), (51, .sc .nilFunc), (53, .st 9 [(0, 3), (1, 3), (2, 3), (3, 3), (4, 9), (5, 4), (6, 4), (7, 9), (8, 9)] (Array.mk [(.int .i64 0), (.int .i64 0), (.int .i64 0), (.int .i64 0), (.string ByteArray.empty), (.bool false), (.bool false), (.string ByteArray.empty), (.string ByteArray.empty)]) [1, 1, 1, 1, 1, 1, 1, 1, 1]), (54, .sc .nilFunc), (56, .st 3 [(0, 24), (2, 27)] (Array.mk [(.slice none 0 0), (.int .i64 0), (.slice none 0 0)]) [2, 1]), (58, .sc .nilFunc), (59, .sc .nilFunc), (60, .sc .nilFunc), (61, .sc .nilFunc), (62, .sc .nilFunc), (63, .sc .nilFunc), (64, .sc .nilFunc), (65, .sc .nilFunc), (66, .sc .nilFunc), (67, .sc .nilFunc), (68, .sl 70 6 6), (70, .st 6 [(0, 5), (1, 5), (2, 5), (3, 5), (4, 5), (5, 5)] (Array.mk [(.int .u8 0), (.int .u8 0), (.int .u8 0), (.int .u8 0), (.int .u8 0), (.int .u8 0)]) [1, 1, 1, 1, 1, 1]), (71, .sl 5 1 1), (72, .sc .nilFunc), (73, .sc .nilFunc), (74, .sc .nilFunc), (75, .sl 156 4 32), (76, .sl 147 3 40), (77, .sl 205 2 24), (79, .st 4 [(0, 76), (1, 77), (2, 3), (3, 4)] (Array.mk [(.slice none 0 0), (.slice none 0 0), (.int .i64 0), (.bool false)]) [1, 1, 1, 1]), (80, .sl 154 5 104), (81, .sc .nilFunc), (82, .sl 88 11 104), (84, .sc .nilFunc), (86, .st 10 [(0, 3), (1, 3), (2, 9), (3, 4), (4, 4), (5, 9), (6, 9), (7, 3), (8, 3), (9, 4)] (Array.mk [(.int .i64 0), (.int .i64 0), (.string ByteArray.empty), (.bool false), (.bool false), (.string ByteArray.empty), (.string ByteArray.empty), (.int .i64 0), (.int .i64 0), (.bool false)]) [1, 1, 1, 1, 1, 1, 1, 1, 1, 1]), (88, .st 11 [(0, 3), (1, 86)] (Array.mk [(.int .i64 0), (.int .i64 0), (.int .i64 0), (.string ByteArray.empty), (.bool false), (.bool false), (.string ByteArray.empty), (.string ByteArray.empty), (.int .i64 0), (.int .i64 0), (.bool false)]) [1, 10]), (90, .st 2 [(0, 9), (1, 9)] (Array.mk [(.string ByteArray.empty), (.string ByteArray.empty)]) [1, 1]), (91, .sc .nilFunc), (93, .sc .nilFunc), (95, .st 2 [(0, 24)] (Array.mk [(.slice none 0 0), (.int .i64 0)]) [2]), (96, .sc .nilFunc), (97, .sc .nilIface), (98, .sc .nilIface), (99, .sc .nilFunc), (100, .sc (.pointer none)), (102, .sc .nilFunc), (104, .st 3 [(0, 24), (2, 27)] (Array.mk [(.slice none 0 0), (.int .i64 0), (.slice none 0 0)]) [2, 1]), (105, .sc .nilFunc), (106, .sc .nilFunc), (107, .sc .nilFunc), (108, .sc .nilFunc), (110, .sc .nilFunc), (112, .sc .nilFunc), (114, .sc .nilFunc), (116, .sc .nilFunc), (117, .sc .nilFunc), (118, .sc .nilFunc), (119, .sc .nilFunc), (121, .st 5 [(0, 24), (2, 3), (3, 3), (4, 3)] (Array.mk [(.slice none 0 0), (.int .i64 0), (.int .i64 0), (.int .i64 0), (.int .i64 0)]) [2, 1, 1, 1]), (122, .sc .nilFunc), (123, .sc .nilFunc), (124, .sc .nilFunc), (125, .sc .nilFunc), (126, .sc .nilFunc), (127, .sc .nilFunc), (128, .sc .nilFunc), (129, .sc .nilFunc), (130, .sc .nilFunc), (131, .sc .nilFunc), (133, .sc .nilFunc), (135, .sc .nilFunc), (136, .sc .nilFunc), (137, .sc .nilFunc), (139, .sc .nilFunc), (140, .sc .nilFunc), (141, .sc (.map none)), (143, .st 3 [(0, 24), (2, 141)] (Array.mk [(.slice none 0 0), (.int .i64 0), (.map none)]) [2, 1]), (144, .sc .nilFunc), (145, .sc .nilFunc), (147, .st 3 [(0, 9), (1, 9), (2, 3)] (Array.mk [(.string ByteArray.empty), (.string ByteArray.empty), (.int .i64 0)]) [1, 1, 1]), (148, .sl 321 7 72), (150, .st 2 [(0, 3), (1, 148)] (Array.mk [(.int .i64 0), (.slice none 0 0)]) [1, 1]), (151, .sl 150 2 32), (152, .sl 9 1 16), (154, .st 5 [(0, 4), (1, 152), (2, 148), (3, 148), (4, 151)] (Array.mk [(.bool false), (.slice none 0 0), (.slice none 0 0), (.slice none 0 0), (.slice none 0 0)]) [1, 1, 1, 1, 1]), (156, .st 4 [(0, 3), (1, 3), (2, 3), (3, 4)] (Array.mk [(.int .i64 0), (.int .i64 0), (.int .i64 0), (.bool false)]) [1, 1, 1, 1]), (157, .sc .nilFunc), (158, .sc .nilFunc), (159, .sc .nilFunc), (160, .sc .nilFunc), (161, .sc (.pointer none)), (163, .sc .nilFunc), (165, .st 9 [(0, 24), (2, 75), (3, 79), (7, 80), (8, 82)] (Array.mk [(.slice none 0 0), (.int .i64 0), (.slice none 0 0), (.slice none 0 0), (.slice none 0 0), (.int .i64 0), (.bool false), (.slice none 0 0), (.slice none 0 0)]) [2, 1, 4, 1, 1]), (167, .sc .nilFunc), (168, .sc (.pointer none)), (169, .sc .nilFunc), (170, .sc .nilFunc), (171, .sc .nilFunc), (172, .sc .nilFunc), (173, .sc .nilFunc), (174, .sc .nilFunc), (176, .st 1 [(0, 28)] (Array.mk [(.int .i64 0)]) [1]), (178, .st 2 [(0, 9), (1, 98)] (Array.mk [(.string ByteArray.empty), .nilIface]) [1, 1]), (179, .sc .nilFunc), (180, .sc .nilFunc), (181, .sc .nilFunc), (182, .sc .nilFunc), (183, .sc .nilFunc), (184, .sc .nilFunc), (185, .sc .nilFunc), (186, .sc .nilFunc), (187, .sc .nilFunc), (188, .sc .nilFunc), (189, .sc .nilFunc), (190, .sc .nilFunc), (191, .sc .nilFunc), (192, .sc .nilFunc), (193, .sc .nilFunc), (194, .sc .nilFunc), (195, .sc .nilFunc), (196, .sc .nilFunc), (197, .sc .nilFunc), (198, .sc .nilFunc), (199, .sc .nilFunc), (200, .sc .nilFunc), (202, .sc (.map none)), (203, .sc .nilFunc), (205, .st 2 [(0, 9), (1, 3)] (Array.mk [(.string ByteArray.empty), (.int .i64 0)]) [1, 1]), (206, .sc (.map none)), (208, .st 2 [(0, 202), (1, 206)] (Array.mk [(.map none), (.map none)]) [1, 1]), (210, .sc .nilFunc), (211, .sc .nilFunc), (212, .sc .nilFunc), (213, .sc .nilFunc), (214, .sc (.pointer none)), (216, .st 5 [(0, 24), (2, 3), (3, 9), (4, 4)] (Array.mk [(.slice none 0 0), (.int .i64 0), (.int .i64 0), (.string ByteArray.empty), (.bool false)]) [2, 1, 1, 1]), (217, .sc .nilFunc), (218, .sc .nilFunc), (219, .sc .nilFunc), (220, .sc (.pointer none)), (221, .sc .nilFunc), (222, .sc .nilFunc), (223, .sc .nilFunc), (224, .sc (.map none)), (225, .sc .nilFunc), (226, .sc .nilFunc), (227, .sc .nilFunc), (228, .sc .nilFunc), (229, .sc .nilFunc), (232, .sc (.map none)), (233, .sc .nilFunc), (234, .sc .nilFunc), (235, .sc .nilFunc), (236, .sc .nilFunc), (237, .sc .nilFunc), (238, .sc .nilFunc), (243, .sc .nilFunc), (244, .sc .nilIface), (246, .sc .nilFunc), (248, .sc .nilFunc), (249, .sc .nilFunc), (250, .sc .nilFunc), (251, .sc .nilFunc), (252, .sc .nilFunc), (253, .sc .nilFunc), (254, .sc .nilFunc), (255, .sc .nilFunc), (256, .sc .nilFunc), (257, .sc (.pointer none)), (259, .st 2 [(0, 257), (1, 71)] (Array.mk [(.pointer none), (.slice none 0 0)]) [1, 1]), (260, .sc .nilFunc), (261, .sc .nilFunc), (262, .sc .nilFunc), (265, .sc (.pointer none)), (266, .sc .nilFunc), (267, .sc .nilFunc), (268, .sc .nilFunc), (269, .sc .nilIface), (271, .sc .nilFunc), (272, .sc .nilIface), (273, .sc .nilFunc), (274, .sc .nilIface), (275, .sl 98 1 16), (276, .sc .nilFunc), (277, .sc .nilFunc), (278, .sc .nilFunc), (279, .sc .nilFunc), (280, .sc (.pointer none)), (281, .sc .nilFunc), (282, .sc .nilFunc), (283, .sc .nilFunc), (284, .sc (.int .u64 0)), (286, .sc .nilFunc), (287, .sc (.int .u32 0)), (289, .sc .nilFunc), (290, .sl 292 2 16), (292, .st 2 [(0, 3), (1, 3)] (Array.mk [(.int .i64 0), (.int .i64 0)]) [1, 1]), (293, .sc .nilFunc), (294, .sc (.pointer none)), (295, .sl 301 3 6), (296, .sl 304 3 12), (298, .st 3 [(0, 295), (1, 296), (2, 3)] (Array.mk [(.slice none 0 0), (.slice none 0 0), (.int .i64 0)]) [1, 1, 1]), (299, .sc (.int .u16 0)), (301, .st 3 [(0, 299), (1, 299), (2, 299)] (Array.mk [(.int .u16 0), (.int .u16 0), (.int .u16 0)]) [1, 1, 1]), (302, .sc .nilFunc), (304, .st 3 [(0, 287), (1, 287), (2, 287)] (Array.mk [(.int .u32 0), (.int .u32 0), (.int .u32 0)]) [1, 1, 1]), (305, .sc .nilFunc), (306, .sc (.pointer none)), (307, .sc (.pointer none)), (313, .sc .nilFunc), (315, .sc .nilFunc), (321, .st 7 [(0, 3), (1, 3), (2, 3), (3, 3), (4, 9), (5, 9), (6, 4)] (Array.mk [(.int .i64 0), (.int .i64 0), (.int .i64 0), (.int .i64 0), (.string ByteArray.empty), (.string ByteArray.empty), (.bool false)]) [1, 1, 1, 1, 1, 1, 1]), (322, .sc .nilFunc), (323, .sc .nilFunc), (326, .sc (.pointer none)), (327, .sc .nilFunc), (330, .sl 333 4 16), (334, .sc (.pointer none))]
theorem au:G.Good Tryz.prog:=fS<|fS<|fS<|fB<|fS<|fG<|fS<|fS<|fS<|fS<|fS<|fS<|fL<|fT Tryz.underlying24<|fS<|fS<|fL<|fS<|fS<|fS<|fL<|fL<|fT Tryz.underlying35<|fS<|fS<|fS<|fS<|fS<|fS<|fS<|fS<|fS<|fS<|fS<|fS<|fS<|fS<|fS<|fT Tryz.underlying53<|fS<|fT Tryz.underlying56<|fS<|fS<|fS<|fS<|fS<|fS<|fS<|fS<|fS<|fS<|fL<|fT Tryz.underlying70<|fL<|fS<|fS<|fS<|fL<|fL<|fL<|fT Tryz.underlying79<|fL<|fS<|fL<|fS<|fT Tryz.underlying86<|fT Tryz.underlying88<|fT Tryz.underlying90<|fS<|fS<|fT Tryz.underlying95<|fS<|fS<|fS<|fS<|fS<|fS<|fT Tryz.underlying104<|fS<|fS<|fS<|fS<|fS<|fS<|fS<|fS<|fS<|fS<|fS<|fT Tryz.underlying121<|fS<|fS<|fS<|fS<|fS<|fS<|fS<|fS<|fS<|fS<|fS<|fS<|fS<|fS<|fS<|fS<|fS<|fT Tryz.underlying143<|fS<|fS<|fT Tryz.underlying147<|fL<|fT Tryz.underlying150<|fL<|fL<|fT Tryz.underlying154<|fT Tryz.underlying156<|fS<|fS<|fS<|fS<|fS<|fS<|fT Tryz.underlying165<|fS<|fS<|fS<|fS<|fS<|fS<|fS<|fS<|fT Tryz.underlying176<|fT Tryz.underlying178<|fS<|fS<|fS<|fS<|fS<|fS<|fS<|fS<|fS<|fS<|fS<|fS<|fS<|fS<|fS<|fS<|fS<|fS<|fS<|fS<|fS<|fS<|fS<|fS<|fT Tryz.underlying205<|fS<|fT Tryz.underlying208<|fS<|fS<|fS<|fS<|fS<|fT Tryz.underlying216<|fS<|fS<|fS<|fS<|fS<|fS<|fS<|fS<|fS<|fS<|fS<|fS<|fS<|fS<|fS<|fS<|fS<|fS<|fS<|fS<|fS<|fS<|fS<|fS<|fS<|fS<|fS<|fS<|fS<|fS<|fS<|fS<|fS<|fT Tryz.underlying259<|fS<|fS<|fS<|fS<|fS<|fS<|fS<|fS<|fS<|fS<|fS<|fS<|fL<|fS<|fS<|fS<|fS<|fS<|fS<|fS<|fS<|fS<|fS<|fS<|fS<|fL<|fT Tryz.underlying292<|fS<|fS<|fL<|fL<|fT Tryz.underlying298<|fS<|fT Tryz.underlying301<|fS<|fT Tryz.underlying304<|fS<|fS<|fS<|fS<|fS<|fT Tryz.underlying321<|fS<|fS<|fS<|fS<|fL<|fS<|fN
theorem c3:aq Tryz.prog 3:=fun _ _=>by kernel_rfl
theorem c4:aq Tryz.prog 4:=fun _ _=>by kernel_rfl
theorem c5:aq Tryz.prog 5:=fun _ _=>by kernel_rfl
theorem c8:aq Tryz.prog 8:=fun _ _=>by kernel_rfl
theorem Ld:aq Tryz.prog 16:=fun _ _=>by kernel_rfl
theorem Em:aq Tryz.prog 17:=fun _ _=>by kernel_rfl
theorem Mr:aq Tryz.prog 18:=fun _ _=>by kernel_rfl
theorem Ke:aq Tryz.prog 23:=fun _ _=>by kernel_rfl
theorem MH:aq Tryz.prog 24:=fun _ _=>by kernel_rfl
theorem MC:aq Tryz.prog 25:=fun _ _=>by kernel_rfl
theorem Lf:aq Tryz.prog 26:=fun _ _=>by kernel_rfl
theorem Md:aq Tryz.prog 27:=fun _ _=>by kernel_rfl
theorem MN:aq Tryz.prog 28:=fun _ _=>by kernel_rfl
theorem Mj:aq Tryz.prog 29:=fun _ _=>by kernel_rfl
theorem Kb:aq Tryz.prog 30:=fun _ _=>by kernel_rfl
theorem Ly:aq Tryz.prog 32:=fun _ _=>by kernel_rfl
theorem MI:aq Tryz.prog 33:=fun _ _=>by kernel_rfl
theorem MO:aq Tryz.prog 34:=fun _ _=>by kernel_rfl
theorem Gi:aq Tryz.prog 35:=fun _ _=>by kernel_rfl
theorem Mt:aq Tryz.prog 36:=fun _ _=>by kernel_rfl
theorem LG:aq Tryz.prog 47:=fun _ _=>by kernel_rfl
theorem D3:aq Tryz.prog 56:=fun _ _=>by kernel_rfl
theorem Lh:aq Tryz.prog 57:=fun _ _=>by kernel_rfl
theorem Mn:aq Tryz.prog 58:=fun _ _=>by kernel_rfl
theorem Mm:aq Tryz.prog 59:=fun _ _=>by kernel_rfl
theorem FR:aq Tryz.prog 60:=fun _ _=>by kernel_rfl
theorem LU:aq Tryz.prog 65:=fun _ _=>by kernel_rfl
theorem Lq:aq Tryz.prog 66:=fun _ _=>by kernel_rfl
theorem DT:aq Tryz.prog 67:=fun _ _=>by kernel_rfl
theorem LV:aq Tryz.prog 68:=fun _ _=>by kernel_rfl
theorem MM:aq Tryz.prog 69:=fun _ _=>by kernel_rfl
theorem Mz:aq Tryz.prog 70:=fun _ _=>by kernel_rfl
theorem zP:aq Tryz.prog 71:=fun _ _=>by kernel_rfl
theorem Gj:aq Tryz.prog 72:=fun _ _=>by kernel_rfl
theorem GW:aq Tryz.prog 73:=fun _ _=>by kernel_rfl
theorem Lt:aq Tryz.prog 74:=fun _ _=>by kernel_rfl
theorem Ka:aq Tryz.prog 77:=fun _ _=>by kernel_rfl
theorem Mq:aq Tryz.prog 78:=fun _ _=>by kernel_rfl
theorem MD:aq Tryz.prog 80:=fun _ _=>by kernel_rfl
theorem MG:aq Tryz.prog 81:=fun _ _=>by kernel_rfl
theorem Mh:aq Tryz.prog 82:=fun _ _=>by kernel_rfl
theorem Ms:aq Tryz.prog 83:=fun _ _=>by kernel_rfl
theorem Mi:aq Tryz.prog 84:=fun _ _=>by kernel_rfl
theorem Mo:aq Tryz.prog 85:=fun _ _=>by kernel_rfl
theorem L8:aq Tryz.prog 86:=fun _ _=>by kernel_rfl
theorem Mp:aq Tryz.prog 87:=fun _ _=>by kernel_rfl
theorem Kq:aq Tryz.prog 102:=fun _ _=>by kernel_rfl
theorem A8:aq Tryz.prog 115:=fun _ _=>by kernel_rfl
theorem DA:aq Tryz.prog 121:=fun _ _=>by kernel_rfl
theorem HT:aq Tryz.prog 122:=fun _ _=>by kernel_rfl
theorem Jn:aq Tryz.prog 123:=fun _ _=>by kernel_rfl
theorem Gz:aq Tryz.prog 124:=fun _ _=>by kernel_rfl
theorem Ja:aq Tryz.prog 125:=fun _ _=>by kernel_rfl
theorem KD:aq Tryz.prog 127:=fun _ _=>by kernel_rfl
theorem I9:aq Tryz.prog 131:=fun _ _=>by kernel_rfl
theorem LI:aq Tryz.prog 132:=fun _ _=>by kernel_rfl
theorem Kk:aq Tryz.prog 133:=fun _ _=>by kernel_rfl
theorem LJ:aq Tryz.prog 134:=fun _ _=>by kernel_rfl
theorem KK:aq Tryz.prog 135:=fun _ _=>by kernel_rfl
theorem I5:aq Tryz.prog 137:=fun _ _=>by kernel_rfl
theorem LZ:aq Tryz.prog 138:=fun _ _=>by kernel_rfl
theorem Jh:aq Tryz.prog 140:=fun _ _=>by kernel_rfl
theorem Gu:aq Tryz.prog 143:=fun _ _=>by kernel_rfl
theorem K9:aq Tryz.prog 145:=fun _ _=>by kernel_rfl
theorem Li:aq Tryz.prog 146:=fun _ _=>by kernel_rfl
theorem HH:aq Tryz.prog 147:=fun _ _=>by kernel_rfl
theorem L4:aq Tryz.prog 148:=fun _ _=>by kernel_rfl
theorem G8:aq Tryz.prog 149:=fun _ _=>by kernel_rfl
theorem I8:aq Tryz.prog 174:=fun _ _=>by kernel_rfl
theorem Eh:aq Tryz.prog 175:=fun _ _=>by kernel_rfl
theorem K5:aq Tryz.prog 176:=fun _ _=>by kernel_rfl
theorem I4:aq Tryz.prog 179:=fun _ _=>by kernel_rfl
theorem LO:aq Tryz.prog 180:=fun _ _=>by kernel_rfl
theorem Lp:aq Tryz.prog 181:=fun _ _=>by kernel_rfl
theorem Lm:aq Tryz.prog 182:=fun _ _=>by kernel_rfl
theorem KT:aq Tryz.prog 183:=fun _ _=>by kernel_rfl
theorem LW:aq Tryz.prog 184:=fun _ _=>by kernel_rfl
theorem KI:aq Tryz.prog 185:=fun _ _=>by kernel_rfl
theorem Ls:aq Tryz.prog 186:=fun _ _=>by kernel_rfl
theorem Lo:aq Tryz.prog 187:=fun _ _=>by kernel_rfl
theorem JG:aq Tryz.prog 188:=fun _ _=>by kernel_rfl
theorem LK:aq Tryz.prog 192:=fun _ _=>by kernel_rfl
theorem LS:aq Tryz.prog 193:=fun _ _=>by kernel_rfl
theorem Me:aq Tryz.prog 206:=fun _ _=>by kernel_rfl
theorem Mb:aq Tryz.prog 207:=fun _ _=>by kernel_rfl
theorem Ma:aq Tryz.prog 208:=fun _ _=>by kernel_rfl
theorem LA:aq Tryz.prog 223:=fun _ _=>by kernel_rfl
theorem Mf:aq Tryz.prog 55:=fun _ _=>by kernel_rfl
theorem LF:aq Tryz.prog 61:=fun _ _=>by kernel_rfl
theorem LB:aq Tryz.prog 75:=fun _ _=>by kernel_rfl
theorem J7:aq Tryz.prog 76:=fun _ _=>by kernel_rfl
theorem J9:aq Tryz.prog 79:=fun _ _=>by kernel_rfl
theorem E3:aq Tryz.prog 116:=fun _ _=>by kernel_rfl
theorem Ho:aq Tryz.prog 117:=fun _ _=>by kernel_rfl
theorem IL:aq Tryz.prog 118:=fun _ _=>by kernel_rfl
theorem KC:aq Tryz.prog 119:=fun _ _=>by kernel_rfl
theorem L7:aq Tryz.prog 120:=fun _ _=>by kernel_rfl
theorem yT:aq Tryz.prog 129:=fun _ _=>by kernel_rfl
theorem qe:aq Tryz.prog 136:=fun _ _=>by kernel_rfl
theorem JU:aq Tryz.prog 139:=fun _ _=>by kernel_rfl
theorem Ct:aq Tryz.prog 141:=fun _ _=>by kernel_rfl
theorem xm:aq Tryz.prog 142:=fun _ _=>by kernel_rfl
theorem Gm:aq Tryz.prog 144:=fun _ _=>by kernel_rfl
theorem La:aq Tryz.prog 150:=fun _ _=>by kernel_rfl
theorem L6:aq Tryz.prog 177:=fun _ _=>by kernel_rfl
theorem Jj:aq Tryz.prog 191:=fun _ _=>by kernel_rfl
theorem I2:kj Tryz.prog 206 (.int .i64) (.int .i64 0):=⟨3,3,by kernel_rfl,by kernel_rfl,fun w=>Tryz.zeroValue3 w⟩
end Go.Proofs.Heir
namespace Go.Proofs.Heir
open Go.Am
set_option maxRecDepth 100000
set_option maxHeartbeats 8000000
def kJ (c:Int):Bool:=decide (97≤c)&&decide (c≤122)
def mM (c:Int):Bool:=decide (65≤c)&&decide (c≤90)
def jP (c:Int):Bool:=kJ c||mM c||(decide (48≤c)&&decide (c≤57))||decide (c=45)||decide (c=95)||decide (c=46)
@[reducible] def Bw (c : Int) : AV := .lit (.int .i32 c)
@[reducible] def bC (b : Bool) : AV := .lit (.bool b)
@[reducible] def bS (s : ByteArray) : AV := .lit (.string s)
@[reducible] def ah (n : Int) : AV := .lit (.int .i64 n)
theorem xG (c:Int):ak Tryz.prog 188 [] [Bw c] [] (bC (kJ c)):=by
 refine ak.aD (rvs:=[.tmp 2]) G au Tryz.func188 rfl Tryz.ntmps188 rfl rfl ?_;with_reducible refine wD ?_
 refine aX.mk (fun h=>?_) (fun h=>?_)<;>(try simp only[ay] at h)<;>with_reducible refine wK ?_
 ·(refine eK ?_ ?_<;>with_reducible repeat' (first|exact trivial|(show _∧_;refine aK ?_ ?_)))
  unfold kJ
  simp at h;simp[h]
 ·(refine eK ?_ ?_<;>with_reducible repeat' (first|exact trivial|(show _∧_;refine aK ?_ ?_)))
  unfold kJ
  simp at h;simp;omega
theorem qi (c:Int):ak Tryz.prog 179 [] [Bw c] [] (bC (mM c)):=by
 refine ak.aD (rvs:=[.tmp 2]) G au Tryz.func179 rfl Tryz.ntmps179 rfl rfl ?_;with_reducible refine wD ?_
 refine aX.mk (fun h=>?_) (fun h=>?_)<;>(try simp only[ay] at h)<;>with_reducible refine wK ?_
 ·(refine eK ?_ ?_<;>with_reducible repeat' (first|exact trivial|(show _∧_;refine aK ?_ ?_)))
  unfold mM
  simp at h;simp[h]
 ·(refine eK ?_ ?_<;>with_reducible repeat' (first|exact trivial|(show _∧_;refine aK ?_ ?_)))
  unfold mM
  simp at h;simp;omega
theorem Hj (c:Int):ak Tryz.prog 187 [] [Bw c] [] (bC (jP c)):=by
 refine ak.aD (rvs:=[.tmp 2]) G au Tryz.func187 rfl Tryz.ntmps187 rfl rfl ?_;with_reducible refine wD ?_
 refine cL (xG c) JG ?_;with_reducible refine wK ?_
 repeat' (first
  |refine aE ?_ ?_
  |((with_reducible show aX _ _ _ _);first|refine iK ?_|(refine aX.mk (fun _=>?_) (fun _=>?_)<;>with_reducible refine wK ?_))
  |((with_reducible refine kQ 179 ?_);refine cL (qi c) I4 ?_;with_reducible refine wK ?_)
  |apply trivial)
 all_goals (simp_all[jP,kJ,mM]<;>omega)
theorem HZ (c:Int):ak Tryz.prog 186 [] [Bw c] [] (bC (!jP c)):=by
 refine ak.aD (rvs:=[.tmp 2]) G au Tryz.func186 rfl Tryz.ntmps186 rfl rfl ?_;with_reducible refine wD ?_
 refine cL (Hj c) Lo ?_;with_reducible refine wK ?_
 (refine eK ?_ ?_<;>with_reducible repeat' (first|exact trivial|(show _∧_;refine aK ?_ ?_)))
open Go.RowKit Go.Lib in
theorem Ap (g:Nat)(eg:∀args w,(callFunc g args).run Tryz.prog w=.ok (.enter g args) w)(p:Nat→Bool)(s:ByteArray)(w:World)(ht:kg Tryz.prog w fun _=>none)(hp:∀ (W:World) (x:Nat),(kg Tryz.prog W fun _=>none)→x≤1114111→Calls Tryz.prog g #[.int .i32 (x:Int)] W fun e w'=>e=.returned (.bool (p x))∧Below W.heap.size W w'):
  Calls Tryz.prog 227 #[.string s,.func (.func g) #[] #[],.bool true] w fun e w'=>e=.returned (.int .i64 (Lib.idxFunc p true s))∧Below w.heap.size w w':=by
 go_enter Tryz.func227,Tryz.ntmps227
 go_wp2
 go_loopg [] s.size (fun gf wx=> ∃pos:Nat,wx.heap[w.heap.size]? =some (.stringIter s pos)∧Below w.heap.size w wx∧Lib.idxFuncFrom p true s gf pos=Lib.idxFunc p true s∧s.size≤pos+gf)
 case atStart=>exact⟨0,World.iter_heap w s 0,(Below.refl _ w).alloc (Nat.le_refl _) _,rfl,by omega⟩
 case round=>
  obtain⟨pos,hit,hbw,hleft,hfu⟩:=hrel
  by_cases hps:pos<s.size
  ·obtain⟨g',rfl⟩:∃g',gk=g'+1:=⟨gk-1,by omega⟩
   have hnx:∀ty,(Instr.next (.pointer (some ⟨w.heap.size,0,none⟩)) true ty).run Tryz.prog wr=_:=fun ty=>Lib.run_next_any_at wr w.heap.size s pos ty hit hps
   have hwd:=Lib.width_pos s pos
   obtain⟨R,hR⟩:∃R,(Utf8.decode s pos).1=R:=⟨_,rfl⟩
   obtain⟨K,hK⟩:∃K,(Utf8.decode s pos).2=K:=⟨_,rfl⟩
   simp only[Lib.idxFuncFrom,hps,if_true,hR,hK] at hleft
   rw[hR,hK] at hnx
   rw[hK] at hwd
   have hit2:=Lib.iterAt_heap wr w.heap.size s pos (pos+K) hit
   have hbw2:=Lib.below_iterAt hbw (k:=w.heap.size) (Nat.le_refl _) s (pos+K)
   obtain⟨W,hWd⟩:∃W,wr.iterAt w.heap.size s (pos+K)=W:=⟨_,rfl⟩
   rw[hWd] at hnx hit2 hbw2
   have hltW:w.heap.size<W.heap.size:=(Array.getElem?_eq_some_iff.1 hit2).1
   have cS:Calls Tryz.prog g #[.int .i32 (R:Int)] W _       :=hp W R (ht.below hbw2) (by rw[←hR];exact Lib.rune_le s pos)
   clear hp
   cases hsp:p R<;>rw[hsp] at cS<;>simp only[hsp,if_true,Bool.false_eq_true,Bool.true_eq_false,if_false] at hleft
   ·go_wp2_with (go_at_fn g;refine cS.mono ?_;rintro e W' ⟨rfl,hbc⟩)
    go_roundg g'
    case measure=>omega
    case rel=>exact⟨pos+K,(hbc.block _ hltW).trans hit2,(hbw2.trans (hbc.mono hbw2.size)),hleft,by omega⟩
   ·go_wp2_with (go_at_fn g;refine cS.mono ?_;rintro e W' ⟨rfl,hbc⟩)
    go_ret
    exact⟨by rw[←hleft]<;>rfl,(hbw2.trans (hbc.mono hbw2.size))⟩
  ·have hnx:∀ty,(Instr.next (.pointer (some ⟨w.heap.size,0,none⟩)) true ty).run Tryz.prog wr=_:=fun ty=>Lib.run_next_end_at wr w.heap.size s pos ty hit hps
   rw[Lib.idxFuncFrom_end p true s gk pos hps] at hleft
   go_wp2
   go_ret
   exact⟨by rw[←hleft]<;>rfl,hbw⟩
end Go.Proofs.Heir
namespace Go.Proofs.Heir
open Go Go.Am Go.RowKit Go.Lib
set_option maxRecDepth 100000
set_option maxHeartbeats 8000000
def mz (c:UInt8):UInt8:=if mM (c.toNat:Int) then c+32 else c
def oJ (l:List UInt8):List UInt8:=l.map mz
def dy (s:ByteArray):ByteArray:=⟨(oJ s.data.toList).toArray⟩
def pZ (l:List UInt8)(k:Nat):List UInt8:=(l.take k).map mz++l.drop k
theorem yJ (l:List UInt8)(k:Nat):(pZ l k).length=l.length:=by simp[pZ];omega
theorem yD (l:List UInt8)(k:Nat)(h:k<l.length):(pZ l k)[k]? =some l[k]:=by
 simp[pZ,List.getElem?_append,List.getElem?_drop,Nat.min_eq_left (Nat.le_of_lt h),h]
theorem xL (l:List UInt8)(k:Nat)(h:k<l.length):(pZ l k).set k (mz l[k])=pZ l (k+1):=by
 unfold pZ
 have h1:((l.take k).map mz).length=k:=by simp;omega
 rw[List.set_append_right _ _ (by omega),h1,Nat.sub_self,List.take_succ_eq_append_getElem h,List.drop_eq_getElem_cons h]
 simp only[List.set_cons_zero,iq,List.map_cons,List.map_nil,List.append_assoc,List.cons_append,List.nil_append]
theorem CO (l:List UInt8)(k:Nat)(h:k<l.length)(hc:mM (l[k].toNat:Int)=false):pZ l k=pZ l (k+1):=by
 rw[←xL l k h]
 have h2:=yD l k h
 apply List.ext_getElem?
 intro j
 rw[List.getElem?_set]
 by_cases hj:k=j
 ·subst hj
  rw[if_pos rfl,if_pos (by rw[yJ];exact h),h2]
  simp[mz,hc]
 ·rw[if_neg hj]
def rowOf (l:List UInt8)(z:List Value):Array Value:=(l.map (fun b=>Value.int .u8 b.toNat)++z).toArray
theorem vw (l:List UInt8)(z:List Value)(k:Nat)(b:UInt8)(h:l[k]? =some b):(rowOf l z)[k]? =some (.int .u8 b.toNat):=by
 have hk:=(aY h).1
 simp only[rowOf,List.getElem?_toArray]
 rw[List.getElem?_append_left (by simpa using hk),fI,h];rfl
theorem CE (l:List UInt8)(z:List Value)(k:Nat)(b:UInt8)(h:k<l.length):(rowOf l z).setIfInBounds k (.int .u8 b.toNat)=rowOf (l.set k b) z:=by
 apply Array.ext'
 simp only[rowOf,Array.toList_setIfInBounds,List.map_set]
 rw[List.set_append_left _ _ (by simpa using h)]
theorem Fu (c:UInt8)(h:mM (c.toNat:Int)=true):IntKind.u8.wrap (IntKind.u8.wrap ((c.toNat:Int)-65)+97)=((c+32:UInt8).toNat:Int):=by
 simp only[mM,bN,bH] at h
 have h1:IntKind.u8.wrap ((c.toNat:Int)-65)=(c.toNat:Int)-65:=by simp[IntKind.wrap_u8];omega
 rw[h1]
 have h2:IntKind.u8.wrap ((c.toNat:Int)-65+97)=(c.toNat:Int)+32:=by simp[IntKind.wrap_u8];omega
 rw[h2]
 have:(c+32:UInt8).toNat=c.toNat+32:=by
  rw[UInt8.toNat_add];simp;omega
 rw[this];rfl
theorem A7 (s:ByteArray)(w:World)(ht:kg Tryz.prog w fun _=>none)(hs:s.size≤100000):Calls Tryz.prog 124 #[.string s] w fun e w'=>e=.returned (.string (dy s))∧Below w.heap.size w w':=by
 obtain⟨l,rfl⟩:∃l:List UInt8,s=⟨l.toArray⟩:=⟨s.data.toList,by obtain⟨⟨l⟩⟩:=s;rfl⟩
 have hsz:(ByteArray.mk l.toArray).size=l.length:=by simp[ByteArray.size]
 have hconv:=run_bytes_of_string (P:=Tryz.prog) w 9 71 5 ⟨l.toArray⟩ Tryz.underlying9 Tryz.underlying71 Tryz.underlying5
 rw[hsz] at hconv hs
 obtain⟨cap,hcap⟩:∃cap,grownCap w l.length 0 5=cap:=⟨_,rfl⟩
 rw[hcap] at hconv
 obtain⟨z,hz⟩:∃z:List Value,bytesRow ⟨l.toArray⟩ cap=rowOf l z:=⟨List.replicate (cap-l.length) (.int .u8 0),by
  apply Array.ext';simp[bytesRow,rowOf,ByteArray.size]⟩
 rw[hz] at hconv
 obtain⟨n,hn⟩:∃n,(rowOf l z).size=n:=⟨_,rfl⟩
 rw[hn] at hconv
 clear hcap hz
 go_enter Tryz.func124,Tryz.ntmps124
 go_wp2
 go_loopw [10] (fun i wr=> ∃k:Nat,k≤l.length∧i=.int .i64 k∧wr.heap[w.heap.size]? =some (.cells (rowOf (pZ l k) z) 5 (n,n+1))∧Below w.heap.size w wr) (fun i _=>l.length- (intOf i).toNat)
 case atStart=>exact⟨0,Nat.zero_le _,rfl,(heap_alloc_new w (Obj.cells (rowOf l z) 5 (n,n+1))),((Below.refl _ w).alloc (Nat.le_refl _) _).drew⟩
 case round=>
  obtain⟨k,hk,rfl,hh,hb⟩:=hrel
  by_cases hlt:k<l.length
  ·have hcell:wr.cell? ⟨w.heap.size,k,none⟩=some (.int .u8 (l[k].toNat:Int)):=by
    simp only[World.cell?,hh]
    exact vw _ z k _ (yD l k hlt)
   have hn2:k<n:=by rw[←hn];simp[rowOf];omega
   have hfz:wr.frozen? ⟨w.heap.size,k,none⟩=false:=by
    simp[World.frozen?,hh];omega
   have hbs:w.heap.size<wr.heap.size:=(Array.getElem?_eq_some_iff.1 hh).1
   have hb1:0≤ (l[k].toNat:Int):=Int.natCast_nonneg _
   have hb2:(l[k].toNat:Int)≤255:=by have:=UInt8.toNat_lt l[k];omega
   cases hc:mM (l[k].toNat:Int) with
   | false=>
     go_wp2_with (go_at_call 179;refine((qi (l[k].toNat:Int)).below (vs:=[.int .i32 (l[k].toNat:Int)]) _ (ht.below hb)).mono ?_;rw[hc];rintro e w1 ⟨rfl,hb3⟩)
     go_roundw
     case rel=>exact⟨k+1,by omega,by go_num,by rw[hb3.block _ hbs,hh,CO l k hlt hc],hb.trans (hb3.mono hb.size)⟩
     case measure=>simp[intOf];omega
   | true=>
     have hst:IntKind.u8.wrap (IntKind.u8.wrap ((l[k].toNat:Int)-65)+97)=((mz l[k]).toNat:Int):=by
      rw[Fu _ hc];unfold mz;rw[hc];rfl
     simp only[IntKind.wrap_u8] at hst
     have H:=hid hst
     clear hst
     go_wp2_with (go_at_call 179;refine((qi (l[k].toNat:Int)).below (vs:=[.int .i32 (l[k].toNat:Int)]) _ (ht.below hb)).mono ?_;rw[hc];rintro e w1 ⟨rfl,hb3⟩;have hc1:=(hb3.cell (p:=⟨w.heap.size,k,none⟩) hbs).trans hcell;have hf1:=(hb3.frozen (p:=⟨w.heap.size,k,none⟩) hbs).trans hfz)
     go_roundw
     case rel=>
      refine⟨k+1,by omega,by go_num,?_,hb.trans ((hb3.mono hb.size).setCell (Nat.le_refl _) _)⟩
      have hm:((l[k].toNat:Int)-65+97)%256=((mz l[k]).toNat:Int):=by
       rw[←H.out];omega
      rw[hm]
      have hq:w1.heap[w.heap.size]? =some (.cells (rowOf (pZ l k) z) 5 (n,n+1)):=(hb3.block _ hbs).trans hh
      have hs2:w.heap.size<w1.heap.size:=(Array.getElem?_eq_some_iff.1 hq).1
      unfold World.setCell
      simp only[Array.getElem?_modify,hq,if_true,Option.map_some]
      have hrs:=CE (pZ l k) z k (mz l[k]) (by rw[yJ];exact hlt)
      rw[xL l k hlt] at hrs
      simp only[hrs];rfl
     case measure=>simp[intOf];omega
  ·have:k=l.length:=by omega
   subst this
   have hrw:rowOf (pZ l l.length) z=rowOf (oJ l) z:=by simp[pZ,oJ]
   rw[hrw] at hh
   have hcv:=run_convert_bytes_back (P:=Tryz.prog) wr 71 9 5 ⟨w.heap.size,0,none⟩ cap (oJ l) Tryz.underlying71 Tryz.underlying5 Tryz.underlying9 (fun j hj=>by
    have:=vw (oJ l) z j ((oJ l)[j]) (bD hj)
    have ha:(⟨w.heap.size,0,none⟩:Addr).add j=⟨w.heap.size,j,none⟩:=by
     unfold Addr.add;split<;>simp_all
    rw[ha];simp only[World.cell?,hh,this];rfl)
   rw[show(oJ l).length=l.length from by simp[oJ]] at hcv
   go_wp2
   go_ret
   exact⟨rfl,hb⟩
theorem w4 (s:ByteArray)(hs:s.size≤100000):ak Tryz.prog 124 [] [bS s] [] (bS (dy s)):=
 ak.jG (vs:=[.string s]) (v:=.string (dy s)) fun w ht=>A7 s w ht hs
def ji (b:UInt8):Bool:=jP (b.toNat:Int)
def ru:List UInt8→Bool
 |[]=>false
 |b::_=>kJ (b.toNat:Int)||mM (b.toNat:Int)||decide ((b.toNat:Int)=95)
def ow (l:List UInt8):Bool:=decide (1≤l.length)&&decide (l.length≤40)&&l.all ji&&ru l
def bJ (s:ByteArray):Bool:=ow s.data.toList
theorem Cd (s:ByteArray):∀ (f pos:Nat),s.size≤pos+f→(0≤idxFuncFrom (fun r=> !jP (r:Int)) true s f pos↔ ∃i,pos≤i∧∃b,s.data.toList[i]? =some b∧ji b=false)
 | 0,pos,h=>by
   have:¬ (0:Int)≤idxFuncFrom (fun r=> !jP (r:Int)) true s 0 pos:=by simp[idxFuncFrom]
   refine⟨fun h'=>absurd h' this,?_⟩
   rintro⟨i,h1,b,h2,_⟩
   have:=(aY h2).1
   have:i<s.size:=this
   omega
 | f + 1, pos,h=>by
   by_cases hp:pos<s.size
   ·have ih:=Cd s f
    have hb:∃b,s.data.toList[pos]? =some b∧s.get! pos=b:=⟨_,bD hp,by show s.data[pos]! =_;rw[getElem!_pos s.data pos hp];rfl⟩
    obtain⟨b,hb1,hb2⟩:=hb
    unfold idxFuncFrom
    rw[if_pos hp,decode_at,hb2]
    have hbn:b.toNat<256:=UInt8.toNat_lt b
    have big:∀r:Nat,128≤r→jP (r:Int)=false:=by
     intro r hr
     have:(128:Int)≤r:=by omega
     simp only[jP,kJ,mM,Bool.or_eq_false_iff,Bool.and_eq_false_iff,cR]
     omega
    have bad:∀r w:Nat,128≤r→128≤b.toNat→((0:Int)≤ (if(!jP (r:Int))=true then(pos:Int) else idxFuncFrom (fun r=> !jP (r:Int)) true s f (pos+w))↔ ∃i,pos≤i∧∃b,s.data.toList[i]? =some b∧ji b=false):=by
     intro r w hr hbr
     rw[big r hr]
     exact⟨fun _=>⟨pos,Nat.le_refl _,b,hb1,big _ hbr⟩,fun _=>by simp⟩
    rcases decodeN_shape (s.size-pos) b.toNat (s.get! (pos+1)).toNat (s.get! (pos+2)).toNat (s.get! (pos+3)).toNat with⟨h1,h2⟩|⟨h1,h3,h4,h5,h2⟩|⟨h1,h3,h4,h5,h6,h7,h2⟩|⟨h1,h3,h4,h5,h6,h7,h8,h2⟩|h2
    ·rw [h2]
     show(0:Int)≤ (if(!jP (b.toNat:Int))=true then(pos:Int) else idxFuncFrom _ true s f (pos+1))↔_
     cases hs:jP (b.toNat:Int) with
     |false=>exact⟨fun _=>⟨pos,Nat.le_refl _,b,hb1,hs⟩,fun _=>by simp⟩
     | true=>
       rw[if_neg (by simp),ih (pos+1) (by omega)]
       constructor
       ·rintro⟨i,h3,h4⟩;exact⟨i,by omega,h4⟩
       ·rintro⟨i,h3,b',h4,h5⟩
        rcases Nat.lt_or_ge pos i with h6|h6
        ·exact⟨i,h6,b',h4,h5⟩
        ·have:i=pos:=by omega
         subst this
         rw[hb1] at h4;cases h4
         rw[ji,hs] at h5;cases h5
    ·rw[h2];exact bad _ _ (by omega) (by omega)
    ·rw[h2];exact bad _ _ (by omega) (by omega)
    ·rw[h2];exact bad _ _ (by omega) (by omega)
    ·rw[h2]
     refine bad _ _ (by omega) ?_
     rcases Nat.lt_or_ge b.toNat 128 with h3|h3
     ·rw[decodeN,if_pos h3] at h2;simp only[Prod.mk.injEq] at h2;omega
     ·exact h3
   ·rw[idxFuncFrom_end _ _ _ _ _ hp]
    refine⟨fun h'=>by omega,?_⟩
    rintro⟨i,h1,b,h2,_⟩
    have:=(aY h2).1
    have:i<s.size:=this
    omega
theorem HN (s:ByteArray):decide (0≤idxFunc (fun r=> !jP (r:Int)) true s)=!s.data.toList.all ji:=by
 have h:=Cd s s.size 0 (by omega)
 cases ha:s.data.toList.all ji with
 | true=>
   simp only[Bool.not_true,cR]
   intro h'
   obtain⟨i,_,b,h1,h2⟩:=h.1 h'
   have:=List.all_eq_true.1 ha b (bO h1)
   rw[this] at h2;cases h2
 | false=>
   simp only[Bool.not_false,bH]
   refine h.2 ?_
   obtain⟨b,h1,h2⟩:=List.all_eq_false.1 ha
   obtain⟨i,h3⟩:=List.getElem?_of_mem h1
   exact⟨i,Nat.zero_le _,b,h3,by simpa using h2⟩
theorem Aq (g:Nat)(eg:∀args w,(callFunc g args).run Tryz.prog w=.ok (.enter g args) w)(p:Nat→Bool)(s:ByteArray)(w:World)(ht:kg Tryz.prog w fun _=>none)(hp:∀ (W:World) (x:Nat),(kg Tryz.prog W fun _=>none)→x≤1114111→Calls Tryz.prog g #[.int .i32 (x:Int)] W fun e w'=>e=.returned (.bool (p x))∧Below W.heap.size W w'):
  Calls Tryz.prog 213 #[.string s,.func (.func g) #[] #[]] w fun e w'=>e=.returned (.int .i64 (Lib.idxFunc p true s))∧Below w.heap.size w w':=by
 have h44:=Ap g eg p s w ht hp
 clear hp
 go_enter Tryz.func213,Tryz.ntmps213
 go_wp2_with (go_at_call 227;refine h44.mono ?_;rintro e w1 ⟨rfl,hb⟩)
 go_ret
 exact⟨rfl,hb⟩
theorem uq (g:Nat)(eg:∀args w,(callFunc g args).run Tryz.prog w=.ok (.enter g args) w)(p:Nat→Bool)(s:ByteArray)(w:World)(ht:kg Tryz.prog w fun _=>none)(hp:∀ (W:World) (x:Nat),(kg Tryz.prog W fun _=>none)→x≤1114111→Calls Tryz.prog g #[.int .i32 (x:Int)] W fun e w'=>e=.returned (.bool (p x))∧Below W.heap.size W w'):
  Calls Tryz.prog 185 #[.string s,.func (.func g) #[] #[]] w fun e w'=>e=.returned (.bool (decide (0≤Lib.idxFunc p true s)))∧Below w.heap.size w w':=by
 have h43:=Aq g eg p s w ht hp
 clear hp
 go_enter Tryz.func185,Tryz.ntmps185
 go_wp2_with (go_at_call 213;refine h43.mono ?_;rintro e w1 ⟨rfl,hb⟩)
 go_ret
 exact⟨rfl,hb⟩
theorem G1 (s:ByteArray):ak Tryz.prog 185 [] [bS s,.lit (.func (.func 186) #[] #[])] [] (bC (!s.data.toList.all ji)):=by
 rw[←HN]
 exact ak.jG (vs:=[.string s,.func (.func 186) #[] #[]]) fun w ht=>uq 186 Ls (fun r=> !jP (r:Int)) s w ht fun W x ht _=>(HZ (x:Int)).below (vs:=[.int .i32 (x:Int)]) W ht
theorem zA (s:ByteArray):s.size=s.data.toList.length:=(Array.length_toList (xs:=s.data)).symm
theorem vM {l:List UInt8}(h:1≤l.length):∃b r,l=b::r∧l[0]? =some b:=by
 cases l with
 |nil=>simp at h
 |cons b r=>exact⟨b,r,rfl,rfl⟩
theorem Fv (b:UInt8):IntKind.i32.wrap (b.toNat:Int)=(b.toNat:Int):=by
 have h:b.toNat<256:=UInt8.toNat_lt b
 rw[IntKind.wrap_i32];omega
theorem BC (s:ByteArray):ak Tryz.prog 133 [] [bS s] [] (bC (bJ s)):=by
 have hsz:s.size=s.data.toList.length:=zA s
 have hb0:1≤s.data.toList.length→∃b r,s.data.toList=b::r∧s.data.toList[0]? =some b:=vM
 refine ak.aD (rvs:=[.tmp 2]) G au Tryz.func133 rfl Tryz.ntmps133 rfl rfl ?_;with_reducible refine wD ?_
 repeat' (first
  |refine aE ?_ ?_
  |((with_reducible show aX _ _ _ _);first|refine iK ?_|(refine aX.mk (fun _=>?_) (fun _=>?_)<;>with_reducible refine wK ?_))
  |((with_reducible refine kQ 185 ?_);refine af.lit [] (G1 _) KI ⟨rfl,jn 12 _ rfl,trivial⟩ rfl rfl ?_;with_reducible refine wK ?_)
  |((with_reducible refine kQ 179 ?_);refine cL (qi _) I4 ?_;with_reducible refine wK ?_)
  |((with_reducible refine kQ 188 ?_);refine cL (xG _) JG ?_;with_reducible refine wK ?_)
  |((with_reducible show u7 _ _ _ _ _);obtain⟨b,r,hl,hb⟩:=hb0 (by simp only[cR] at*;omega);refine u7.mk 0 b rfl hb ?_;with_reducible refine wK ?_)
  |((with_reducible show oh _ _ _ _ _ _ _);refine oh.int (by kernel_rfl) (by kernel_rfl) (Fv _) ?_;with_reducible refine wK ?_)
  |apply trivial)
 all_goals (simp only[bH,cR,hsz] at*;unfold bJ ow)
 ·rw[show decide (1≤s.data.toList.length)=false from dx (by omega)];rfl
 ·rw[show decide (s.data.toList.length≤40)=false from dx (by omega)];simp
 ·rw[show s.data.toList.all ji=false from by simp_all];simp
 all_goals rw[show decide (1≤s.data.toList.length)=true from dJ (by omega),show decide (s.data.toList.length≤40)=true from dJ (by omega),show s.data.toList.all ji=true from by simp_all,hl];simp_all[ru]
theorem Bd {s:ByteArray}(h:bJ s=true):s.size≤40:=by
 unfold bJ ow at h
 simp only[bN,bH] at h
 rw[zA];exact h.1.1.2
theorem zN {s:ByteArray}(h:(!bJ s)=false):s.size≤100000:=by
 have:=Bd (s:=s) (by simpa using h)
 omega
theorem rB (s:ByteArray):ak Tryz.prog 67 [] [bS s] [] (.tup [bS (if bJ s then dy s else⟨#[]⟩),ah (if bJ s then 0 else 4)]):=by
 refine ak.aD (rvs:=[.tmp 2,.tmp 3]) G au Tryz.func67 rfl Tryz.ntmps67 rfl rfl ?_;with_reducible refine wD ?_
 repeat' (first
  |refine aE ?_ ?_
  |((with_reducible show aX _ _ _ _);first|refine iK ?_|(refine aX.mk (fun _=>?_) (fun _=>?_)<;>with_reducible refine wK ?_))
  |((with_reducible refine kQ 133 ?_);refine cL (BC _) Kk ?_;with_reducible refine wK ?_)
  |((with_reducible refine kQ 124 ?_);refine af.lit [] (w4 _ (zN (by assumption))) Gz ⟨rfl,trivial⟩ rfl rfl ?_;with_reducible refine wK ?_)
  |apply trivial)
 all_goals simp_all

structure AttrM where
 name:ByteArray
 value:ByteArray
 deriving DecidableEq
@[reducible] def iI (a : AttrM) : AV := .agg [bS a.name, bS a.value]
def cV (a:AttrM):AV:=iI a
@[reducible] def cJ (l : List AttrM) : AV := .sl 2 (l.map cV)
@[reducible] def EC (l : List AttrM) : MS := .live 2 (l.map cV) false
theorem fW (l:List AttrM):br (l.map cV)=true:=by
 rw[cT];intro x hx
 obtain⟨a,_,rfl⟩:=List.mem_map.1 hx
 rfl
theorem vC (l:List AttrM):kP (flat (l.map cV))=true:=kR cV (fun a=>rfl) l
theorem bP {tab:List (Nat×Nat)}{fz:Nat→Bool}{m:ML}{n:Nat}:∀ {cs:List AV},br cs=true→xu (MF tab fz m n) cs cs
 |[],_=>trivial
 | c::cs,h=>by
   simp only[br,bN] at h
   exact⟨jn n c h.1,bP h.2⟩
theorem GB (a:AttrM)(n:ByteArray):ak Tryz.prog 184 [] [iI a,.fptr (bS n) 0] [] (bC (decide (a.name=n))):=by
 refine ak.aD (rvs:=[.tmp 3]) G au Tryz.func184 rfl Tryz.ntmps184 rfl rfl ?_;with_reducible refine wD ?_
 (refine eK ?_ ?_<;>with_reducible repeat' (first|exact trivial|(show _∧_;refine aK ?_ ?_)))
def E1 (a:AttrM):Bool:=!(bJ a.name&&decide (dy a.name=a.name)&&decide (a.value.size≤200))
theorem Hw (a:AttrM):ak Tryz.prog 180 [] [iI a] [] (bC (E1 a)):=by
 obtain⟨n,v⟩:=a
 refine ak.aD (rvs:=[.tmp 2]) G au Tryz.func180 rfl Tryz.ntmps180 rfl rfl ?_;with_reducible refine wD ?_
 refine cL (rB _) DT ?_;with_reducible refine wK ?_
 repeat' (first
  |refine aE ?_ ?_
  |((with_reducible show aX _ _ _ _);first|refine iK ?_|(refine aX.mk (fun _=>?_) (fun _=>?_)<;>with_reducible refine wK ?_))
  |apply trivial)
 all_goals (unfold E1;cases hr:bJ n<;>simp_all)
 by_cases h2:v.size≤200
 ·rw[dJ h2,dx (by(try simp only[ay]);omega)];rfl
 ·rw[dx h2,dJ (by(try simp only[ay]);omega)];rfl
def fU {α:Type}(p:α→Bool)(l:List α):Int:=match l.findIdx? p with|some i=>(i:Int)|none=> -1
theorem fJ {α:Type}{p:α→Bool}{l:List α}{k:Nat}{a:α}(h:l[k]? =some a)(hp:p a=true)(hno:∀ (j:Nat) (x:α),j<k→l[j]? =some x→p x=false):fU p l=k:=by
 have:l.findIdx? p=some k:=by
  rw[List.findIdx?_eq_some_iff_getElem]
  obtain⟨hk,hx⟩:=aY h
  exact⟨hk,by rw[hx];exact hp,fun j hj=>by simpa using hno j _ hj (bD (by omega))⟩
 rw[fU,this]
theorem jB {α:Type}{p:α→Bool}{l:List α}(hno:∀ (j:Nat) (x:α),l[j]? =some x→p x=false):fU p l=-1:=by
 have:l.findIdx? p=none:=by
  rw[List.findIdx?_eq_none_iff]
  intro x hx
  obtain⟨j,hj⟩:=List.getElem?_of_mem hx
  exact hno j x hj
 rw[fU,this]
theorem iN {l:List AttrM}{k:Nat}{a:AttrM}(h:l[k]? =some a):(l.map cV)[k]? =some (iI a):=by rw[fI,h];rfl
theorem BY (g:Nat)(cg:aq Tryz.prog g)(caps:List AV)(hcaps:br caps=true)(p:AttrM→Bool)(l:List AttrM)(hl:l.length≤100000)(hf:∀a,a∈l→ak Tryz.prog g [] (iI a::caps) [] (bC (p a))):
  ak Tryz.prog 183 [] [cJ l,.clo (.func g) [] caps] [] (ah (fU p l)):=by
 have hlm:(l.map cV).length=l.length:=bW ..
 refine ak.aD (rvs:=[.tmp 4]) G au Tryz.func183 rfl Tryz.ntmps183 rfl rfl ?_;with_reducible refine wD ?_
 refine bX.use G au (fun(k:Nat)=>[(0,cJ l),(1,.clo (.func g) [] caps),(7,ah l.length),(8,ah k)]) (fun _=>[]) (fun k=>k≤l.length∧∀j x,j<k→l[j]? =some x→p x=false) (fun k=>l.length-k) 0 ⟨Nat.zero_le _,fun j x h=>by omega⟩
  ⟨⟨rfl,rfl⟩,⟨rfl,⟨rfl,trivial,bP hcaps⟩,by show(l.length:Int)=((l.map cV).length:Int);rw[hlm],rfl,trivial⟩,trivial⟩ ?_
 rintro k ⟨hk,hno⟩
 with_reducible refine wK ?_
 refine aX.mk (fun h1=>?_) (fun h1=>?_)<;>(try simp only[ay] at h1)<;>with_reducible refine wK ?_
 ·simp only[bH] at h1
  have hk':k<l.length:=by omega
  obtain⟨a,ha⟩:∃a,l[k]? =some a:=⟨_,bD hk'⟩
  refine bg.mk k (iI a) rfl (iN ha) ?_;with_reducible refine wK ?_
  refine af.lit [] (hf a (bO ha)) cg ⟨⟨rfl,rfl,trivial⟩,bP hcaps⟩ rfl rfl ?_;with_reducible refine wK ?_
  refine aX.mk (fun h2=>?_) (fun h2=>?_)<;>(try simp only[ay] at h2)<;>with_reducible refine wK ?_
  ·(refine eK ?_ ?_<;>with_reducible repeat' (first|exact trivial|(show _∧_;refine aK ?_ ?_)))
   exact fJ ha h2 hno
  ·refine nK ?_;with_reducible refine wK ?_
   refine bR.mk (k+1) ⟨by omega,fun j x hj hx=>?_⟩ (by omega) ⟨⟨rfl,rfl⟩,⟨rfl,⟨rfl,trivial,bP hcaps⟩,rfl,by show((k+1:Nat):Int)=(k:Int)+1;omega,trivial⟩,trivial⟩
   rcases Nat.lt_or_ge j k with h6|h6
   ·exact hno j x h6 hx
   ·have:j=k:=by omega
    subst this
    rw[ha] at hx;cases hx;exact h2
 ·(refine eK ?_ ?_<;>with_reducible repeat' (first|exact trivial|(show _∧_;refine aK ?_ ?_)))
  have:k=l.length:=by simp only[cR] at h1;omega
  exact jB fun j x hx=>hno j x (by have:=(aY hx).1;omega) hx
theorem GK (g:Nat)(cg:aq Tryz.prog g)(caps:List AV)(hcaps:br caps=true)(p:AttrM→Bool)(l:List AttrM)(hl:l.length≤100000)(hf:∀a,a∈l→ak Tryz.prog g [] (iI a::caps) [] (bC (p a))):
  ak Tryz.prog 181 [] [cJ l,.clo (.func g) [] caps] [] (bC (l.any p)):=by
 refine ak.aD (rvs:=[.tmp 4]) G au Tryz.func181 rfl Tryz.ntmps181 rfl rfl ?_;with_reducible refine wD ?_
 refine af.lit [] (BY g cg caps hcaps p l hl hf) KT ⟨rfl,⟨rfl,trivial,bP hcaps⟩,trivial⟩ rfl rfl ?_;with_reducible refine wK ?_
 (refine eK ?_ ?_<;>with_reducible repeat' (first|exact trivial|(show _∧_;refine aK ?_ ?_)))
 unfold fU
 cases h:l.findIdx? p with
 | none=>
   rw[List.findIdx?_eq_none_iff] at h
   have:l.any p=false:=by rw[List.any_eq_false];intro x hx;rw[h x hx];simp
   rw[this];rfl
 | some i=>
   rw[List.findIdx?_eq_some_iff_getElem] at h
   obtain⟨hi,h1,_⟩:=h
   have:l.any p=true:=List.any_eq_true.2 ⟨_,List.getElem_mem hi,h1⟩
   rw[this];exact(dJ (Int.natCast_nonneg i)).symm
theorem Ig (l:List AttrM)(hl:l.length≤100000)(n:ByteArray):ak Tryz.prog 132 [] [cJ l,bS n] [] (ah (fU (fun a=>decide (a.name=n)) l)):=by
 refine ak.aD (rvs:=[.tmp 4]) G au Tryz.func132 rfl Tryz.ntmps132 rfl rfl ?_;with_reducible refine wD ?_
 refine af.lit [30] (BY 184 LW [.fptr (bS n) 0] rfl (fun a=>decide (a.name=n)) l hl fun a _=>GB a n) KT ⟨rfl,⟨rfl,trivial,⟨_,_,_,_,_,rfl,rfl,rfl,rfl,rfl,rfl⟩,trivial⟩,trivial⟩ rfl rfl ?_;with_reducible refine wK ?_
 (refine eK ?_ ?_<;>with_reducible repeat' (first|exact trivial|(show _∧_;refine aK ?_ ?_)))
def Hu (a:AttrM):Bool:=bJ a.name&&decide (dy a.name=a.name)&&decide (a.value.size≤200)
theorem HS (a:AttrM):E1 a=!Hu a:=rfl
def hasName (n:ByteArray)(a:AttrM):Bool:=decide (a.name=n)
def uN (l:List AttrM)(n:ByteArray):Int:=fU (hasName n) l
def cn (l:List AttrM):Bool:=decide (l.length≤40)&&l.all Hu&&decide ((l.map AttrM.name).Nodup)
def jm (t:List (ByteArray×AttrM))(l:List AttrM):List (ByteArray×AttrM):=l.foldl (fun t a=>jO a.name a t) t
def r9 (l:List AttrM):List (ByteArray×AttrM):=jm [] l
theorem xW {K α:Type}[DecidableEq K](k:K)(x:α):∀t:List (K×α),(jO k x t).length=if(iQ k t).isSome then t.length else t.length+1
 |[]=>rfl
 | p::r=>by
   simp only[jO,iQ]
   split
   ·simp
   ·rw[List.length_cons,xW k x r];split<;>simp
theorem mX:∀ (l:List AttrM) (t:List (ByteArray×AttrM)),(jm t l).length≤t.length+l.length∧((jm t l).length=t.length+l.length↔ (l.map AttrM.name).Nodup∧∀a∈l,(iQ a.name t).isSome=false)
 |[],t=>by simp[jm]
 | a :: r,t=>by
   obtain⟨h1,h2⟩:=mX r (jO a.name a t)
   have hl:=xW a.name a t
   show(jm (jO a.name a t) r).length≤_∧((jm (jO a.name a t) r).length=_↔_)
   cases hg:(iQ a.name t).isSome with
   | true=>
     rw[hg,if_pos rfl] at hl
     refine⟨by simp only[List.length_cons];omega,⟨fun h=>?_,fun h=>?_⟩⟩
     ·simp only[List.length_cons] at h;omega
     ·have:=h.2 a (by simp);rw[hg] at this;cases this
   | false=>
     rw[hg,if_neg (by simp)] at hl
     refine⟨by simp only[List.length_cons];omega,?_⟩
     rw[show(jm (jO a.name a t) r).length=t.length+ (a::r).length↔ (jm (jO a.name a t) r).length=(jO a.name a t).length+r.length from by rw[hl,List.length_cons];omega,h2]
     simp only[List.map_cons,List.nodup_cons,dU,forall_eq_or_imp]
     constructor
     ·rintro⟨k1,k2⟩
      refine⟨⟨fun hm=>?_,k1⟩,hg,fun b hb=>?_⟩
      ·obtain⟨b,hb,he⟩:=List.mem_map.1 hm
       have:=k2 b hb
       rw[o9,he,if_pos rfl] at this;cases this
      ·have:=k2 b hb
       rw[o9] at this
       split at this
       ·cases this
       ·exact this
     ·rintro⟨⟨k1,k2⟩,_,k3⟩
      refine⟨k2,fun b hb=>?_⟩
      rw[o9,if_neg (fun e=>k1 (List.mem_map.2 ⟨b,hb,e.symm⟩))]
      exact k3 b hb
theorem Eo (l:List AttrM):(r9 l).length=l.length↔ (l.map AttrM.name).Nodup:=by
 have:=(mX l []).2
 simp only[List.length_nil,Nat.zero_add] at this
 exact this.trans ⟨fun h=>h.1,fun h=>⟨h,fun _ _=>rfl⟩⟩
theorem Hi (l:List AttrM):(r9 l).length≤l.length:=by
 have:=(mX l []).1
 simp only[List.length_nil,Nat.zero_add] at this
 exact this
theorem Dn {l:List AttrM}{k:Nat}{a:AttrM}(h:l[k]? =some a):r9 (l.take (k+1))=jO a.name a (r9 (l.take k)):=by
 have hk:=(aY h).1
 rw[List.take_succ_eq_append_getElem hk,(aY h).2]
 simp[r9,jm,List.foldl_append]
@[reducible] def KS (l : List AttrM) : MS := .live 2 (iW Value.string cV (r9 l)) false
theorem lY (t:List (ByteArray×AttrM)):br (iW Value.string cV t)=true:=by
 rw[cT];intro x hx
 obtain⟨a,_,rfl⟩:=List.mem_map.1 hx
 rfl
theorem Iu:kj Tryz.prog 224 .string (.agg #[.string ByteArray.empty,.string ByteArray.empty]):=⟨9,90,by kernel_rfl,by kernel_rfl,fun w=>Tryz.zeroValue90 w⟩
theorem HX (l:List AttrM)(hl:l.length≤100000):ak Tryz.prog 182 [] [cJ l] [KS l] (.mapr 0):=by
 have hlm:(l.map cV).length=l.length:=bW ..
 refine ak.aD (rvs:=[.tmp 2]) G au Tryz.func182 rfl Tryz.ntmps182 rfl rfl ?_;with_reducible refine wD ?_
 refine bX.use G au (fun(k:Nat)=>[(3,.mapr 61),(7,cJ l),(8,ah l.length),(9,ah k)]) (fun k=>[(61,.live 2 (iW Value.string cV (r9 (l.take k))) false)]) (fun k=>k≤l.length) (fun k=>l.length-k) 0 (Nat.zero_le _)
  ⟨⟨rfl,rfl⟩,⟨trivial,rfl,by show(l.length:Int)=((l.map cV).length:Int);rw[hlm],rfl,trivial⟩,⟨.refl rfl,rfl⟩,trivial⟩ ?_
 intro k hk
 with_reducible refine wK ?_
 refine aX.mk (fun h1=>?_) (fun h1=>?_)<;>(try simp only[ay] at h1)<;>with_reducible refine wK ?_
 ·simp only[bH] at h1
  have hk':k<l.length:=by omega
  obtain⟨a,ha⟩:∃a,l[k]? =some a:=⟨_,bD hk'⟩
  obtain⟨n,v⟩:=a
  refine bg.mk k (iI ⟨n,v⟩) rfl (iN ha) ?_;with_reducible refine wK ?_
  have hle:(r9 (l.take k)).length≤k:=Nat.le_trans (Hi _) (by simp;omega)
  refine wL.tab Value.string cV (r9 (l.take k)) (k:=n) ⟨n,v⟩ Iu rfl GJ G6 (by unfold maxLen;omega) rfl ?_;with_reducible refine wK ?_
  refine nK ?_;with_reducible refine wK ?_
  refine bR.mk (k+1) (by omega) (by omega) ⟨⟨rfl,rfl⟩,⟨trivial,rfl,rfl,by show((k+1:Nat):Int)=(k:Int)+1;omega,trivial⟩,⟨?_,?_⟩,trivial⟩
  ·rw[Dn ha];exact .refl (lY _)
  ·exact lY _
 ·(refine eK ?_ ?_<;>with_reducible repeat' (first|exact trivial|(show _∧_;refine aK ?_ ?_)))
  have:k=l.length:=by simp only[cR] at h1;omega
  rw[this,List.take_length]
  exact bP (lY _)
theorem ak.MK {P:Program}{f g:FuncId}{a:AV}{outs:List MS}{res:AV}(h:ak P f [] [a,.clo (.func g) [] []] outs res):ak P f [] [a,.lit (.func (.func g) #[] #[])] outs res:=by
 intro w W0 L vs hL hs hr
 refine h w W0 L vs hL hs ⟨hr.1,fun j c v h1 h2=>?_⟩
 match j with
 |0=>exact hr.2 0 c v h1 h2
 | 1=>
   have:=hr.2 1 _ v rfl h2
   cases this
   simp at h1
   subst h1
   exact cE.clo (va:=[]) (vb:=[]) rfl rfl (fun j c v h=>by simp at h) (fun j c v h=>by simp at h)
 |j+2=>simp at h1
theorem uT (l:List AttrM):l.any E1=!l.all Hu:=by
 induction l with
 |nil=>rfl
 |cons a r ih=>simp[List.any_cons,List.all_cons,ih,HS]
theorem Et (l:List AttrM):jL [KS l]:=by
 refine⟨bG.ja fun r hr=>?_,lY _,trivial⟩
 obtain⟨p,_,rfl⟩:=List.mem_map.1 hr
 rfl
theorem AQ (l:List AttrM):bG 2 (l.map cV):=bG.ja fun r hr=>by
 obtain⟨a,_,rfl⟩:=List.mem_map.1 hr
 rfl
theorem uf (l:List AttrM):jL [EC l]:=⟨AQ l,fW l,trivial⟩
theorem BU (l:List AttrM)(hl:l.length≤100000):ak Tryz.prog 131 [] [cJ l] [] (bC (cn l)):=by
 have hlm:(l.map cV).length=l.length:=bW ..
 refine ak.aD (rvs:=[.tmp 2]) G au Tryz.func131 rfl Tryz.ntmps131 rfl rfl ?_;with_reducible refine wD ?_
 repeat' (first
  |refine aE ?_ ?_
  |((with_reducible show aX _ _ _ _);first|refine iK ?_|(refine aX.mk (fun _=>?_) (fun _=>?_)<;>with_reducible refine wK ?_))
  |((with_reducible refine kQ 181 ?_);refine af.lit [] (ak.MK (GK 180 LO [] rfl E1 l hl fun a _=>Hw a)) Lp ⟨rfl,jn 12 _ rfl,trivial⟩ rfl rfl ?_;with_reducible refine wK ?_)
  |((with_reducible refine kQ 182 ?_);refine af.new 151 [] (HX l hl) Lm ⟨rfl,trivial⟩ rfl rfl rfl (Et l) rfl ?_;with_reducible refine wK ?_)
  |((with_reducible show qW _ _ _ _ _ _ _);refine qW.mk Iu ⟨_,_,rfl⟩ rfl ?_;with_reducible refine wK ?_)
  |apply trivial)
 ·have h2:l.all Hu=true:=by have:=uT l;simp_all
  have e:(iW Value.string cV (r9 l)).length=(r9 l).length:=bW ..
  have h3:l.length≤40:=by simp only[hlm,bH] at*;omega
  have h4:=Eo l
  unfold cn
  rw[h2,dJ h3,e,hlm]
  by_cases hn:(l.map AttrM.name).Nodup
  ·rw[dJ hn,h4.2 hn];simp
  ·rw[dx hn]
   have:¬ (r9 l).length=l.length:=fun h=>hn (h4.1 h)
   rw[dx (by(try simp only[ay]);omega)];rfl
 ·have h2:l.all Hu=false:=by have:=uT l;simp_all
  unfold cn;rw[h2];simp
 ·have h2:decide (l.length≤40)=false:=by simp only[hlm,cR] at*;omega
  unfold cn;rw[h2];simp
def DS:ByteArray:=⟨#[]⟩
def nq (l:List AttrM)(n:ByteArray):Int:=if cn l then(if bJ n then 0 else 4) else 1
def uW (l:List AttrM)(n:ByteArray):ByteArray:=if cn l&&bJ n then dy n else DS
def bV (l:List AttrM)(n:ByteArray):Int:=if cn l&&bJ n then uN l (dy n) else-1
theorem zU (l:List AttrM)(hl:l.length≤100000)(n:ByteArray):ak Tryz.prog 65 [] [cJ l,bS n] [] (.tup [bS (uW l n),ah (bV l n),ah (nq l n)]):=by
 refine ak.aD (rvs:=[.tmp 4,.tmp 5,.tmp 6]) G au Tryz.func65 rfl Tryz.ntmps65 rfl rfl ?_;with_reducible refine wD ?_
 repeat' (first
  |refine aE ?_ ?_
  |((with_reducible show aX _ _ _ _);first|refine iK ?_|(refine aX.mk (fun _=>?_) (fun _=>?_)<;>with_reducible refine wK ?_))
  |((with_reducible refine kQ 131 ?_);refine cL (BU l hl) I9 ?_;with_reducible refine wK ?_)
  |((with_reducible refine kQ 67 ?_);refine cL (rB _) DT ?_;with_reducible refine wK ?_)
  |((with_reducible refine kQ 132 ?_);refine cL (Ig l hl _) LI ?_;with_reducible refine wK ?_)
  |apply trivial)
 all_goals (cases h1:cn l<;>cases h2:bJ n<;>simp_all[nq,uW,bV,DS])
 rfl
def nX (l:List AttrM)(n:ByteArray):ByteArray:=if 0≤bV l n then((l[(bV l n).toNat]?).map AttrM.value).getD DS else DS
theorem ur {α:Type}(p:α→Bool)(l:List α):fU p l=-1∨∃ (k:Nat) (a:α),fU p l=k∧l[k]? =some a∧p a=true:=by
 unfold fU
 cases h:l.findIdx? p with
 |none=>exact .inl rfl
 | some k=>
   rw[List.findIdx?_eq_some_iff_getElem] at h
   obtain⟨hk,h1,_⟩:=h
   exact .inr ⟨k,_,rfl,bD hk,h1⟩
theorem kz (l:List AttrM)(n:ByteArray):bV l n=-1∨∃ (k:Nat) (a:AttrM),bV l n=k∧l[k]? =some a∧a.name=dy n:=by
 unfold bV
 split
 ·rcases ur (hasName (dy n)) l with h|⟨k,a,h1,h2,h3⟩
  ·exact .inl h
  ·exact .inr ⟨k,a,h1,h2,by simpa[hasName] using h3⟩
 ·exact .inl rfl
theorem Di {l:List AttrM}{n:ByteArray}(h:0≤bV l n):nq l n=0∧uW l n=dy n:=by
 unfold bV at h
 cases h1:cn l<;>cases h2:bJ n<;>rw[h1,h2] at h<;>simp at h
 simp[nq,uW,h1,h2]
theorem lK {l:List AttrM}{n:ByteArray}(h:nq l n=0):cn l=true∧bJ n=true∧uW l n=dy n:=by
 unfold nq at h
 cases h1:cn l<;>cases h2:bJ n<;>rw[h1,h2] at h<;>simp at h
 simp[uW,h1,h2]
theorem wQ (l:List AttrM)(hl:l.length≤100000)(n:ByteArray):ak Tryz.prog 23 [] [cJ l,bS n] [] (.tup [bS (nX l n),bC (decide (0≤bV l n))]):=by
 refine ak.aD (rvs:=[.tmp 4,.tmp 5]) G au Tryz.func23 rfl Tryz.ntmps23 rfl rfl ?_;with_reducible refine wD ?_
 refine cL (zU l hl n) LU ?_;with_reducible refine wK ?_
 rcases kz l n with h|⟨k,a,h,ha,hn⟩
 ·simp only[h]
  refine aX.yes rfl ?_;with_reducible refine wK ?_
  (refine eK ?_ ?_<;>with_reducible repeat' (first|exact trivial|(show _∧_;refine aK ?_ ?_)))
  ·unfold nX;rw[h];rfl
  ·rfl
 ·simp only[h]
  refine aX.no (dx (by(try simp only[ay]);omega)) ?_;with_reducible refine wK ?_
  refine bg.mk k (iI a) rfl (iN ha) ?_;with_reducible refine wK ?_
  (refine eK ?_ ?_<;>with_reducible repeat' (first|exact trivial|(show _∧_;refine aK ?_ ?_)))
  ·unfold nX;rw[h,if_pos (by omega),Int.toNat_natCast,ha];rfl
  ·exact dJ (by omega)
theorem gE {m:ML}{fz:Nat→Bool}{tab:List (Nat×Nat)}{n t len:Nat}{ro:Bool}{rows:List AV}{l:List AttrM}(h1:eD m t=.live 2 rows ro)(h2:fz t=true)(h3:rows=l.map cV)(h4:len=l.length):xd m fz (MF tab fz m n) (cJ l) t 0 len:=by
 subst h3;subst h4
 have e:(l.map cV).length=l.length:=bW ..
 exact .cut h1 h2 (by omega) (by rw[List.drop_zero,qL (by omega)]) (fW l)
def dS (l:List AttrM)(n v:ByteArray):List AttrM×Int:=
 if nq l n=0 then(if v.size≤200 then(if 0≤bV l n then(l.set (bV l n).toNat ⟨dy n,v⟩,0) else if l.length=40 then(l,3) else(l++ [⟨dy n,v⟩],0)) else(l,3)) else(l,nq l n)
theorem Dw (l:List AttrM)(k:Nat)(n v:ByteArray):(l.map cV).set k (iI ⟨n,v⟩)=(l.set k ⟨n,v⟩).map cV:=by rw[List.map_set];rfl
theorem AA (l:List AttrM)(n v:ByteArray):l.map cV++ [iI ⟨n,v⟩]=(l++ [(⟨n,v⟩:AttrM)]).map cV:=by rw[iq];rfl

theorem vT (l:List AttrM):(l.map AttrM.name).Nodup↔ ∀ (i:Nat) (a:AttrM),l[i]? =some a→uN l a.name=(i:Int):=by
 constructor
 ·intro hn i a ha
  refine fJ ha (by simp[hasName]) fun j x hj hx=>?_
  simp only[hasName,cR]
  intro e
  have h1:(l.map AttrM.name)[j]? =some x.name:=by rw[fI,hx];rfl
  have h2:(l.map AttrM.name)[i]? =some a.name:=by rw[fI,ha];rfl
  have hjl:=(aY h1).1
  have:=(List.getElem?_inj hjl hn (j:=i)).1 (h1.trans ((congrArg some e).trans h2.symm))
  omega
 ·intro h
  rw[List.nodup_iff_pairwise_ne,List.pairwise_iff_getElem]
  intro i j hi hj hij e
  rw[bW] at hi hj
  have h1:=h i _ (bD hi)
  have h2:=h j _ (bD hj)
  rw[List.getElem_map,List.getElem_map] at e
  rw[e,h2] at h1
  omega
theorem jC {l:List AttrM}{n:ByteArray}(h1:cn l=true)(h2:bJ n=true):bV l n=uN l (dy n):=by unfold bV;rw[h1,h2];rfl
theorem uQ {l:List AttrM}{n:ByteArray}(h:cn l=false∨bJ n=false):bV l n=-1:=by
 unfold bV
 rcases h with h|h<;>rw[h]<;>simp
end Go.Proofs.Heir
namespace Go.Proofs
open Go.Shelf
def Tryz.yy:Go.Shelf.Ren:=⟨fun|144=>206|143=>222|219=>234|217=>238|225=>239|224=>240|267=>241|266=>244|314=>245|n=>n,fun|9=>9|4=>4|3=>3|5=>5|46=>284|146=>288|51=>287|n=>n,fun|1=>1|n=>n⟩
theorem Tryz.Ii:Go.Proofs.Lays.n144 Tryz.prog Tryz.yy:={
  mixed:=by kernel_rfl
  f143:=Tryz.func222.trans (congrArg some (by kernel_rfl))
  f144:=Tryz.func206.trans (congrArg some (by kernel_rfl))
  f217:=Tryz.func238.trans (congrArg some (by kernel_rfl))
  f219:=Tryz.func234.trans (congrArg some (by kernel_rfl))
  f224:=Tryz.func240.trans (congrArg some (by kernel_rfl))
  f225:=Tryz.func239.trans (congrArg some (by kernel_rfl))
  f266:=Tryz.func244.trans (congrArg some (by kernel_rfl))
  f267:=Tryz.func241.trans (congrArg some (by kernel_rfl))
  f314:=Tryz.func245.trans (congrArg some (by kernel_rfl))
  t3:=Tryz.underlying3
  a3:=Tryz.isAgg3
  z3:=Tryz.sizeOf3
  v3:=Tryz.zeroValue3
  t4:=Tryz.underlying4
  a4:=Tryz.isAgg4
  z4:=Tryz.sizeOf4
  v4:=Tryz.zeroValue4
  t5:=Tryz.underlying5
  a5:=Tryz.isAgg5
  z5:=Tryz.sizeOf5
  v5:=Tryz.zeroValue5
  t9:=Tryz.underlying9
  a9:=Tryz.isAgg9
  z9:=Tryz.sizeOf9
  v9:=Tryz.zeroValue9
  t46:=Tryz.underlying284
  a46:=Tryz.isAgg284
  z46:=Tryz.sizeOf284
  v46:=Tryz.zeroValue284
  t51:=Tryz.underlying287
  a51:=Tryz.isAgg287
  z51:=Tryz.sizeOf287
  v51:=Tryz.zeroValue287
  t146:=Tryz.underlying288
  a146:=Tryz.isAgg288
  z146:=Tryz.sizeOf288
  v146:=Tryz.zeroValue288
  g1:=by kernel_rfl}
open Go.RowKit Go.Lib in
theorem Tryz.strings_Contains_one (s:ByteArray)(c:UInt8)(w:World):
    Calls Tryz.prog 206 #[.string s,.string ⟨#[c]⟩] w fun e w'=>e=.returned (.bool (decide (0≤Lib.indexByte s.data.toList c)))∧w'=w:=Any.strings_Contains_one Tryz.Ii s c w
end Go.Proofs
