/- Models, plain laws and contracts of functions of the given program; conditions as stated in each theorem. By an AI agent. -/
import Derived.Test.YtkhjcnjicjgfiaaGreatDoorW11
import Derived.Test.YtkhjcnjicjgfiaaGreatDoorChecked
import Derived.Test.YtkhjcnjicjgfiaaGreatDoorW6
import Derived.Shelf.GgClosure.StringsIndexFunc
import Derived.Deep.LoopGhost
import Derived.WalkKit
import Derived.Laws.IdiomStrings
import Derived.IntWalk
import Derived.Outline
import Derived.Lib.Hide
import Derived.Lib.MapLaws
set_option linter.unusedSimpArgs false
set_option linter.unusedVariables false
namespace Go.Proofs.Heir
open Go.Am
set_option maxRecDepth 100000
@[reducible] def G : cR := [(1, .sc .nilFunc), (2, .sc (.int .i64 0)), (3, .sc (.int .i64 0)), (4, .bl), (5, .sc (.int .u8 0)), (9, .str), (12, .sc (.int .u64 0)), (15, .sc (.pointer none)), (16, .sc (.pointer none)), (17, .sc (.pointer none)), (20, .sc .nilIface), (21, .sc (.int .i32 0)), (22, .sl 35 10 136), (24, .st 2 [(0, 22), (1, 3)] (Array.mk [(.slice none 0 0), (.int .i64 0)]) [1, 1]), (25, .sc .nilFunc), (26, .sc .nilFunc), (27, .sl 53 9 88), (28, .sc (.int .i64 0)), (30, .sc .nilFunc), (31, .sc .nilFunc), (32, .sl 90 2 32), (33, .sl 3 1 8), (35, .st 10 [(0, 3), (1, 9), (2, 9), (3, 9), (4, 32), (5, 3), (6, 33), (7, 3), (8, 3), (9, 3)] (Array.mk [(.int .i64 0), (.string ByteArray.empty), (.string ByteArray.empty), (.string ByteArray.empty), (.slice none 0 0), (.int .i64 0), (.slice none 0 0), (.int .i64 0), (.int .i64 0), (.int .i64 0)]) [1, 1, 1, 1, 1, 1, 1, 1, 1, 1]), (36, .sc .nilFunc), (37, .sc .nilFunc), (38, .sc .nilFunc), (39, .sc .nilFunc), (41, .sc .nilFunc), (42, .sc .nilFunc), (43, .sc .nilFunc), (44, .sc .nilFunc), (45, .sc .nilFunc), (46, .sc .nilFunc), (47, .sc .nilFunc), (48, .sc .nilFunc), (49, .sc .nilFunc), (50, .sc .nilFunc), (51, .sc .nilFunc), (53, .st 9 [(0, 3), (1, 3), (2, 3), (3, 3), (4, 9), (5, 4), (6, 4), (7, 9), (8, 9)] (Array.mk [(.int .i64 0), (.int .i64 0), (.int .i64 0), (.int .i64 0), (.string ByteArray.empty), (.bool false), (.bool false), (.string ByteArray.empty), (.string ByteArray.empty)]) [1, 1, 1, 1, 1, 1, 1, 1, 1]), (54, .sc .nilFunc), (56, .st 3 [(0, 24), (2, 27)] (Array.mk [(.slice none 0 0), (.int .i64 0), (.slice none 0 0)]) [2, 1]), (58, .sc .nilFunc), (59, .sc .nilFunc), (60, .sc .nilFunc), (61, .sc .nilFunc), (62, .sc .nilFunc), (63, .sc .nilFunc), (64, .sc .nilFunc), (65, .sc .nilFunc), (66, .sc .nilFunc), (67, .sc .nilFunc), (68, .sl 70 6 6), (70, .st 6 [(0, 5), (1, 5), (2, 5), (3, 5), (4, 5), (5, 5)] (Array.mk [(.int .u8 0), (.int .u8 0), (.int .u8 0), (.int .u8 0), (.int .u8 0), (.int .u8 0)]) [1, 1, 1, 1, 1, 1]), (71, .sl 5 1 1), (72, .sc .nilFunc), (73, .sc .nilFunc), (74, .sc .nilFunc), (75, .sl 156 4 32), (76, .sl 147 3 40), (77, .sl 205 2 24), (79, .st 4 [(0, 76), (1, 77), (2, 3), (3, 4)] (Array.mk [(.slice none 0 0), (.slice none 0 0), (.int .i64 0), (.bool false)]) [1, 1, 1, 1]), (80, .sl 154 5 104), (81, .sc .nilFunc), (82, .sl 88 11 104), (84, .sc .nilFunc), (86, .st 10 [(0, 3), (1, 3), (2, 9), (3, 4), (4, 4), (5, 9), (6, 9), (7, 3), (8, 3), (9, 4)] (Array.mk [(.int .i64 0), (.int .i64 0), (.string ByteArray.empty), (.bool false), (.bool false), (.string ByteArray.empty), (.string ByteArray.empty), (.int .i64 0), (.int .i64 0), (.bool false)]) [1, 1, 1, 1, 1, 1, 1, 1, 1, 1]), (88, .st 11 [(0, 3), (1, 86)] (Array.mk [(.int .i64 0), (.int .i64 0), (.int .i64 0), (.string ByteArray.empty), (.bool false), (.bool false), (.string ByteArray.empty), (.string ByteArray.empty), (.int .i64 0), (.int .i64 0), (.bool false)]) [1, 10]), (90, .st 2 [(0, 9), (1, 9)] (Array.mk [(.string ByteArray.empty), (.string ByteArray.empty)]) [1, 1]), (91, .sc .nilFunc), (93, .sc .nilFunc), (95, .st 2 [(0, 24)] (Array.mk [(.slice none 0 0), (.int .i64 0)]) [2]), (96, .sc .nilFunc), (97, .sc .nilIface), (98, .sc .nilIface), (99, .sc .nilFunc), (100, .sc (.pointer none)), (102, .sc .nilFunc), (104, .st 3 [(0, 24), (2, 27)] (Array.mk [(.slice none 0 0), (.int .i64 0), (.slice none 0 0)]) [2, 1]), (105, .sc .nilFunc), (106, .sc .nilFunc), (107, .sc .nilFunc), (108, .sc .nilFunc), (110, .sc .nilFunc), (112, .sc .nilFunc), (114, .sc .nilFunc), (116, .sc .nilFunc), (117, .sc .nilFunc), (118, .sc .nilFunc), (119, .sc .nilFunc), (121, .st 5 [(0, 24), (2, 3), (3, 3), (4, 3)] (Array.mk [(.slice none 0 0), (.int .i64 0), (.int .i64 0), (.int .i64 0), (.int .i64 0)]) [2, 1, 1, 1]), (122, .sc .nilFunc), (123, .sc .nilFunc), (124, .sc .nilFunc), (125, .sc .nilFunc), (126, .sc .nilFunc), (127, .sc .nilFunc), (128, .sc .nilFunc), (129, .sc .nilFunc), (130, .sc .nilFunc), (131, .sc .nilFunc), (133, .sc .nilFunc), (135, .sc .nilFunc), (136, .sc .nilFunc), (137, .sc .nilFunc), (139, .sc .nilFunc), (140, .sc .nilFunc), (141, .sc (.map none)), (143, .st 3 [(0, 24), (2, 141)] (Array.mk [(.slice none 0 0), (.int .i64 0), (.map none)]) [2, 1]), (144, .sc .nilFunc), (145, .sc .nilFunc), (147, .st 3 [(0, 9), (1, 9), (2, 3)] (Array.mk [(.string ByteArray.empty), (.string ByteArray.empty), (.int .i64 0)]) [1, 1, 1]), (148, .sl 321 7 72), (150, .st 2 [(0, 3), (1, 148)] (Array.mk [(.int .i64 0), (.slice none 0 0)]) [1, 1]), (151, .sl 150 2 32), (152, .sl 9 1 16), (154, .st 5 [(0, 4), (1, 152), (2, 148), (3, 148), (4, 151)] (Array.mk [(.bool false), (.slice none 0 0), (.slice none 0 0), (.slice none 0 0), (.slice none 0 0)]) [1, 1, 1, 1, 1]), (156, .st 4 [(0, 3), (1, 3), (2, 3), (3, 4)] (Array.mk [(.int .i64 0), (.int .i64 0), (.int .i64 0), (.bool false)]) [1, 1, 1, 1]), (157, .sc .nilFunc), (158, .sc .nilFunc), (159, .sc .nilFunc), (160, .sc .nilFunc), (161, .sc (.pointer none)), (163, .sc .nilFunc), (165, .st 9 [(0, 24), (2, 75), (3, 79), (7, 80), (8, 82)] (Array.mk [(.slice none 0 0), (.int .i64 0), (.slice none 0 0), (.slice none 0 0), (.slice none 0 0), (.int .i64 0), (.bool false), (.slice none 0 0), (.slice none 0 0)]) [2, 1, 4, 1, 1]), (167, .sc .nilFunc), (168, .sc (.pointer none)), (169, .sc .nilFunc), (170, .sc .nilFunc), (171, .sc .nilFunc), (172, .sc .nilFunc), (173, .sc .nilFunc), (174, .sc .nilFunc), (176, .st 1 [(0, 28)] (Array.mk [(.int .i64 0)]) [1]), (178, .st 2 [(0, 9), (1, 98)] (Array.mk [(.string ByteArray.empty), .nilIface]) [1, 1]), (179, .sc .nilFunc), (180, .sc .nilFunc), (181, .sc .nilFunc), (182, .sc .nilFunc), (183, .sc .nilFunc), (184, .sc .nilFunc), (185, .sc .nilFunc), (186, .sc .nilFunc), (187, .sc .nilFunc), (188, .sc .nilFunc), (189, .sc .nilFunc), (190, .sc .nilFunc), (191, .sc .nilFunc), (192, .sc .nilFunc), (193, .sc .nilFunc), (194, .sc .nilFunc), (195, .sc .nilFunc), (196, .sc .nilFunc), (197, .sc .nilFunc), (198, .sc .nilFunc), (199, .sc .nilFunc), (200, .sc .nilFunc), (202, .sc (.map none)), (203, .sc .nilFunc), (205, .st 2 [(0, 9), (1, 3)] (Array.mk [(.string ByteArray.empty), (.int .i64 0)]) [1, 1]), (206, .sc (.map none)), (208, .st 2 [(0, 202), (1, 206)] (Array.mk [(.map none), (.map none)]) [1, 1]), (210, .sc .nilFunc), (211, .sc .nilFunc), (212, .sc .nilFunc), (213, .sc .nilFunc), (214, .sc (.pointer none)), (216, .st 5 [(0, 24), (2, 3), (3, 9), (4, 4)] (Array.mk [(.slice none 0 0), (.int .i64 0), (.int .i64 0), (.string ByteArray.empty), (.bool false)]) [2, 1, 1, 1]), (217, .sc .nilFunc), (218, .sc .nilFunc), (219, .sc .nilFunc), (220, .sc (.pointer none)), (221, .sc .nilFunc), (222, .sc .nilFunc), (223, .sc .nilFunc), (224, .sc (.map none)), (225, .sc .nilFunc), (226, .sc .nilFunc), (227, .sc .nilFunc), (228, .sc .nilFunc), (229, .sc .nilFunc), (232, .sc (.map none)), (233, .sc .nilFunc), (234, .sc .nilFunc), (235, .sc .nilFunc), (236, .sc .nilFunc), (237, .sc .nilFunc), (238, .sc .nilFunc), (243, .sc .nilFunc), (244, .sc .nilIface), (246, .sc .nilFunc), (248, .sc .nilFunc), (249, .sc .nilFunc), (250, .sc .nilFunc), (251, .sc .nilFunc), (252, .sc .nilFunc), (253, .sc .nilFunc), (254, .sc .nilFunc), (255, .sc .nilFunc), (256, .sc .nilFunc), (257, .sc (.pointer none)), (259, .st 2 [(0, 257), (1, 71)] (Array.mk [(.pointer none), (.slice none 0 0)]) [1, 1]), (260, .sc .nilFunc), (261, .sc .nilFunc), (262, .sc .nilFunc), (265, .sc (.pointer none)), (266, .sc .nilFunc), (267, .sc .nilFunc), (268, .sc .nilFunc), (269, .sc .nilIface), (271, .sc .nilFunc), (272, .sc .nilIface), (273, .sc .nilFunc), (274, .sc .nilIface), (275, .sl 98 1 16), (276, .sc .nilFunc), (277, .sc .nilFunc), (278, .sc .nilFunc), (279, .sc .nilFunc), (280, .sc (.pointer none)), (281, .sc .nilFunc), (282, .sc .nilFunc), (283, .sc .nilFunc), (284, .sc (.int .u64 0)), (286, .sc .nilFunc), (287, .sc (.int .u32 0)), (289, .sc .nilFunc), (290, .sl 292 2 16), (292, .st 2 [(0, 3), (1, 3)] (Array.mk [(.int .i64 0), (.int .i64 0)]) [1, 1]), (293, .sc .nilFunc), (294, .sc (.pointer none)), (295, .sl 301 3 6), (296, .sl 304 3 12), (298, .st 3 [(0, 295), (1, 296), (2, 3)] (Array.mk [(.slice none 0 0), (.slice none 0 0), (.int .i64 0)]) [1, 1, 1]), (299, .sc (.int .u16 0)), (301, .st 3 [(0, 299), (1, 299), (2, 299)] (Array.mk [(.int .u16 0), (.int .u16 0), (.int .u16 0)]) [1, 1, 1]), (302, .sc .nilFunc), (304, .st 3 [(0, 287), (1, 287), (2, 287)] (Array.mk [(.int .u32 0), (.int .u32 0), (.int .u32 0)]) [1, 1, 1]), (305, .sc .nilFunc), (306, .sc (.pointer none)), (307, .sc (.pointer none)), (313, .sc .nilFunc), (315, .sc .nilFunc), (321, .st 7 [(0, 3), (1, 3), (2, 3), (3, 3), (4, 9), (5, 9), (6, 4)] (Array.mk [(.int .i64 0), (.int .i64 0), (.int .i64 0), (.int .i64 0), (.string ByteArray.empty), (.string ByteArray.empty), (.bool false)]) [1, 1, 1, 1, 1, 1, 1]), (322, .sc .nilFunc), (323, .sc .nilFunc), (326, .sc (.pointer none)), (327, .sc .nilFunc), (330, .sl 333 4 16), (334, .sc (.pointer none))]
theorem ak:G.Good Tryz.prog:=fS<|fS<|fS<|fB<|fS<|fG<|fS<|fS<|fS<|fS<|fS<|fS<|fL<|fT Tryz.underlying24<|fS<|fS<|fL<|fS<|fS<|fS<|fL<|fL<|fT Tryz.underlying35<|fS<|fS<|fS<|fS<|fS<|fS<|fS<|fS<|fS<|fS<|fS<|fS<|fS<|fS<|fS<|fT Tryz.underlying53<|fS<|fT Tryz.underlying56<|fS<|fS<|fS<|fS<|fS<|fS<|fS<|fS<|fS<|fS<|fL<|fT Tryz.underlying70<|fL<|fS<|fS<|fS<|fL<|fL<|fL<|fT Tryz.underlying79<|fL<|fS<|fL<|fS<|fT Tryz.underlying86<|fT Tryz.underlying88<|fT Tryz.underlying90<|fS<|fS<|fT Tryz.underlying95<|fS<|fS<|fS<|fS<|fS<|fS<|fT Tryz.underlying104<|fS<|fS<|fS<|fS<|fS<|fS<|fS<|fS<|fS<|fS<|fS<|fT Tryz.underlying121<|fS<|fS<|fS<|fS<|fS<|fS<|fS<|fS<|fS<|fS<|fS<|fS<|fS<|fS<|fS<|fS<|fS<|fT Tryz.underlying143<|fS<|fS<|fT Tryz.underlying147<|fL<|fT Tryz.underlying150<|fL<|fL<|fT Tryz.underlying154<|fT Tryz.underlying156<|fS<|fS<|fS<|fS<|fS<|fS<|fT Tryz.underlying165<|fS<|fS<|fS<|fS<|fS<|fS<|fS<|fS<|fT Tryz.underlying176<|fT Tryz.underlying178<|fS<|fS<|fS<|fS<|fS<|fS<|fS<|fS<|fS<|fS<|fS<|fS<|fS<|fS<|fS<|fS<|fS<|fS<|fS<|fS<|fS<|fS<|fS<|fS<|fT Tryz.underlying205<|fS<|fT Tryz.underlying208<|fS<|fS<|fS<|fS<|fS<|fT Tryz.underlying216<|fS<|fS<|fS<|fS<|fS<|fS<|fS<|fS<|fS<|fS<|fS<|fS<|fS<|fS<|fS<|fS<|fS<|fS<|fS<|fS<|fS<|fS<|fS<|fS<|fS<|fS<|fS<|fS<|fS<|fS<|fS<|fS<|fS<|fT Tryz.underlying259<|fS<|fS<|fS<|fS<|fS<|fS<|fS<|fS<|fS<|fS<|fS<|fS<|fL<|fS<|fS<|fS<|fS<|fS<|fS<|fS<|fS<|fS<|fS<|fS<|fS<|fL<|fT Tryz.underlying292<|fS<|fS<|fL<|fL<|fT Tryz.underlying298<|fS<|fT Tryz.underlying301<|fS<|fT Tryz.underlying304<|fS<|fS<|fS<|fS<|fS<|fT Tryz.underlying321<|fS<|fS<|fS<|fS<|fL<|fS<|fN
theorem c3:au Tryz.prog 3:=fun _ _=>by kernel_rfl
theorem c4:au Tryz.prog 4:=fun _ _=>by kernel_rfl
theorem c5:au Tryz.prog 5:=fun _ _=>by kernel_rfl
theorem GL:au Tryz.prog 16:=fun _ _=>by kernel_rfl
theorem Jw:au Tryz.prog 17:=fun _ _=>by kernel_rfl
theorem Ny:au Tryz.prog 18:=fun _ _=>by kernel_rfl
theorem LW:au Tryz.prog 23:=fun _ _=>by kernel_rfl
theorem Ng:au Tryz.prog 25:=fun _ _=>by kernel_rfl
theorem Iw:au Tryz.prog 26:=fun _ _=>by kernel_rfl
theorem Mz:au Tryz.prog 27:=fun _ _=>by kernel_rfl
theorem Ni:au Tryz.prog 28:=fun _ _=>by kernel_rfl
theorem Gx:au Tryz.prog 29:=fun _ _=>by kernel_rfl
theorem KY:au Tryz.prog 30:=fun _ _=>by kernel_rfl
theorem Ku:au Tryz.prog 31:=fun _ _=>by kernel_rfl
theorem Gt:au Tryz.prog 32:=fun _ _=>by kernel_rfl
theorem MY:au Tryz.prog 33:=fun _ _=>by kernel_rfl
theorem Nw:au Tryz.prog 34:=fun _ _=>by kernel_rfl
theorem Lc:au Tryz.prog 35:=fun _ _=>by kernel_rfl
theorem IY:au Tryz.prog 36:=fun _ _=>by kernel_rfl
theorem I8:au Tryz.prog 37:=fun _ _=>by kernel_rfl
theorem I9:au Tryz.prog 38:=fun _ _=>by kernel_rfl
theorem IS:au Tryz.prog 39:=fun _ _=>by kernel_rfl
theorem sE:au Tryz.prog 40:=fun _ _=>by kernel_rfl
theorem I5:au Tryz.prog 41:=fun _ _=>by kernel_rfl
theorem IT:au Tryz.prog 42:=fun _ _=>by kernel_rfl
theorem HA:au Tryz.prog 56:=fun _ _=>by kernel_rfl
theorem M0:au Tryz.prog 57:=fun _ _=>by kernel_rfl
theorem Nf:au Tryz.prog 58:=fun _ _=>by kernel_rfl
theorem Nc:au Tryz.prog 59:=fun _ _=>by kernel_rfl
theorem Gv:au Tryz.prog 60:=fun _ _=>by kernel_rfl
theorem MZ:au Tryz.prog 65:=fun _ _=>by kernel_rfl
theorem Iz:au Tryz.prog 67:=fun _ _=>by kernel_rfl
theorem Nq:au Tryz.prog 69:=fun _ _=>by kernel_rfl
theorem Nu:au Tryz.prog 70:=fun _ _=>by kernel_rfl
theorem Aa:au Tryz.prog 71:=fun _ _=>by kernel_rfl
theorem Gs:au Tryz.prog 72:=fun _ _=>by kernel_rfl
theorem GQ:au Tryz.prog 73:=fun _ _=>by kernel_rfl
theorem MR:au Tryz.prog 74:=fun _ _=>by kernel_rfl
theorem KS:au Tryz.prog 77:=fun _ _=>by kernel_rfl
theorem M6:au Tryz.prog 78:=fun _ _=>by kernel_rfl
theorem Nt:au Tryz.prog 80:=fun _ _=>by kernel_rfl
theorem Nj:au Tryz.prog 81:=fun _ _=>by kernel_rfl
theorem Nd:au Tryz.prog 82:=fun _ _=>by kernel_rfl
theorem M8:au Tryz.prog 83:=fun _ _=>by kernel_rfl
theorem M3:au Tryz.prog 84:=fun _ _=>by kernel_rfl
theorem M1:au Tryz.prog 85:=fun _ _=>by kernel_rfl
theorem MG:au Tryz.prog 86:=fun _ _=>by kernel_rfl
theorem Na:au Tryz.prog 87:=fun _ _=>by kernel_rfl
theorem Nl:au Tryz.prog 88:=fun _ _=>by kernel_rfl
theorem KU:au Tryz.prog 89:=fun _ _=>by kernel_rfl
theorem Nx:au Tryz.prog 90:=fun _ _=>by kernel_rfl
theorem KX:au Tryz.prog 91:=fun _ _=>by kernel_rfl
theorem LM:au Tryz.prog 92:=fun _ _=>by kernel_rfl
theorem LZ:au Tryz.prog 93:=fun _ _=>by kernel_rfl
theorem LV:au Tryz.prog 98:=fun _ _=>by kernel_rfl
theorem Az:au Tryz.prog 115:=fun _ _=>by kernel_rfl
theorem Ek:au Tryz.prog 121:=fun _ _=>by kernel_rfl
theorem JY:au Tryz.prog 122:=fun _ _=>by kernel_rfl
theorem Li:au Tryz.prog 123:=fun _ _=>by kernel_rfl
theorem KO:au Tryz.prog 124:=fun _ _=>by kernel_rfl
theorem JZ:au Tryz.prog 125:=fun _ _=>by kernel_rfl
theorem Lx:au Tryz.prog 127:=fun _ _=>by kernel_rfl
theorem J6:au Tryz.prog 131:=fun _ _=>by kernel_rfl
theorem My:au Tryz.prog 132:=fun _ _=>by kernel_rfl
theorem LC:au Tryz.prog 133:=fun _ _=>by kernel_rfl
theorem K3:au Tryz.prog 135:=fun _ _=>by kernel_rfl
theorem Jp:au Tryz.prog 137:=fun _ _=>by kernel_rfl
theorem Mm:au Tryz.prog 138:=fun _ _=>by kernel_rfl
theorem Jh:au Tryz.prog 140:=fun _ _=>by kernel_rfl
theorem Hs:au Tryz.prog 143:=fun _ _=>by kernel_rfl
theorem K1:au Tryz.prog 145:=fun _ _=>by kernel_rfl
theorem L4:au Tryz.prog 146:=fun _ _=>by kernel_rfl
theorem G2:au Tryz.prog 147:=fun _ _=>by kernel_rfl
theorem MU:au Tryz.prog 148:=fun _ _=>by kernel_rfl
theorem GC:au Tryz.prog 149:=fun _ _=>by kernel_rfl
theorem JA:au Tryz.prog 151:=fun _ _=>by kernel_rfl
theorem MM:au Tryz.prog 152:=fun _ _=>by kernel_rfl
theorem MA:au Tryz.prog 153:=fun _ _=>by kernel_rfl
theorem DQ:au Tryz.prog 154:=fun _ _=>by kernel_rfl
theorem D2:au Tryz.prog 155:=fun _ _=>by kernel_rfl
theorem tN:au Tryz.prog 156:=fun _ _=>by kernel_rfl
theorem HO:au Tryz.prog 157:=fun _ _=>by kernel_rfl
theorem DV:au Tryz.prog 158:=fun _ _=>by kernel_rfl
theorem rT:au Tryz.prog 159:=fun _ _=>by kernel_rfl
theorem KB:au Tryz.prog 160:=fun _ _=>by kernel_rfl
theorem MO:au Tryz.prog 161:=fun _ _=>by kernel_rfl
theorem Ma:au Tryz.prog 162:=fun _ _=>by kernel_rfl
theorem Ju:au Tryz.prog 174:=fun _ _=>by kernel_rfl
theorem FE:au Tryz.prog 175:=fun _ _=>by kernel_rfl
theorem K9:au Tryz.prog 176:=fun _ _=>by kernel_rfl
theorem J5:au Tryz.prog 179:=fun _ _=>by kernel_rfl
theorem Mq:au Tryz.prog 180:=fun _ _=>by kernel_rfl
theorem MJ:au Tryz.prog 181:=fun _ _=>by kernel_rfl
theorem MN:au Tryz.prog 182:=fun _ _=>by kernel_rfl
theorem Lr:au Tryz.prog 183:=fun _ _=>by kernel_rfl
theorem Mc:au Tryz.prog 184:=fun _ _=>by kernel_rfl
theorem LB:au Tryz.prog 185:=fun _ _=>by kernel_rfl
theorem MV:au Tryz.prog 186:=fun _ _=>by kernel_rfl
theorem Mo:au Tryz.prog 187:=fun _ _=>by kernel_rfl
theorem KL:au Tryz.prog 188:=fun _ _=>by kernel_rfl
theorem Mp:au Tryz.prog 192:=fun _ _=>by kernel_rfl
theorem Md:au Tryz.prog 193:=fun _ _=>by kernel_rfl
theorem MI:au Tryz.prog 194:=fun _ _=>by kernel_rfl
theorem JQ:au Tryz.prog 195:=fun _ _=>by kernel_rfl
theorem Me:au Tryz.prog 196:=fun _ _=>by kernel_rfl
theorem Gd:au Tryz.prog 197:=fun _ _=>by kernel_rfl
theorem MH:au Tryz.prog 206:=fun _ _=>by kernel_rfl
theorem L8:au Tryz.prog 207:=fun _ _=>by kernel_rfl
theorem Mf:au Tryz.prog 208:=fun _ _=>by kernel_rfl
theorem L2:au Tryz.prog 223:=fun _ _=>by kernel_rfl
theorem M5:au Tryz.prog 55:=fun _ _=>by kernel_rfl
theorem Nk:au Tryz.prog 61:=fun _ _=>by kernel_rfl
theorem Mr:au Tryz.prog 75:=fun _ _=>by kernel_rfl
theorem KT:au Tryz.prog 76:=fun _ _=>by kernel_rfl
theorem KW:au Tryz.prog 79:=fun _ _=>by kernel_rfl
theorem F4:au Tryz.prog 116:=fun _ _=>by kernel_rfl
theorem HQ:au Tryz.prog 117:=fun _ _=>by kernel_rfl
theorem Kx:au Tryz.prog 118:=fun _ _=>by kernel_rfl
theorem LK:au Tryz.prog 119:=fun _ _=>by kernel_rfl
theorem Mi:au Tryz.prog 120:=fun _ _=>by kernel_rfl
theorem yj:au Tryz.prog 129:=fun _ _=>by kernel_rfl
theorem pN:au Tryz.prog 136:=fun _ _=>by kernel_rfl
theorem JV:au Tryz.prog 139:=fun _ _=>by kernel_rfl
theorem DU:au Tryz.prog 141:=fun _ _=>by kernel_rfl
theorem wU:au Tryz.prog 142:=fun _ _=>by kernel_rfl
theorem HX:au Tryz.prog 144:=fun _ _=>by kernel_rfl
theorem LL:au Tryz.prog 150:=fun _ _=>by kernel_rfl
theorem L7:au Tryz.prog 177:=fun _ _=>by kernel_rfl
theorem KQ:au Tryz.prog 191:=fun _ _=>by kernel_rfl
theorem Kl:kG Tryz.prog 206 (.int .i64) (.int .i64 0):=⟨3,3,by kernel_rfl,by kernel_rfl,fun w=>Tryz.zeroValue3 w⟩
end Go.Proofs.Heir
namespace Go.Proofs.Heir
open Go.Am
set_option maxRecDepth 100000
set_option maxHeartbeats 8000000
def gM (c:Int):Bool:=decide (97≤c)&&decide (c≤122)
def gD (c:Int):Bool:=decide (65≤c)&&decide (c≤90)
def iT (c:Int):Bool:=gM c||gD c||(decide (48≤c)&&decide (c≤57))||decide (c=45)||decide (c=95)||decide (c=46)
@[reducible] def BW (c : Int) : AV := .lit (.int .i32 c)
@[reducible] def bA (b : Bool) : AV := .lit (.bool b)
@[reducible] def cn (s : ByteArray) : AV := .lit (.string s)
@[reducible] def ah (n : Int) : AV := .lit (.int .i64 n)
theorem xH (c:Int):aj Tryz.prog 188 [] [BW c] [] (bA (gM c)):=by
 refine aj.aA (rvs:=[.tmp 2]) G ak Tryz.func188 rfl Tryz.ntmps188 rfl rfl ?_;with_reducible refine wD ?_
 refine aM.mk (fun h=>?_) (fun h=>?_)<;>(try simp only[aq] at h)<;>with_reducible refine wK ?_
 ·(refine eK ?_ ?_<;>with_reducible repeat' (first|exact trivial|(show _∧_;refine aK ?_ ?_)))
  unfold gM
  simp at h;simp[h]
 ·(refine eK ?_ ?_<;>with_reducible repeat' (first|exact trivial|(show _∧_;refine aK ?_ ?_)))
  unfold gM
  simp at h;simp;omega
theorem pU (c:Int):aj Tryz.prog 179 [] [BW c] [] (bA (gD c)):=by
 refine aj.aA (rvs:=[.tmp 2]) G ak Tryz.func179 rfl Tryz.ntmps179 rfl rfl ?_;with_reducible refine wD ?_
 refine aM.mk (fun h=>?_) (fun h=>?_)<;>(try simp only[aq] at h)<;>with_reducible refine wK ?_
 ·(refine eK ?_ ?_<;>with_reducible repeat' (first|exact trivial|(show _∧_;refine aK ?_ ?_)))
  unfold gD
  simp at h;simp[h]
 ·(refine eK ?_ ?_<;>with_reducible repeat' (first|exact trivial|(show _∧_;refine aK ?_ ?_)))
  unfold gD
  simp at h;simp;omega
theorem Im (c:Int):aj Tryz.prog 187 [] [BW c] [] (bA (iT c)):=by
 refine aj.aA (rvs:=[.tmp 2]) G ak Tryz.func187 rfl Tryz.ntmps187 rfl rfl ?_;with_reducible refine wD ?_
 refine cL (xH c) KL ?_;with_reducible refine wK ?_
 repeat' (first
  |refine aE ?_ ?_
  |((with_reducible show aM _ _ _ _);first|refine iK ?_|(refine aM.mk (fun _=>?_) (fun _=>?_)<;>with_reducible refine wK ?_))
  |((with_reducible refine kQ 179 ?_);refine cL (pU c) J5 ?_;with_reducible refine wK ?_)
  |apply trivial)
 all_goals (simp_all[iT,gM,gD]<;>omega)
theorem Gy (c:Int):aj Tryz.prog 186 [] [BW c] [] (bA (!iT c)):=by
 refine aj.aA (rvs:=[.tmp 2]) G ak Tryz.func186 rfl Tryz.ntmps186 rfl rfl ?_;with_reducible refine wD ?_
 refine cL (Im c) Mo ?_;with_reducible refine wK ?_
 (refine eK ?_ ?_<;>with_reducible repeat' (first|exact trivial|(show _∧_;refine aK ?_ ?_)))
open Go.RowKit Go.Lib in
theorem AK (g:Nat)(eg:∀args w,(callFunc g args).run Tryz.prog w=.ok (.enter g args) w)(p:Nat→Bool)(s:ByteArray)(w:World)(ht:kj Tryz.prog w fun _=>none)(hp:∀ (W:World) (x:Nat),(kj Tryz.prog W fun _=>none)→x≤1114111→Calls Tryz.prog g #[.int .i32 (x:Int)] W fun e w'=>e=.returned (.bool (p x))∧Below W.heap.size W w'):
  Calls Tryz.prog 227 #[.string s,.func (.func g) #[] #[],.bool true] w fun e w'=>e=.returned (.int .i64 (Lib.idxFunc p true s))∧Below w.heap.size w w':=by
 go_enter Tryz.func227,Tryz.ntmps227
 go_wp2
 go_loopg [] s.size (fun gf wx=> ∃pos:Nat,wx.heap[w.heap.size]? =some (.stringIter s pos)∧Below w.heap.size w wx∧Lib.idxFuncFrom p true s gf pos=Lib.idxFunc p true s∧s.size≤pos+gf)
 case atStart=>exact⟨0,World.iter_heap w s 0,(Below.refl _ w).alloc (Nat.le_refl _) _,rfl,by omega⟩
 case round=>
  obtain⟨pos,hit,hbw,hleft,hfu⟩:=hrel
  by_cases hps:pos<s.size
  ·obtain⟨g',rfl⟩:∃g',gk=g'+1:=⟨gk-1,by omega⟩
   have hnx:∀ty,(Instr.next (.pointer (some ⟨w.heap.size,0,none⟩)) true ty).run Tryz.prog wr=_:=fun ty=>Lib.run_next_any_at wr w.heap.size s pos ty hit hps
   have hwd:=Lib.width_pos s pos
   obtain⟨R,hR⟩:∃R,(Utf8.decode s pos).1=R:=⟨_,rfl⟩
   obtain⟨K,hK⟩:∃K,(Utf8.decode s pos).2=K:=⟨_,rfl⟩
   simp only[Lib.idxFuncFrom,hps,if_true,hR,hK] at hleft
   rw[hR,hK] at hnx
   rw[hK] at hwd
   have hit2:=Lib.iterAt_heap wr w.heap.size s pos (pos+K) hit
   have hbw2:=Lib.below_iterAt hbw (k:=w.heap.size) (Nat.le_refl _) s (pos+K)
   obtain⟨W,hWd⟩:∃W,wr.iterAt w.heap.size s (pos+K)=W:=⟨_,rfl⟩
   rw[hWd] at hnx hit2 hbw2
   have hltW:w.heap.size<W.heap.size:=(Array.getElem?_eq_some_iff.1 hit2).1
   have cS:Calls Tryz.prog g #[.int .i32 (R:Int)] W _       :=hp W R (ht.below hbw2) (by rw[←hR];exact Lib.rune_le s pos)
   clear hp
   cases hsp:p R<;>rw[hsp] at cS<;>simp only[hsp,if_true,Bool.false_eq_true,Bool.true_eq_false,if_false] at hleft
   ·go_wp2_with (go_at_fn g;refine cS.mono ?_;rintro e W' ⟨rfl,hbc⟩)
    go_roundg g'
    case measure=>omega
    case rel=>exact⟨pos+K,(hbc.block _ hltW).trans hit2,(hbw2.trans (hbc.mono hbw2.size)),hleft,by omega⟩
   ·go_wp2_with (go_at_fn g;refine cS.mono ?_;rintro e W' ⟨rfl,hbc⟩)
    go_ret
    exact⟨by rw[←hleft]<;>rfl,(hbw2.trans (hbc.mono hbw2.size))⟩
  ·have hnx:∀ty,(Instr.next (.pointer (some ⟨w.heap.size,0,none⟩)) true ty).run Tryz.prog wr=_:=fun ty=>Lib.run_next_end_at wr w.heap.size s pos ty hit hps
   rw[Lib.idxFuncFrom_end p true s gk pos hps] at hleft
   go_wp2
   go_ret
   exact⟨by rw[←hleft]<;>rfl,hbw⟩
end Go.Proofs.Heir
namespace Go.Proofs.Heir
open Go Go.Am Go.RowKit Go.Lib
set_option maxRecDepth 100000
set_option maxHeartbeats 8000000
def jk (c:UInt8):UInt8:=if gD (c.toNat:Int) then c+32 else c
def gA (l:List UInt8):List UInt8:=l.map jk
def dQ (s:ByteArray):ByteArray:=⟨(gA s.data.toList).toArray⟩
def pG (l:List UInt8)(k:Nat):List UInt8:=(l.take k).map jk++l.drop k
theorem yV (l:List UInt8)(k:Nat):(pG l k).length=l.length:=by simp[pG];omega
theorem zZ (l:List UInt8)(k:Nat)(h:k<l.length):(pG l k)[k]? =some l[k]:=by
 simp[pG,List.getElem?_append,List.getElem?_drop,Nat.min_eq_left (Nat.le_of_lt h),h]
theorem zV (l:List UInt8)(k:Nat)(h:k<l.length):(pG l k).set k (jk l[k])=pG l (k+1):=by
 unfold pG
 have h1:((l.take k).map jk).length=k:=by simp;omega
 rw[List.set_append_right _ _ (by omega),h1,Nat.sub_self,List.take_succ_eq_append_getElem h,List.drop_eq_getElem_cons h]
 simp only[List.set_cons_zero,gm,List.map_cons,List.map_nil,List.append_assoc,List.cons_append,List.nil_append]
theorem CM (l:List UInt8)(k:Nat)(h:k<l.length)(hc:gD (l[k].toNat:Int)=false):pG l k=pG l (k+1):=by
 rw[←zV l k h]
 have h2:=zZ l k h
 apply List.ext_getElem?
 intro j
 rw[List.getElem?_set]
 by_cases hj:k=j
 ·subst hj
  rw[if_pos rfl,if_pos (by rw[yV];exact h),h2]
  simp[jk,hc]
 ·rw[if_neg hj]
def rowOf (l:List UInt8)(z:List Value):Array Value:=(l.map (fun b=>Value.int .u8 b.toNat)++z).toArray
theorem vq (l:List UInt8)(z:List Value)(k:Nat)(b:UInt8)(h:l[k]? =some b):(rowOf l z)[k]? =some (.int .u8 b.toNat):=by
 have hk:=(aZ h).1
 simp only[rowOf,List.getElem?_toArray]
 rw[List.getElem?_append_left (by simpa using hk),fZ,h];rfl
theorem CJ (l:List UInt8)(z:List Value)(k:Nat)(b:UInt8)(h:k<l.length):(rowOf l z).setIfInBounds k (.int .u8 b.toNat)=rowOf (l.set k b) z:=by
 apply Array.ext'
 simp only[rowOf,Array.toList_setIfInBounds,List.map_set]
 rw[List.set_append_left _ _ (by simpa using h)]
theorem yJ (c:UInt8)(h:gD (c.toNat:Int)=true):IntKind.u8.wrap (IntKind.u8.wrap ((c.toNat:Int)-65)+97)=((c+32:UInt8).toNat:Int):=by
 simp only[gD,bg,aP] at h
 have h1:IntKind.u8.wrap ((c.toNat:Int)-65)=(c.toNat:Int)-65:=by simp[IntKind.wrap_u8];omega
 rw[h1]
 have h2:IntKind.u8.wrap ((c.toNat:Int)-65+97)=(c.toNat:Int)+32:=by simp[IntKind.wrap_u8];omega
 rw[h2]
 have:(c+32:UInt8).toNat=c.toNat+32:=by
  rw[UInt8.toNat_add];simp;omega
 rw[this];rfl
theorem Bn (s:ByteArray)(w:World)(ht:kj Tryz.prog w fun _=>none)(hs:s.size≤100000):Calls Tryz.prog 124 #[.string s] w fun e w'=>e=.returned (.string (dQ s))∧Below w.heap.size w w':=by
 obtain⟨l,rfl⟩:∃l:List UInt8,s=⟨l.toArray⟩:=⟨s.data.toList,by obtain⟨⟨l⟩⟩:=s;rfl⟩
 have hsz:(ByteArray.mk l.toArray).size=l.length:=by simp[ByteArray.size]
 have hconv:=run_bytes_of_string (P:=Tryz.prog) w 9 71 5 ⟨l.toArray⟩ Tryz.underlying9 Tryz.underlying71 Tryz.underlying5
 rw[hsz] at hconv hs
 obtain⟨cap,hcap⟩:∃cap,grownCap w l.length 0 5=cap:=⟨_,rfl⟩
 rw[hcap] at hconv
 obtain⟨z,hz⟩:∃z:List Value,bytesRow ⟨l.toArray⟩ cap=rowOf l z:=⟨List.replicate (cap-l.length) (.int .u8 0),by
  apply Array.ext';simp[bytesRow,rowOf,ByteArray.size]⟩
 rw[hz] at hconv
 obtain⟨n,hn⟩:∃n,(rowOf l z).size=n:=⟨_,rfl⟩
 rw[hn] at hconv
 clear hcap hz
 go_enter Tryz.func124,Tryz.ntmps124
 go_wp2
 go_loopw [10] (fun i wr=> ∃k:Nat,k≤l.length∧i=.int .i64 k∧wr.heap[w.heap.size]? =some (.cells (rowOf (pG l k) z) 5 (n,n+1))∧Below w.heap.size w wr) (fun i _=>l.length- (intOf i).toNat)
 case atStart=>exact⟨0,Nat.zero_le _,rfl,(heap_alloc_new w (Obj.cells (rowOf l z) 5 (n,n+1))),((Below.refl _ w).alloc (Nat.le_refl _) _).drew⟩
 case round=>
  obtain⟨k,hk,rfl,hh,hb⟩:=hrel
  by_cases hlt:k<l.length
  ·have hcell:wr.cell? ⟨w.heap.size,k,none⟩=some (.int .u8 (l[k].toNat:Int)):=by
    simp only[World.cell?,hh]
    exact vq _ z k _ (zZ l k hlt)
   have hn2:k<n:=by rw[←hn];simp[rowOf];omega
   have hfz:wr.frozen? ⟨w.heap.size,k,none⟩=false:=by
    simp[World.frozen?,hh];omega
   have hbs:w.heap.size<wr.heap.size:=(Array.getElem?_eq_some_iff.1 hh).1
   have hb1:0≤ (l[k].toNat:Int):=Int.natCast_nonneg _
   have hb2:(l[k].toNat:Int)≤255:=by have:=UInt8.toNat_lt l[k];omega
   cases hc:gD (l[k].toNat:Int) with
   | false=>
     go_wp2_with (go_at_call 179;refine((pU (l[k].toNat:Int)).below (vs:=[.int .i32 (l[k].toNat:Int)]) _ (ht.below hb)).mono ?_;rw[hc];rintro e w1 ⟨rfl,hb3⟩)
     go_roundw
     case rel=>exact⟨k+1,by omega,by go_num,by rw[hb3.block _ hbs,hh,CM l k hlt hc],hb.trans (hb3.mono hb.size)⟩
     case measure=>simp[intOf];omega
   | true=>
     have hst:IntKind.u8.wrap (IntKind.u8.wrap ((l[k].toNat:Int)-65)+97)=((jk l[k]).toNat:Int):=by
      rw[yJ _ hc];unfold jk;rw[hc];rfl
     simp only[IntKind.wrap_u8] at hst
     have H:=hid hst
     clear hst
     go_wp2_with (go_at_call 179;refine((pU (l[k].toNat:Int)).below (vs:=[.int .i32 (l[k].toNat:Int)]) _ (ht.below hb)).mono ?_;rw[hc];rintro e w1 ⟨rfl,hb3⟩;have hc1:=(hb3.cell (p:=⟨w.heap.size,k,none⟩) hbs).trans hcell;have hf1:=(hb3.frozen (p:=⟨w.heap.size,k,none⟩) hbs).trans hfz)
     go_roundw
     case rel=>
      refine⟨k+1,by omega,by go_num,?_,hb.trans ((hb3.mono hb.size).setCell (Nat.le_refl _) _)⟩
      have hm:((l[k].toNat:Int)-65+97)%256=((jk l[k]).toNat:Int):=by
       rw[←H.out];omega
      rw[hm]
      have hq:w1.heap[w.heap.size]? =some (.cells (rowOf (pG l k) z) 5 (n,n+1)):=(hb3.block _ hbs).trans hh
      have hs2:w.heap.size<w1.heap.size:=(Array.getElem?_eq_some_iff.1 hq).1
      unfold World.setCell
      simp only[Array.getElem?_modify,hq,if_true,Option.map_some]
      have hrs:=CJ (pG l k) z k (jk l[k]) (by rw[yV];exact hlt)
      rw[zV l k hlt] at hrs
      simp only[hrs];rfl
     case measure=>simp[intOf];omega
  ·have:k=l.length:=by omega
   subst this
   have hrw:rowOf (pG l l.length) z=rowOf (gA l) z:=by simp[pG,gA]
   rw[hrw] at hh
   have hcv:=run_convert_bytes_back (P:=Tryz.prog) wr 71 9 5 ⟨w.heap.size,0,none⟩ cap (gA l) Tryz.underlying71 Tryz.underlying5 Tryz.underlying9 (fun j hj=>by
    have:=vq (gA l) z j ((gA l)[j]) (bH hj)
    have ha:(⟨w.heap.size,0,none⟩:Addr).add j=⟨w.heap.size,j,none⟩:=by
     unfold Addr.add;split<;>simp_all
    rw[ha];simp only[World.cell?,hh,this];rfl)
   rw[show(gA l).length=l.length from by simp[gA]] at hcv
   go_wp2
   go_ret
   exact⟨rfl,hb⟩
theorem Cm (s:ByteArray)(hs:s.size≤100000):aj Tryz.prog 124 [] [cn s] [] (cn (dQ s)):=
 aj.jY (vs:=[.string s]) (v:=.string (dQ s)) fun w ht=>Bn s w ht hs
def ij (b:UInt8):Bool:=iT (b.toNat:Int)
def lW:List UInt8→Bool
 |[]=>false
 |b::_=>gM (b.toNat:Int)||gD (b.toNat:Int)||decide ((b.toNat:Int)=95)
def iz (l:List UInt8):Bool:=decide (1≤l.length)&&decide (l.length≤40)&&l.all ij&&lW l
def cm (s:ByteArray):Bool:=iz s.data.toList
theorem Cs (s:ByteArray):∀ (f pos:Nat),s.size≤pos+f→(0≤idxFuncFrom (fun r=> !iT (r:Int)) true s f pos↔ ∃i,pos≤i∧∃b,s.data.toList[i]? =some b∧ij b=false)
 | 0,pos,h=>by
   have:¬ (0:Int)≤idxFuncFrom (fun r=> !iT (r:Int)) true s 0 pos:=by simp[idxFuncFrom]
   refine⟨fun h'=>absurd h' this,?_⟩
   rintro⟨i,h1,b,h2,_⟩
   have:=(aZ h2).1
   have:i<s.size:=this
   omega
 | f + 1, pos,h=>by
   by_cases hp:pos<s.size
   ·have ih:=Cs s f
    have hb:∃b,s.data.toList[pos]? =some b∧s.get! pos=b:=⟨_,bH hp,by show s.data[pos]! =_;rw[getElem!_pos s.data pos hp];rfl⟩
    obtain⟨b,hb1,hb2⟩:=hb
    unfold idxFuncFrom
    rw[if_pos hp,decode_at,hb2]
    have hbn:b.toNat<256:=UInt8.toNat_lt b
    have big:∀r:Nat,128≤r→iT (r:Int)=false:=by
     intro r hr
     have:(128:Int)≤r:=by omega
     simp only[iT,gM,gD,Bool.or_eq_false_iff,Bool.and_eq_false_iff,cj]
     omega
    have bad:∀r w:Nat,128≤r→128≤b.toNat→((0:Int)≤ (if(!iT (r:Int))=true then(pos:Int) else idxFuncFrom (fun r=> !iT (r:Int)) true s f (pos+w))↔ ∃i,pos≤i∧∃b,s.data.toList[i]? =some b∧ij b=false):=by
     intro r w hr hbr
     rw[big r hr]
     exact⟨fun _=>⟨pos,Nat.le_refl _,b,hb1,big _ hbr⟩,fun _=>by simp⟩
    rcases decodeN_shape (s.size-pos) b.toNat (s.get! (pos+1)).toNat (s.get! (pos+2)).toNat (s.get! (pos+3)).toNat with⟨h1,h2⟩|⟨h1,h3,h4,h5,h2⟩|⟨h1,h3,h4,h5,h6,h7,h2⟩|⟨h1,h3,h4,h5,h6,h7,h8,h2⟩|h2
    ·rw [h2]
     show(0:Int)≤ (if(!iT (b.toNat:Int))=true then(pos:Int) else idxFuncFrom _ true s f (pos+1))↔_
     cases hs:iT (b.toNat:Int) with
     |false=>exact⟨fun _=>⟨pos,Nat.le_refl _,b,hb1,hs⟩,fun _=>by simp⟩
     | true=>
       rw[if_neg (by simp),ih (pos+1) (by omega)]
       constructor
       ·rintro⟨i,h3,h4⟩;exact⟨i,by omega,h4⟩
       ·rintro⟨i,h3,b',h4,h5⟩
        rcases Nat.lt_or_ge pos i with h6|h6
        ·exact⟨i,h6,b',h4,h5⟩
        ·have:i=pos:=by omega
         subst this
         rw[hb1] at h4;cases h4
         rw[ij,hs] at h5;cases h5
    ·rw[h2];exact bad _ _ (by omega) (by omega)
    ·rw[h2];exact bad _ _ (by omega) (by omega)
    ·rw[h2];exact bad _ _ (by omega) (by omega)
    ·rw[h2]
     refine bad _ _ (by omega) ?_
     rcases Nat.lt_or_ge b.toNat 128 with h3|h3
     ·rw[decodeN,if_pos h3] at h2;simp only[Prod.mk.injEq] at h2;omega
     ·exact h3
   ·rw[idxFuncFrom_end _ _ _ _ _ hp]
    refine⟨fun h'=>by omega,?_⟩
    rintro⟨i,h1,b,h2,_⟩
    have:=(aZ h2).1
    have:i<s.size:=this
    omega
theorem Ii (s:ByteArray):decide (0≤idxFunc (fun r=> !iT (r:Int)) true s)=!s.data.toList.all ij:=by
 have h:=Cs s s.size 0 (by omega)
 cases ha:s.data.toList.all ij with
 | true=>
   simp only[Bool.not_true,cj]
   intro h'
   obtain⟨i,_,b,h1,h2⟩:=h.1 h'
   have:=List.all_eq_true.1 ha b (bV h1)
   rw[this] at h2;cases h2
 | false=>
   simp only[Bool.not_false,aP]
   refine h.2 ?_
   obtain⟨b,h1,h2⟩:=List.all_eq_false.1 ha
   obtain⟨i,h3⟩:=List.getElem?_of_mem h1
   exact⟨i,Nat.zero_le _,b,h3,by simpa using h2⟩
theorem Ao (g:Nat)(eg:∀args w,(callFunc g args).run Tryz.prog w=.ok (.enter g args) w)(p:Nat→Bool)(s:ByteArray)(w:World)(ht:kj Tryz.prog w fun _=>none)(hp:∀ (W:World) (x:Nat),(kj Tryz.prog W fun _=>none)→x≤1114111→Calls Tryz.prog g #[.int .i32 (x:Int)] W fun e w'=>e=.returned (.bool (p x))∧Below W.heap.size W w'):
  Calls Tryz.prog 213 #[.string s,.func (.func g) #[] #[]] w fun e w'=>e=.returned (.int .i64 (Lib.idxFunc p true s))∧Below w.heap.size w w':=by
 have h44:=AK g eg p s w ht hp
 clear hp
 go_enter Tryz.func213,Tryz.ntmps213
 go_wp2_with (go_at_call 227;refine h44.mono ?_;rintro e w1 ⟨rfl,hb⟩)
 go_ret
 exact⟨rfl,hb⟩
theorem tf (g:Nat)(eg:∀args w,(callFunc g args).run Tryz.prog w=.ok (.enter g args) w)(p:Nat→Bool)(s:ByteArray)(w:World)(ht:kj Tryz.prog w fun _=>none)(hp:∀ (W:World) (x:Nat),(kj Tryz.prog W fun _=>none)→x≤1114111→Calls Tryz.prog g #[.int .i32 (x:Int)] W fun e w'=>e=.returned (.bool (p x))∧Below W.heap.size W w'):
  Calls Tryz.prog 185 #[.string s,.func (.func g) #[] #[]] w fun e w'=>e=.returned (.bool (decide (0≤Lib.idxFunc p true s)))∧Below w.heap.size w w':=by
 have h43:=Ao g eg p s w ht hp
 clear hp
 go_enter Tryz.func185,Tryz.ntmps185
 go_wp2_with (go_at_call 213;refine h43.mono ?_;rintro e w1 ⟨rfl,hb⟩)
 go_ret
 exact⟨rfl,hb⟩
theorem H7 (s:ByteArray):aj Tryz.prog 185 [] [cn s,.lit (.func (.func 186) #[] #[])] [] (bA (!s.data.toList.all ij)):=by
 rw[←Ii]
 exact aj.jY (vs:=[.string s,.func (.func 186) #[] #[]]) fun w ht=>tf 186 MV (fun r=> !iT (r:Int)) s w ht fun W x ht _=>(Gy (x:Int)).below (vs:=[.int .i32 (x:Int)]) W ht
theorem iq (s:ByteArray):s.size=s.data.toList.length:=(Array.length_toList (xs:=s.data)).symm
theorem we {l:List UInt8}(h:1≤l.length):∃b r,l=b::r∧l[0]? =some b:=by
 cases l with
 |nil=>simp at h
 |cons b r=>exact⟨b,r,rfl,rfl⟩
theorem Gq (b:UInt8):IntKind.i32.wrap (b.toNat:Int)=(b.toNat:Int):=by
 have h:b.toNat<256:=UInt8.toNat_lt b
 rw[IntKind.wrap_i32];omega
theorem Bu (s:ByteArray):aj Tryz.prog 133 [] [cn s] [] (bA (cm s)):=by
 have hsz:s.size=s.data.toList.length:=iq s
 have hb0:1≤s.data.toList.length→∃b r,s.data.toList=b::r∧s.data.toList[0]? =some b:=we
 refine aj.aA (rvs:=[.tmp 2]) G ak Tryz.func133 rfl Tryz.ntmps133 rfl rfl ?_;with_reducible refine wD ?_
 repeat' (first
  |refine aE ?_ ?_
  |((with_reducible show aM _ _ _ _);first|refine iK ?_|(refine aM.mk (fun _=>?_) (fun _=>?_)<;>with_reducible refine wK ?_))
  |((with_reducible refine kQ 185 ?_);refine ae.lit [] (H7 _) LB ⟨rfl,jt 12 _ rfl,trivial⟩ rfl rfl ?_;with_reducible refine wK ?_)
  |((with_reducible refine kQ 179 ?_);refine cL (pU _) J5 ?_;with_reducible refine wK ?_)
  |((with_reducible refine kQ 188 ?_);refine cL (xH _) KL ?_;with_reducible refine wK ?_)
  |((with_reducible show kZ _ _ _ _ _);obtain⟨b,r,hl,hb⟩:=hb0 (by simp only[cj] at*;omega);refine kZ.mk 0 b rfl hb ?_;with_reducible refine wK ?_)
  |((with_reducible show rD _ _ _ _ _ _ _);refine rD.int (by kernel_rfl) (by kernel_rfl) (Gq _) ?_;with_reducible refine wK ?_)
  |apply trivial)
 all_goals (simp only[aP,cj,hsz] at*;unfold cm iz)
 ·rw[show decide (1≤s.data.toList.length)=false from bB (by omega)];rfl
 ·rw[show decide (s.data.toList.length≤40)=false from bB (by omega)];simp
 ·rw[show s.data.toList.all ij=false from by simp_all];simp
 all_goals rw[show decide (1≤s.data.toList.length)=true from bO (by omega),show decide (s.data.toList.length≤40)=true from bO (by omega),show s.data.toList.all ij=true from by simp_all,hl];simp_all[lW]
theorem AA {s:ByteArray}(h:cm s=true):s.size≤40:=by
 unfold cm iz at h
 simp only[bg,aP] at h
 rw[iq];exact h.1.1.2
theorem rF {s:ByteArray}(h:(!cm s)=false):s.size≤100000:=by
 have:=AA (s:=s) (by simpa using h)
 omega
theorem AW (s:ByteArray):aj Tryz.prog 67 [] [cn s] [] (.tup [cn (if cm s then dQ s else⟨#[]⟩),ah (if cm s then 0 else 4)]):=by
 refine aj.aA (rvs:=[.tmp 2,.tmp 3]) G ak Tryz.func67 rfl Tryz.ntmps67 rfl rfl ?_;with_reducible refine wD ?_
 repeat' (first
  |refine aE ?_ ?_
  |((with_reducible show aM _ _ _ _);first|refine iK ?_|(refine aM.mk (fun _=>?_) (fun _=>?_)<;>with_reducible refine wK ?_))
  |((with_reducible refine kQ 133 ?_);refine cL (Bu _) LC ?_;with_reducible refine wK ?_)
  |((with_reducible refine kQ 124 ?_);refine ae.lit [] (Cm _ (rF (by assumption))) KO ⟨rfl,trivial⟩ rfl rfl ?_;with_reducible refine wK ?_)
  |apply trivial)
 all_goals simp_all
def tv (i:Nat)(b:UInt8):Bool:=(gM (b.toNat:Int)||gD (b.toNat:Int))||decide ((b.toNat:Int)=95)||(decide (0<i)&&ij b)
theorem CL {l:List UInt8}(h1:1≤l.length)(h2:l.length≤40):iz l=true↔ ∀i b,l[i]? =some b→tv i b=true:=by
 unfold iz
 rw[bO h1,bO h2]
 simp only[Bool.true_and,bg,List.all_eq_true]
 constructor
 ·rintro⟨ha,hf⟩ i b hb
  cases l with
  |nil=>simp at h1
  | cons c r=>
    cases i with
    | zero=>
      simp at hb;subst hb
      simp only[lW] at hf
      simp[tv,hf]
    | succ i=>
      have:=ha b (bV hb)
      simp[tv,this]
 ·intro h
  refine⟨fun b hb=>?_,?_⟩
  ·obtain⟨i,hi⟩:=List.getElem?_of_mem hb
   have:=h i b hi
   simp only[tv,ij,iT,gM,gD,dw,bg,aP] at this ⊢
   omega
  ·cases l with
   |nil=>simp at h1
   | cons c r=>
     have:=h 0 c rfl
     simpa[tv,lW] using this
def strOf (l:List UInt8):ByteArray:=⟨l.toArray⟩
theorem uB (l:List UInt8):(strOf l).size=l.length:=by simp[strOf,ByteArray.size]
theorem vn (a b:List UInt8):strOf a++strOf b=strOf (a++b):=by
 apply ByteArray.ext
 simp[strOf]
theorem Bf (s:ByteArray):dQ s=strOf (gA s.data.toList):=rfl
theorem Ec (l:List UInt8):(gA l).length=l.length:=by simp[gA]
theorem BX {s:ByteArray}{k:Nat}{b:UInt8}(h:s.data.toList[k]? =some b):s.extract k (k+1)=strOf [b]:=by
 obtain⟨l,rfl⟩:∃l:List UInt8,s=⟨l.toArray⟩:=⟨s.data.toList,by obtain⟨⟨l⟩⟩:=s;rfl⟩
 rw[ByteArray.extract_mk]
 simp only at h
 have hk:=(aZ h).1
 have:(l.drop k).take (k+1-k)=[b]:=by
  rw[List.drop_eq_getElem_cons hk,show k+1-k=1 from by omega]
  simp[(aZ h).2]
 rw[this];rfl
theorem yq {l:List UInt8}{k:Nat}{b:UInt8}(h:l[k]? =some b):gA (l.take (k+1))=gA (l.take k)++ [jk b]:=by
 have hk:=(aZ h).1
 rw[List.take_succ_eq_append_getElem hk,gA,gm,(aZ h).2];rfl
theorem Iv {b:UInt8}(h:gD (b.toNat:Int)=true):IntKind.u8.wrap ((b.toNat:Int)+32)=((b+32:UInt8).toNat:Int):=by
 rw[←yJ b h]
 simp only[gD,bg,aP] at h
 rw[IntKind.wrap_u8,IntKind.wrap_u8,IntKind.wrap_u8]
 omega
theorem D4 {c:Int}(h1:decide (65≤c)=true)(h2:decide (c≤90)=true):gD c=true:=by unfold gD;rw[h1,h2];rfl
theorem CV {b:UInt8}(h1:decide (65≤ (b.toNat:Int))=true)(h2:decide ((b.toNat:Int)≤90)=true):∀ (i:Nat) (c:UInt8),[b+32][i]? =some c→(flat [AV.lit (Value.int IntKind.u8 (IntKind.u8.wrap ((b.toNat:Int)+32)))])[0+i]? =some (.lit (.int .u8 c.toNat)):=by
 intro i c hc
 rw[Iv (D4 h1 h2)]
 cases i with
 |zero=>cases hc;rfl
 |succ i=>simp at hc
theorem wX (s:ByteArray)(hs:s.size≤100000):aj Tryz.prog 151 [] [cn s] [] (cn (dQ s)):=by
 have hsz:s.size=s.data.toList.length:=iq s
 rw[Bf]
 obtain⟨l,hl⟩:∃l,s.data.toList=l:=⟨_,rfl⟩
 rw[hl] at hsz ⊢
 refine aj.aA (rvs:=[.tmp 2]) G ak Tryz.func151 rfl Tryz.ntmps151 rfl rfl ?_;with_reducible refine wD ?_
 refine bE.use G ak (fun(k:Nat)=>[(0,cn s),(3,cn (strOf (gA (l.take k)))),(4,ah k)]) (fun _=>[]) (fun k=>k≤l.length) (fun k=>l.length-k) 0 (Nat.zero_le _) ⟨⟨rfl,rfl⟩,⟨rfl,rfl,rfl,trivial⟩,trivial⟩ ?_
 intro k hk
 with_reducible refine wK ?_
 refine aM.mk (fun h1=>?_) (fun h1=>?_)<;>(try simp only[aq] at h1)<;>with_reducible refine wK ?_
 ·simp only[aP] at h1
  have hk':k<l.length:=by omega
  obtain⟨b,hb0⟩:∃b,l[k]? =some b:=⟨_,bH hk'⟩
  have hb:s.data.toList[k]? =some b:=by rw[hl];exact hb0
  refine kZ.mk k b rfl hb ?_;with_reducible refine wK ?_
  have hln:(strOf (gA (l.take k))).size≤100000:=by rw[uB,Ec];simp;omega
  have hc1:(s.extract k (k+1)).size=1:=by rw[BX hb,uB];rfl
  have n1:(strOf (gA (l.take k))).size+ (s.extract k (k+1)).size≤9223372036854775807:=by omega
  have n2:(strOf (gA (l.take k))).size+ (ByteArray.mk [b+32].toArray).size≤9223372036854775807:=by rw[show(ByteArray.mk [b+32].toArray).size=1 from rfl];omega
  have no:gD (b.toNat:Int)=false→strOf (gA (l.take (k+1)))=strOf (gA (l.take k))++s.extract k (k+1):=by
   intro hc
   rw[BX hb,vn,yq hb0,show jk b=b from by simp[jk,hc]]
  have yes:gD (b.toNat:Int)=true→strOf (gA (l.take (k+1)))=strOf (gA (l.take k))++ByteArray.mk [b+32].toArray:=by
   intro hc
   rw[show ByteArray.mk [b+32].toArray=strOf [b+32] from rfl,vn,yq hb0,show jk b=b+32 from by simp[jk,hc]]
  have no1:decide (65≤ (b.toNat:Int))=false→gD (b.toNat:Int)=false:=by intro h;unfold gD;rw[h];rfl
  have no2:decide ((b.toNat:Int)≤90)=false→gD (b.toNat:Int)=false:=by intro h;unfold gD;rw[h];simp
  repeat' (first
  |refine aE ?_ ?_
  |((with_reducible show aM _ _ _ _);first|refine iK ?_|(refine aM.mk (fun _=>?_) (fun _=>?_)<;>with_reducible refine wK ?_))
  |((with_reducible show kZ _ _ _ _ _);refine kZ.mk k b rfl hb ?_;with_reducible refine wK ?_)
  |((with_reducible show ue _ _ _ _ _ _ _ _ _);refine ue.mk (e:=5) [b+32] (by kernel_rfl) (by kernel_rfl) (by kernel_rfl) rfl (by simp) (CV (by assumption) (by assumption)) ?_;with_reducible refine wK ?_)
  |((with_reducible show tg _ _ _ _ _ _);refine tg.mk k (k+1) rfl (by simp only[aq];omega) (by omega) (by omega) ?_;with_reducible refine wK ?_)
  |((with_reducible show aY _ _ _ _);refine aY.mk n1 ?_;with_reducible refine wK ?_)
  |((with_reducible show aY _ _ _ _);refine aY.mk n2 ?_;with_reducible refine wK ?_)
  |((with_reducible show aY _ _ _ _);refine nK ?_;with_reducible refine wK ?_)
  |((with_reducible show aW _ _);refine aW.mk (k+1) (by omega) (by omega) ⟨⟨rfl,rfl⟩,⟨rfl,?_,by show((k+1:Nat):Int)=(k:Int)+1;omega,trivial⟩,trivial⟩)
  |apply trivial)
  ·exact yes (D4 (by assumption) (by assumption))
  ·exact no (no2 (by assumption))
  ·exact no (no1 (by assumption))
 ·(refine eK ?_ ?_<;>with_reducible repeat' (first|exact trivial|(show _∧_;refine aK ?_ ?_)))
  have:k=l.length:=by simp only[cj] at h1;omega
  rw[this,List.take_length]
structure AttrM where
 name:ByteArray
 value:ByteArray
 deriving DecidableEq
@[reducible] def iN (a : AttrM) : AV := .agg [cn a.name, cn a.value]
def dn (a:AttrM):AV:=iN a
@[reducible] def cO (l : List AttrM) : AV := .sl 2 (l.map dn)
@[reducible] def F2 (l : List AttrM) : MS := .live 2 (l.map dn) false
theorem kD (l:List AttrM):bz (l.map dn)=true:=by
 rw[cT];intro x hx
 obtain⟨a,_,rfl⟩:=List.mem_map.1 hx
 rfl
theorem CU (l:List AttrM):kW (flat (l.map dn))=true:=kX dn (fun a=>rfl) l
theorem cq {tab:List (Nat×Nat)}{fz:Nat→Bool}{m:ML}{n:Nat}:∀ {cs:List AV},bz cs=true→yd (MF tab fz m n) cs cs
 |[],_=>trivial
 | c::cs,h=>by
   simp only[bz,bg] at h
   exact⟨jt n c h.1,cq h.2⟩
theorem GU (a:AttrM)(n:ByteArray):aj Tryz.prog 184 [] [iN a,.fptr (cn n) 0] [] (bA (decide (a.name=n))):=by
 refine aj.aA (rvs:=[.tmp 3]) G ak Tryz.func184 rfl Tryz.ntmps184 rfl rfl ?_;with_reducible refine wD ?_
 (refine eK ?_ ?_<;>with_reducible repeat' (first|exact trivial|(show _∧_;refine aK ?_ ?_)))
def FT (a:AttrM):Bool:=!(cm a.name&&decide (dQ a.name=a.name)&&decide (a.value.size≤200))
theorem G3 (a:AttrM):aj Tryz.prog 180 [] [iN a] [] (bA (FT a)):=by
 obtain⟨n,v⟩:=a
 refine aj.aA (rvs:=[.tmp 2]) G ak Tryz.func180 rfl Tryz.ntmps180 rfl rfl ?_;with_reducible refine wD ?_
 refine cL (AW _) Iz ?_;with_reducible refine wK ?_
 repeat' (first
  |refine aE ?_ ?_
  |((with_reducible show aM _ _ _ _);first|refine iK ?_|(refine aM.mk (fun _=>?_) (fun _=>?_)<;>with_reducible refine wK ?_))
  |apply trivial)
 all_goals (unfold FT;cases hr:cm n<;>simp_all)
 by_cases h2:v.size≤200
 ·rw[bO h2,bB (by(try simp only[aq]);omega)];rfl
 ·rw[bB h2,bO (by(try simp only[aq]);omega)];rfl
def fU {α:Type}(p:α→Bool)(l:List α):Int:=match l.findIdx? p with|some i=>(i:Int)|none=> -1
theorem fo {α:Type}{p:α→Bool}{l:List α}{k:Nat}{a:α}(h:l[k]? =some a)(hp:p a=true)(hno:∀ (j:Nat) (x:α),j<k→l[j]? =some x→p x=false):fU p l=k:=by
 have:l.findIdx? p=some k:=by
  rw[List.findIdx?_eq_some_iff_getElem]
  obtain⟨hk,hx⟩:=aZ h
  exact⟨hk,by rw[hx];exact hp,fun j hj=>by simpa using hno j _ hj (bH (by omega))⟩
 rw[fU,this]
theorem gx {α:Type}{p:α→Bool}{l:List α}(hno:∀ (j:Nat) (x:α),l[j]? =some x→p x=false):fU p l=-1:=by
 have:l.findIdx? p=none:=by
  rw[List.findIdx?_eq_none_iff]
  intro x hx
  obtain⟨j,hj⟩:=List.getElem?_of_mem hx
  exact hno j x hj
 rw[fU,this]
theorem iO {l:List AttrM}{k:Nat}{a:AttrM}(h:l[k]? =some a):(l.map dn)[k]? =some (iN a):=by rw[fZ,h];rfl
theorem Ch (g:Nat)(cg:au Tryz.prog g)(caps:List AV)(hcaps:bz caps=true)(p:AttrM→Bool)(l:List AttrM)(hl:l.length≤100000)(hf:∀a,a∈l→aj Tryz.prog g [] (iN a::caps) [] (bA (p a))):
  aj Tryz.prog 183 [] [cO l,.clo (.func g) [] caps] [] (ah (fU p l)):=by
 have hlm:(l.map dn).length=l.length:=bP ..
 refine aj.aA (rvs:=[.tmp 4]) G ak Tryz.func183 rfl Tryz.ntmps183 rfl rfl ?_;with_reducible refine wD ?_
 refine bE.use G ak (fun(k:Nat)=>[(0,cO l),(1,.clo (.func g) [] caps),(7,ah l.length),(8,ah k)]) (fun _=>[]) (fun k=>k≤l.length∧∀j x,j<k→l[j]? =some x→p x=false) (fun k=>l.length-k) 0 ⟨Nat.zero_le _,fun j x h=>by omega⟩
  ⟨⟨rfl,rfl⟩,⟨rfl,⟨rfl,trivial,cq hcaps⟩,by show(l.length:Int)=((l.map dn).length:Int);rw[hlm],rfl,trivial⟩,trivial⟩ ?_
 rintro k ⟨hk,hno⟩
 with_reducible refine wK ?_
 refine aM.mk (fun h1=>?_) (fun h1=>?_)<;>(try simp only[aq] at h1)<;>with_reducible refine wK ?_
 ·simp only[aP] at h1
  have hk':k<l.length:=by omega
  obtain⟨a,ha⟩:∃a,l[k]? =some a:=⟨_,bH hk'⟩
  refine aH.mk k (iN a) rfl (iO ha) ?_;with_reducible refine wK ?_
  refine ae.lit [] (hf a (bV ha)) cg ⟨⟨rfl,rfl,trivial⟩,cq hcaps⟩ rfl rfl ?_;with_reducible refine wK ?_
  refine aM.mk (fun h2=>?_) (fun h2=>?_)<;>(try simp only[aq] at h2)<;>with_reducible refine wK ?_
  ·(refine eK ?_ ?_<;>with_reducible repeat' (first|exact trivial|(show _∧_;refine aK ?_ ?_)))
   exact fo ha h2 hno
  ·refine nK ?_;with_reducible refine wK ?_
   refine aW.mk (k+1) ⟨by omega,fun j x hj hx=>?_⟩ (by omega) ⟨⟨rfl,rfl⟩,⟨rfl,⟨rfl,trivial,cq hcaps⟩,rfl,by show((k+1:Nat):Int)=(k:Int)+1;omega,trivial⟩,trivial⟩
   rcases Nat.lt_or_ge j k with h6|h6
   ·exact hno j x h6 hx
   ·have:j=k:=by omega
    subst this
    rw[ha] at hx;cases hx;exact h2
 ·(refine eK ?_ ?_<;>with_reducible repeat' (first|exact trivial|(show _∧_;refine aK ?_ ?_)))
  have:k=l.length:=by simp only[cj] at h1;omega
  exact gx fun j x hx=>hno j x (by have:=(aZ hx).1;omega) hx
theorem GP (g:Nat)(cg:au Tryz.prog g)(caps:List AV)(hcaps:bz caps=true)(p:AttrM→Bool)(l:List AttrM)(hl:l.length≤100000)(hf:∀a,a∈l→aj Tryz.prog g [] (iN a::caps) [] (bA (p a))):
  aj Tryz.prog 181 [] [cO l,.clo (.func g) [] caps] [] (bA (l.any p)):=by
 refine aj.aA (rvs:=[.tmp 4]) G ak Tryz.func181 rfl Tryz.ntmps181 rfl rfl ?_;with_reducible refine wD ?_
 refine ae.lit [] (Ch g cg caps hcaps p l hl hf) Lr ⟨rfl,⟨rfl,trivial,cq hcaps⟩,trivial⟩ rfl rfl ?_;with_reducible refine wK ?_
 (refine eK ?_ ?_<;>with_reducible repeat' (first|exact trivial|(show _∧_;refine aK ?_ ?_)))
 unfold fU
 cases h:l.findIdx? p with
 | none=>
   rw[List.findIdx?_eq_none_iff] at h
   have:l.any p=false:=by rw[List.any_eq_false];intro x hx;rw[h x hx];simp
   rw[this];rfl
 | some i=>
   rw[List.findIdx?_eq_some_iff_getElem] at h
   obtain⟨hi,h1,_⟩:=h
   have:l.any p=true:=List.any_eq_true.2 ⟨_,List.getElem_mem hi,h1⟩
   rw[this];exact(bO (Int.natCast_nonneg i)).symm
theorem Hh (l:List AttrM)(hl:l.length≤100000)(n:ByteArray):aj Tryz.prog 132 [] [cO l,cn n] [] (ah (fU (fun a=>decide (a.name=n)) l)):=by
 refine aj.aA (rvs:=[.tmp 4]) G ak Tryz.func132 rfl Tryz.ntmps132 rfl rfl ?_;with_reducible refine wD ?_
 refine ae.lit [30] (Ch 184 Mc [.fptr (cn n) 0] rfl (fun a=>decide (a.name=n)) l hl fun a _=>GU a n) Lr ⟨rfl,⟨rfl,trivial,⟨_,_,_,_,_,rfl,rfl,rfl,rfl,rfl,rfl⟩,trivial⟩,trivial⟩ rfl rfl ?_;with_reducible refine wK ?_
 (refine eK ?_ ?_<;>with_reducible repeat' (first|exact trivial|(show _∧_;refine aK ?_ ?_)))
def D3 (a:AttrM):Bool:=cm a.name&&decide (dQ a.name=a.name)&&decide (a.value.size≤200)
theorem HF (a:AttrM):FT a=!D3 a:=rfl
def hasName (n:ByteArray)(a:AttrM):Bool:=decide (a.name=n)
def sP (l:List AttrM)(n:ByteArray):Int:=fU (hasName n) l
def c6 (l:List AttrM):Bool:=decide (l.length≤40)&&l.all D3&&decide ((l.map AttrM.name).Nodup)
def jB (t:List (ByteArray×AttrM))(l:List AttrM):List (ByteArray×AttrM):=l.foldl (fun t a=>jS a.name a t) t
def rO (l:List AttrM):List (ByteArray×AttrM):=jB [] l
theorem yU {K α:Type}[DecidableEq K](k:K)(x:α):∀t:List (K×α),(jS k x t).length=if(jc k t).isSome then t.length else t.length+1
 |[]=>rfl
 | p::r=>by
   simp only[jS,jc]
   split
   ·simp
   ·rw[List.length_cons,yU k x r];split<;>simp
theorem ng:∀ (l:List AttrM) (t:List (ByteArray×AttrM)),(jB t l).length≤t.length+l.length∧((jB t l).length=t.length+l.length↔ (l.map AttrM.name).Nodup∧∀a∈l,(jc a.name t).isSome=false)
 |[],t=>by simp[jB]
 | a :: r,t=>by
   obtain⟨h1,h2⟩:=ng r (jS a.name a t)
   have hl:=yU a.name a t
   show(jB (jS a.name a t) r).length≤_∧((jB (jS a.name a t) r).length=_↔_)
   cases hg:(jc a.name t).isSome with
   | true=>
     rw[hg,if_pos rfl] at hl
     refine⟨by simp only[List.length_cons];omega,⟨fun h=>?_,fun h=>?_⟩⟩
     ·simp only[List.length_cons] at h;omega
     ·have:=h.2 a (by simp);rw[hg] at this;cases this
   | false=>
     rw[hg,if_neg (by simp)] at hl
     refine⟨by simp only[List.length_cons];omega,?_⟩
     rw[show(jB (jS a.name a t) r).length=t.length+ (a::r).length↔ (jB (jS a.name a t) r).length=(jS a.name a t).length+r.length from by rw[hl,List.length_cons];omega,h2]
     simp only[List.map_cons,List.nodup_cons,eB,forall_eq_or_imp]
     constructor
     ·rintro⟨k1,k2⟩
      refine⟨⟨fun hm=>?_,k1⟩,hg,fun b hb=>?_⟩
      ·obtain⟨b,hb,he⟩:=List.mem_map.1 hm
       have:=k2 b hb
       rw[qn,he,if_pos rfl] at this;cases this
      ·have:=k2 b hb
       rw[qn] at this
       split at this
       ·cases this
       ·exact this
     ·rintro⟨⟨k1,k2⟩,_,k3⟩
      refine⟨k2,fun b hb=>?_⟩
      rw[qn,if_neg (fun e=>k1 (List.mem_map.2 ⟨b,hb,e.symm⟩))]
      exact k3 b hb
theorem F7 (l:List AttrM):(rO l).length=l.length↔ (l.map AttrM.name).Nodup:=by
 have:=(ng l []).2
 simp only[List.length_nil,Nat.zero_add] at this
 exact this.trans ⟨fun h=>h.1,fun h=>⟨h,fun _ _=>rfl⟩⟩
theorem HC (l:List AttrM):(rO l).length≤l.length:=by
 have:=(ng l []).1
 simp only[List.length_nil,Nat.zero_add] at this
 exact this
theorem CY {l:List AttrM}{k:Nat}{a:AttrM}(h:l[k]? =some a):rO (l.take (k+1))=jS a.name a (rO (l.take k)):=by
 have hk:=(aZ h).1
 rw[List.take_succ_eq_append_getElem hk,(aZ h).2]
 simp[rO,jB,List.foldl_append]
@[reducible] def LJ (l : List AttrM) : MS := .live 2 (jd Value.string dn (rO l)) false
theorem lZ (t:List (ByteArray×AttrM)):bz (jd Value.string dn t)=true:=by
 rw[cT];intro x hx
 obtain⟨a,_,rfl⟩:=List.mem_map.1 hx
 rfl
theorem IW:kG Tryz.prog 224 .string (.agg #[.string ByteArray.empty,.string ByteArray.empty]):=⟨9,90,by kernel_rfl,by kernel_rfl,fun w=>Tryz.zeroValue90 w⟩
theorem GM (l:List AttrM)(hl:l.length≤100000):aj Tryz.prog 182 [] [cO l] [LJ l] (.mapr 0):=by
 have hlm:(l.map dn).length=l.length:=bP ..
 refine aj.aA (rvs:=[.tmp 2]) G ak Tryz.func182 rfl Tryz.ntmps182 rfl rfl ?_;with_reducible refine wD ?_
 refine bE.use G ak (fun(k:Nat)=>[(3,.mapr 61),(7,cO l),(8,ah l.length),(9,ah k)]) (fun k=>[(61,.live 2 (jd Value.string dn (rO (l.take k))) false)]) (fun k=>k≤l.length) (fun k=>l.length-k) 0 (Nat.zero_le _)
  ⟨⟨rfl,rfl⟩,⟨trivial,rfl,by show(l.length:Int)=((l.map dn).length:Int);rw[hlm],rfl,trivial⟩,⟨.refl rfl,rfl⟩,trivial⟩ ?_
 intro k hk
 with_reducible refine wK ?_
 refine aM.mk (fun h1=>?_) (fun h1=>?_)<;>(try simp only[aq] at h1)<;>with_reducible refine wK ?_
 ·simp only[aP] at h1
  have hk':k<l.length:=by omega
  obtain⟨a,ha⟩:∃a,l[k]? =some a:=⟨_,bH hk'⟩
  obtain⟨n,v⟩:=a
  refine aH.mk k (iN ⟨n,v⟩) rfl (iO ha) ?_;with_reducible refine wK ?_
  have hle:(rO (l.take k)).length≤k:=Nat.le_trans (HC _) (by simp;omega)
  refine wW.tab Value.string dn (rO (l.take k)) (k:=n) ⟨n,v⟩ IW rfl GG GI (by unfold maxLen;omega) rfl ?_;with_reducible refine wK ?_
  refine nK ?_;with_reducible refine wK ?_
  refine aW.mk (k+1) (by omega) (by omega) ⟨⟨rfl,rfl⟩,⟨trivial,rfl,rfl,by show((k+1:Nat):Int)=(k:Int)+1;omega,trivial⟩,⟨?_,?_⟩,trivial⟩
  ·rw[CY ha];exact .refl (lZ _)
  ·exact lZ _
 ·(refine eK ?_ ?_<;>with_reducible repeat' (first|exact trivial|(show _∧_;refine aK ?_ ?_)))
  have:k=l.length:=by simp only[cj] at h1;omega
  rw[this,List.take_length]
  exact cq (lZ _)
theorem aj.Nr {P:Program}{f g:FuncId}{a:AV}{outs:List MS}{res:AV}(h:aj P f [] [a,.clo (.func g) [] []] outs res):aj P f [] [a,.lit (.func (.func g) #[] #[])] outs res:=by
 intro w W0 L vs hL hs hr
 refine h w W0 L vs hL hs ⟨hr.1,fun j c v h1 h2=>?_⟩
 match j with
 |0=>exact hr.2 0 c v h1 h2
 | 1=>
   have:=hr.2 1 _ v rfl h2
   cases this
   simp at h1
   subst h1
   exact cH.clo (va:=[]) (vb:=[]) rfl rfl (fun j c v h=>by simp at h) (fun j c v h=>by simp at h)
 |j+2=>simp at h1
theorem vA (l:List AttrM):l.any FT=!l.all D3:=by
 induction l with
 |nil=>rfl
 |cons a r ih=>simp[List.any_cons,List.all_cons,ih,HF]
theorem E7 (l:List AttrM):jT [LJ l]:=by
 refine⟨bS.jj fun r hr=>?_,lZ _,trivial⟩
 obtain⟨p,_,rfl⟩:=List.mem_map.1 hr
 rfl
theorem A6 (l:List AttrM):bS 2 (l.map dn):=bS.jj fun r hr=>by
 obtain⟨a,_,rfl⟩:=List.mem_map.1 hr
 rfl
theorem AT (l:List AttrM):jT [F2 l]:=⟨A6 l,kD l,trivial⟩
theorem B7 (l:List AttrM)(hl:l.length≤100000):aj Tryz.prog 131 [] [cO l] [] (bA (c6 l)):=by
 have hlm:(l.map dn).length=l.length:=bP ..
 refine aj.aA (rvs:=[.tmp 2]) G ak Tryz.func131 rfl Tryz.ntmps131 rfl rfl ?_;with_reducible refine wD ?_
 repeat' (first
  |refine aE ?_ ?_
  |((with_reducible show aM _ _ _ _);first|refine iK ?_|(refine aM.mk (fun _=>?_) (fun _=>?_)<;>with_reducible refine wK ?_))
  |((with_reducible refine kQ 181 ?_);refine ae.lit [] (aj.Nr (GP 180 Mq [] rfl FT l hl fun a _=>G3 a)) MJ ⟨rfl,jt 12 _ rfl,trivial⟩ rfl rfl ?_;with_reducible refine wK ?_)
  |((with_reducible refine kQ 182 ?_);refine ae.new 151 [] (GM l hl) MN ⟨rfl,trivial⟩ rfl rfl rfl (E7 l) rfl ?_;with_reducible refine wK ?_)
  |((with_reducible show qQ _ _ _ _ _ _ _);refine qQ.mk IW ⟨_,_,rfl⟩ rfl ?_;with_reducible refine wK ?_)
  |apply trivial)
 ·have h2:l.all D3=true:=by have:=vA l;simp_all
  have e:(jd Value.string dn (rO l)).length=(rO l).length:=bP ..
  have h3:l.length≤40:=by simp only[hlm,aP] at*;omega
  have h4:=F7 l
  unfold c6
  rw[h2,bO h3,e,hlm]
  by_cases hn:(l.map AttrM.name).Nodup
  ·rw[bO hn,h4.2 hn];simp
  ·rw[bB hn]
   have:¬ (rO l).length=l.length:=fun h=>hn (h4.1 h)
   rw[bB (by(try simp only[aq]);omega)];rfl
 ·have h2:l.all D3=false:=by have:=vA l;simp_all
  unfold c6;rw[h2];simp
 ·have h2:decide (l.length≤40)=false:=by simp only[hlm,cj] at*;omega
  unfold c6;rw[h2];simp
end Go.Proofs.Heir
