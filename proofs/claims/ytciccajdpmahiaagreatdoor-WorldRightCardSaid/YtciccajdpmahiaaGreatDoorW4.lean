/- Models, plain laws and contracts of functions of the given program; conditions as stated in each theorem. By an AI agent. -/
import Derived.Test.YtciccajdpmahiaaGreatDoorW3
import Derived.Test.YtciccajdpmahiaaGreatDoorChecked
import Derived.Test.YtciccajdpmahiaaGreatDoorW2
import Derived.Shelf.GgClosure.StringsIndexFunc
import Derived.Deep.LoopGhost
import Derived.WalkKit
import Derived.Laws.IdiomStrings
import Derived.IntWalk
import Derived.Outline
import Derived.Lib.Hide
import Derived.Lib.MapLaws
import Derived.Shelf.Strings.Search1
import Derived.Shelf.Strings.Search2
import Derived.Shelf.Strings.Search3
import Derived.Shelf.LaysM
import Derived.Shelf.Strings.Shaped
import Derived.Shelf.Strings.Fields
set_option linter.unusedSimpArgs false
set_option linter.unusedVariables false
namespace Go.Proofs.Heir
open Go.Am
set_option maxRecDepth 100000
@[reducible] def G : cT := [(1, .sc .nilFunc), (2, .sc (.int .i64 0)), (3, .sc (.int .i64 0)), (4, .bl), (5, .sc (.int .u8 0)), (9, .str), (12, .sc (.int .u64 0)), (15, .sc (.pointer none)), (16, .sc (.pointer none)), (17, .sc (.pointer none)), (20, .sc .nilIface), (21, .sc (.int .i32 0)), (22, .sl 80 10 136), (24, .st 2 [(0, 22), (1, 3)] (Array.mk [(.slice none 0 0), (.int .i64 0)]) [1, 1]), (25, .sl 75 4 32), (26, .sl 95 3 40), (27, .sl 162 2 24), (29, .st 4 [(0, 26), (1, 27), (2, 3), (3, 4)] (Array.mk [(.slice none 0 0), (.slice none 0 0), (.int .i64 0), (.bool false)]) [1, 1, 1, 1]), (30, .sl 77 1 24), (31, .sl 32 1 24), (32, .sl 3 1 8), (34, .st 4 [(0, 30), (1, 31), (2, 32), (3, 4)] (Array.mk [(.slice none 0 0), (.slice none 0 0), (.slice none 0 0), (.bool false)]) [1, 1, 1, 1]), (35, .sl 73 3 24), (36, .sl 92 2 16), (37, .sl 53 5 104), (39, .st 14 [(0, 24), (2, 25), (3, 29), (7, 34), (11, 35), (12, 36), (13, 37)] (Array.mk [(.slice none 0 0), (.int .i64 0), (.slice none 0 0), (.slice none 0 0), (.slice none 0 0), (.int .i64 0), (.bool false), (.slice none 0 0), (.slice none 0 0), (.slice none 0 0), (.bool false), (.slice none 0 0), (.slice none 0 0), (.slice none 0 0)]) [2, 1, 4, 4, 1, 1, 1]), (40, .sl 218 9 88), (41, .sl 61 11 104), (42, .sc .nilFunc), (43, .sc .nilFunc), (44, .sc .nilFunc), (45, .sc .nilFunc), (46, .sc .nilFunc), (47, .sc .nilFunc), (48, .sc .nilFunc), (49, .sl 9 1 16), (50, .sl 274 7 72), (51, .sl 138 2 32), (53, .st 5 [(0, 4), (1, 49), (2, 50), (3, 50), (4, 51)] (Array.mk [(.bool false), (.slice none 0 0), (.slice none 0 0), (.slice none 0 0), (.slice none 0 0)]) [1, 1, 1, 1, 1]), (54, .sc (.int .i64 0)), (56, .sc .nilFunc), (57, .sc .nilFunc), (59, .st 10 [(0, 3), (1, 3), (2, 9), (3, 4), (4, 4), (5, 9), (6, 9), (7, 3), (8, 3), (9, 4)] (Array.mk [(.int .i64 0), (.int .i64 0), (.string ByteArray.empty), (.bool false), (.bool false), (.string ByteArray.empty), (.string ByteArray.empty), (.int .i64 0), (.int .i64 0), (.bool false)]) [1, 1, 1, 1, 1, 1, 1, 1, 1, 1]), (61, .st 11 [(0, 3), (1, 59)] (Array.mk [(.int .i64 0), (.int .i64 0), (.int .i64 0), (.string ByteArray.empty), (.bool false), (.bool false), (.string ByteArray.empty), (.string ByteArray.empty), (.int .i64 0), (.int .i64 0), (.bool false)]) [1, 10]), (62, .sc .nilFunc), (63, .sc .nilFunc), (64, .sc .nilFunc), (65, .sc .nilFunc), (66, .sc .nilFunc), (67, .sc .nilFunc), (68, .sc .nilFunc), (69, .sc .nilFunc), (70, .sc .nilFunc), (71, .sc .nilFunc), (73, .st 3 [(0, 3), (1, 3), (2, 3)] (Array.mk [(.int .i64 0), (.int .i64 0), (.int .i64 0)]) [1, 1, 1]), (75, .st 4 [(0, 3), (1, 3), (2, 3), (3, 4)] (Array.mk [(.int .i64 0), (.int .i64 0), (.int .i64 0), (.bool false)]) [1, 1, 1, 1]), (76, .sc .nilFunc), (77, .sl 59 10 96), (78, .sl 179 2 32), (80, .st 10 [(0, 3), (1, 9), (2, 9), (3, 9), (4, 78), (5, 3), (6, 32), (7, 3), (8, 3), (9, 3)] (Array.mk [(.int .i64 0), (.string ByteArray.empty), (.string ByteArray.empty), (.string ByteArray.empty), (.slice none 0 0), (.int .i64 0), (.slice none 0 0), (.int .i64 0), (.int .i64 0), (.int .i64 0)]) [1, 1, 1, 1, 1, 1, 1, 1, 1, 1]), (81, .sc .nilFunc), (82, .sc .nilFunc), (83, .sc .nilFunc), (84, .sc .nilFunc), (85, .sc .nilFunc), (86, .sc .nilFunc), (88, .sc .nilFunc), (89, .sc .nilFunc), (90, .sc .nilFunc), (92, .st 2 [(0, 3), (1, 3)] (Array.mk [(.int .i64 0), (.int .i64 0)]) [1, 1]), (93, .sc .nilFunc), (95, .st 3 [(0, 9), (1, 9), (2, 3)] (Array.mk [(.string ByteArray.empty), (.string ByteArray.empty), (.int .i64 0)]) [1, 1, 1]), (97, .sc .nilFunc), (98, .sc .nilFunc), (99, .sc .nilFunc), (100, .sl 5 1 1), (101, .sc .nilFunc), (102, .sc .nilFunc), (103, .sc .nilFunc), (105, .sc .nilFunc), (106, .sc .nilFunc), (107, .sc .nilFunc), (108, .sc .nilFunc), (109, .sc .nilFunc), (110, .sc .nilFunc), (111, .sc .nilFunc), (112, .sc .nilFunc), (114, .st 17 [(0, 39), (14, 3), (15, 4), (16, 3)] (Array.mk [(.slice none 0 0), (.int .i64 0), (.slice none 0 0), (.slice none 0 0), (.slice none 0 0), (.int .i64 0), (.bool false), (.slice none 0 0), (.slice none 0 0), (.slice none 0 0), (.bool false), (.slice none 0 0), (.slice none 0 0), (.slice none 0 0), (.int .i64 0), (.bool false), (.int .i64 0)]) [14, 1, 1, 1]), (115, .sc .nilFunc), (117, .sc .nilFunc), (118, .sc .nilFunc), (119, .sc .nilFunc), (120, .sc .nilFunc), (121, .sc .nilFunc), (122, .sc .nilFunc), (124, .sc .nilFunc), (125, .sc .nilFunc), (126, .sc .nilFunc), (127, .sc .nilFunc), (128, .sc .nilFunc), (130, .st 14 [(0, 39)] (Array.mk [(.slice none 0 0), (.int .i64 0), (.slice none 0 0), (.slice none 0 0), (.slice none 0 0), (.int .i64 0), (.bool false), (.slice none 0 0), (.slice none 0 0), (.slice none 0 0), (.bool false), (.slice none 0 0), (.slice none 0 0), (.slice none 0 0)]) [14]), (131, .sc .nilFunc), (132, .sc .nilFunc), (133, .sc .nilFunc), (135, .sc .nilFunc), (136, .sc .nilFunc), (138, .st 2 [(0, 3), (1, 50)] (Array.mk [(.int .i64 0), (.slice none 0 0)]) [1, 1]), (139, .sc .nilFunc), (140, .sc .nilFunc), (141, .sc .nilFunc), (142, .sc .nilFunc), (143, .sc .nilFunc), (145, .sc .nilFunc), (146, .sc .nilFunc), (147, .sc .nilFunc), (148, .sc .nilFunc), (149, .sc .nilFunc), (150, .sc .nilFunc), (151, .sc .nilFunc), (152, .sc .nilFunc), (153, .sc .nilFunc), (155, .sc .nilFunc), (156, .sc .nilFunc), (157, .sc .nilFunc), (159, .sc .nilFunc), (160, .sc .nilFunc), (162, .st 2 [(0, 9), (1, 3)] (Array.mk [(.string ByteArray.empty), (.int .i64 0)]) [1, 1]), (163, .sc .nilFunc), (164, .sc .nilFunc), (165, .sc .nilFunc), (166, .sc (.pointer none)), (168, .sc .nilFunc), (169, .sc .nilFunc), (170, .st 14 [(0, 39)] (Array.mk [(.slice none 0 0), (.int .i64 0), (.slice none 0 0), (.slice none 0 0), (.slice none 0 0), (.int .i64 0), (.bool false), (.slice none 0 0), (.slice none 0 0), (.slice none 0 0), (.bool false), (.slice none 0 0), (.slice none 0 0), (.slice none 0 0)]) [14]), (171, .sc .nilFunc), (173, .st 8 [(0, 24), (2, 25), (3, 29), (7, 37)] (Array.mk [(.slice none 0 0), (.int .i64 0), (.slice none 0 0), (.slice none 0 0), (.slice none 0 0), (.int .i64 0), (.bool false), (.slice none 0 0)]) [2, 1, 4, 1]), (175, .sc .nilFunc), (177, .sc .nilFunc), (179, .st 2 [(0, 9), (1, 9)] (Array.mk [(.string ByteArray.empty), (.string ByteArray.empty)]) [1, 1]), (180, .sc .nilFunc), (181, .sc .nilFunc), (182, .sc .nilFunc), (183, .sc (.map none)), (184, .sc (.map none)), (186, .st 2 [(0, 183), (1, 184)] (Array.mk [(.map none), (.map none)]) [1, 1]), (188, .sc .nilFunc), (190, .sc .nilFunc), (191, .sc .nilFunc), (192, .sc .nilFunc), (193, .sc .nilFunc), (195, .sc .nilFunc), (196, .sc .nilFunc), (197, .sc .nilFunc), (198, .sc .nilFunc), (200, .st 2 [(0, 24)] (Array.mk [(.slice none 0 0), (.int .i64 0)]) [2]), (201, .sc .nilFunc), (202, .sc .nilFunc), (203, .sc .nilFunc), (204, .sc .nilFunc), (205, .sc .nilFunc), (206, .sc .nilFunc), (207, .sc .nilFunc), (208, .sc .nilFunc), (209, .sc .nilFunc), (210, .sc .nilFunc), (211, .sc .nilFunc), (212, .sc (.pointer none)), (213, .sc .nilFunc), (215, .sc .nilFunc), (216, .sc .nilFunc), (218, .st 9 [(0, 3), (1, 3), (2, 3), (3, 3), (4, 9), (5, 4), (6, 4), (7, 9), (8, 9)] (Array.mk [(.int .i64 0), (.int .i64 0), (.int .i64 0), (.int .i64 0), (.string ByteArray.empty), (.bool false), (.bool false), (.string ByteArray.empty), (.string ByteArray.empty)]) [1, 1, 1, 1, 1, 1, 1, 1, 1]), (220, .sc .nilFunc), (221, .sc (.pointer none)), (223, .sc .nilFunc), (225, .st 9 [(0, 24), (2, 25), (3, 29), (7, 37), (8, 41)] (Array.mk [(.slice none 0 0), (.int .i64 0), (.slice none 0 0), (.slice none 0 0), (.slice none 0 0), (.int .i64 0), (.bool false), (.slice none 0 0), (.slice none 0 0)]) [2, 1, 4, 1, 1]), (226, .sc .nilFunc), (227, .sc .nilFunc), (228, .sc (.pointer none)), (229, .sc .nilFunc), (230, .sc .nilFunc), (231, .sc .nilFunc), (232, .sc .nilFunc), (233, .sc .nilFunc), (234, .sc .nilFunc), (235, .sc .nilFunc), (236, .sc .nilFunc), (237, .sc .nilFunc), (238, .sc .nilFunc), (239, .sc .nilFunc), (240, .sc .nilFunc), (242, .sc (.map none)), (243, .sc .nilFunc), (244, .sc .nilFunc), (245, .sc .nilFunc), (246, .sc .nilFunc), (248, .sc .nilFunc), (249, .sc .nilFunc), (250, .sc .nilFunc), (251, .sc .nilFunc), (252, .sc .nilFunc), (253, .sc .nilFunc), (254, .sc .nilFunc), (255, .sc .nilFunc), (256, .sc .nilFunc), (257, .sc .nilFunc), (258, .sc .nilFunc), (259, .sc .nilFunc), (260, .sc .nilFunc), (261, .sc .nilFunc), (262, .sc .nilFunc), (263, .sc (.map none)), (265, .st 3 [(0, 24), (2, 263)] (Array.mk [(.slice none 0 0), (.int .i64 0), (.map none)]) [2, 1]), (266, .sc .nilFunc), (267, .sc .nilFunc), (269, .sc .nilFunc), (270, .sc .nilFunc), (271, .sc .nilFunc), (272, .sc .nilFunc), (274, .st 7 [(0, 3), (1, 3), (2, 3), (3, 3), (4, 9), (5, 9), (6, 4)] (Array.mk [(.int .i64 0), (.int .i64 0), (.int .i64 0), (.int .i64 0), (.string ByteArray.empty), (.string ByteArray.empty), (.bool false)]) [1, 1, 1, 1, 1, 1, 1]), (275, .sc .nilFunc), (276, .sc .nilFunc), (277, .sc .nilFunc), (278, .sc .nilFunc), (279, .sc .nilFunc), (280, .sc .nilFunc), (281, .sc .nilFunc), (282, .sc .nilFunc), (283, .sc .nilFunc), (284, .sc (.map none)), (285, .sc .nilFunc), (286, .sc .nilFunc), (287, .sc .nilFunc), (288, .sc .nilFunc), (289, .sc .nilFunc), (290, .sc .nilFunc), (291, .sc .nilFunc), (292, .sc .nilFunc), (293, .sc .nilFunc), (295, .sc .nilFunc), (297, .sc .nilFunc), (298, .sc .nilFunc), (299, .sc (.int .u64 0)), (300, .sc .nilFunc), (301, .sc .nilFunc), (302, .sc .nilFunc), (303, .sc .nilFunc), (304, .sc (.int .u32 0)), (306, .sc .nilFunc), (308, .sc .nilFunc), (309, .sl 311 2 16), (311, .st 2 [(0, 3), (1, 3)] (Array.mk [(.int .i64 0), (.int .i64 0)]) [1, 1]), (312, .sc .nilFunc), (313, .sc (.pointer none)), (314, .sl 320 3 6), (315, .sl 323 3 12), (317, .st 3 [(0, 314), (1, 315), (2, 3)] (Array.mk [(.slice none 0 0), (.slice none 0 0), (.int .i64 0)]) [1, 1, 1]), (318, .sc (.int .u16 0)), (320, .st 3 [(0, 318), (1, 318), (2, 318)] (Array.mk [(.int .u16 0), (.int .u16 0), (.int .u16 0)]) [1, 1, 1]), (321, .sc .nilFunc), (323, .st 3 [(0, 304), (1, 304), (2, 304)] (Array.mk [(.int .u32 0), (.int .u32 0), (.int .u32 0)]) [1, 1, 1]), (324, .sc .nilFunc), (325, .sc (.pointer none)), (326, .sc (.pointer none)), (327, .sc .nilFunc), (333, .sc .nilFunc), (336, .sc .nilFunc), (337, .sc (.pointer none))]
theorem aa:G.Good Tryz.prog:=fS<|fS<|fS<|fB<|fS<|fG<|fS<|fS<|fS<|fS<|fS<|fS<|fL<|fT Tryz.underlying24<|fL<|fL<|fL<|fT Tryz.underlying29<|fL<|fL<|fL<|fT Tryz.underlying34<|fL<|fL<|fL<|fT Tryz.underlying39<|fL<|fL<|fS<|fS<|fS<|fS<|fS<|fS<|fS<|fL<|fL<|fL<|fT Tryz.underlying53<|fS<|fS<|fS<|fT Tryz.underlying59<|fT Tryz.underlying61<|fS<|fS<|fS<|fS<|fS<|fS<|fS<|fS<|fS<|fS<|fT Tryz.underlying73<|fT Tryz.underlying75<|fS<|fL<|fL<|fT Tryz.underlying80<|fS<|fS<|fS<|fS<|fS<|fS<|fS<|fS<|fS<|fT Tryz.underlying92<|fS<|fT Tryz.underlying95<|fS<|fS<|fS<|fL<|fS<|fS<|fS<|fS<|fS<|fS<|fS<|fS<|fS<|fS<|fS<|fT Tryz.underlying114<|fS<|fS<|fS<|fS<|fS<|fS<|fS<|fS<|fS<|fS<|fS<|fS<|fT Tryz.underlying130<|fS<|fS<|fS<|fS<|fS<|fT Tryz.underlying138<|fS<|fS<|fS<|fS<|fS<|fS<|fS<|fS<|fS<|fS<|fS<|fS<|fS<|fS<|fS<|fS<|fS<|fS<|fS<|fT Tryz.underlying162<|fS<|fS<|fS<|fS<|fS<|fS<|fT Tryz.underlying170<|fS<|fT Tryz.underlying173<|fS<|fS<|fT Tryz.underlying179<|fS<|fS<|fS<|fS<|fS<|fT Tryz.underlying186<|fS<|fS<|fS<|fS<|fS<|fS<|fS<|fS<|fS<|fT Tryz.underlying200<|fS<|fS<|fS<|fS<|fS<|fS<|fS<|fS<|fS<|fS<|fS<|fS<|fS<|fS<|fS<|fT Tryz.underlying218<|fS<|fS<|fS<|fT Tryz.underlying225<|fS<|fS<|fS<|fS<|fS<|fS<|fS<|fS<|fS<|fS<|fS<|fS<|fS<|fS<|fS<|fS<|fS<|fS<|fS<|fS<|fS<|fS<|fS<|fS<|fS<|fS<|fS<|fS<|fS<|fS<|fS<|fS<|fS<|fS<|fS<|fS<|fT Tryz.underlying265<|fS<|fS<|fS<|fS<|fS<|fS<|fT Tryz.underlying274<|fS<|fS<|fS<|fS<|fS<|fS<|fS<|fS<|fS<|fS<|fS<|fS<|fS<|fS<|fS<|fS<|fS<|fS<|fS<|fS<|fS<|fS<|fS<|fS<|fS<|fS<|fS<|fS<|fS<|fS<|fL<|fT Tryz.underlying311<|fS<|fS<|fL<|fL<|fT Tryz.underlying317<|fS<|fT Tryz.underlying320<|fS<|fT Tryz.underlying323<|fS<|fS<|fS<|fS<|fS<|fS<|fS<|fN
theorem c3:ae Tryz.prog 3:=fun _ _=>by kernel_rfl
theorem c4:ae Tryz.prog 4:=fun _ _=>by kernel_rfl
theorem c5:ae Tryz.prog 5:=fun _ _=>by kernel_rfl
theorem c6:ae Tryz.prog 6:=fun _ _=>by kernel_rfl
theorem c7:ae Tryz.prog 7:=fun _ _=>by kernel_rfl
theorem c8:ae Tryz.prog 8:=fun _ _=>by kernel_rfl
theorem c9:ae Tryz.prog 9:=fun _ _=>by kernel_rfl
theorem Qv:ae Tryz.prog 10:=fun _ _=>by kernel_rfl
theorem Pa:ae Tryz.prog 15:=fun _ _=>by kernel_rfl
theorem O8:ae Tryz.prog 16:=fun _ _=>by kernel_rfl
theorem Lp:ae Tryz.prog 17:=fun _ _=>by kernel_rfl
theorem S0:ae Tryz.prog 18:=fun _ _=>by kernel_rfl
theorem QD:ae Tryz.prog 19:=fun _ _=>by kernel_rfl
theorem QB:ae Tryz.prog 20:=fun _ _=>by kernel_rfl
theorem SH:ae Tryz.prog 21:=fun _ _=>by kernel_rfl
theorem O6:ae Tryz.prog 22:=fun _ _=>by kernel_rfl
theorem Bc:ae Tryz.prog 23:=fun _ _=>by kernel_rfl
theorem Sv:ae Tryz.prog 24:=fun _ _=>by kernel_rfl
theorem SQ:ae Tryz.prog 25:=fun _ _=>by kernel_rfl
theorem Sg:ae Tryz.prog 26:=fun _ _=>by kernel_rfl
theorem RP:ae Tryz.prog 27:=fun _ _=>by kernel_rfl
theorem PD:ae Tryz.prog 28:=fun _ _=>by kernel_rfl
theorem Tg:ae Tryz.prog 29:=fun _ _=>by kernel_rfl
theorem Rb:ae Tryz.prog 30:=fun _ _=>by kernel_rfl
theorem J0:ae Tryz.prog 31:=fun _ _=>by kernel_rfl
theorem Pe:ae Tryz.prog 32:=fun _ _=>by kernel_rfl
theorem Nh:ae Tryz.prog 33:=fun _ _=>by kernel_rfl
theorem GZ:ae Tryz.prog 34:=fun _ _=>by kernel_rfl
theorem O3:ae Tryz.prog 35:=fun _ _=>by kernel_rfl
theorem S6:ae Tryz.prog 36:=fun _ _=>by kernel_rfl
theorem Tn:ae Tryz.prog 37:=fun _ _=>by kernel_rfl
theorem Tu:ae Tryz.prog 38:=fun _ _=>by kernel_rfl
theorem Th:ae Tryz.prog 39:=fun _ _=>by kernel_rfl
theorem TC:ae Tryz.prog 41:=fun _ _=>by kernel_rfl
theorem S7:ae Tryz.prog 42:=fun _ _=>by kernel_rfl
theorem Tz:ae Tryz.prog 43:=fun _ _=>by kernel_rfl
theorem QW:ae Tryz.prog 44:=fun _ _=>by kernel_rfl
theorem Rq:ae Tryz.prog 45:=fun _ _=>by kernel_rfl
theorem Rr:ae Tryz.prog 53:=fun _ _=>by kernel_rfl
theorem SN:ae Tryz.prog 58:=fun _ _=>by kernel_rfl
theorem S9:ae Tryz.prog 59:=fun _ _=>by kernel_rfl
theorem Te:ae Tryz.prog 67:=fun _ _=>by kernel_rfl
theorem S5:ae Tryz.prog 68:=fun _ _=>by kernel_rfl
theorem SP:ae Tryz.prog 69:=fun _ _=>by kernel_rfl
theorem SV:ae Tryz.prog 70:=fun _ _=>by kernel_rfl
theorem To:ae Tryz.prog 71:=fun _ _=>by kernel_rfl
theorem PU:ae Tryz.prog 72:=fun _ _=>by kernel_rfl
theorem SW:ae Tryz.prog 73:=fun _ _=>by kernel_rfl
theorem zT:ae Tryz.prog 74:=fun _ _=>by kernel_rfl
theorem TE:ae Tryz.prog 76:=fun _ _=>by kernel_rfl
theorem SD:ae Tryz.prog 77:=fun _ _=>by kernel_rfl
theorem Tp:ae Tryz.prog 78:=fun _ _=>by kernel_rfl
theorem RV:ae Tryz.prog 79:=fun _ _=>by kernel_rfl
theorem Tx:ae Tryz.prog 80:=fun _ _=>by kernel_rfl
theorem JQ:ae Tryz.prog 81:=fun _ _=>by kernel_rfl
theorem Ti:ae Tryz.prog 82:=fun _ _=>by kernel_rfl
theorem R8:ae Tryz.prog 83:=fun _ _=>by kernel_rfl
theorem Rc:ae Tryz.prog 84:=fun _ _=>by kernel_rfl
theorem Tj:ae Tryz.prog 85:=fun _ _=>by kernel_rfl
theorem NG:ae Tryz.prog 86:=fun _ _=>by kernel_rfl
theorem P0:ae Tryz.prog 87:=fun _ _=>by kernel_rfl
theorem SS:ae Tryz.prog 88:=fun _ _=>by kernel_rfl
theorem Sz:ae Tryz.prog 89:=fun _ _=>by kernel_rfl
theorem Sh:ae Tryz.prog 90:=fun _ _=>by kernel_rfl
theorem S1:ae Tryz.prog 91:=fun _ _=>by kernel_rfl
theorem Tt:ae Tryz.prog 92:=fun _ _=>by kernel_rfl
theorem S4:ae Tryz.prog 93:=fun _ _=>by kernel_rfl
theorem TB:ae Tryz.prog 94:=fun _ _=>by kernel_rfl
theorem SY:ae Tryz.prog 97:=fun _ _=>by kernel_rfl
theorem SI:ae Tryz.prog 99:=fun _ _=>by kernel_rfl
theorem mQ:ae Tryz.prog 100:=fun _ _=>by kernel_rfl
theorem Pv:ae Tryz.prog 102:=fun _ _=>by kernel_rfl
theorem Q9:ae Tryz.prog 103:=fun _ _=>by kernel_rfl
theorem RE:ae Tryz.prog 104:=fun _ _=>by kernel_rfl
theorem Sc:ae Tryz.prog 105:=fun _ _=>by kernel_rfl
theorem RJ:ae Tryz.prog 106:=fun _ _=>by kernel_rfl
theorem RM:ae Tryz.prog 107:=fun _ _=>by kernel_rfl
theorem Rg:ae Tryz.prog 108:=fun _ _=>by kernel_rfl
theorem qe:ae Tryz.prog 109:=fun _ _=>by kernel_rfl
theorem Rx:ae Tryz.prog 110:=fun _ _=>by kernel_rfl
theorem R3:ae Tryz.prog 111:=fun _ _=>by kernel_rfl
theorem Qt:ae Tryz.prog 115:=fun _ _=>by kernel_rfl
theorem PW:ae Tryz.prog 117:=fun _ _=>by kernel_rfl
theorem Pp:ae Tryz.prog 118:=fun _ _=>by kernel_rfl
theorem AR:ae Tryz.prog 119:=fun _ _=>by kernel_rfl
theorem NW:ae Tryz.prog 120:=fun _ _=>by kernel_rfl
theorem Qr:ae Tryz.prog 122:=fun _ _=>by kernel_rfl
theorem QT:ae Tryz.prog 125:=fun _ _=>by kernel_rfl
theorem Sj:ae Tryz.prog 126:=fun _ _=>by kernel_rfl
theorem J1:ae Tryz.prog 130:=fun _ _=>by kernel_rfl
theorem nI:ae Tryz.prog 134:=fun _ _=>by kernel_rfl
theorem F9:ae Tryz.prog 135:=fun _ _=>by kernel_rfl
theorem Lh:ae Tryz.prog 136:=fun _ _=>by kernel_rfl
theorem xI:ae Tryz.prog 138:=fun _ _=>by kernel_rfl
theorem Su:ae Tryz.prog 140:=fun _ _=>by kernel_rfl
theorem GC:ae Tryz.prog 141:=fun _ _=>by kernel_rfl
theorem xn:ae Tryz.prog 142:=fun _ _=>by kernel_rfl
theorem HR:ae Tryz.prog 144:=fun _ _=>by kernel_rfl
theorem Fl:ae Tryz.prog 145:=fun _ _=>by kernel_rfl
theorem Pr:ae Tryz.prog 147:=fun _ _=>by kernel_rfl
theorem Sd:ae Tryz.prog 149:=fun _ _=>by kernel_rfl
theorem QK:ae Tryz.prog 152:=fun _ _=>by kernel_rfl
theorem Pk:ae Tryz.prog 155:=fun _ _=>by kernel_rfl
theorem Si:ae Tryz.prog 156:=fun _ _=>by kernel_rfl
theorem Rt:ae Tryz.prog 157:=fun _ _=>by kernel_rfl
theorem RS:ae Tryz.prog 158:=fun _ _=>by kernel_rfl
theorem OF:ae Tryz.prog 159:=fun _ _=>by kernel_rfl
theorem Sy:ae Tryz.prog 160:=fun _ _=>by kernel_rfl
theorem SC:ae Tryz.prog 161:=fun _ _=>by kernel_rfl
theorem Q5:ae Tryz.prog 163:=fun _ _=>by kernel_rfl
theorem Rv:ae Tryz.prog 164:=fun _ _=>by kernel_rfl
theorem PO:ae Tryz.prog 165:=fun _ _=>by kernel_rfl
theorem Rl:ae Tryz.prog 166:=fun _ _=>by kernel_rfl
theorem PG:ae Tryz.prog 168:=fun _ _=>by kernel_rfl
theorem R1:ae Tryz.prog 169:=fun _ _=>by kernel_rfl
theorem Gt:ae Tryz.prog 172:=fun _ _=>by kernel_rfl
theorem Ss:ae Tryz.prog 173:=fun _ _=>by kernel_rfl
theorem SG:ae Tryz.prog 174:=fun _ _=>by kernel_rfl
theorem Pz:ae Tryz.prog 175:=fun _ _=>by kernel_rfl
theorem RT:ae Tryz.prog 176:=fun _ _=>by kernel_rfl
theorem Rw:ae Tryz.prog 177:=fun _ _=>by kernel_rfl
theorem DL:ae Tryz.prog 178:=fun _ _=>by kernel_rfl
theorem AA:ae Tryz.prog 179:=fun _ _=>by kernel_rfl
theorem Ox:ae Tryz.prog 180:=fun _ _=>by kernel_rfl
theorem PY:ae Tryz.prog 181:=fun _ _=>by kernel_rfl
theorem Om:ae Tryz.prog 182:=fun _ _=>by kernel_rfl
theorem Sm:ae Tryz.prog 183:=fun _ _=>by kernel_rfl
theorem Pj:ae Tryz.prog 184:=fun _ _=>by kernel_rfl
theorem QU:ae Tryz.prog 185:=fun _ _=>by kernel_rfl
theorem QV:ae Tryz.prog 186:=fun _ _=>by kernel_rfl
theorem Sw:ae Tryz.prog 187:=fun _ _=>by kernel_rfl
theorem P4:ae Tryz.prog 188:=fun _ _=>by kernel_rfl
theorem Q7:ae Tryz.prog 190:=fun _ _=>by kernel_rfl
theorem Rh:ae Tryz.prog 192:=fun _ _=>by kernel_rfl
theorem qd:ae Tryz.prog 193:=fun _ _=>by kernel_rfl
theorem Pw:ae Tryz.prog 194:=fun _ _=>by kernel_rfl
theorem Qo:ae Tryz.prog 195:=fun _ _=>by kernel_rfl
theorem PC:ae Tryz.prog 197:=fun _ _=>by kernel_rfl
theorem OT:ae Tryz.prog 203:=fun _ _=>by kernel_rfl
theorem QX:ae Tryz.prog 207:=fun _ _=>by kernel_rfl
theorem R9:ae Tryz.prog 208:=fun _ _=>by kernel_rfl
theorem Qm:ae Tryz.prog 209:=fun _ _=>by kernel_rfl
theorem Il:ae Tryz.prog 210:=fun _ _=>by kernel_rfl
theorem RQ:ae Tryz.prog 211:=fun _ _=>by kernel_rfl
theorem SE:ae Tryz.prog 212:=fun _ _=>by kernel_rfl
theorem Sl:ae Tryz.prog 213:=fun _ _=>by kernel_rfl
theorem QH:ae Tryz.prog 214:=fun _ _=>by kernel_rfl
theorem Q1:ae Tryz.prog 215:=fun _ _=>by kernel_rfl
theorem Ro:ae Tryz.prog 216:=fun _ _=>by kernel_rfl
theorem PI:ae Tryz.prog 217:=fun _ _=>by kernel_rfl
theorem Qd:ae Tryz.prog 218:=fun _ _=>by kernel_rfl
theorem Rm:ae Tryz.prog 219:=fun _ _=>by kernel_rfl
theorem Sn:ae Tryz.prog 221:=fun _ _=>by kernel_rfl
theorem LV:ae Tryz.prog 222:=fun _ _=>by kernel_rfl
theorem Q3:ae Tryz.prog 223:=fun _ _=>by kernel_rfl
theorem DK:ae Tryz.prog 224:=fun _ _=>by kernel_rfl
theorem Ot:ae Tryz.prog 225:=fun _ _=>by kernel_rfl
theorem P6:ae Tryz.prog 226:=fun _ _=>by kernel_rfl
theorem Du:ae Tryz.prog 227:=fun _ _=>by kernel_rfl
theorem GJ:ae Tryz.prog 228:=fun _ _=>by kernel_rfl
theorem NM:ae Tryz.prog 229:=fun _ _=>by kernel_rfl
theorem QG:ae Tryz.prog 230:=fun _ _=>by kernel_rfl
theorem Rz:ae Tryz.prog 233:=fun _ _=>by kernel_rfl
theorem Q2:ae Tryz.prog 234:=fun _ _=>by kernel_rfl
theorem PB:ae Tryz.prog 235:=fun _ _=>by kernel_rfl
theorem Qs:ae Tryz.prog 236:=fun _ _=>by kernel_rfl
theorem HG:ae Tryz.prog 238:=fun _ _=>by kernel_rfl
theorem Nz:ae Tryz.prog 239:=fun _ _=>by kernel_rfl
theorem IA:ae Tryz.prog 240:=fun _ _=>by kernel_rfl
theorem Qj:ae Tryz.prog 241:=fun _ _=>by kernel_rfl
theorem RW:ae Tryz.prog 243:=fun _ _=>by kernel_rfl
theorem Rp:ae Tryz.prog 244:=fun _ _=>by kernel_rfl
theorem QO:ae Tryz.prog 245:=fun _ _=>by kernel_rfl
theorem Rs:ae Tryz.prog 246:=fun _ _=>by kernel_rfl
theorem RZ:ae Tryz.prog 247:=fun _ _=>by kernel_rfl
theorem Js:ae Tryz.prog 248:=fun _ _=>by kernel_rfl
theorem QL:ae Tryz.prog 251:=fun _ _=>by kernel_rfl
theorem KF:ae Tryz.prog 252:=fun _ _=>by kernel_rfl
theorem LP:ae Tryz.prog 253:=fun _ _=>by kernel_rfl
theorem Qg:ae Tryz.prog 254:=fun _ _=>by kernel_rfl
theorem Ry:ae Tryz.prog 255:=fun _ _=>by kernel_rfl
theorem SA:ae Tryz.prog 258:=fun _ _=>by kernel_rfl
theorem SB:ae Tryz.prog 259:=fun _ _=>by kernel_rfl
theorem Px:ae Tryz.prog 260:=fun _ _=>by kernel_rfl
theorem QS:ae Tryz.prog 262:=fun _ _=>by kernel_rfl
theorem PL:ae Tryz.prog 263:=fun _ _=>by kernel_rfl
theorem Ri:ae Tryz.prog 264:=fun _ _=>by kernel_rfl
theorem RI:ae Tryz.prog 265:=fun _ _=>by kernel_rfl
theorem Oa:ae Tryz.prog 266:=fun _ _=>by kernel_rfl
theorem R5:ae Tryz.prog 267:=fun _ _=>by kernel_rfl
theorem PZ:ae Tryz.prog 268:=fun _ _=>by kernel_rfl
theorem Sk:ae Tryz.prog 269:=fun _ _=>by kernel_rfl
theorem R6:ae Tryz.prog 275:=fun _ _=>by kernel_rfl
theorem Rj:ae Tryz.prog 276:=fun _ _=>by kernel_rfl
theorem Rn:ae Tryz.prog 277:=fun _ _=>by kernel_rfl
theorem RC:ae Tryz.prog 282:=fun _ _=>by kernel_rfl
theorem Q8:ae Tryz.prog 283:=fun _ _=>by kernel_rfl
theorem Nt:ae Tryz.prog 75:=fun _ _=>by kernel_rfl
theorem QF:ae Tryz.prog 95:=fun _ _=>by kernel_rfl
theorem SM:ae Tryz.prog 96:=fun _ _=>by kernel_rfl
theorem Sr:ae Tryz.prog 98:=fun _ _=>by kernel_rfl
theorem P7:ae Tryz.prog 101:=fun _ _=>by kernel_rfl
theorem NZ:ae Tryz.prog 116:=fun _ _=>by kernel_rfl
theorem Gj:ae Tryz.prog 137:=fun _ _=>by kernel_rfl
theorem o4:ae Tryz.prog 139:=fun _ _=>by kernel_rfl
theorem PS:ae Tryz.prog 143:=fun _ _=>by kernel_rfl
theorem Pt:ae Tryz.prog 146:=fun _ _=>by kernel_rfl
theorem Q0:ae Tryz.prog 148:=fun _ _=>by kernel_rfl
theorem QM:ae Tryz.prog 150:=fun _ _=>by kernel_rfl
theorem RL:ae Tryz.prog 151:=fun _ _=>by kernel_rfl
theorem Sq:ae Tryz.prog 153:=fun _ _=>by kernel_rfl
theorem QJ:ae Tryz.prog 154:=fun _ _=>by kernel_rfl
theorem I6:ae Tryz.prog 162:=fun _ _=>by kernel_rfl
theorem P9:ae Tryz.prog 167:=fun _ _=>by kernel_rfl
theorem Rk:ae Tryz.prog 170:=fun _ _=>by kernel_rfl
theorem Bb:ae Tryz.prog 171:=fun _ _=>by kernel_rfl
theorem Ju:ae Tryz.prog 198:=fun _ _=>by kernel_rfl
theorem MT:ae Tryz.prog 199:=fun _ _=>by kernel_rfl
theorem Oe:ae Tryz.prog 200:=fun _ _=>by kernel_rfl
theorem Pu:ae Tryz.prog 201:=fun _ _=>by kernel_rfl
theorem RU:ae Tryz.prog 202:=fun _ _=>by kernel_rfl
theorem zI:ae Tryz.prog 204:=fun _ _=>by kernel_rfl
theorem RA:ae Tryz.prog 205:=fun _ _=>by kernel_rfl
theorem RB:ae Tryz.prog 206:=fun _ _=>by kernel_rfl
theorem QZ:ae Tryz.prog 220:=fun _ _=>by kernel_rfl
theorem RH:ae Tryz.prog 242:=fun _ _=>by kernel_rfl
theorem Pn:ae Tryz.prog 249:=fun _ _=>by kernel_rfl
theorem Sf:ae Tryz.prog 250:=fun _ _=>by kernel_rfl
theorem Og:jj Tryz.prog 184 (.int .i64) (.int .i64 0):=⟨3,3,by kernel_rfl,by kernel_rfl,fun w=>Tryz.zeroValue3 w⟩
end Go.Proofs.Heir
namespace Go.Proofs.Heir
open Go.Am
set_option maxRecDepth 100000
set_option maxHeartbeats 8000000
def iv (c:Int):Bool:=decide (97≤c)&&decide (c≤122)
def hM (c:Int):Bool:=decide (65≤c)&&decide (c≤90)
def jz (c:Int):Bool:=iv c||hM c||(decide (48≤c)&&decide (c≤57))||decide (c=45)||decide (c=95)||decide (c=46)
@[reducible] def Ev (c : Int) : AV := .lit (.int .i32 c)
@[reducible] def aA (b : Bool) : AV := .lit (.bool b)
@[reducible] def bG (s : ByteArray) : AV := .lit (.string s)
@[reducible] def aj (n : Int) : AV := .lit (.int .i64 n)
theorem zP (c:Int):af Tryz.prog 180 [] [Ev c] [] (aA (iv c)):=by
 refine af.ah (rvs:=[.tmp 2]) G aa Tryz.func180 rfl Tryz.ntmps180 rfl rfl ?_;with_reducible refine wD ?_
 refine aQ.mk (fun h=>?_) (fun h=>?_)<;>(try simp only[aq] at h)<;>with_reducible refine wK ?_
 ·(refine eK ?_ ?_<;>with_reducible repeat' (first|exact trivial|(show _∧_;refine aK ?_ ?_)))
  unfold iv
  simp at h;simp[h]
 ·(refine eK ?_ ?_<;>with_reducible repeat' (first|exact trivial|(show _∧_;refine aK ?_ ?_)))
  unfold iv
  simp at h;simp;omega
theorem sR (c:Int):af Tryz.prog 182 [] [Ev c] [] (aA (hM c)):=by
 refine af.ah (rvs:=[.tmp 2]) G aa Tryz.func182 rfl Tryz.ntmps182 rfl rfl ?_;with_reducible refine wD ?_
 refine aQ.mk (fun h=>?_) (fun h=>?_)<;>(try simp only[aq] at h)<;>with_reducible refine wK ?_
 ·(refine eK ?_ ?_<;>with_reducible repeat' (first|exact trivial|(show _∧_;refine aK ?_ ?_)))
  unfold hM
  simp at h;simp[h]
 ·(refine eK ?_ ?_<;>with_reducible repeat' (first|exact trivial|(show _∧_;refine aK ?_ ?_)))
  unfold hM
  simp at h;simp;omega
theorem Lg (c:Int):af Tryz.prog 215 [] [Ev c] [] (aA (jz c)):=by
 refine af.ah (rvs:=[.tmp 2]) G aa Tryz.func215 rfl Tryz.ntmps215 rfl rfl ?_;with_reducible refine wD ?_
 refine cL (zP c) Ox ?_;with_reducible refine wK ?_
 repeat' (first
  |refine aE ?_ ?_
  |((with_reducible show aQ _ _ _ _);first|refine iK ?_|(refine aQ.mk (fun _=>?_) (fun _=>?_)<;>with_reducible refine wK ?_))
  |((with_reducible refine kQ 182 ?_);refine cL (sR c) Om ?_;with_reducible refine wK ?_)
  |apply trivial)
 all_goals (simp_all[jz,iv,hM]<;>omega)
theorem LX (c:Int):af Tryz.prog 214 [] [Ev c] [] (aA (!jz c)):=by
 refine af.ah (rvs:=[.tmp 2]) G aa Tryz.func214 rfl Tryz.ntmps214 rfl rfl ?_;with_reducible refine wD ?_
 refine cL (Lg c) Q1 ?_;with_reducible refine wK ?_
 (refine eK ?_ ?_<;>with_reducible repeat' (first|exact trivial|(show _∧_;refine aK ?_ ?_)))
open Go.RowKit Go.Lib in
theorem CF (g:Nat)(eg:∀args w,(callFunc g args).run Tryz.prog w=.ok (.enter g args) w)(p:Nat→Bool)(s:ByteArray)(w:World)(ht:k8 Tryz.prog w fun _=>none)(hp:∀ (W:World) (x:Nat),(k8 Tryz.prog W fun _=>none)→x≤1114111→Calls Tryz.prog g #[.int .i32 (x:Int)] W fun e w'=>e=.returned (.bool (p x))∧Below W.heap.size W w'):
  Calls Tryz.prog 256 #[.string s,.func (.func g) #[] #[],.bool true] w fun e w'=>e=.returned (.int .i64 (Lib.idxFunc p true s))∧Below w.heap.size w w':=by
 go_enter Tryz.func256,Tryz.ntmps256
 go_wp2
 go_loopg [] s.size (fun gf wx=> ∃pos:Nat,wx.heap[w.heap.size]? =some (.stringIter s pos)∧Below w.heap.size w wx∧Lib.idxFuncFrom p true s gf pos=Lib.idxFunc p true s∧s.size≤pos+gf)
 case atStart=>exact⟨0,World.iter_heap w s 0,(Below.refl _ w).alloc (Nat.le_refl _) _,rfl,by omega⟩
 case round=>
  obtain⟨pos,hit,hbw,hleft,hfu⟩:=hrel
  by_cases hps:pos<s.size
  ·obtain⟨g',rfl⟩:∃g',gk=g'+1:=⟨gk-1,by omega⟩
   have hnx:∀ty,(Instr.next (.pointer (some ⟨w.heap.size,0,none⟩)) true ty).run Tryz.prog wr=_:=fun ty=>Lib.run_next_any_at wr w.heap.size s pos ty hit hps
   have hwd:=Lib.width_pos s pos
   obtain⟨R,hR⟩:∃R,(Utf8.decode s pos).1=R:=⟨_,rfl⟩
   obtain⟨K,hK⟩:∃K,(Utf8.decode s pos).2=K:=⟨_,rfl⟩
   simp only[Lib.idxFuncFrom,hps,if_true,hR,hK] at hleft
   rw[hR,hK] at hnx
   rw[hK] at hwd
   have hit2:=Lib.iterAt_heap wr w.heap.size s pos (pos+K) hit
   have hbw2:=Lib.below_iterAt hbw (k:=w.heap.size) (Nat.le_refl _) s (pos+K)
   obtain⟨W,hWd⟩:∃W,wr.iterAt w.heap.size s (pos+K)=W:=⟨_,rfl⟩
   rw[hWd] at hnx hit2 hbw2
   have hltW:w.heap.size<W.heap.size:=(Array.getElem?_eq_some_iff.1 hit2).1
   have cS:Calls Tryz.prog g #[.int .i32 (R:Int)] W _       :=hp W R (ht.below hbw2) (by rw[←hR];exact Lib.rune_le s pos)
   clear hp
   cases hsp:p R<;>rw[hsp] at cS<;>simp only[hsp,if_true,Bool.false_eq_true,Bool.true_eq_false,if_false] at hleft
   ·go_wp2_with (go_at_fn g;refine cS.mono ?_;rintro e W' ⟨rfl,hbc⟩)
    go_roundg g'
    case measure=>omega
    case rel=>exact⟨pos+K,(hbc.block _ hltW).trans hit2,(hbw2.trans (hbc.mono hbw2.size)),hleft,by omega⟩
   ·go_wp2_with (go_at_fn g;refine cS.mono ?_;rintro e W' ⟨rfl,hbc⟩)
    go_ret
    exact⟨by rw[←hleft]<;>rfl,(hbw2.trans (hbc.mono hbw2.size))⟩
  ·have hnx:∀ty,(Instr.next (.pointer (some ⟨w.heap.size,0,none⟩)) true ty).run Tryz.prog wr=_:=fun ty=>Lib.run_next_end_at wr w.heap.size s pos ty hit hps
   rw[Lib.idxFuncFrom_end p true s gk pos hps] at hleft
   go_wp2
   go_ret
   exact⟨by rw[←hleft]<;>rfl,hbw⟩
end Go.Proofs.Heir
namespace Go.Proofs.Heir
open Go Go.Am Go.RowKit Go.Lib
set_option maxRecDepth 100000
set_option maxHeartbeats 8000000
def qg (c:UInt8):UInt8:=if hM (c.toNat:Int) then c+32 else c
def jM (l:List UInt8):List UInt8:=l.map qg
def gR (s:ByteArray):ByteArray:=⟨(jM s.data.toList).toArray⟩
def sQ (l:List UInt8)(k:Nat):List UInt8:=(l.take k).map qg++l.drop k
theorem Ci (l:List UInt8)(k:Nat):(sQ l k).length=l.length:=by simp[sQ];omega
theorem Ce (l:List UInt8)(k:Nat)(h:k<l.length):(sQ l k)[k]? =some l[k]:=by
 simp[sQ,List.getElem?_append,List.getElem?_drop,Nat.min_eq_left (Nat.le_of_lt h),h]
theorem Cf (l:List UInt8)(k:Nat)(h:k<l.length):(sQ l k).set k (qg l[k])=sQ l (k+1):=by
 unfold sQ
 have h1:((l.take k).map qg).length=k:=by simp;omega
 rw[List.set_append_right _ _ (by omega),h1,Nat.sub_self,List.take_succ_eq_append_getElem h,List.drop_eq_getElem_cons h]
 simp only[List.set_cons_zero,fO,List.map_cons,List.map_nil,List.append_assoc,List.cons_append,List.nil_append]
theorem Gp (l:List UInt8)(k:Nat)(h:k<l.length)(hc:hM (l[k].toNat:Int)=false):sQ l k=sQ l (k+1):=by
 rw[←Cf l k h]
 have h2:=Ce l k h
 apply List.ext_getElem?
 intro j
 rw[List.getElem?_set]
 by_cases hj:k=j
 ·subst hj
  rw[if_pos rfl,if_pos (by rw[Ci];exact h),h2]
  simp[qg,hc]
 ·rw[if_neg hj]
def rowOf (l:List UInt8)(z:List Value):Array Value:=(l.map (fun b=>Value.int .u8 b.toNat)++z).toArray
theorem yD (l:List UInt8)(z:List Value)(k:Nat)(b:UInt8)(h:l[k]? =some b):(rowOf l z)[k]? =some (.int .u8 b.toNat):=by
 have hk:=(aZ h).1
 simp only[rowOf,List.getElem?_toArray]
 rw[List.getElem?_append_left (by simpa using hk),dM,h];rfl
theorem Gw (l:List UInt8)(z:List Value)(k:Nat)(b:UInt8)(h:k<l.length):(rowOf l z).setIfInBounds k (.int .u8 b.toNat)=rowOf (l.set k b) z:=by
 apply Array.ext'
 simp only[rowOf,Array.toList_setIfInBounds,List.map_set]
 rw[List.set_append_left _ _ (by simpa using h)]
theorem Bf (c:UInt8)(h:hM (c.toNat:Int)=true):IntKind.u8.wrap (IntKind.u8.wrap ((c.toNat:Int)-65)+97)=((c+32:UInt8).toNat:Int):=by
 simp only[hM,aT,aL] at h
 have h1:IntKind.u8.wrap ((c.toNat:Int)-65)=(c.toNat:Int)-65:=by simp[IntKind.wrap_u8];omega
 rw[h1]
 have h2:IntKind.u8.wrap ((c.toNat:Int)-65+97)=(c.toNat:Int)+32:=by simp[IntKind.wrap_u8];omega
 rw[h2]
 have:(c+32:UInt8).toNat=c.toNat+32:=by
  rw[UInt8.toNat_add];simp;omega
 rw[this];rfl
theorem Dj (s:ByteArray)(w:World)(ht:k8 Tryz.prog w fun _=>none)(hs:s.size≤100000):Calls Tryz.prog 156 #[.string s] w fun e w'=>e=.returned (.string (gR s))∧Below w.heap.size w w':=by
 obtain⟨l,rfl⟩:∃l:List UInt8,s=⟨l.toArray⟩:=⟨s.data.toList,by obtain⟨⟨l⟩⟩:=s;rfl⟩
 have hsz:(ByteArray.mk l.toArray).size=l.length:=by simp[ByteArray.size]
 have hconv:=run_bytes_of_string (P:=Tryz.prog) w 9 100 5 ⟨l.toArray⟩ Tryz.underlying9 Tryz.underlying100 Tryz.underlying5
 rw[hsz] at hconv hs
 obtain⟨cap,hcap⟩:∃cap,grownCap w l.length 0 5=cap:=⟨_,rfl⟩
 rw[hcap] at hconv
 obtain⟨z,hz⟩:∃z:List Value,bytesRow ⟨l.toArray⟩ cap=rowOf l z:=⟨List.replicate (cap-l.length) (.int .u8 0),by
  apply Array.ext';simp[bytesRow,rowOf,ByteArray.size]⟩
 rw[hz] at hconv
 obtain⟨n,hn⟩:∃n,(rowOf l z).size=n:=⟨_,rfl⟩
 rw[hn] at hconv
 clear hcap hz
 go_enter Tryz.func156,Tryz.ntmps156
 go_wp2
 go_loopw [10] (fun i wr=> ∃k:Nat,k≤l.length∧i=.int .i64 k∧wr.heap[w.heap.size]? =some (.cells (rowOf (sQ l k) z) 5 (n,n+1))∧Below w.heap.size w wr) (fun i _=>l.length- (intOf i).toNat)
 case atStart=>exact⟨0,Nat.zero_le _,rfl,(heap_alloc_new w (Obj.cells (rowOf l z) 5 (n,n+1))),((Below.refl _ w).alloc (Nat.le_refl _) _).drew⟩
 case round=>
  obtain⟨k,hk,rfl,hh,hb⟩:=hrel
  by_cases hlt:k<l.length
  ·have hcell:wr.cell? ⟨w.heap.size,k,none⟩=some (.int .u8 (l[k].toNat:Int)):=by
    simp only[World.cell?,hh]
    exact yD _ z k _ (Ce l k hlt)
   have hn2:k<n:=by rw[←hn];simp[rowOf];omega
   have hfz:wr.frozen? ⟨w.heap.size,k,none⟩=false:=by
    simp[World.frozen?,hh];omega
   have hbs:w.heap.size<wr.heap.size:=(Array.getElem?_eq_some_iff.1 hh).1
   have hb1:0≤ (l[k].toNat:Int):=Int.natCast_nonneg _
   have hb2:(l[k].toNat:Int)≤255:=by have:=UInt8.toNat_lt l[k];omega
   cases hc:hM (l[k].toNat:Int) with
   | false=>
     go_wp2_with (go_at_call 182;refine((sR (l[k].toNat:Int)).below (vs:=[.int .i32 (l[k].toNat:Int)]) _ (ht.below hb)).mono ?_;rw[hc];rintro e w1 ⟨rfl,hb3⟩)
     go_roundw
     case rel=>exact⟨k+1,by omega,by go_num,by rw[hb3.block _ hbs,hh,Gp l k hlt hc],hb.trans (hb3.mono hb.size)⟩
     case measure=>simp[intOf];omega
   | true=>
     have hst:IntKind.u8.wrap (IntKind.u8.wrap ((l[k].toNat:Int)-65)+97)=((qg l[k]).toNat:Int):=by
      rw[Bf _ hc];unfold qg;rw[hc];rfl
     simp only[IntKind.wrap_u8] at hst
     have H:=hid hst
     clear hst
     go_wp2_with (go_at_call 182;refine((sR (l[k].toNat:Int)).below (vs:=[.int .i32 (l[k].toNat:Int)]) _ (ht.below hb)).mono ?_;rw[hc];rintro e w1 ⟨rfl,hb3⟩;have hc1:=(hb3.cell (p:=⟨w.heap.size,k,none⟩) hbs).trans hcell;have hf1:=(hb3.frozen (p:=⟨w.heap.size,k,none⟩) hbs).trans hfz)
     go_roundw
     case rel=>
      refine⟨k+1,by omega,by go_num,?_,hb.trans ((hb3.mono hb.size).setCell (Nat.le_refl _) _)⟩
      have hm:((l[k].toNat:Int)-65+97)%256=((qg l[k]).toNat:Int):=by
       rw[←H.out];omega
      rw[hm]
      have hq:w1.heap[w.heap.size]? =some (.cells (rowOf (sQ l k) z) 5 (n,n+1)):=(hb3.block _ hbs).trans hh
      have hs2:w.heap.size<w1.heap.size:=(Array.getElem?_eq_some_iff.1 hq).1
      unfold World.setCell
      simp only[Array.getElem?_modify,hq,if_true,Option.map_some]
      have hrs:=Gw (sQ l k) z k (qg l[k]) (by rw[Ci];exact hlt)
      rw[Cf l k hlt] at hrs
      simp only[hrs];rfl
     case measure=>simp[intOf];omega
  ·have:k=l.length:=by omega
   subst this
   have hrw:rowOf (sQ l l.length) z=rowOf (jM l) z:=by simp[sQ,jM]
   rw[hrw] at hh
   have hcv:=run_convert_bytes_back (P:=Tryz.prog) wr 100 9 5 ⟨w.heap.size,0,none⟩ cap (jM l) Tryz.underlying100 Tryz.underlying5 Tryz.underlying9 (fun j hj=>by
    have:=yD (jM l) z j ((jM l)[j]) (aP hj)
    have ha:(⟨w.heap.size,0,none⟩:Addr).add j=⟨w.heap.size,j,none⟩:=by
     unfold Addr.add;split<;>simp_all
    rw[ha];simp only[World.cell?,hh,this];rfl)
   rw[show(jM l).length=l.length from by simp[jM]] at hcv
   go_wp2
   go_ret
   exact⟨rfl,hb⟩
theorem K8 (s:ByteArray)(hs:s.size≤100000):af Tryz.prog 156 [] [bG s] [] (bG (gR s)):=
 af.oC (vs:=[.string s]) (v:=.string (gR s)) fun w ht=>Dj s w ht hs
def mB (b:UInt8):Bool:=jz (b.toNat:Int)
def vB:List UInt8→Bool
 |[]=>false
 |b::_=>iv (b.toNat:Int)||hM (b.toNat:Int)||decide ((b.toNat:Int)=95)
def kL (l:List UInt8):Bool:=decide (1≤l.length)&&decide (l.length≤40)&&l.all mB&&vB l
def bJ (s:ByteArray):Bool:=kL s.data.toList
theorem E5 (s:ByteArray):∀ (f pos:Nat),s.size≤pos+f→(0≤idxFuncFrom (fun r=> !jz (r:Int)) true s f pos↔ ∃i,pos≤i∧∃b,s.data.toList[i]? =some b∧mB b=false)
 | 0,pos,h=>by
   have:¬ (0:Int)≤idxFuncFrom (fun r=> !jz (r:Int)) true s 0 pos:=by simp[idxFuncFrom]
   refine⟨fun h'=>absurd h' this,?_⟩
   rintro⟨i,h1,b,h2,_⟩
   have:=(aZ h2).1
   have:i<s.size:=this
   omega
 | f + 1, pos,h=>by
   by_cases hp:pos<s.size
   ·have ih:=E5 s f
    have hb:∃b,s.data.toList[pos]? =some b∧s.get! pos=b:=⟨_,aP hp,by show s.data[pos]! =_;rw[getElem!_pos s.data pos hp];rfl⟩
    obtain⟨b,hb1,hb2⟩:=hb
    unfold idxFuncFrom
    rw[if_pos hp,decode_at,hb2]
    have hbn:b.toNat<256:=UInt8.toNat_lt b
    have big:∀r:Nat,128≤r→jz (r:Int)=false:=by
     intro r hr
     have:(128:Int)≤r:=by omega
     simp only[jz,iv,hM,Bool.or_eq_false_iff,Bool.and_eq_false_iff,bh]
     omega
    have bad:∀r w:Nat,128≤r→128≤b.toNat→((0:Int)≤ (if(!jz (r:Int))=true then(pos:Int) else idxFuncFrom (fun r=> !jz (r:Int)) true s f (pos+w))↔ ∃i,pos≤i∧∃b,s.data.toList[i]? =some b∧mB b=false):=by
     intro r w hr hbr
     rw[big r hr]
     exact⟨fun _=>⟨pos,Nat.le_refl _,b,hb1,big _ hbr⟩,fun _=>by simp⟩
    rcases decodeN_shape (s.size-pos) b.toNat (s.get! (pos+1)).toNat (s.get! (pos+2)).toNat (s.get! (pos+3)).toNat with⟨h1,h2⟩|⟨h1,h3,h4,h5,h2⟩|⟨h1,h3,h4,h5,h6,h7,h2⟩|⟨h1,h3,h4,h5,h6,h7,h8,h2⟩|h2
    ·rw [h2]
     show(0:Int)≤ (if(!jz (b.toNat:Int))=true then(pos:Int) else idxFuncFrom _ true s f (pos+1))↔_
     cases hs:jz (b.toNat:Int) with
     |false=>exact⟨fun _=>⟨pos,Nat.le_refl _,b,hb1,hs⟩,fun _=>by simp⟩
     | true=>
       rw[if_neg (by simp),ih (pos+1) (by omega)]
       constructor
       ·rintro⟨i,h3,h4⟩;exact⟨i,by omega,h4⟩
       ·rintro⟨i,h3,b',h4,h5⟩
        rcases Nat.lt_or_ge pos i with h6|h6
        ·exact⟨i,h6,b',h4,h5⟩
        ·have:i=pos:=by omega
         subst this
         rw[hb1] at h4;cases h4
         rw[mB,hs] at h5;cases h5
    ·rw[h2];exact bad _ _ (by omega) (by omega)
    ·rw[h2];exact bad _ _ (by omega) (by omega)
    ·rw[h2];exact bad _ _ (by omega) (by omega)
    ·rw[h2]
     refine bad _ _ (by omega) ?_
     rcases Nat.lt_or_ge b.toNat 128 with h3|h3
     ·rw[decodeN,if_pos h3] at h2;simp only[Prod.mk.injEq] at h2;omega
     ·exact h3
   ·rw[idxFuncFrom_end _ _ _ _ _ hp]
    refine⟨fun h'=>by omega,?_⟩
    rintro⟨i,h1,b,h2,_⟩
    have:=(aZ h2).1
    have:i<s.size:=this
    omega
theorem KE (s:ByteArray):decide (0≤idxFunc (fun r=> !jz (r:Int)) true s)=!s.data.toList.all mB:=by
 have h:=E5 s s.size 0 (by omega)
 cases ha:s.data.toList.all mB with
 | true=>
   simp only[Bool.not_true,bh]
   intro h'
   obtain⟨i,_,b,h1,h2⟩:=h.1 h'
   have:=List.all_eq_true.1 ha b (bn h1)
   rw[this] at h2;cases h2
 | false=>
   simp only[Bool.not_false,aL]
   refine h.2 ?_
   obtain⟨b,h1,h2⟩:=List.all_eq_false.1 ha
   obtain⟨i,h3⟩:=List.getElem?_of_mem h1
   exact⟨i,Nat.zero_le _,b,h3,by simpa using h2⟩
theorem CN (g:Nat)(eg:∀args w,(callFunc g args).run Tryz.prog w=.ok (.enter g args) w)(p:Nat→Bool)(s:ByteArray)(w:World)(ht:k8 Tryz.prog w fun _=>none)(hp:∀ (W:World) (x:Nat),(k8 Tryz.prog W fun _=>none)→x≤1114111→Calls Tryz.prog g #[.int .i32 (x:Int)] W fun e w'=>e=.returned (.bool (p x))∧Below W.heap.size W w'):
  Calls Tryz.prog 231 #[.string s,.func (.func g) #[] #[]] w fun e w'=>e=.returned (.int .i64 (Lib.idxFunc p true s))∧Below w.heap.size w w':=by
 have h44:=CF g eg p s w ht hp
 clear hp
 go_enter Tryz.func231,Tryz.ntmps231
 go_wp2_with (go_at_call 256;refine h44.mono ?_;rintro e w1 ⟨rfl,hb⟩)
 go_ret
 exact⟨rfl,hb⟩
theorem vQ (g:Nat)(eg:∀args w,(callFunc g args).run Tryz.prog w=.ok (.enter g args) w)(p:Nat→Bool)(s:ByteArray)(w:World)(ht:k8 Tryz.prog w fun _=>none)(hp:∀ (W:World) (x:Nat),(k8 Tryz.prog W fun _=>none)→x≤1114111→Calls Tryz.prog g #[.int .i32 (x:Int)] W fun e w'=>e=.returned (.bool (p x))∧Below W.heap.size W w'):
  Calls Tryz.prog 181 #[.string s,.func (.func g) #[] #[]] w fun e w'=>e=.returned (.bool (decide (0≤Lib.idxFunc p true s)))∧Below w.heap.size w w':=by
 have h43:=CN g eg p s w ht hp
 clear hp
 go_enter Tryz.func181,Tryz.ntmps181
 go_wp2_with (go_at_call 231;refine h43.mono ?_;rintro e w1 ⟨rfl,hb⟩)
 go_ret
 exact⟨rfl,hb⟩
theorem MV (s:ByteArray):af Tryz.prog 181 [] [bG s,.lit (.func (.func 214) #[] #[])] [] (aA (!s.data.toList.all mB)):=by
 rw[←KE]
 exact af.oC (vs:=[.string s,.func (.func 214) #[] #[]]) fun w ht=>vQ 214 QH (fun r=> !jz (r:Int)) s w ht fun W x ht _=>(LX (x:Int)).below (vs:=[.int .i32 (x:Int)]) W ht
theorem iW (s:ByteArray):s.size=s.data.toList.length:=(Array.length_toList (xs:=s.data)).symm
theorem xM {l:List UInt8}(h:1≤l.length):∃b r,l=b::r∧l[0]? =some b:=by
 cases l with
 |nil=>simp at h
 |cons b r=>exact⟨b,r,rfl,rfl⟩
theorem IM (b:UInt8):IntKind.i32.wrap (b.toNat:Int)=(b.toNat:Int):=by
 have h:b.toNat<256:=UInt8.toNat_lt b
 rw[IntKind.wrap_i32];omega
theorem Ey (s:ByteArray):af Tryz.prog 155 [] [bG s] [] (aA (bJ s)):=by
 have hsz:s.size=s.data.toList.length:=iW s
 have hb0:1≤s.data.toList.length→∃b r,s.data.toList=b::r∧s.data.toList[0]? =some b:=xM
 refine af.ah (rvs:=[.tmp 2]) G aa Tryz.func155 rfl Tryz.ntmps155 rfl rfl ?_;with_reducible refine wD ?_
 repeat' (first
  |refine aE ?_ ?_
  |((with_reducible show aQ _ _ _ _);first|refine iK ?_|(refine aQ.mk (fun _=>?_) (fun _=>?_)<;>with_reducible refine wK ?_))
  |((with_reducible refine kQ 181 ?_);refine aD.lit [] (MV _) PY ⟨rfl,nq 12 _ rfl,trivial⟩ rfl rfl ?_;with_reducible refine wK ?_)
  |((with_reducible refine kQ 182 ?_);refine cL (sR _) Om ?_;with_reducible refine wK ?_)
  |((with_reducible refine kQ 180 ?_);refine cL (zP _) Ox ?_;with_reducible refine wK ?_)
  |((with_reducible show mc _ _ _ _ _);obtain⟨b,r,hl,hb⟩:=hb0 (by simp only[bh] at*;omega);refine mc.mk 0 b rfl hb ?_;with_reducible refine wK ?_)
  |((with_reducible show tS _ _ _ _ _ _ _);refine tS.int (by kernel_rfl) (by kernel_rfl) (IM _) ?_;with_reducible refine wK ?_)
  |apply trivial)
 all_goals (simp only[aL,bh,hsz] at*;unfold bJ kL)
 ·rw[show decide (1≤s.data.toList.length)=false from aS (by omega)];rfl
 ·rw[show decide (s.data.toList.length≤40)=false from aS (by omega)];simp
 ·rw[show s.data.toList.all mB=false from by simp_all];simp
 all_goals rw[show decide (1≤s.data.toList.length)=true from aV (by omega),show decide (s.data.toList.length≤40)=true from aV (by omega),show s.data.toList.all mB=true from by simp_all,hl];simp_all[vB]
theorem Dz {s:ByteArray}(h:bJ s=true):s.size≤40:=by
 unfold bJ kL at h
 simp only[aT,aL] at h
 rw[iW];exact h.1.1.2
theorem uh {s:ByteArray}(h:(!bJ s)=false):s.size≤100000:=by
 have:=Dz (s:=s) (by simpa using h)
 omega
theorem Az (s:ByteArray):af Tryz.prog 81 [] [bG s] [] (.tup [bG (if bJ s then gR s else⟨#[]⟩),aj (if bJ s then 0 else 4)]):=by
 refine af.ah (rvs:=[.tmp 2,.tmp 3]) G aa Tryz.func81 rfl Tryz.ntmps81 rfl rfl ?_;with_reducible refine wD ?_
 repeat' (first
  |refine aE ?_ ?_
  |((with_reducible show aQ _ _ _ _);first|refine iK ?_|(refine aQ.mk (fun _=>?_) (fun _=>?_)<;>with_reducible refine wK ?_))
  |((with_reducible refine kQ 155 ?_);refine cL (Ey _) Pk ?_;with_reducible refine wK ?_)
  |((with_reducible refine kQ 156 ?_);refine aD.lit [] (K8 _ (uh (by assumption))) Si ⟨rfl,trivial⟩ rfl rfl ?_;with_reducible refine wK ?_)
  |apply trivial)
 all_goals simp_all
def vU (i:Nat)(b:UInt8):Bool:=(iv (b.toNat:Int)||hM (b.toNat:Int))||decide ((b.toNat:Int)=95)||(decide (0<i)&&mB b)
theorem Fc {l:List UInt8}(h1:1≤l.length)(h2:l.length≤40):kL l=true↔ ∀i b,l[i]? =some b→vU i b=true:=by
 unfold kL
 rw[aV h1,aV h2]
 simp only[Bool.true_and,aT,List.all_eq_true]
 constructor
 ·rintro⟨ha,hf⟩ i b hb
  cases l with
  |nil=>simp at h1
  | cons c r=>
    cases i with
    | zero=>
      simp at hb;subst hb
      simp only[vB] at hf
      simp[vU,hf]
    | succ i=>
      have:=ha b (bn hb)
      simp[vU,this]
 ·intro h
  refine⟨fun b hb=>?_,?_⟩
  ·obtain⟨i,hi⟩:=List.getElem?_of_mem hb
   have:=h i b hi
   simp only[vU,mB,jz,iv,hM,dW,aT,aL] at this ⊢
   omega
  ·cases l with
   |nil=>simp at h1
   | cons c r=>
     have:=h 0 c rfl
     simpa[vU,vB] using this
def strOf (l:List UInt8):ByteArray:=⟨l.toArray⟩
theorem wk (l:List UInt8):(strOf l).size=l.length:=by simp[strOf,ByteArray.size]
theorem ye (a b:List UInt8):strOf a++strOf b=strOf (a++b):=by
 apply ByteArray.ext
 simp[strOf]
theorem Cz (s:ByteArray):gR s=strOf (jM s.data.toList):=rfl
theorem JE (l:List UInt8):(jM l).length=l.length:=by simp[jM]
theorem E9 {s:ByteArray}{k:Nat}{b:UInt8}(h:s.data.toList[k]? =some b):s.extract k (k+1)=strOf [b]:=by
 obtain⟨l,rfl⟩:∃l:List UInt8,s=⟨l.toArray⟩:=⟨s.data.toList,by obtain⟨⟨l⟩⟩:=s;rfl⟩
 rw[ByteArray.extract_mk]
 simp only at h
 have hk:=(aZ h).1
 have:(l.drop k).take (k+1-k)=[b]:=by
  rw[List.drop_eq_getElem_cons hk,show k+1-k=1 from by omega]
  simp[(aZ h).2]
 rw[this];rfl
theorem BR {l:List UInt8}{k:Nat}{b:UInt8}(h:l[k]? =some b):jM (l.take (k+1))=jM (l.take k)++ [qg b]:=by
 have hk:=(aZ h).1
 rw[List.take_succ_eq_append_getElem hk,jM,fO,(aZ h).2];rfl
theorem MM {b:UInt8}(h:hM (b.toNat:Int)=true):IntKind.u8.wrap ((b.toNat:Int)+32)=((b+32:UInt8).toNat:Int):=by
 rw[←Bf b h]
 simp only[hM,aT,aL] at h
 rw[IntKind.wrap_u8,IntKind.wrap_u8,IntKind.wrap_u8]
 omega
theorem HF {c:Int}(h1:decide (65≤c)=true)(h2:decide (c≤90)=true):hM c=true:=by unfold hM;rw[h1,h2];rfl
theorem GM {b:UInt8}(h1:decide (65≤ (b.toNat:Int))=true)(h2:decide ((b.toNat:Int)≤90)=true):∀ (i:Nat) (c:UInt8),[b+32][i]? =some c→(flat [AV.lit (Value.int IntKind.u8 (IntKind.u8.wrap ((b.toNat:Int)+32)))])[0+i]? =some (.lit (.int .u8 c.toNat)):=by
 intro i c hc
 rw[MM (HF h1 h2)]
 cases i with
 |zero=>cases hc;rfl
 |succ i=>simp at hc
theorem zE (s:ByteArray)(hs:s.size≤100000):af Tryz.prog 87 [] [bG s] [] (bG (gR s)):=by
 have hsz:s.size=s.data.toList.length:=iW s
 rw[Cz]
 obtain⟨l,hl⟩:∃l,s.data.toList=l:=⟨_,rfl⟩
 rw[hl] at hsz ⊢
 refine af.ah (rvs:=[.tmp 2]) G aa Tryz.func87 rfl Tryz.ntmps87 rfl rfl ?_;with_reducible refine wD ?_
 refine aR.use G aa (fun(k:Nat)=>[(0,bG s),(3,bG (strOf (jM (l.take k)))),(4,aj k)]) (fun _=>[]) (fun k=>k≤l.length) (fun k=>l.length-k) 0 (Nat.zero_le _) ⟨⟨rfl,rfl⟩,⟨rfl,rfl,rfl,trivial⟩,trivial⟩ ?_
 intro k hk
 with_reducible refine wK ?_
 refine aQ.mk (fun h1=>?_) (fun h1=>?_)<;>(try simp only[aq] at h1)<;>with_reducible refine wK ?_
 ·simp only[aL] at h1
  have hk':k<l.length:=by omega
  obtain⟨b,hb0⟩:∃b,l[k]? =some b:=⟨_,aP hk'⟩
  have hb:s.data.toList[k]? =some b:=by rw[hl];exact hb0
  refine mc.mk k b rfl hb ?_;with_reducible refine wK ?_
  have hln:(strOf (jM (l.take k))).size≤100000:=by rw[wk,JE];simp;omega
  have hc1:(s.extract k (k+1)).size=1:=by rw[E9 hb,wk];rfl
  have n1:(strOf (jM (l.take k))).size+ (s.extract k (k+1)).size≤9223372036854775807:=by omega
  have n2:(strOf (jM (l.take k))).size+ (ByteArray.mk [b+32].toArray).size≤9223372036854775807:=by rw[show(ByteArray.mk [b+32].toArray).size=1 from rfl];omega
  have no:hM (b.toNat:Int)=false→strOf (jM (l.take (k+1)))=strOf (jM (l.take k))++s.extract k (k+1):=by
   intro hc
   rw[E9 hb,ye,BR hb0,show qg b=b from by simp[qg,hc]]
  have yes:hM (b.toNat:Int)=true→strOf (jM (l.take (k+1)))=strOf (jM (l.take k))++ByteArray.mk [b+32].toArray:=by
   intro hc
   rw[show ByteArray.mk [b+32].toArray=strOf [b+32] from rfl,ye,BR hb0,show qg b=b+32 from by simp[qg,hc]]
  have no1:decide (65≤ (b.toNat:Int))=false→hM (b.toNat:Int)=false:=by intro h;unfold hM;rw[h];rfl
  have no2:decide ((b.toNat:Int)≤90)=false→hM (b.toNat:Int)=false:=by intro h;unfold hM;rw[h];simp
  repeat' (first
  |refine aE ?_ ?_
  |((with_reducible show aQ _ _ _ _);first|refine iK ?_|(refine aQ.mk (fun _=>?_) (fun _=>?_)<;>with_reducible refine wK ?_))
  |((with_reducible show mc _ _ _ _ _);refine mc.mk k b rfl hb ?_;with_reducible refine wK ?_)
  |((with_reducible show wU _ _ _ _ _ _ _ _ _);refine wU.mk (e:=5) [b+32] (by kernel_rfl) (by kernel_rfl) (by kernel_rfl) rfl (by simp) (GM (by assumption) (by assumption)) ?_;with_reducible refine wK ?_)
  |((with_reducible show vc _ _ _ _ _ _);refine vc.mk k (k+1) rfl (by simp only[aq];omega) (by omega) (by omega) ?_;with_reducible refine wK ?_)
  |((with_reducible show bW _ _ _ _);refine bW.mk n1 ?_;with_reducible refine wK ?_)
  |((with_reducible show bW _ _ _ _);refine bW.mk n2 ?_;with_reducible refine wK ?_)
  |((with_reducible show bW _ _ _ _);refine nK ?_;with_reducible refine wK ?_)
  |((with_reducible show ay _ _);refine ay.mk (k+1) (by omega) (by omega) ⟨⟨rfl,rfl⟩,⟨rfl,?_,by show((k+1:Nat):Int)=(k:Int)+1;omega,trivial⟩,trivial⟩)
  |apply trivial)
  ·exact yes (HF (by assumption) (by assumption))
  ·exact no (no2 (by assumption))
  ·exact no (no1 (by assumption))
 ·(refine eK ?_ ?_<;>with_reducible repeat' (first|exact trivial|(show _∧_;refine aK ?_ ?_)))
  have:k=l.length:=by simp only[bh] at h1;omega
  rw[this,List.take_length]
structure AttrM where
 name:ByteArray
 value:ByteArray
 deriving DecidableEq
@[reducible] def mF (a : AttrM) : AV := .agg [bG a.name, bG a.value]
def fu (a:AttrM):AV:=mF a
@[reducible] def dY (l : List AttrM) : AV := .sl 2 (l.map fu)
theorem BN (l:List AttrM):aU (l.map fu)=true:=by
 rw[bZ];intro x hx
 obtain⟨a,_,rfl⟩:=List.mem_map.1 hx
 rfl
theorem aJ {cI:List (Nat×Nat)}{fz:Nat→Bool}{m:ML}{n:Nat}:∀ {cs:List AV},aU cs=true→Cu (MF cI fz m n) cs cs
 |[],_=>trivial
 | c::cs,h=>by
   simp only[aU,aT] at h
   exact⟨nq n c h.1,aJ h.2⟩
theorem J6 (a:AttrM)(n:ByteArray):af Tryz.prog 282 [] [mF a,.fptr (bG n) 0] [] (aA (decide (a.name=n))):=by
 refine af.ah (rvs:=[.tmp 3]) G aa Tryz.func282 rfl Tryz.ntmps282 rfl rfl ?_;with_reducible refine wD ?_
 (refine eK ?_ ?_<;>with_reducible repeat' (first|exact trivial|(show _∧_;refine aK ?_ ?_)))
def Jf (a:AttrM):Bool:=!(bJ a.name&&decide (gR a.name=a.name)&&decide (a.value.size≤200))
theorem ME (a:AttrM):af Tryz.prog 243 [] [mF a] [] (aA (Jf a)):=by
 obtain⟨n,v⟩:=a
 refine af.ah (rvs:=[.tmp 2]) G aa Tryz.func243 rfl Tryz.ntmps243 rfl rfl ?_;with_reducible refine wD ?_
 refine cL (Az _) JQ ?_;with_reducible refine wK ?_
 repeat' (first
  |refine aE ?_ ?_
  |((with_reducible show aQ _ _ _ _);first|refine iK ?_|(refine aQ.mk (fun _=>?_) (fun _=>?_)<;>with_reducible refine wK ?_))
  |apply trivial)
 all_goals (unfold Jf;cases hr:bJ n<;>simp_all)
 by_cases h2:v.size≤200
 ·rw[aV h2,aS (by(try simp only[aq]);omega)];rfl
 ·rw[aS h2,aV (by(try simp only[aq]);omega)];rfl
def fe {α:Type}(p:α→Bool)(l:List α):Int:=match l.findIdx? p with|some i=>(i:Int)|none=> -1
theorem dL {α:Type}{p:α→Bool}{l:List α}{k:Nat}{a:α}(h:l[k]? =some a)(hp:p a=true)(hno:∀ (j:Nat) (x:α),j<k→l[j]? =some x→p x=false):fe p l=k:=by
 have:l.findIdx? p=some k:=by
  rw[List.findIdx?_eq_some_iff_getElem]
  obtain⟨hk,hx⟩:=aZ h
  exact⟨hk,by rw[hx];exact hp,fun j hj=>by simpa using hno j _ hj (aP (by omega))⟩
 rw[fe,this]
theorem dm {α:Type}{p:α→Bool}{l:List α}(hno:∀ (j:Nat) (x:α),l[j]? =some x→p x=false):fe p l=-1:=by
 have:l.findIdx? p=none:=by
  rw[List.findIdx?_eq_none_iff]
  intro x hx
  obtain⟨j,hj⟩:=List.getElem?_of_mem hx
  exact hno j x hj
 rw[fe,this]
theorem kX {l:List AttrM}{k:Nat}{a:AttrM}(h:l[k]? =some a):(l.map fu)[k]? =some (mF a):=by rw[dM,h];rfl
theorem Ep (g:Nat)(cg:ae Tryz.prog g)(caps:List AV)(hcaps:aU caps=true)(p:AttrM→Bool)(l:List AttrM)(hl:l.length≤100000)(hf:∀a,a∈l→af Tryz.prog g [] (mF a::caps) [] (aA (p a))):
  af Tryz.prog 263 [] [dY l,.clo (.func g) [] caps] [] (aj (fe p l)):=by
 have hlm:(l.map fu).length=l.length:=aM ..
 refine af.ah (rvs:=[.tmp 4]) G aa Tryz.func263 rfl Tryz.ntmps263 rfl rfl ?_;with_reducible refine wD ?_
 refine aR.use G aa (fun(k:Nat)=>[(0,dY l),(1,.clo (.func g) [] caps),(7,aj l.length),(8,aj k)]) (fun _=>[]) (fun k=>k≤l.length∧∀j x,j<k→l[j]? =some x→p x=false) (fun k=>l.length-k) 0 ⟨Nat.zero_le _,fun j x h=>by omega⟩
  ⟨⟨rfl,rfl⟩,⟨rfl,⟨rfl,trivial,aJ hcaps⟩,by show(l.length:Int)=((l.map fu).length:Int);rw[hlm],rfl,trivial⟩,trivial⟩ ?_
 rintro k ⟨hk,hno⟩
 with_reducible refine wK ?_
 refine aQ.mk (fun h1=>?_) (fun h1=>?_)<;>(try simp only[aq] at h1)<;>with_reducible refine wK ?_
 ·simp only[aL] at h1
  have hk':k<l.length:=by omega
  obtain⟨a,ha⟩:∃a,l[k]? =some a:=⟨_,aP hk'⟩
  refine ak.mk k (mF a) rfl (kX ha) ?_;with_reducible refine wK ?_
  refine aD.lit [] (hf a (bn ha)) cg ⟨⟨rfl,rfl,trivial⟩,aJ hcaps⟩ rfl rfl ?_;with_reducible refine wK ?_
  refine aQ.mk (fun h2=>?_) (fun h2=>?_)<;>(try simp only[aq] at h2)<;>with_reducible refine wK ?_
  ·(refine eK ?_ ?_<;>with_reducible repeat' (first|exact trivial|(show _∧_;refine aK ?_ ?_)))
   exact dL ha h2 hno
  ·refine nK ?_;with_reducible refine wK ?_
   refine ay.mk (k+1) ⟨by omega,fun j x hj hx=>?_⟩ (by omega) ⟨⟨rfl,rfl⟩,⟨rfl,⟨rfl,trivial,aJ hcaps⟩,rfl,by show((k+1:Nat):Int)=(k:Int)+1;omega,trivial⟩,trivial⟩
   rcases Nat.lt_or_ge j k with h6|h6
   ·exact hno j x h6 hx
   ·have:j=k:=by omega
    subst this
    rw[ha] at hx;cases hx;exact h2
 ·(refine eK ?_ ?_<;>with_reducible repeat' (first|exact trivial|(show _∧_;refine aK ?_ ?_)))
  have:k=l.length:=by simp only[bh] at h1;omega
  exact dm fun j x hx=>hno j x (by have:=(aZ hx).1;omega) hx
theorem KM (g:Nat)(cg:ae Tryz.prog g)(caps:List AV)(hcaps:aU caps=true)(p:AttrM→Bool)(l:List AttrM)(hl:l.length≤100000)(hf:∀a,a∈l→af Tryz.prog g [] (mF a::caps) [] (aA (p a))):
  af Tryz.prog 244 [] [dY l,.clo (.func g) [] caps] [] (aA (l.any p)):=by
 refine af.ah (rvs:=[.tmp 4]) G aa Tryz.func244 rfl Tryz.ntmps244 rfl rfl ?_;with_reducible refine wD ?_
 refine aD.lit [] (Ep g cg caps hcaps p l hl hf) PL ⟨rfl,⟨rfl,trivial,aJ hcaps⟩,trivial⟩ rfl rfl ?_;with_reducible refine wK ?_
 (refine eK ?_ ?_<;>with_reducible repeat' (first|exact trivial|(show _∧_;refine aK ?_ ?_)))
 unfold fe
 cases h:l.findIdx? p with
 | none=>
   rw[List.findIdx?_eq_none_iff] at h
   have:l.any p=false:=by rw[List.any_eq_false];intro x hx;rw[h x hx];simp
   rw[this];rfl
 | some i=>
   rw[List.findIdx?_eq_some_iff_getElem] at h
   obtain⟨hi,h1,_⟩:=h
   have:l.any p=true:=List.any_eq_true.2 ⟨_,List.getElem_mem hi,h1⟩
   rw[this];exact(aV (Int.natCast_nonneg i)).symm
theorem M6 (l:List AttrM)(hl:l.length≤100000)(n:ByteArray):af Tryz.prog 275 [] [dY l,bG n] [] (aj (fe (fun a=>decide (a.name=n)) l)):=by
 refine af.ah (rvs:=[.tmp 4]) G aa Tryz.func275 rfl Tryz.ntmps275 rfl rfl ?_;with_reducible refine wD ?_
 refine aD.lit [30] (Ep 282 RC [.fptr (bG n) 0] rfl (fun a=>decide (a.name=n)) l hl fun a _=>J6 a n) PL ⟨rfl,⟨rfl,trivial,⟨_,_,_,_,_,rfl,rfl,rfl,rfl,rfl,rfl⟩,trivial⟩,trivial⟩ rfl rfl ?_;with_reducible refine wK ?_
 (refine eK ?_ ?_<;>with_reducible repeat' (first|exact trivial|(show _∧_;refine aK ?_ ?_)))
def Np (a:AttrM):Bool:=bJ a.name&&decide (gR a.name=a.name)&&decide (a.value.size≤200)
theorem Lr (a:AttrM):Jf a=!Np a:=rfl
def hasName (n:ByteArray)(a:AttrM):Bool:=decide (a.name=n)
def nE (l:List AttrM)(n:ByteArray):Int:=fe (hasName n) l
def gq (l:List AttrM):Bool:=decide (l.length≤40)&&l.all Np&&decide ((l.map AttrM.name).Nodup)
def kp (t:List (ByteArray×AttrM))(l:List AttrM):List (ByteArray×AttrM):=l.foldl (fun t a=>eE a.name a t) t
def uE (l:List AttrM):List (ByteArray×AttrM):=kp [] l
theorem A2 {K α:Type}[DecidableEq K](k:K)(x:α):∀t:List (K×α),(eE k x t).length=if(dx k t).isSome then t.length else t.length+1
 |[]=>rfl
 | p::r=>by
   simp only[eE,dx]
   split
   ·simp
   ·rw[List.length_cons,A2 k x r];split<;>simp
theorem oH:∀ (l:List AttrM) (t:List (ByteArray×AttrM)),(kp t l).length≤t.length+l.length∧((kp t l).length=t.length+l.length↔ (l.map AttrM.name).Nodup∧∀a∈l,(dx a.name t).isSome=false)
 |[],t=>by simp[kp]
 | a :: r,t=>by
   obtain⟨h1,h2⟩:=oH r (eE a.name a t)
   have hl:=A2 a.name a t
   show(kp (eE a.name a t) r).length≤_∧((kp (eE a.name a t) r).length=_↔_)
   cases hg:(dx a.name t).isSome with
   | true=>
     rw[hg,if_pos rfl] at hl
     refine⟨by simp only[List.length_cons];omega,⟨fun h=>?_,fun h=>?_⟩⟩
     ·simp only[List.length_cons] at h;omega
     ·have:=h.2 a (by simp);rw[hg] at this;cases this
   | false=>
     rw[hg,if_neg (by simp)] at hl
     refine⟨by simp only[List.length_cons];omega,?_⟩
     rw[show(kp (eE a.name a t) r).length=t.length+ (a::r).length↔ (kp (eE a.name a t) r).length=(eE a.name a t).length+r.length from by rw[hl,List.length_cons];omega,h2]
     simp only[List.map_cons,List.nodup_cons,fj,forall_eq_or_imp]
     constructor
     ·rintro⟨k1,k2⟩
      refine⟨⟨fun hm=>?_,k1⟩,hg,fun b hb=>?_⟩
      ·obtain⟨b,hb,he⟩:=List.mem_map.1 hm
       have:=k2 b hb
       rw[fI,he,if_pos rfl] at this;cases this
      ·have:=k2 b hb
       rw[fI] at this
       split at this
       ·cases this
       ·exact this
     ·rintro⟨⟨k1,k2⟩,_,k3⟩
      refine⟨k2,fun b hb=>?_⟩
      rw[fI,if_neg (fun e=>k1 (List.mem_map.2 ⟨b,hb,e.symm⟩))]
      exact k3 b hb
theorem JH (l:List AttrM):(uE l).length=l.length↔ (l.map AttrM.name).Nodup:=by
 have:=(oH l []).2
 simp only[List.length_nil,Nat.zero_add] at this
 exact this.trans ⟨fun h=>h.1,fun h=>⟨h,fun _ _=>rfl⟩⟩
theorem MU (l:List AttrM):(uE l).length≤l.length:=by
 have:=(oH l []).1
 simp only[List.length_nil,Nat.zero_add] at this
 exact this
theorem GU {l:List AttrM}{k:Nat}{a:AttrM}(h:l[k]? =some a):uE (l.take (k+1))=eE a.name a (uE (l.take k)):=by
 have hk:=(aZ h).1
 rw[List.take_succ_eq_append_getElem hk,(aZ h).2]
 simp[uE,kp,List.foldl_append]
@[reducible] def P3 (l : List AttrM) : MS := .live 2 (ee Value.string fu (uE l)) false
theorem mR (t:List (ByteArray×AttrM)):aU (ee Value.string fu t)=true:=by
 rw[bZ];intro x hx
 obtain⟨a,_,rfl⟩:=List.mem_map.1 hx
 rfl
theorem M7:jj Tryz.prog 284 .string (.agg #[.string ByteArray.empty,.string ByteArray.empty]):=⟨9,179,by kernel_rfl,by kernel_rfl,fun w=>Tryz.zeroValue179 w⟩
theorem L6 (l:List AttrM)(hl:l.length≤100000):af Tryz.prog 245 [] [dY l] [P3 l] (.mapr 0):=by
 have hlm:(l.map fu).length=l.length:=aM ..
 refine af.ah (rvs:=[.tmp 2]) G aa Tryz.func245 rfl Tryz.ntmps245 rfl rfl ?_;with_reducible refine wD ?_
 refine aR.use G aa (fun(k:Nat)=>[(3,.mapr 61),(7,dY l),(8,aj l.length),(9,aj k)]) (fun k=>[(61,.live 2 (ee Value.string fu (uE (l.take k))) false)]) (fun k=>k≤l.length) (fun k=>l.length-k) 0 (Nat.zero_le _)
  ⟨⟨rfl,rfl⟩,⟨trivial,rfl,by show(l.length:Int)=((l.map fu).length:Int);rw[hlm],rfl,trivial⟩,⟨.refl rfl,rfl⟩,trivial⟩ ?_
 intro k hk
 with_reducible refine wK ?_
 refine aQ.mk (fun h1=>?_) (fun h1=>?_)<;>(try simp only[aq] at h1)<;>with_reducible refine wK ?_
 ·simp only[aL] at h1
  have hk':k<l.length:=by omega
  obtain⟨a,ha⟩:∃a,l[k]? =some a:=⟨_,aP hk'⟩
  obtain⟨n,v⟩:=a
  refine ak.mk k (mF ⟨n,v⟩) rfl (kX ha) ?_;with_reducible refine wK ?_
  have hle:(uE (l.take k)).length≤k:=Nat.le_trans (MU _) (by simp;omega)
  refine rY.cI Value.string fu (uE (l.take k)) (k:=n) ⟨n,v⟩ M7 rfl ko j2 (by unfold maxLen;omega) rfl ?_;with_reducible refine wK ?_
  refine nK ?_;with_reducible refine wK ?_
  refine ay.mk (k+1) (by omega) (by omega) ⟨⟨rfl,rfl⟩,⟨trivial,rfl,rfl,by show((k+1:Nat):Int)=(k:Int)+1;omega,trivial⟩,⟨?_,?_⟩,trivial⟩
  ·rw[GU ha];exact .refl (mR _)
  ·exact mR _
 ·(refine eK ?_ ?_<;>with_reducible repeat' (first|exact trivial|(show _∧_;refine aK ?_ ?_)))
  have:k=l.length:=by simp only[bh] at h1;omega
  rw[this,List.take_length]
  exact aJ (mR _)
theorem af.PK {P:Program}{f g:FuncId}{a:AV}{outs:List MS}{res:AV}(h:af P f [] [a,.clo (.func g) [] []] outs res):af P f [] [a,.lit (.func (.func g) #[] #[])] outs res:=by
 intro w W0 L vs hL hs hr
 refine h w W0 L vs hL hs ⟨hr.1,fun j c v h1 h2=>?_⟩
 match j with
 |0=>exact hr.2 0 c v h1 h2
 | 1=>
   have:=hr.2 1 _ v rfl h2
   cases this
   simp at h1
   subst h1
   exact cH.clo (va:=[]) (vb:=[]) rfl rfl (fun j c v h=>by simp at h) (fun j c v h=>by simp at h)
 |j+2=>simp at h1
theorem zB (l:List AttrM):l.any Jf=!l.all Np:=by
 induction l with
 |nil=>rfl
 |cons a r ih=>simp[List.any_cons,List.all_cons,ih,Lr]
theorem HI (l:List AttrM):gJ [P3 l]:=by
 refine⟨bI.fM fun r hr=>?_,mR _,trivial⟩
 obtain⟨p,_,rfl⟩:=List.mem_map.1 hr
 rfl
theorem E2 (l:List AttrM)(hl:l.length≤100000):af Tryz.prog 203 [] [dY l] [] (aA (gq l)):=by
 have hlm:(l.map fu).length=l.length:=aM ..
 refine af.ah (rvs:=[.tmp 2]) G aa Tryz.func203 rfl Tryz.ntmps203 rfl rfl ?_;with_reducible refine wD ?_
 repeat' (first
  |refine aE ?_ ?_
  |((with_reducible show aQ _ _ _ _);first|refine iK ?_|(refine aQ.mk (fun _=>?_) (fun _=>?_)<;>with_reducible refine wK ?_))
  |((with_reducible refine kQ 244 ?_);refine aD.lit [] (af.PK (KM 243 RW [] rfl Jf l hl fun a _=>ME a)) Rp ⟨rfl,nq 12 _ rfl,trivial⟩ rfl rfl ?_;with_reducible refine wK ?_)
  |((with_reducible refine kQ 245 ?_);refine aD.new 151 [] (L6 l hl) QO ⟨rfl,trivial⟩ rfl rfl rfl (HI l) rfl ?_;with_reducible refine wK ?_)
  |((with_reducible show gl _ _ _ _ _ _ _);refine gl.mk M7 ⟨_,_,rfl⟩ rfl ?_;with_reducible refine wK ?_)
  |apply trivial)
 ·have h2:l.all Np=true:=by have:=zB l;simp_all
  have e:(ee Value.string fu (uE l)).length=(uE l).length:=aM ..
  have h3:l.length≤40:=by simp only[hlm,aL] at*;omega
  have h4:=JH l
  unfold gq
  rw[h2,aV h3,e,hlm]
  by_cases hn:(l.map AttrM.name).Nodup
  ·rw[aV hn,h4.2 hn];simp
  ·rw[aS hn]
   have:¬ (uE l).length=l.length:=fun h=>hn (h4.1 h)
   rw[aS (by(try simp only[aq]);omega)];rfl
 ·have h2:l.all Np=false:=by have:=zB l;simp_all
  unfold gq;rw[h2];simp
 ·have h2:decide (l.length≤40)=false:=by simp only[hlm,bh] at*;omega
  unfold gq;rw[h2];simp
def Qi:ByteArray:=⟨#[]⟩
def Nn (l:List AttrM)(n:ByteArray):Int:=if gq l then(if bJ n then 0 else 4) else 1
def Ns (l:List AttrM)(n:ByteArray):ByteArray:=if gq l&&bJ n then gR n else Qi
def iE (l:List AttrM)(n:ByteArray):Int:=if gq l&&bJ n then nE l (gR n) else-1
theorem MH (l:List AttrM)(hl:l.length≤100000)(n:ByteArray):af Tryz.prog 264 [] [dY l,bG n] [] (.tup [bG (Ns l n),aj (iE l n),aj (Nn l n)]):=by
 refine af.ah (rvs:=[.tmp 4,.tmp 5,.tmp 6]) G aa Tryz.func264 rfl Tryz.ntmps264 rfl rfl ?_;with_reducible refine wD ?_
 repeat' (first
  |refine aE ?_ ?_
  |((with_reducible show aQ _ _ _ _);first|refine iK ?_|(refine aQ.mk (fun _=>?_) (fun _=>?_)<;>with_reducible refine wK ?_))
  |((with_reducible refine kQ 203 ?_);refine cL (E2 l hl) OT ?_;with_reducible refine wK ?_)
  |((with_reducible refine kQ 81 ?_);refine cL (Az _) JQ ?_;with_reducible refine wK ?_)
  |((with_reducible refine kQ 275 ?_);refine cL (M6 l hl _) R6 ?_;with_reducible refine wK ?_)
  |apply trivial)
 all_goals (cases h1:gq l<;>cases h2:bJ n<;>simp_all[Nn,Ns,iE,Qi])
 rfl
def xe (l:List AttrM)(n:ByteArray):ByteArray:=if 0≤iE l n then((l[(iE l n).toNat]?).map AttrM.value).getD Qi else Qi
theorem mU {α:Type}(p:α→Bool)(l:List α):fe p l=-1∨∃ (k:Nat) (a:α),fe p l=k∧l[k]? =some a∧p a=true:=by
 unfold fe
 cases h:l.findIdx? p with
 |none=>exact .inl rfl
 | some k=>
   rw[List.findIdx?_eq_some_iff_getElem] at h
   obtain⟨hk,h1,_⟩:=h
   exact .inr ⟨k,_,rfl,aP hk,h1⟩
theorem BW (l:List AttrM)(n:ByteArray):iE l n=-1∨∃ (k:Nat) (a:AttrM),iE l n=k∧l[k]? =some a∧a.name=gR n:=by
 unfold iE
 split
 ·rcases mU (hasName (gR n)) l with h|⟨k,a,h1,h2,h3⟩
  ·exact .inl h
  ·exact .inr ⟨k,a,h1,h2,by simpa[hasName] using h3⟩
 ·exact .inl rfl
theorem zX (l:List AttrM)(hl:l.length≤100000)(n:ByteArray):af Tryz.prog 248 [] [dY l,bG n] [] (.tup [bG (xe l n),aA (decide (0≤iE l n))]):=by
 refine af.ah (rvs:=[.tmp 4,.tmp 5]) G aa Tryz.func248 rfl Tryz.ntmps248 rfl rfl ?_;with_reducible refine wD ?_
 refine cL (MH l hl n) Ri ?_;with_reducible refine wK ?_
 rcases BW l n with h|⟨k,a,h,ha,hn⟩
 ·simp only[h]
  refine aQ.yes rfl ?_;with_reducible refine wK ?_
  (refine eK ?_ ?_<;>with_reducible repeat' (first|exact trivial|(show _∧_;refine aK ?_ ?_)))
  ·unfold xe;rw[h];rfl
  ·rfl
 ·simp only[h]
  refine aQ.no (aS (by(try simp only[aq]);omega)) ?_;with_reducible refine wK ?_
  refine ak.mk k (mF a) rfl (kX ha) ?_;with_reducible refine wK ?_
  (refine eK ?_ ?_<;>with_reducible repeat' (first|exact trivial|(show _∧_;refine aK ?_ ?_)))
  ·unfold xe;rw[h,if_pos (by omega),Int.toNat_natCast,ha];rfl
  ·exact aV (by omega)
theorem xS {m:ML}{fz:Nat→Bool}{cI:List (Nat×Nat)}{n t len:Nat}{ro:Bool}{rows:List AV}{l:List AttrM}(h1:eC m t=.live 2 rows ro)(h2:fz t=true)(h3:rows=l.map fu)(h4:len=l.length):o6 m fz (MF cI fz m n) (dY l) t 0 len:=by
 subst h3;subst h4
 have e:(l.map fu).length=l.length:=aM ..
 exact .cut h1 h2 (by omega) (by rw[List.drop_zero,jH (by omega)]) (BN l)
theorem vv (s:ByteArray):af Tryz.prog 86 [] [bG s] [] (aA (bJ s)):=by
 have hsz:s.size=s.data.toList.length:=iW s
 refine af.ah (rvs:=[.tmp 2]) G aa Tryz.func86 rfl Tryz.ntmps86 rfl rfl ?_;with_reducible refine wD ?_
 repeat' (first
  |refine aE ?_ ?_
  |((with_reducible show aQ _ _ _ _);first|refine iK ?_|(refine aQ.mk (fun _=>?_) (fun _=>?_)<;>with_reducible refine wK ?_))
  |apply trivial)
 all_goals (simp only[aL,bh,hsz] at*)
 ·unfold bJ kL
  rw[show decide (1≤s.data.toList.length)=false from aS (by omega)];rfl
 ·unfold bJ kL
  rw[show decide (s.data.toList.length≤40)=false from aS (by omega)];simp
 ·have hr:=Fc (l:=s.data.toList) (by omega) (by omega)
  refine aR.use G aa (fun(k:Nat)=>[(0,bG s),(3,aj k)]) (fun _=>[]) (fun k=>k≤s.data.toList.length∧∀i b,i<k→s.data.toList[i]? =some b→vU i b=true) (fun k=>s.data.toList.length-k) 0 ⟨Nat.zero_le _,fun i _ h=>by omega⟩ ⟨⟨rfl,rfl⟩,⟨rfl,rfl,trivial⟩,trivial⟩ ?_
  rintro k ⟨hk,hok⟩
  with_reducible refine wK ?_
  refine aQ.mk (fun h1=>?_) (fun h1=>?_)<;>(try simp only[aq] at h1)<;>with_reducible refine wK ?_
  ·simp only[aL] at h1
   have hk':k<s.data.toList.length:=by rw[←iW s];omega
   obtain⟨b,hb⟩:∃b,s.data.toList[k]? =some b:=⟨_,aP hk'⟩
   refine mc.mk k b rfl hb ?_;with_reducible refine wK ?_
   have next:vU k b=true→∀i c,i<k+1→s.data.toList[i]? =some c→vU i c=true:=by
    intro h i c hi hc
    rcases Nat.lt_or_ge i k with h6|h6
    ·exact hok i c h6 hc
    ·have:i=k:=by omega
     subst this
     rw[hb] at hc;cases hc;exact h
   have no:vU k b=false→bJ s=false:=by
    intro h
    cases h':bJ s with
    |false=>rfl
    |true=>rw[hr.1 h' k b hb] at h;cases h
   have hb256:b.toNat<256:=UInt8.toNat_lt b
   obtain⟨c,hcb⟩:∃c:Int,(b.toNat:Int)=c:=⟨_,rfl⟩
   have hc:(0≤c∧c≤44)∨(45≤c∧c≤45)∨(46≤c∧c≤46)∨(47≤c∧c≤47)∨(48≤c∧c≤57)∨(58≤c∧c≤64)∨(65≤c∧c≤90)∨(91≤c∧c≤94)∨(95≤c∧c≤95)∨(96≤c∧c≤96)∨(97≤c∧c≤122)∨(123≤c∧c≤255):=by omega
   have hok':vU k b=((decide (97≤c)&&decide (c≤122)||decide (65≤c)&&decide (c≤90))||decide (c=95)||(decide (0<k)&&((decide (97≤c)&&decide (c≤122))||(decide (65≤c)&&decide (c≤90))||(decide (48≤c)&&decide (c≤57))||decide (c=45)||decide (c=95)||decide (c=46)))):=by
    simp only[vU,mB,jz,iv,hM,hcb]
   simp only[hcb]
   have n1:(!false)=true:=rfl
   have n2:(!true)=false:=rfl
   obtain⟨K0,hK0⟩:∃K0,decide ((k:Int)=0)=K0:=⟨_,rfl⟩
   have hk0:decide (0<k)=!K0:=by
    rw[←hK0]
    rcases Nat.eq_zero_or_pos k with h|h
    ·subst h;rfl
    ·rw[aV h,aS (by omega)];rfl
   rw[hk0] at hok'
   rcases hc with⟨u1,u2⟩|⟨u1,u2⟩|⟨u1,u2⟩|⟨u1,u2⟩|⟨u1,u2⟩|⟨u1,u2⟩|⟨u1,u2⟩|⟨u1,u2⟩|⟨u1,u2⟩|⟨u1,u2⟩|⟨u1,u2⟩|⟨u1,u2⟩
   ·have e0:decide (97≤c)=false:=aS (by omega)
    have e1:decide (c≤122)=true:=aV (by omega)
    have e2:decide (65≤c)=false:=aS (by omega)
    have e3:decide (c≤90)=true:=aV (by omega)
    have e4:decide (48≤c)=false:=aS (by omega)
    have e5:decide (c≤57)=true:=aV (by omega)
    have e6:decide (c=45)=false:=aS (by omega)
    have e7:decide (c=46)=false:=aS (by omega)
    have e8:decide (c=95)=false:=aS (by omega)
    have e9:(!decide (c=95))=true:=by rw[e8];rfl
    have f5:(!decide (c≤57))=!(decide (c≤57)):=rfl
    rw[e5] at f5
    have f6:(!decide (c=45))=!(decide (c=45)):=rfl
    rw[e6] at f6
    have f7:(!decide (c=46))=!(decide (c=46)):=rfl
    rw[e7] at f7
    simp only[Bool.not_true,Bool.not_false] at f5
    simp only[Bool.not_true,Bool.not_false] at f6
    simp only[Bool.not_true,Bool.not_false] at f7
    simp only[e0,e1,e2,e3,e4,e5,e6,e7,e8,Bool.and_true,Bool.true_and,Bool.and_false,Bool.false_and,Bool.or_true,Bool.true_or,Bool.or_false,Bool.false_or] at hok'
    cases K0
    all_goals (try simp only[Bool.not_true,Bool.not_false] at hok')
    repeat' (first
  |refine aE ?_ ?_
  |((with_reducible show aQ _ _ _ _);first|refine iK ?_|(refine aQ.mk (fun _=>?_) (fun _=>?_)<;>with_reducible refine wK ?_))
  |((with_reducible show bW _ _ _ _);refine nK ?_;with_reducible refine wK ?_)
  |((with_reducible show ay _ _);refine ay.mk (k+1) ⟨by omega,next ?_⟩ (by omega) ⟨⟨rfl,rfl⟩,⟨rfl,by show((k+1:Nat):Int)=(k:Int)+1;omega,trivial⟩,trivial⟩)
  | apply trivial)
    all_goals first
     |exact no hok'
     |exact hok'
   ·have e0:decide (97≤c)=false:=aS (by omega)
    have e1:decide (c≤122)=true:=aV (by omega)
    have e2:decide (65≤c)=false:=aS (by omega)
    have e3:decide (c≤90)=true:=aV (by omega)
    have e4:decide (48≤c)=false:=aS (by omega)
    have e5:decide (c≤57)=true:=aV (by omega)
    have e6:decide (c=45)=true:=aV (by omega)
    have e7:decide (c=46)=false:=aS (by omega)
    have e8:decide (c=95)=false:=aS (by omega)
    have e9:(!decide (c=95))=true:=by rw[e8];rfl
    have f5:(!decide (c≤57))=!(decide (c≤57)):=rfl
    rw[e5] at f5
    have f6:(!decide (c=45))=!(decide (c=45)):=rfl
    rw[e6] at f6
    have f7:(!decide (c=46))=!(decide (c=46)):=rfl
    rw[e7] at f7
    simp only[Bool.not_true,Bool.not_false] at f5
    simp only[Bool.not_true,Bool.not_false] at f6
    simp only[Bool.not_true,Bool.not_false] at f7
    simp only[e0,e1,e2,e3,e4,e5,e6,e7,e8,Bool.and_true,Bool.true_and,Bool.and_false,Bool.false_and,Bool.or_true,Bool.true_or,Bool.or_false,Bool.false_or] at hok'
    cases K0
    all_goals (try simp only[Bool.not_true,Bool.not_false] at hok')
    repeat' (first
  |refine aE ?_ ?_
  |((with_reducible show aQ _ _ _ _);first|refine iK ?_|(refine aQ.mk (fun _=>?_) (fun _=>?_)<;>with_reducible refine wK ?_))
  |((with_reducible show bW _ _ _ _);refine nK ?_;with_reducible refine wK ?_)
  |((with_reducible show ay _ _);refine ay.mk (k+1) ⟨by omega,next ?_⟩ (by omega) ⟨⟨rfl,rfl⟩,⟨rfl,by show((k+1:Nat):Int)=(k:Int)+1;omega,trivial⟩,trivial⟩)
  | apply trivial)
    all_goals first
     |exact no hok'
     |exact hok'
   ·have e0:decide (97≤c)=false:=aS (by omega)
    have e1:decide (c≤122)=true:=aV (by omega)
    have e2:decide (65≤c)=false:=aS (by omega)
    have e3:decide (c≤90)=true:=aV (by omega)
    have e4:decide (48≤c)=false:=aS (by omega)
    have e5:decide (c≤57)=true:=aV (by omega)
    have e6:decide (c=45)=false:=aS (by omega)
    have e7:decide (c=46)=true:=aV (by omega)
    have e8:decide (c=95)=false:=aS (by omega)
    have e9:(!decide (c=95))=true:=by rw[e8];rfl
    have f5:(!decide (c≤57))=!(decide (c≤57)):=rfl
    rw[e5] at f5
    have f6:(!decide (c=45))=!(decide (c=45)):=rfl
    rw[e6] at f6
    have f7:(!decide (c=46))=!(decide (c=46)):=rfl
    rw[e7] at f7
    simp only[Bool.not_true,Bool.not_false] at f5
    simp only[Bool.not_true,Bool.not_false] at f6
    simp only[Bool.not_true,Bool.not_false] at f7
    simp only[e0,e1,e2,e3,e4,e5,e6,e7,e8,Bool.and_true,Bool.true_and,Bool.and_false,Bool.false_and,Bool.or_true,Bool.true_or,Bool.or_false,Bool.false_or] at hok'
    cases K0
    all_goals (try simp only[Bool.not_true,Bool.not_false] at hok')
    repeat' (first
  |refine aE ?_ ?_
  |((with_reducible show aQ _ _ _ _);first|refine iK ?_|(refine aQ.mk (fun _=>?_) (fun _=>?_)<;>with_reducible refine wK ?_))
  |((with_reducible show bW _ _ _ _);refine nK ?_;with_reducible refine wK ?_)
  |((with_reducible show ay _ _);refine ay.mk (k+1) ⟨by omega,next ?_⟩ (by omega) ⟨⟨rfl,rfl⟩,⟨rfl,by show((k+1:Nat):Int)=(k:Int)+1;omega,trivial⟩,trivial⟩)
  | apply trivial)
    all_goals first
     |exact no hok'
     |exact hok'
   ·have e0:decide (97≤c)=false:=aS (by omega)
    have e1:decide (c≤122)=true:=aV (by omega)
    have e2:decide (65≤c)=false:=aS (by omega)
    have e3:decide (c≤90)=true:=aV (by omega)
    have e4:decide (48≤c)=false:=aS (by omega)
    have e5:decide (c≤57)=true:=aV (by omega)
    have e6:decide (c=45)=false:=aS (by omega)
    have e7:decide (c=46)=false:=aS (by omega)
    have e8:decide (c=95)=false:=aS (by omega)
    have e9:(!decide (c=95))=true:=by rw[e8];rfl
    have f5:(!decide (c≤57))=!(decide (c≤57)):=rfl
    rw[e5] at f5
    have f6:(!decide (c=45))=!(decide (c=45)):=rfl
    rw[e6] at f6
    have f7:(!decide (c=46))=!(decide (c=46)):=rfl
    rw[e7] at f7
    simp only[Bool.not_true,Bool.not_false] at f5
    simp only[Bool.not_true,Bool.not_false] at f6
    simp only[Bool.not_true,Bool.not_false] at f7
    simp only[e0,e1,e2,e3,e4,e5,e6,e7,e8,Bool.and_true,Bool.true_and,Bool.and_false,Bool.false_and,Bool.or_true,Bool.true_or,Bool.or_false,Bool.false_or] at hok'
    cases K0
    all_goals (try simp only[Bool.not_true,Bool.not_false] at hok')
    repeat' (first
  |refine aE ?_ ?_
  |((with_reducible show aQ _ _ _ _);first|refine iK ?_|(refine aQ.mk (fun _=>?_) (fun _=>?_)<;>with_reducible refine wK ?_))
  |((with_reducible show bW _ _ _ _);refine nK ?_;with_reducible refine wK ?_)
  |((with_reducible show ay _ _);refine ay.mk (k+1) ⟨by omega,next ?_⟩ (by omega) ⟨⟨rfl,rfl⟩,⟨rfl,by show((k+1:Nat):Int)=(k:Int)+1;omega,trivial⟩,trivial⟩)
  | apply trivial)
    all_goals first
     |exact no hok'
     |exact hok'
   ·have e0:decide (97≤c)=false:=aS (by omega)
    have e1:decide (c≤122)=true:=aV (by omega)
    have e2:decide (65≤c)=false:=aS (by omega)
    have e3:decide (c≤90)=true:=aV (by omega)
    have e4:decide (48≤c)=true:=aV (by omega)
    have e5:decide (c≤57)=true:=aV (by omega)
    have e6:decide (c=45)=false:=aS (by omega)
    have e7:decide (c=46)=false:=aS (by omega)
    have e8:decide (c=95)=false:=aS (by omega)
    have e9:(!decide (c=95))=true:=by rw[e8];rfl
    have f5:(!decide (c≤57))=!(decide (c≤57)):=rfl
    rw[e5] at f5
    have f6:(!decide (c=45))=!(decide (c=45)):=rfl
    rw[e6] at f6
    have f7:(!decide (c=46))=!(decide (c=46)):=rfl
    rw[e7] at f7
    simp only[Bool.not_true,Bool.not_false] at f5
    simp only[Bool.not_true,Bool.not_false] at f6
    simp only[Bool.not_true,Bool.not_false] at f7
    simp only[e0,e1,e2,e3,e4,e5,e6,e7,e8,Bool.and_true,Bool.true_and,Bool.and_false,Bool.false_and,Bool.or_true,Bool.true_or,Bool.or_false,Bool.false_or] at hok'
    cases K0
    all_goals (try simp only[Bool.not_true,Bool.not_false] at hok')
    repeat' (first
  |refine aE ?_ ?_
  |((with_reducible show aQ _ _ _ _);first|refine iK ?_|(refine aQ.mk (fun _=>?_) (fun _=>?_)<;>with_reducible refine wK ?_))
  |((with_reducible show bW _ _ _ _);refine nK ?_;with_reducible refine wK ?_)
  |((with_reducible show ay _ _);refine ay.mk (k+1) ⟨by omega,next ?_⟩ (by omega) ⟨⟨rfl,rfl⟩,⟨rfl,by show((k+1:Nat):Int)=(k:Int)+1;omega,trivial⟩,trivial⟩)
  | apply trivial)
    all_goals first
     |exact no hok'
     |exact hok'
   ·have e0:decide (97≤c)=false:=aS (by omega)
    have e1:decide (c≤122)=true:=aV (by omega)
    have e2:decide (65≤c)=false:=aS (by omega)
    have e3:decide (c≤90)=true:=aV (by omega)
    have e4:decide (48≤c)=true:=aV (by omega)
    have e5:decide (c≤57)=false:=aS (by omega)
    have e6:decide (c=45)=false:=aS (by omega)
    have e7:decide (c=46)=false:=aS (by omega)
    have e8:decide (c=95)=false:=aS (by omega)
    have e9:(!decide (c=95))=true:=by rw[e8];rfl
    have f5:(!decide (c≤57))=!(decide (c≤57)):=rfl
    rw[e5] at f5
    have f6:(!decide (c=45))=!(decide (c=45)):=rfl
    rw[e6] at f6
    have f7:(!decide (c=46))=!(decide (c=46)):=rfl
    rw[e7] at f7
    simp only[Bool.not_true,Bool.not_false] at f5
    simp only[Bool.not_true,Bool.not_false] at f6
    simp only[Bool.not_true,Bool.not_false] at f7
    simp only[e0,e1,e2,e3,e4,e5,e6,e7,e8,Bool.and_true,Bool.true_and,Bool.and_false,Bool.false_and,Bool.or_true,Bool.true_or,Bool.or_false,Bool.false_or] at hok'
    cases K0
    all_goals (try simp only[Bool.not_true,Bool.not_false] at hok')
    repeat' (first
  |refine aE ?_ ?_
  |((with_reducible show aQ _ _ _ _);first|refine iK ?_|(refine aQ.mk (fun _=>?_) (fun _=>?_)<;>with_reducible refine wK ?_))
  |((with_reducible show bW _ _ _ _);refine nK ?_;with_reducible refine wK ?_)
  |((with_reducible show ay _ _);refine ay.mk (k+1) ⟨by omega,next ?_⟩ (by omega) ⟨⟨rfl,rfl⟩,⟨rfl,by show((k+1:Nat):Int)=(k:Int)+1;omega,trivial⟩,trivial⟩)
  | apply trivial)
    all_goals first
     |exact no hok'
     |exact hok'
   ·have e0:decide (97≤c)=false:=aS (by omega)
    have e1:decide (c≤122)=true:=aV (by omega)
    have e2:decide (65≤c)=true:=aV (by omega)
    have e3:decide (c≤90)=true:=aV (by omega)
    have e4:decide (48≤c)=true:=aV (by omega)
    have e5:decide (c≤57)=false:=aS (by omega)
    have e6:decide (c=45)=false:=aS (by omega)
    have e7:decide (c=46)=false:=aS (by omega)
    have e8:decide (c=95)=false:=aS (by omega)
    have e9:(!decide (c=95))=true:=by rw[e8];rfl
    have f5:(!decide (c≤57))=!(decide (c≤57)):=rfl
    rw[e5] at f5
    have f6:(!decide (c=45))=!(decide (c=45)):=rfl
    rw[e6] at f6
    have f7:(!decide (c=46))=!(decide (c=46)):=rfl
    rw[e7] at f7
    simp only[Bool.not_true,Bool.not_false] at f5
    simp only[Bool.not_true,Bool.not_false] at f6
    simp only[Bool.not_true,Bool.not_false] at f7
    simp only[e0,e1,e2,e3,e4,e5,e6,e7,e8,Bool.and_true,Bool.true_and,Bool.and_false,Bool.false_and,Bool.or_true,Bool.true_or,Bool.or_false,Bool.false_or] at hok'
    cases K0
    all_goals (try simp only[Bool.not_true,Bool.not_false] at hok')
    repeat' (first
  |refine aE ?_ ?_
  |((with_reducible show aQ _ _ _ _);first|refine iK ?_|(refine aQ.mk (fun _=>?_) (fun _=>?_)<;>with_reducible refine wK ?_))
  |((with_reducible show bW _ _ _ _);refine nK ?_;with_reducible refine wK ?_)
  |((with_reducible show ay _ _);refine ay.mk (k+1) ⟨by omega,next ?_⟩ (by omega) ⟨⟨rfl,rfl⟩,⟨rfl,by show((k+1:Nat):Int)=(k:Int)+1;omega,trivial⟩,trivial⟩)
  | apply trivial)
    all_goals first
     |exact no hok'
     |exact hok'
   ·have e0:decide (97≤c)=false:=aS (by omega)
    have e1:decide (c≤122)=true:=aV (by omega)
    have e2:decide (65≤c)=true:=aV (by omega)
    have e3:decide (c≤90)=false:=aS (by omega)
    have e4:decide (48≤c)=true:=aV (by omega)
    have e5:decide (c≤57)=false:=aS (by omega)
    have e6:decide (c=45)=false:=aS (by omega)
    have e7:decide (c=46)=false:=aS (by omega)
    have e8:decide (c=95)=false:=aS (by omega)
    have e9:(!decide (c=95))=true:=by rw[e8];rfl
    have f5:(!decide (c≤57))=!(decide (c≤57)):=rfl
    rw[e5] at f5
    have f6:(!decide (c=45))=!(decide (c=45)):=rfl
    rw[e6] at f6
    have f7:(!decide (c=46))=!(decide (c=46)):=rfl
    rw[e7] at f7
    simp only[Bool.not_true,Bool.not_false] at f5
    simp only[Bool.not_true,Bool.not_false] at f6
    simp only[Bool.not_true,Bool.not_false] at f7
    simp only[e0,e1,e2,e3,e4,e5,e6,e7,e8,Bool.and_true,Bool.true_and,Bool.and_false,Bool.false_and,Bool.or_true,Bool.true_or,Bool.or_false,Bool.false_or] at hok'
    cases K0
    all_goals (try simp only[Bool.not_true,Bool.not_false] at hok')
    repeat' (first
  |refine aE ?_ ?_
  |((with_reducible show aQ _ _ _ _);first|refine iK ?_|(refine aQ.mk (fun _=>?_) (fun _=>?_)<;>with_reducible refine wK ?_))
  |((with_reducible show bW _ _ _ _);refine nK ?_;with_reducible refine wK ?_)
  |((with_reducible show ay _ _);refine ay.mk (k+1) ⟨by omega,next ?_⟩ (by omega) ⟨⟨rfl,rfl⟩,⟨rfl,by show((k+1:Nat):Int)=(k:Int)+1;omega,trivial⟩,trivial⟩)
  | apply trivial)
    all_goals first
     |exact no hok'
     |exact hok'
   ·have e0:decide (97≤c)=false:=aS (by omega)
    have e1:decide (c≤122)=true:=aV (by omega)
    have e2:decide (65≤c)=true:=aV (by omega)
    have e3:decide (c≤90)=false:=aS (by omega)
    have e4:decide (48≤c)=true:=aV (by omega)
    have e5:decide (c≤57)=false:=aS (by omega)
    have e6:decide (c=45)=false:=aS (by omega)
    have e7:decide (c=46)=false:=aS (by omega)
    have e8:decide (c=95)=true:=aV (by omega)
    have e9:(!decide (c=95))=false:=by rw[e8];rfl
    have f5:(!decide (c≤57))=!(decide (c≤57)):=rfl
    rw[e5] at f5
    have f6:(!decide (c=45))=!(decide (c=45)):=rfl
    rw[e6] at f6
    have f7:(!decide (c=46))=!(decide (c=46)):=rfl
    rw[e7] at f7
    simp only[Bool.not_true,Bool.not_false] at f5
    simp only[Bool.not_true,Bool.not_false] at f6
    simp only[Bool.not_true,Bool.not_false] at f7
    simp only[e0,e1,e2,e3,e4,e5,e6,e7,e8,Bool.and_true,Bool.true_and,Bool.and_false,Bool.false_and,Bool.or_true,Bool.true_or,Bool.or_false,Bool.false_or] at hok'
    cases K0
    all_goals (try simp only[Bool.not_true,Bool.not_false] at hok')
    repeat' (first
  |refine aE ?_ ?_
  |((with_reducible show aQ _ _ _ _);first|refine iK ?_|(refine aQ.mk (fun _=>?_) (fun _=>?_)<;>with_reducible refine wK ?_))
  |((with_reducible show bW _ _ _ _);refine nK ?_;with_reducible refine wK ?_)
  |((with_reducible show ay _ _);refine ay.mk (k+1) ⟨by omega,next ?_⟩ (by omega) ⟨⟨rfl,rfl⟩,⟨rfl,by show((k+1:Nat):Int)=(k:Int)+1;omega,trivial⟩,trivial⟩)
  | apply trivial)
    all_goals first
     |exact no hok'
     |exact hok'
   ·have e0:decide (97≤c)=false:=aS (by omega)
    have e1:decide (c≤122)=true:=aV (by omega)
    have e2:decide (65≤c)=true:=aV (by omega)
    have e3:decide (c≤90)=false:=aS (by omega)
    have e4:decide (48≤c)=true:=aV (by omega)
    have e5:decide (c≤57)=false:=aS (by omega)
    have e6:decide (c=45)=false:=aS (by omega)
    have e7:decide (c=46)=false:=aS (by omega)
    have e8:decide (c=95)=false:=aS (by omega)
    have e9:(!decide (c=95))=true:=by rw[e8];rfl
    have f5:(!decide (c≤57))=!(decide (c≤57)):=rfl
    rw[e5] at f5
    have f6:(!decide (c=45))=!(decide (c=45)):=rfl
    rw[e6] at f6
    have f7:(!decide (c=46))=!(decide (c=46)):=rfl
    rw[e7] at f7
    simp only[Bool.not_true,Bool.not_false] at f5
    simp only[Bool.not_true,Bool.not_false] at f6
    simp only[Bool.not_true,Bool.not_false] at f7
    simp only[e0,e1,e2,e3,e4,e5,e6,e7,e8,Bool.and_true,Bool.true_and,Bool.and_false,Bool.false_and,Bool.or_true,Bool.true_or,Bool.or_false,Bool.false_or] at hok'
    cases K0
    all_goals (try simp only[Bool.not_true,Bool.not_false] at hok')
    repeat' (first
  |refine aE ?_ ?_
  |((with_reducible show aQ _ _ _ _);first|refine iK ?_|(refine aQ.mk (fun _=>?_) (fun _=>?_)<;>with_reducible refine wK ?_))
  |((with_reducible show bW _ _ _ _);refine nK ?_;with_reducible refine wK ?_)
  |((with_reducible show ay _ _);refine ay.mk (k+1) ⟨by omega,next ?_⟩ (by omega) ⟨⟨rfl,rfl⟩,⟨rfl,by show((k+1:Nat):Int)=(k:Int)+1;omega,trivial⟩,trivial⟩)
  | apply trivial)
    all_goals first
     |exact no hok'
     |exact hok'
   ·have e0:decide (97≤c)=true:=aV (by omega)
    have e1:decide (c≤122)=true:=aV (by omega)
    have e2:decide (65≤c)=true:=aV (by omega)
    have e3:decide (c≤90)=false:=aS (by omega)
    have e4:decide (48≤c)=true:=aV (by omega)
    have e5:decide (c≤57)=false:=aS (by omega)
    have e6:decide (c=45)=false:=aS (by omega)
    have e7:decide (c=46)=false:=aS (by omega)
    have e8:decide (c=95)=false:=aS (by omega)
    have e9:(!decide (c=95))=true:=by rw[e8];rfl
    have f5:(!decide (c≤57))=!(decide (c≤57)):=rfl
    rw[e5] at f5
    have f6:(!decide (c=45))=!(decide (c=45)):=rfl
    rw[e6] at f6
    have f7:(!decide (c=46))=!(decide (c=46)):=rfl
    rw[e7] at f7
    simp only[Bool.not_true,Bool.not_false] at f5
    simp only[Bool.not_true,Bool.not_false] at f6
    simp only[Bool.not_true,Bool.not_false] at f7
    simp only[e0,e1,e2,e3,e4,e5,e6,e7,e8,Bool.and_true,Bool.true_and,Bool.and_false,Bool.false_and,Bool.or_true,Bool.true_or,Bool.or_false,Bool.false_or] at hok'
    cases K0
    all_goals (try simp only[Bool.not_true,Bool.not_false] at hok')
    repeat' (first
  |refine aE ?_ ?_
  |((with_reducible show aQ _ _ _ _);first|refine iK ?_|(refine aQ.mk (fun _=>?_) (fun _=>?_)<;>with_reducible refine wK ?_))
  |((with_reducible show bW _ _ _ _);refine nK ?_;with_reducible refine wK ?_)
  |((with_reducible show ay _ _);refine ay.mk (k+1) ⟨by omega,next ?_⟩ (by omega) ⟨⟨rfl,rfl⟩,⟨rfl,by show((k+1:Nat):Int)=(k:Int)+1;omega,trivial⟩,trivial⟩)
  | apply trivial)
    all_goals first
     |exact no hok'
     |exact hok'
   ·have e0:decide (97≤c)=true:=aV (by omega)
    have e1:decide (c≤122)=false:=aS (by omega)
    have e2:decide (65≤c)=true:=aV (by omega)
    have e3:decide (c≤90)=false:=aS (by omega)
    have e4:decide (48≤c)=true:=aV (by omega)
    have e5:decide (c≤57)=false:=aS (by omega)
    have e6:decide (c=45)=false:=aS (by omega)
    have e7:decide (c=46)=false:=aS (by omega)
    have e8:decide (c=95)=false:=aS (by omega)
    have e9:(!decide (c=95))=true:=by rw[e8];rfl
    have f5:(!decide (c≤57))=!(decide (c≤57)):=rfl
    rw[e5] at f5
    have f6:(!decide (c=45))=!(decide (c=45)):=rfl
    rw[e6] at f6
    have f7:(!decide (c=46))=!(decide (c=46)):=rfl
    rw[e7] at f7
    simp only[Bool.not_true,Bool.not_false] at f5
    simp only[Bool.not_true,Bool.not_false] at f6
    simp only[Bool.not_true,Bool.not_false] at f7
    simp only[e0,e1,e2,e3,e4,e5,e6,e7,e8,Bool.and_true,Bool.true_and,Bool.and_false,Bool.false_and,Bool.or_true,Bool.true_or,Bool.or_false,Bool.false_or] at hok'
    cases K0
    all_goals (try simp only[Bool.not_true,Bool.not_false] at hok')
    repeat' (first
  |refine aE ?_ ?_
  |((with_reducible show aQ _ _ _ _);first|refine iK ?_|(refine aQ.mk (fun _=>?_) (fun _=>?_)<;>with_reducible refine wK ?_))
  |((with_reducible show bW _ _ _ _);refine nK ?_;with_reducible refine wK ?_)
  |((with_reducible show ay _ _);refine ay.mk (k+1) ⟨by omega,next ?_⟩ (by omega) ⟨⟨rfl,rfl⟩,⟨rfl,by show((k+1:Nat):Int)=(k:Int)+1;omega,trivial⟩,trivial⟩)
  | apply trivial)
    all_goals first
     |exact no hok'
     |exact hok'
  ·(refine eK ?_ ?_<;>with_reducible repeat' (first|exact trivial|(show _∧_;refine aK ?_ ?_)))
   exact hr.2 fun i b hb=>hok i b (by have:=(aZ hb).1;simp only[bh] at h1;have:=iW s;omega) hb
theorem AK (l:List AttrM)(hl:l.length≤100000)(n:ByteArray):af Tryz.prog 222 [] [dY l,bG n] [] (aj (nE l n)):=by
 have hlm:(l.map fu).length=l.length:=aM ..
 refine af.ah (rvs:=[.tmp 4]) G aa Tryz.func222 rfl Tryz.ntmps222 rfl rfl ?_;with_reducible refine wD ?_
 refine aR.use G aa (fun(k:Nat)=>[(0,dY l),(1,bG n),(5,aj k)]) (fun _=>[]) (fun k=>k≤l.length∧∀j x,j<k→l[j]? =some x→hasName n x=false) (fun k=>l.length-k) 0 ⟨Nat.zero_le _,fun j x h=>by omega⟩
  ⟨⟨rfl,rfl⟩,⟨rfl,rfl,rfl,trivial⟩,trivial⟩ ?_
 rintro k ⟨hk,hno⟩
 with_reducible refine wK ?_
 refine aQ.mk (fun h1=>?_) (fun h1=>?_)<;>(try simp only[aq] at h1)<;>with_reducible refine wK ?_
 ·simp only[aL] at h1
  have hk':k<l.length:=by omega
  obtain⟨⟨an,av⟩,ha⟩:∃a,l[k]? =some a:=⟨_,aP hk'⟩
  refine ak.mk k (mF ⟨an,av⟩) rfl (kX ha) ?_;with_reducible refine wK ?_
  refine aQ.mk (fun h2=>?_) (fun h2=>?_)<;>(try simp only[aq] at h2)<;>with_reducible refine wK ?_
  ·(refine eK ?_ ?_<;>with_reducible repeat' (first|exact trivial|(show _∧_;refine aK ?_ ?_)))
   exact dL (p:=hasName n) ha h2 hno
  ·refine nK ?_;with_reducible refine wK ?_
   refine ay.mk (k+1) ⟨by omega,fun j x hj hx=>?_⟩ (by omega) ⟨⟨rfl,rfl⟩,⟨rfl,rfl,by show((k+1:Nat):Int)=(k:Int)+1;omega,trivial⟩,trivial⟩
   rcases Nat.lt_or_ge j k with h6|h6
   ·exact hno j x h6 hx
   ·have:j=k:=by omega
    subst this
    rw[ha] at hx;cases hx;exact h2
 ·(refine eK ?_ ?_<;>with_reducible repeat' (first|exact trivial|(show _∧_;refine aK ?_ ?_)))
  have:k=l.length:=by simp only[bh] at h1;omega
  exact dm fun j x hx=>hno j x (by have:=(aZ hx).1;omega) hx
def oG (l:List AttrM)(i:Nat)(a:AttrM):Bool:=Np a&&decide (nE l a.name=(i:Int))
theorem FK (l:List AttrM):(l.map AttrM.name).Nodup↔ ∀ (i:Nat) (a:AttrM),l[i]? =some a→nE l a.name=(i:Int):=by
 constructor
 ·intro hn i a ha
  refine dL ha (by simp[hasName]) fun j x hj hx=>?_
  simp only[hasName,bh]
  intro e
  have h1:(l.map AttrM.name)[j]? =some x.name:=by rw[dM,hx];rfl
  have h2:(l.map AttrM.name)[i]? =some a.name:=by rw[dM,ha];rfl
  have hjl:=(aZ h1).1
  have:=(List.getElem?_inj hjl hn (j:=i)).1 (h1.trans ((congrArg some e).trans h2.symm))
  omega
 ·intro h
  rw[List.nodup_iff_pairwise_ne,List.pairwise_iff_getElem]
  intro i j hi hj hij e
  rw[aM] at hi hj
  have h1:=h i _ (aP hi)
  have h2:=h j _ (aP hj)
  rw[List.getElem_map,List.getElem_map] at e
  rw[e,h2] at h1
  omega
theorem Dg (l:List AttrM)(h:l.length≤40):gq l=true↔ ∀ (i:Nat) (a:AttrM),l[i]? =some a→oG l i a=true:=by
 unfold gq oG
 rw[aV h]
 simp only[Bool.true_and,aT,List.all_eq_true,aL]
 rw[FK]
 constructor
 ·rintro⟨h1,h2⟩ i a ha
  exact⟨h1 a (bn ha),h2 i a ha⟩
 ·intro h
  refine⟨fun a ha=>?_,fun i a ha=>(h i a ha).2⟩
  obtain⟨i,hi⟩:=List.getElem?_of_mem ha
  exact(h i a hi).1
theorem Ls (l:List AttrM)(hl:l.length≤100000):af Tryz.prog 173 [] [dY l] [] (aA (gq l)):=by
 have hlm:(l.map fu).length=l.length:=aM ..
 refine af.ah (rvs:=[.tmp 2]) G aa Tryz.func173 rfl Tryz.ntmps173 rfl rfl ?_;with_reducible refine wD ?_
 refine aQ.mk (fun h0=>?_) (fun h0=>?_)<;>(try simp only[aq] at h0)<;>with_reducible refine wK ?_
 ·(refine eK ?_ ?_<;>with_reducible repeat' (first|exact trivial|(show _∧_;refine aK ?_ ?_)))
  simp only[hlm,aL] at h0
  unfold gq;rw[aS (by omega)];rfl
 ·simp only[hlm,bh] at h0
  have hr:=Dg l (by omega)
  refine aR.use G aa (fun(k:Nat)=>[(0,dY l),(3,aj k)]) (fun _=>[]) (fun k=>k≤l.length∧∀j x,j<k→l[j]? =some x→oG l j x=true) (fun k=>l.length-k) 0 ⟨Nat.zero_le _,fun j x h=>by omega⟩
   ⟨⟨rfl,rfl⟩,⟨rfl,rfl,trivial⟩,trivial⟩ ?_
  rintro k ⟨hk,hok⟩
  with_reducible refine wK ?_
  refine aQ.mk (fun h1=>?_) (fun h1=>?_)<;>(try simp only[aq] at h1)<;>with_reducible refine wK ?_
  ·simp only[aL] at h1
   have hk':k<l.length:=by omega
   obtain⟨⟨an,av⟩,ha⟩:∃a,l[k]? =some a:=⟨_,aP hk'⟩
   have next:oG l k ⟨an,av⟩=true→∀j x,j<k+1→l[j]? =some x→oG l j x=true:=by
    intro h j x hj hx
    rcases Nat.lt_or_ge j k with h6|h6
    ·exact hok j x h6 hx
    ·have:j=k:=by omega
     subst this
     rw[ha] at hx;cases hx;exact h
   have no:oG l k ⟨an,av⟩=false→gq l=false:=by
    intro h
    cases h':gq l with
    |false=>rfl
    |true=>rw[hr.1 h' k _ ha] at h;cases h
   repeat' (first
  |refine aE ?_ ?_
  |((with_reducible show aQ _ _ _ _);first|refine iK ?_|(refine aQ.mk (fun _=>?_) (fun _=>?_)<;>with_reducible refine wK ?_))
  |((with_reducible show ak _ _ _ _ _);refine ak.mk k (mF ⟨an,av⟩) rfl (kX ha) ?_;with_reducible refine wK ?_)
  |((with_reducible refine kQ 86 ?_);refine cL (vv _) NG ?_;with_reducible refine wK ?_)
  |((with_reducible refine kQ 87 ?_);refine aD.lit [] (zE _ (uh (by assumption))) P0 ⟨rfl,trivial⟩ rfl rfl ?_;with_reducible refine wK ?_)
  |((with_reducible refine kQ 222 ?_);refine cL (AK l hl _) LV ?_;with_reducible refine wK ?_)
  |((with_reducible show bL _ _ _ _);refine dK ?_;with_reducible refine wK ?_)
  |((with_reducible show bW _ _ _ _);refine nK ?_;with_reducible refine wK ?_)
  |((with_reducible show ay _ _);refine ay.mk (k+1) ⟨by omega,next ?_⟩ (by omega) ⟨⟨rfl,rfl⟩,⟨rfl,by show((k+1:Nat):Int)=(k:Int)+1;omega,trivial⟩,trivial⟩)
  | apply trivial)
   all_goals first
    |(refine no ?_;unfold oG Np;(try simp only[aq] at*);simp_all<;>omega)
    |(unfold oG Np;(try simp only[aq] at*);simp_all<;>omega)
  ·(refine eK ?_ ?_<;>with_reducible repeat' (first|exact trivial|(show _∧_;refine aK ?_ ?_)))
   refine hr.2 fun j x hx=>hok j x ?_ hx
   have:=(aZ hx).1
   simp only[bh] at h1;omega
end Go.Proofs.Heir
namespace Go.Proofs
open Go.Shelf
def Tryz.BX:Go.Shelf.Ren:=⟨fun|144=>183|143=>232|219=>257|217=>270|225=>271|224=>272|267=>273|266=>278|314=>279|n=>n,fun|9=>9|4=>4|3=>3|5=>5|46=>299|146=>305|51=>304|n=>n,fun|1=>0|n=>n⟩
theorem Tryz.LY:Go.Proofs.Lays.n144 Tryz.prog Tryz.BX:={
  mixed:=by kernel_rfl
  f143:=Tryz.func232.trans (congrArg some (by kernel_rfl))
  f144:=Tryz.func183.trans (congrArg some (by kernel_rfl))
  f217:=Tryz.func270.trans (congrArg some (by kernel_rfl))
  f219:=Tryz.func257.trans (congrArg some (by kernel_rfl))
  f224:=Tryz.func272.trans (congrArg some (by kernel_rfl))
  f225:=Tryz.func271.trans (congrArg some (by kernel_rfl))
  f266:=Tryz.func278.trans (congrArg some (by kernel_rfl))
  f267:=Tryz.func273.trans (congrArg some (by kernel_rfl))
  f314:=Tryz.func279.trans (congrArg some (by kernel_rfl))
  t3:=Tryz.underlying3
  a3:=Tryz.isAgg3
  z3:=Tryz.sizeOf3
  v3:=Tryz.zeroValue3
  t4:=Tryz.underlying4
  a4:=Tryz.isAgg4
  z4:=Tryz.sizeOf4
  v4:=Tryz.zeroValue4
  t5:=Tryz.underlying5
  a5:=Tryz.isAgg5
  z5:=Tryz.sizeOf5
  v5:=Tryz.zeroValue5
  t9:=Tryz.underlying9
  a9:=Tryz.isAgg9
  z9:=Tryz.sizeOf9
  v9:=Tryz.zeroValue9
  t46:=Tryz.underlying299
  a46:=Tryz.isAgg299
  z46:=Tryz.sizeOf299
  v46:=Tryz.zeroValue299
  t51:=Tryz.underlying304
  a51:=Tryz.isAgg304
  z51:=Tryz.sizeOf304
  v51:=Tryz.zeroValue304
  t146:=Tryz.underlying305
  a146:=Tryz.isAgg305
  z146:=Tryz.sizeOf305
  v146:=Tryz.zeroValue305
  g1:=by kernel_rfl}
open Go.RowKit Go.Lib in
theorem Tryz.strings_Contains_one (s:ByteArray)(c:UInt8)(w:World):
    Calls Tryz.prog 183 #[.string s,.string ⟨#[c]⟩] w fun e w'=>e=.returned (.bool (decide (0≤Lib.indexByte s.data.toList c)))∧w'=w:=Any.strings_Contains_one Tryz.LY s c w
def Tryz.BK:Go.Shelf.Ren:=⟨fun|157=>274|229=>280|199=>281|261=>284|311=>285|312=>286|n=>n,fun|9=>9|31=>49|3=>3|5=>5|4=>4|119=>307|0=>0|40=>235|152=>309|21=>21|154=>311|51=>304|141=>313|196=>317|193=>314|198=>320|49=>318|194=>315|201=>323|226=>325|46=>299|227=>326|n=>n,fun|0=>1|6=>2|n=>n⟩
theorem Tryz.Kq:Go.Proofs.Lays.n157 Tryz.prog Tryz.BK:={
  mixed:=by kernel_rfl
  f157:=Tryz.func274.trans (congrArg some (by kernel_rfl))
  f199:=Tryz.func281.trans (congrArg some (by kernel_rfl))
  f229:=Tryz.func280.trans (congrArg some (by kernel_rfl))
  f261:=Tryz.func284.trans (congrArg some (by kernel_rfl))
  f311:=Tryz.func285.trans (congrArg some (by kernel_rfl))
  f312:=Tryz.func286.trans (congrArg some (by kernel_rfl))
  t0:=Tryz.underlying0
  a0:=Tryz.isAgg0
  z0:=Tryz.sizeOf0
  v0:=Tryz.zeroValue0
  t3:=Tryz.underlying3
  a3:=Tryz.isAgg3
  z3:=Tryz.sizeOf3
  v3:=Tryz.zeroValue3
  t4:=Tryz.underlying4
  a4:=Tryz.isAgg4
  z4:=Tryz.sizeOf4
  v4:=Tryz.zeroValue4
  t5:=Tryz.underlying5
  a5:=Tryz.isAgg5
  z5:=Tryz.sizeOf5
  v5:=Tryz.zeroValue5
  t9:=Tryz.underlying9
  a9:=Tryz.isAgg9
  z9:=Tryz.sizeOf9
  v9:=Tryz.zeroValue9
  t21:=Tryz.underlying21
  a21:=Tryz.isAgg21
  z21:=Tryz.sizeOf21
  v21:=Tryz.zeroValue21
  t31:=Tryz.underlying49
  a31:=Tryz.isAgg49
  z31:=Tryz.sizeOf49
  v31:=Tryz.zeroValue49
  t40:=Tryz.underlying235
  a40:=Tryz.isAgg235
  z40:=Tryz.sizeOf235
  v40:=Tryz.zeroValue235
  t46:=Tryz.underlying299
  a46:=Tryz.isAgg299
  z46:=Tryz.sizeOf299
  v46:=Tryz.zeroValue299
  t49:=Tryz.underlying318
  a49:=Tryz.isAgg318
  z49:=Tryz.sizeOf318
  v49:=Tryz.zeroValue318
  t51:=Tryz.underlying304
  a51:=Tryz.isAgg304
  z51:=Tryz.sizeOf304
  v51:=Tryz.zeroValue304
  t119:=Tryz.underlying307
  a119:=Tryz.isAgg307
  z119:=Tryz.sizeOf307
  t141:=Tryz.underlying313
  a141:=Tryz.isAgg313
  z141:=Tryz.sizeOf313
  v141:=Tryz.zeroValue313
  t152:=Tryz.underlying309
  a152:=Tryz.isAgg309
  z152:=Tryz.sizeOf309
  v152:=Tryz.zeroValue309
  t154:=Tryz.underlying311
  a154:=Tryz.isAgg311
  z154:=Tryz.sizeOf311
  v154:=Tryz.zeroValue311
  t193:=Tryz.underlying314
  a193:=Tryz.isAgg314
  z193:=Tryz.sizeOf314
  v193:=Tryz.zeroValue314
  t194:=Tryz.underlying315
  a194:=Tryz.isAgg315
  z194:=Tryz.sizeOf315
  v194:=Tryz.zeroValue315
  t196:=Tryz.underlying317
  a196:=Tryz.isAgg317
  z196:=Tryz.sizeOf317
  v196:=Tryz.zeroValue317
  t198:=Tryz.underlying320
  a198:=Tryz.isAgg320
  z198:=Tryz.sizeOf320
  v198:=Tryz.zeroValue320
  t201:=Tryz.underlying323
  a201:=Tryz.isAgg323
  z201:=Tryz.sizeOf323
  v201:=Tryz.zeroValue323
  t226:=Tryz.underlying325
  a226:=Tryz.isAgg325
  z226:=Tryz.sizeOf325
  v226:=Tryz.zeroValue325
  t227:=Tryz.underlying326
  a227:=Tryz.isAgg326
  z227:=Tryz.sizeOf326
  v227:=Tryz.zeroValue326
  g0:=by kernel_rfl
  g6:=by kernel_rfl}
end Go.Proofs
namespace Go.Proofs.Heir
open Go Go.Am Go.RowKit Go.Lib
set_option maxRecDepth 100000
set_option maxHeartbeats 8000000
def jO (s:ByteArray):AV:=bG s
@[reducible] def qi (l : List ByteArray) : AV := .sl 1 (l.map jO)
@[reducible] def No (l : List ByteArray) : MS := .live 1 (l.map jO) false
theorem qL (l:List ByteArray):aU (l.map jO)=true:=by
 rw[bZ];intro x hx
 obtain⟨a,_,rfl⟩:=List.mem_map.1 hx
 rfl
theorem gZ {l:List ByteArray}{k:Nat}{a:ByteArray}(h:l[k]? =some a):(l.map jO)[k]? =some (bG a):=by rw[dM,h];rfl
theorem Gh (l:List ByteArray):gJ [No l]:=⟨bI.fM fun r hr=>by obtain⟨a,_,rfl⟩:=List.mem_map.1 hr;rfl,qL l,trivial⟩
theorem HA {m:ML}{fz:Nat→Bool}{cI:List (Nat×Nat)}{n t len:Nat}{ro:Bool}{rows:List AV}{l:List ByteArray}(h1:eC m t=.live 1 rows ro)(h2:fz t=true)(h3:rows=l.map jO)(h4:len=l.length):o6 m fz (MF cI fz m n) (qi l) t 0 len:=by
 subst h3;subst h4
 have e:(l.map jO).length=l.length:=aM ..
 exact .cut h1 h2 (by omega) (by rw[List.drop_zero,jH (by omega)]) (qL l)
theorem Mn (l:List ByteArray)(hl:l.length≤100000)(s:ByteArray):af Tryz.prog 233 [] [qi l,bG s] [] (aj (fe (fun x=>decide (x=s)) l)):=by
 have hlm:(l.map jO).length=l.length:=aM ..
 refine af.ah (rvs:=[.tmp 4]) G aa Tryz.func233 rfl Tryz.ntmps233 rfl rfl ?_;with_reducible refine wD ?_
 refine aR.use G aa (fun(k:Nat)=>[(0,qi l),(1,bG s),(7,aj l.length),(8,aj k)]) (fun _=>[]) (fun k=>k≤l.length∧∀j x,j<k→l[j]? =some x→decide (x=s)=false) (fun k=>l.length-k) 0 ⟨Nat.zero_le _,fun j x h=>by omega⟩
  ⟨⟨rfl,rfl⟩,⟨rfl,rfl,by show(l.length:Int)=((l.map jO).length:Int);rw[hlm],rfl,trivial⟩,trivial⟩ ?_
 rintro k ⟨hk,hno⟩
 with_reducible refine wK ?_
 refine aQ.mk (fun h1=>?_) (fun h1=>?_)<;>(try simp only[aq] at h1)<;>with_reducible refine wK ?_
 ·simp only[aL] at h1
  have hk':k<l.length:=by omega
  obtain⟨a,ha⟩:∃a,l[k]? =some a:=⟨_,aP hk'⟩
  refine ak.mk k (bG a) rfl (gZ ha) ?_;with_reducible refine wK ?_
  refine aQ.mk (fun h2=>?_) (fun h2=>?_)<;>(try simp only[aq] at h2)<;>with_reducible refine wK ?_
  ·(refine eK ?_ ?_<;>with_reducible repeat' (first|exact trivial|(show _∧_;refine aK ?_ ?_)))
   refine dL (p:=fun x=>decide (x=s)) ha ?_ hno
   simp only[aL] at h2 ⊢;exact h2.symm
  ·refine nK ?_;with_reducible refine wK ?_
   refine ay.mk (k+1) ⟨by omega,fun j x hj hx=>?_⟩ (by omega) ⟨⟨rfl,rfl⟩,⟨rfl,rfl,rfl,by show((k+1:Nat):Int)=(k:Int)+1;omega,trivial⟩,trivial⟩
   rcases Nat.lt_or_ge j k with h3|h3
   ·exact hno j x h3 hx
   ·have:j=k:=by omega
    subst this
    rw[ha] at hx;cases hx
    simp only[bh] at h2 ⊢;exact fun e=>h2 e.symm
 ·(refine eK ?_ ?_<;>with_reducible repeat' (first|exact trivial|(show _∧_;refine aK ?_ ?_)))
  exact dm fun j x hx=>hno j x (by have:=(aZ hx).1;simp only[bh] at h1;omega) hx
def jU (l:List ByteArray)(s:ByteArray):Bool:=l.any fun x=>decide (x=s)
theorem A6 {l:List ByteArray}{s:ByteArray}:jU l s=true↔s∈l:=by
 unfold jU;rw[List.any_eq_true]
 exact⟨fun⟨x,hx,e⟩=>by rw[←of_decide_eq_true e];exact hx,fun h=>⟨s,h,aV rfl⟩⟩
theorem IU {l:List ByteArray}{s:ByteArray}:decide (0≤fe (fun x=>decide (x=s)) l)=jU l s:=by
 rw[Bool.eq_iff_iff,aL,A6]
 unfold fe
 cases h:l.findIdx? (fun x=>decide (x=s)) with
 | none=>
   rw[List.findIdx?_eq_none_iff] at h
   simp only
   refine⟨fun h'=>by omega,fun hs=>?_⟩
   have:=h s hs
   simp at this
 | some k=>
   rw[List.findIdx?_eq_some_iff_getElem] at h
   obtain⟨hk,h2,_⟩:=h
   simp only
   exact⟨fun _=>by rw[←of_decide_eq_true h2];exact List.getElem_mem hk,fun _=>by omega⟩
theorem As (l:List ByteArray)(hl:l.length≤100000)(s:ByteArray):af Tryz.prog 184 [] [qi l,bG s] [] (aA (jU l s)):=by
 rw[←IU]
 refine af.ah (rvs:=[.tmp 4]) G aa Tryz.func184 rfl Tryz.ntmps184 rfl rfl ?_;with_reducible refine wD ?_
 refine cL (Mn l hl s) Rz ?_;with_reducible refine wK ?_
 (refine eK ?_ ?_<;>with_reducible repeat' (first|exact trivial|(show _∧_;refine aK ?_ ?_)))
def AB (l:List UInt8):ByteArray:=⟨l.toArray⟩
def lX:List ByteArray:=[AB [97,110,110,111,116,97,116,105,111,110,45,120,109,108],AB [99,111,108,111,114,45,112,114,111,102,105,108,101],AB [102,111,110,116,45,102,97,99,101],AB [102,111,110,116,45,102,97,99,101,45,115,114,99],
 AB [102,111,110,116,45,102,97,99,101,45,117,114,105],AB [102,111,110,116,45,102,97,99,101,45,102,111,114,109,97,116],AB [102,111,110,116,45,102,97,99,101,45,110,97,109,101],AB [109,105,115,115,105,110,103,45,103,108,121,112,104]]
theorem Kl:af Tryz.prog 185 [] [] [No lX] (.own 0 0 8):=by
 refine af.ah (rvs:=[.tmp 0]) G aa Tryz.func185 rfl Tryz.ntmps185 rfl rfl ?_;with_reducible refine wD ?_
 (refine eK ?_ ?_<;>with_reducible repeat' (first|exact trivial|(show _∧_;refine aK ?_ ?_)))
 all_goals first|rfl|exact aJ (qL lX)
theorem J8 (s:ByteArray)(c:UInt8):af Tryz.prog 183 [] [bG s,bG ⟨#[c]⟩] [] (aA (decide (0≤Lib.indexByte s.data.toList c))):=
 af.oC (vs:=[.string s,.string ⟨#[c]⟩]) (v:=.bool _) fun w _=>(Go.Proofs.Tryz.strings_Contains_one s c w).mono fun e w' ⟨h1,h2⟩=>⟨h1,by rw[h2];exact Below.refl _ w⟩
def kF (cur:List UInt8):List UInt8→List (List UInt8)
 |[]=>[cur]
 |c::r=>if c=32 then cur::kF [] r else kF (cur++ [c]) r
def NV (s:ByteArray)(g:List UInt8):Bool:=decide (strOf g=s)
def C7 (s:ByteArray)(ws:List UInt8):Bool:=(kF [] ws).any (NV s)
theorem Fp (s:ByteArray)(a b:Nat):s.extract a b=strOf ((s.data.toList.take b).drop a):=by
 obtain⟨l,rfl⟩:∃l:List UInt8,s=⟨l.toArray⟩:=⟨s.data.toList,by obtain⟨⟨l⟩⟩:=s;rfl⟩
 rw[ByteArray.extract_mk]
 unfold strOf
 rw[List.drop_take]
theorem HY {l:List UInt8}{i:Nat}{c:UInt8}(h:l[i]? =some c)(cur:List UInt8):kF cur (l.drop i)=if c=32 then cur::kF [] (l.drop (i+1)) else kF (cur++ [c]) (l.drop (i+1)):=by
 have hk:=(aZ h).1
 rw[List.drop_eq_getElem_cons hk,(aZ h).2];rfl
theorem Iy {l:List UInt8}{i a:Nat}{c:UInt8}(h:l[i]? =some c)(ha:a≤i):(l.take (i+1)).drop a=(l.take i).drop a++ [c]:=by
 have hk:=(aZ h).1
 rw[List.take_succ_eq_append_getElem hk,(aZ h).2,List.drop_append_of_le_length (by simp;omega)]
structure Rd (s:ByteArray) (l:List UInt8) (i a:Nat):Prop where
 le:a≤i
 hi:i≤l.length+1
 mid:i≤l.length→C7 s l=(kF ((l.take i).drop a) (l.drop i)).any (NV s)
 fin:l.length<i→C7 s l=false
theorem PA {c:UInt8}:decide ((c.toNat     :Int)=32)=decide (c=32):=by
 rw[decide_eq_decide]
 constructor
 ·intro h
  have:c.toNat=(32:UInt8).toNat:=by         have:(32:UInt8).toNat=32:=rfl
                                            omega
  exact UInt8.toNat_inj.1 this
 ·rintro rfl;rfl
theorem Ef (s w:ByteArray)(hw:w.size≤100000):af Tryz.prog 197 [] [bG s,bG w] [] (aA (C7 s w.data.toList)):=by
 have hsz:w.size=w.data.toList.length:=iW w
 have hcut:=Fp w
 obtain⟨l,hl⟩:∃l,w.data.toList=l:=⟨_,rfl⟩
 rw[hl] at hsz hcut ⊢
 refine af.ah (rvs:=[.tmp 4]) G aa Tryz.func197 rfl Tryz.ntmps197 rfl rfl ?_;with_reducible refine wD ?_
 refine aR.use G aa (fun(p:Nat×Nat)=>[(0,bG s),(1,bG w),(5,aj p.2),(6,aj p.1)]) (fun _=>[]) (fun p=>Rd s l p.1 p.2) (fun p=>l.length+1-p.1) (0,0) ⟨Nat.le_refl _,Nat.zero_le _,fun _=>rfl,fun h=>by omega⟩
  ⟨⟨rfl,rfl⟩,⟨rfl,rfl,rfl,rfl,trivial⟩,trivial⟩ ?_
 rintro⟨i,a⟩ hI
 have h1:=hI.le
 have h2:=hI.hi
 simp only at h1 h2
 with_reducible refine wK ?_
 refine aQ.mk (fun g1=>?_) (fun g1=>?_)<;>(try simp only[aq] at g1)<;>with_reducible refine wK ?_
 ·simp only[aL] at g1
  have hil:i≤l.length:=by omega
  have hm:=hI.mid hil
  simp only at hm
  refine aQ.mk (fun g2=>?_) (fun g2=>?_)<;>(try simp only[aq] at g2)<;>with_reducible refine wK ?_
  ·simp only[aL] at g2
   have hie:i=l.length:=by omega
   have hd:l.drop i=[]:=by rw[hie];exact List.drop_length
   rw[hd] at hm
   refine aQ.tt ?_;with_reducible refine wK ?_
   refine vc.mk a i rfl rfl h1 (by show i≤w.size;omega) ?_;with_reducible refine wK ?_
   rw[hcut]
   refine aQ.mk (fun g3=>?_) (fun g3=>?_)<;>(try simp only[aq] at g3)<;>with_reducible refine wK ?_
   ·(refine eK ?_ ?_<;>with_reducible repeat' (first|exact trivial|(show _∧_;refine aK ?_ ?_)))
    rw[hm]
    simp only[kF,List.any_cons,List.any_nil,Bool.or_false,NV]
    simpa using g3
   ·refine nK ?_;with_reducible refine wK ?_
    refine nK ?_;with_reducible refine wK ?_
    refine ay.mk (i+1,i+1) ⟨Nat.le_refl _,by show i+1≤l.length+1;omega,fun h=>?_,fun _=>?_⟩ (by show l.length+1- (i+1)<l.length+1-i;omega) ⟨⟨rfl,rfl⟩,⟨rfl,rfl,by show((i+1:Nat):Int)=(i:Int)+1;omega,by show((i+1:Nat):Int)=(i:Int)+1;omega,trivial⟩,trivial⟩
    ·simp only at h;omega
    ·rw[hm]
     simp only[kF,List.any_cons,List.any_nil,Bool.or_false,NV]
     simpa using g3
  ·have hi2:i<l.length:=by simp only[bh] at g2;omega
   obtain⟨c,hc⟩:∃c,l[i]? =some c:=⟨_,aP hi2⟩
   refine mc.mk i c rfl (by rw[hl];exact hc) ?_;with_reducible refine wK ?_
   rw[PA]
   have hsg:=HY hc ((l.take i).drop a)
   rw[hsg] at hm
   by_cases hb:c=32
   ·rw [if_pos hb] at hm
    refine aQ.yes (by simp[hb]) ?_;with_reducible refine wK ?_
    refine vc.mk a i rfl rfl h1 (by show i≤w.size;omega) ?_;with_reducible refine wK ?_
    rw[hcut]
    refine aQ.mk (fun g3=>?_) (fun g3=>?_)<;>(try simp only[aq] at g3)<;>with_reducible refine wK ?_
    ·(refine eK ?_ ?_<;>with_reducible repeat' (first|exact trivial|(show _∧_;refine aK ?_ ?_)))
     rw[hm]
     simp only[List.any_cons,NV]
     simp at g3
     simp[g3]
    ·refine nK ?_;with_reducible refine wK ?_
     refine nK ?_;with_reducible refine wK ?_
     refine ay.mk (i+1,i+1) ⟨Nat.le_refl _,by show i+1≤l.length+1;omega,fun h=>?_,fun h=>?_⟩ (by show l.length+1- (i+1)<l.length+1-i;omega) ⟨⟨rfl,rfl⟩,⟨rfl,rfl,by show((i+1:Nat):Int)=(i:Int)+1;omega,by show((i+1:Nat):Int)=(i:Int)+1;omega,trivial⟩,trivial⟩
     ·rw[hm]
      simp only[List.any_cons]
      have:NV s ((l.take i).drop a)=false:=by unfold NV;simpa using g3
      rw[this,Bool.false_or,show(l.take (i+1)).drop (i+1)=[] from List.drop_eq_nil_of_le (by simp;omega)]
     ·simp only at h;omega
   ·rw[if_neg hb] at hm
    refine aQ.no (by simp[hb]) ?_;with_reducible refine wK ?_
    refine nK ?_;with_reducible refine wK ?_
    refine ay.mk (i+1,a) ⟨by show a≤i+1;omega,by show i+1≤l.length+1;omega,fun h=>?_,fun h=>?_⟩ (by show l.length+1- (i+1)<l.length+1-i;omega) ⟨⟨rfl,rfl⟩,⟨rfl,rfl,rfl,by show((i+1:Nat):Int)=(i:Int)+1;omega,trivial⟩,trivial⟩
    ·rw[hm,Iy hc h1]
    ·simp only at h;omega
 ·(refine eK ?_ ?_<;>with_reducible repeat' (first|exact trivial|(show _∧_;refine aK ?_ ?_)))
  exact hI.fin (by simp only[bh] at g1;show l.length<i;omega)
@[reducible] def nO : List UInt8 := [97, 32, 98, 32, 98, 117, 116, 116, 111, 110, 32, 100, 105, 118, 32, 102, 105, 101, 108, 100, 115, 101, 116, 32, 102, 111, 114, 109, 32, 105, 32, 105, 110, 112, 117, 116, 32, 108, 97, 98, 101, 108, 32, 108, 101, 103, 101, 110, 100, 32, 108, 105, 32, 111, 112, 116, 105, 111, 110, 32, 111, 117, 116, 112, 117, 116, 32, 112, 32, 115, 101, 108, 101, 99, 116, 32, 115, 112, 97, 110, 32, 116, 101, 109, 112, 108, 97, 116, 101, 32, 116, 101, 120, 116, 97, 114, 101, 97, 32, 117, 108]
def iY:List ByteArray:=(Lib.fields nO).map AB
theorem xV:(Lib.fields nO).length=19:=by decide+kernel
theorem CL:∀ (j:Nat) b,(ByteArray.mk nO.toArray).data.toList[j]? =some b→b.toNat<128:=by
 intro j b h
 have h1:nO.all (fun b=>decide (b.toNat<128))=true:=by decide+kernel
 exact of_decide_eq_true (List.all_eq_true.1 h1 b (bn h))
theorem yf (l:List ByteArray):flat (l.map jO)=l.map jO:=by
 induction l with
 |nil=>rfl
 |cons a r ih=>show cells (jO a)++flat (r.map jO)=_;rw[ih];rfl
theorem af.Ki {P:Program}{f:FuncId}{l:List ByteArray}{s:ByteArray}{b:Bool}(h:af P f [] [qi l,bG s] [] (aA b)){w:World}{blk cap:Nat}{arr:Array Value}{ty:TypeId}{fz:Nat×Nat}(hh:w.heap[blk]? =some (.cells arr ty fz))
  (harr:∀ (i:Nat) (x:ByteArray),l[i]? =some x→arr[i]? =some (.string x)) (hcap:l.length≤cap) (ht:k8 P w fun _=>none):
  Calls P f #[.slice (some ⟨blk,0,none⟩) l.length cap,.string s] w fun e w'=>e=.returned (.bool b)∧Below w.heap.size w w':=by
 have hW:∀b,¬Wr (fun _=>False) (fun _=>none) (aW []) b:=by
  rintro b (h|⟨t,B,wd,rows,_,h,_⟩)
  ·exact h
  ·cases h
 have hblk:blk<w.heap.size:=(Array.getElem?_eq_some_iff.1 hh).1
 refine(h w (fun _=>False) (fun _=>none) [.slice (some ⟨blk,0,none⟩) l.length cap,.string s] (fun _ _=>rfl) (zy w ht) ⟨rfl,?_⟩).mono ?_
 ·intro j c v h1 h2
  match j with
  | 0 =>
    simp at h1 h2;subst h1;subst h2
    have key:∀ (q:Nat) (c:AV),(flat (l.map jO))[q]? =some c→∃x,l[q]? =some x∧c=bG x:=by
     intro q c hq
     rw[yf,dM] at hq
     cases hx:l[q]? with
     |none=>rw[hx] at hq;cases hq
     |some x=>rw[hx] at hq;exact⟨x,rfl,(Option.some.inj hq).symm⟩
    refine .sl (f:=fun q=>arr.getD q undef) (hW _) hblk (by simp) hcap (fun i r hr=>?_) (fun q c hq=>?_) (fun q c hq=>?_) (fun c hc=>?_)
    ·rw[dM] at hr
     cases hx:l[i]? with
     |none=>rw[hx] at hr;cases hr
     |some x=>rw[hx] at hr;cases hr;rfl
    ·obtain⟨x,hx,rfl⟩:=key q c hq
     have:=harr q x hx
     simp[World.cell?,hh,this,Array.getD_eq_getD_getElem?]
    ·obtain⟨x,hx,rfl⟩:=key q c hq
     have:=harr q x hx
     simp only[Array.getD_eq_getD_getElem?,this,Option.getD_some]
     exact .lit
    ·rw[yf] at hc
     obtain⟨x,_,rfl⟩:=List.mem_map.1 hc
     rfl
  |1=>simp at h1 h2;subst h1;subst h2;exact .lit
  |j+2=>simp at h1
 ·rintro e w' ⟨v',μ',rfl,hs,hv⟩
  cases hv
  exact⟨rfl,hs.os,hs.tape,hs.output,hs.hsize,fun b hb=>hs.keep b hb (by rintro⟨t,B,h,_⟩;cases h)⟩
theorem CR (w:World)(ht:k8 Tryz.prog w fun _=>none):Calls Tryz.prog 261 #[] w fun e w'=>e=.returned (.slice (some ⟨w.heap.size,0,none⟩) 19 19)∧w'=w.alloc (.cells (iY.map Value.string).toArray 9):=by
 have hf:=Any.strings_Fields_core Go.Proofs.Tryz.Kq (by kernel_rfl) (ByteArray.mk nO.toArray) w (by decide) CL (fun c hc=>((ht _ (by kernel_rfl)).2.2 c hc))
 have e1:(ByteArray.mk nO.toArray).data.toList=nO:=rfl
 rw[e1,xV,show((Lib.fields nO).map fun l=>Value.string ⟨l.toArray⟩)=iY.map Value.string from by unfold iY;rw[List.map_map];rfl] at hf
 go_enter Tryz.func261,Tryz.ntmps261
 go_wp2_with (go_at_call 274;refine hf.mono ?_;rintro e w1 ⟨rfl,rfl⟩)
 go_ret
 exact⟨rfl,rfl⟩
theorem Ms (s:ByteArray):af Tryz.prog 238 [] [bG s] [] (aA (jU iY s)):=by
 refine af.oC (vs:=[.string s]) (v:=.bool (jU iY s)) fun w ht=>?_
 have hl:iY.length=19:=by unfold iY;rw[aM,xV]
 have h29:=CR w ht
 have hb:Below w.heap.size w (w.alloc (.cells (iY.map Value.string).toArray 9)):=(Below.refl _ w).alloc (Nat.le_refl _) _
 have h26:=af.Ki (As iY (by omega) s) (w:=w.alloc (.cells (iY.map Value.string).toArray 9)) (blk:=w.heap.size) (cap:=19) (heap_alloc_new w _) (fun i x hx=>by simp[hx]) (by omega) (ht.below hb)
 rw[hl] at h26
 go_enter Tryz.func238,Tryz.ntmps238
 go_wp2_with (first
  |(go_at_call 261;refine h29.mono ?_;rintro e w1 ⟨rfl,rfl⟩)
  |(go_at_call 184;refine h26.mono ?_;rintro e w2 ⟨rfl,hb2⟩))
 go_ret
 exact⟨rfl,hb.trans (hb2.mono hb.size)⟩
@[reducible] def xF : List UInt8 := [97, 110, 110, 111, 116, 97, 116, 105, 111, 110, 45, 120, 109, 108, 32, 99, 111, 108, 111, 114, 45, 112, 114, 111, 102, 105, 108, 101, 32, 102, 111, 110, 116, 45, 102, 97, 99, 101, 32, 102, 111, 110, 116, 45, 102, 97, 99, 101, 45, 115, 114, 99, 32, 102, 111, 110, 116, 45, 102, 97, 99, 101, 45, 117, 114, 105, 32, 102, 111, 110, 116, 45, 102, 97, 99, 101, 45, 102, 111, 114, 109, 97, 116, 32, 102, 111, 110, 116, 45, 102, 97, 99, 101, 45, 110, 97, 109, 101, 32, 109, 105, 115, 115, 105, 110, 103, 45, 103, 108, 121, 112, 104]
def LB:ByteArray:=⟨#[]⟩
def tT (l:List UInt8):Bool:=l.any (fun b=>decide (b=45))
def nQ (l:List UInt8):Bool:=l.any (fun b=>hM (b.toNat:Int))
def wF:List UInt8→Bool
 |[]=>false
 |b::_=>iv (b.toNat:Int)
def bM (s:ByteArray):Bool:=bJ s&&(wF s.data.toList&&(!nQ s.data.toList&&(tT s.data.toList&& !jU lX s)))
theorem FW (s:ByteArray):C7 s xF=jU lX s:=by
 have e:(kF [] xF).map strOf=lX:=by decide+kernel
 unfold C7 jU
 rw[←e,List.any_map]
 rfl
theorem C2 (s:ByteArray):C7 s nO=jU iY s:=by
 have e:(kF [] nO).map strOf=iY:=by decide+kernel
 unfold C7 jU
 rw[←e,List.any_map]
 rfl
theorem Di (l:List UInt8):decide (0≤Lib.indexByte l 45)=tT l:=by
 rw[Bool.eq_iff_iff,aL]
 unfold tT
 rw[List.any_eq_true]
 constructor
 ·intro h
  obtain⟨o,ho⟩:∃o:Nat,Lib.indexByte l 45=o:=⟨(Lib.indexByte l 45).toNat,by omega⟩
  obtain⟨h1,_⟩:=Lib.indexByte_some ho
  exact⟨45,bn h1,rfl⟩
 ·rintro⟨b,hb,e⟩
  have:=of_decide_eq_true e;subst this
  rcases Int.lt_or_le (Lib.indexByte l 45) 0 with h|h
  ·have:Lib.indexByte l 45=-1:=by have:=Lib.indexByte_ge l 45;omega
   obtain⟨k,hk⟩:=List.getElem?_of_mem hb
   exact absurd hk (Lib.indexByte_none this k)
  ·exact h
theorem xT (p:Nat→Bool)(s:ByteArray)(hs:∀b∈s.data.toList,b.toNat<128):∀ (f pos:Nat),s.size≤pos+f→(0≤idxFuncFrom p true s f pos↔ ∃i,pos≤i∧∃b,s.data.toList[i]? =some b∧p b.toNat=true)
 | 0,pos,h=>by
   have:¬ (0:Int)≤idxFuncFrom p true s 0 pos:=by simp[idxFuncFrom]
   refine⟨fun h'=>absurd h' this,?_⟩
   rintro⟨i,h1,b,h2,_⟩
   have:=(aZ h2).1
   have:i<s.size:=this
   omega
 | f + 1,pos,h=>by
   by_cases hp:pos<s.size
   ·have ih:=xT p s hs f
    obtain⟨b,hb1,hb2⟩:∃b,s.data.toList[pos]? =some b∧s.get! pos=b:=⟨_,aP hp,by show s.data[pos]! =_;rw[getElem!_pos s.data pos hp];rfl⟩
    have hb3:=hs b (bn hb1)
    unfold idxFuncFrom
    rw[if_pos hp,decode_at,hb2]
    have hd:∀n b1 b2 b3,decodeN n b.toNat b1 b2 b3=(b.toNat,1):=fun n b1 b2 b3=>by rw[decodeN,if_pos hb3]
    rw[hd]
    show(0:Int)≤ (if p b.toNat=true then(pos:Int) else idxFuncFrom p true s f (pos+1))↔_
    cases hpb:p b.toNat with
    |true=>exact⟨fun _=>⟨pos,Nat.le_refl _,b,hb1,hpb⟩,fun _=>by simp⟩
    | false=>
      rw[if_neg (by simp),ih (pos+1) (by omega)]
      constructor
      ·rintro⟨i,h3,h4⟩;exact⟨i,by omega,h4⟩
      ·rintro⟨i,h3,b',h4,h5⟩
       rcases Nat.lt_or_ge pos i with h6|h6
       ·exact⟨i,h6,b',h4,h5⟩
       ·have:i=pos:=by omega
        subst this
        rw[hb1] at h4;cases h4
        rw[hpb] at h5;cases h5
   ·rw[idxFuncFrom_end _ _ _ _ _ hp]
    refine⟨fun h'=>by omega,?_⟩
    rintro⟨i,h1,b,h2,_⟩
    have:=(aZ h2).1
    have:i<s.size:=this
    omega
theorem BE {s:ByteArray}(h:bJ s=true):∀b∈s.data.toList,b.toNat<128:=by
 intro b hb
 unfold bJ kL at h
 simp only[aT,List.all_eq_true] at h
 have:=h.1.2 b hb
 unfold mB jz iv hM at this
 simp only[dW,aT,aL] at this
 omega
theorem C4 {s:ByteArray}(h:bJ s=true):decide (0≤idxFunc (fun r=>hM (r:Int)) true s)=nQ s.data.toList:=by
 rw[Bool.eq_iff_iff,aL]
 unfold nQ
 rw[List.any_eq_true]
 have:=xT (fun r=>hM (r:Int)) s (BE h) s.size 0 (by omega)
 refine Iff.trans this ⟨?_,?_⟩
 ·rintro⟨i,_,b,h1,h2⟩;exact⟨b,bn h1,h2⟩
 ·rintro⟨b,h1,h2⟩
  obtain⟨i,hi⟩:=List.getElem?_of_mem h1
  exact⟨i,Nat.zero_le _,b,hi,h2⟩
theorem Mr (s:ByteArray)(h:bJ s=true):af Tryz.prog 181 [] [bG s,.lit (.func (.func 182) #[] #[])] [] (aA (nQ s.data.toList)):=by
 rw[←C4 h]
 exact af.oC (vs:=[.string s,.func (.func 182) #[] #[]]) fun w ht=>vQ 182 Om (fun r=>hM (r:Int)) s w ht fun W x ht _=>(sR (x:Int)).below (vs:=[.int .i32 (x:Int)]) W ht
theorem tX {s:ByteArray}(h:bJ s=true):∃b r,s.data.toList=b::r:=by
 unfold bJ kL at h
 simp only[aT,aL] at h
 obtain⟨b,r,e,_⟩:=xM h.1.1.1
 exact⟨b,r,e⟩
theorem Aa (s:ByteArray):af Tryz.prog 109 [] [bG s] [] (aA (bM s)):=by
 refine af.ah (rvs:=[.tmp 2]) G aa Tryz.func109 rfl Tryz.ntmps109 rfl rfl ?_;with_reducible refine wD ?_
 refine cL (Ey s) Pk ?_;with_reducible refine wK ?_
 unfold bM
 cases hr:bJ s with
 | false=>
   repeat' (first
  |refine aE ?_ ?_
  |((with_reducible show aQ _ _ _ _);first|refine iK ?_|(refine aQ.mk (fun _=>?_) (fun _=>?_)<;>with_reducible refine wK ?_))
  | apply trivial)
   all_goals rfl
 | true=>
   obtain⟨b,r,hb⟩:=tX hr
   have hb0:s.data.toList[0]? =some b:=by rw[hb];rfl
   have hlf:wF s.data.toList=iv (b.toNat:Int):=by rw[hb];rfl
   have hda:=Di s.data.toList
   have f25:=J8 s 45
   rw[hda] at f25
   refine aQ.tt ?_;with_reducible refine wK ?_
   refine mc.mk 0 b rfl hb0 ?_;with_reducible refine wK ?_
   refine tS.int (by kernel_rfl) (by kernel_rfl) (IM _) ?_;with_reducible refine wK ?_
   refine cL (zP _) Ox ?_;with_reducible refine wK ?_
   repeat' (first
  |refine aE ?_ ?_
  |((with_reducible show aQ _ _ _ _);first|refine iK ?_|(refine aQ.mk (fun _=>?_) (fun _=>?_)<;>with_reducible refine wK ?_))
  |((with_reducible refine kQ 181 ?_);refine cL (Mr s hr) PY ?_;with_reducible refine wK ?_)
  |((with_reducible refine kQ 183 ?_);refine cL f25 Sm ?_;with_reducible refine wK ?_)
  |((with_reducible refine kQ 185 ?_);refine aD.new 211 [] Kl QU trivial rfl rfl rfl (Gh lX) rfl ?_;with_reducible refine wK ?_)
  |((with_reducible refine kQ 184 ?_);refine aD.lit [211] (As lX (by decide) s) Pj ⟨HA rfl rfl rfl rfl,rfl,trivial⟩ rfl rfl ?_;with_reducible refine wK ?_)
  | apply trivial)
   all_goals (rw[hlf];clear hb hb0 hda f25 hlf;rw[show s.data.toList=s.1.1 from rfl];simp_all)
theorem J7 (l:List UInt8):jM l=l↔nQ l=false:=by
 unfold nQ
 induction l with
 |nil=>simp[jM]
 | cons c r ih=>
   have hc:qg c=c↔hM (c.toNat:Int)=false:=by
    unfold qg
    cases h:hM (c.toNat:Int) with
    |false=>simp
    | true=>
      simp only[if_true,Bool.true_eq_false,iff_false]
      intro e
      have:(c+32).toNat=c.toNat:=by rw[e]
      rw[UInt8.toNat_add] at this
      have h3:=UInt8.toNat_lt c
      have:(32:UInt8).toNat=32:=rfl
      omega
   simp only[jM,List.map_cons,List.cons.injEq,List.any_cons,Bool.or_eq_false_iff]
   rw[hc]
   exact and_congr_right fun _=>ih
theorem ET (s:ByteArray):gR s=s↔nQ s.data.toList=false:=by
 rw[←J7]
 constructor
 ·intro h
  have:(gR s).data.toList=s.data.toList:=by rw[h]
  exact this
 ·intro h
  unfold gR
  rw[h]
theorem Dp {s:ByteArray}{b:UInt8}{r:List UInt8}(hr:bJ s=true)(hb:s.data.toList=b::r)(hc:nQ s.data.toList=false):iv (b.toNat:Int)=!decide (b=95):=by
 unfold bJ kL at hr
 rw[hb] at hr hc
 unfold nQ at hc
 simp only[List.any_cons,Bool.or_eq_false_iff] at hc
 simp only[aT,vB,hc.1,Bool.or_false,dW,aL] at hr
 rcases hr.2 with h|h
 ·rw[h]
  symm
  rw[Bool.not_eq_true',bh]
  rintro rfl
  revert h;decide
 ·have:b=95:=by
   have e:b.toNat=(95:UInt8).toNat:=by
    have:(95:UInt8).toNat=95:=rfl
    omega
   exact UInt8.toNat_inj.1 e
  subst this;decide
theorem P8 {c d:UInt8}:decide ((c.toNat:Int)=(d.toNat:Int))=decide (c=d):=by
 rw[decide_eq_decide]
 exact⟨fun h=>UInt8.toNat_inj.1 (by omega),fun h=>by rw[h]⟩
theorem Lu (s:ByteArray):af Tryz.prog 197 [] [bG s,bG ⟨xF.toArray⟩] [] (aA (jU lX s)):=by
 rw[←FW];exact Ef s ⟨xF.toArray⟩ (by decide)
theorem MO (s:ByteArray):af Tryz.prog 197 [] [bG s,bG ⟨nO.toArray⟩] [] (aA (jU iY s)):=by
 rw[←C2];exact Ef s ⟨nO.toArray⟩ (by decide)
theorem D0 (s:ByteArray)(hs:s.size≤100000):af Tryz.prog 134 [] [bG s] [] (aA (bM s)):=by
 have hsz:s.size=s.data.toList.length:=iW s
 refine af.ah (rvs:=[.tmp 2]) G aa Tryz.func134 rfl Tryz.ntmps134 rfl rfl ?_;with_reducible refine wD ?_
 refine cL (vv s) NG ?_;with_reducible refine wK ?_
 cases hr:bJ s with
 | false=>
   have e:bM s=false:=by unfold bM;rw[hr];rfl
   rw[e]
   repeat' (first
  |refine aE ?_ ?_
  |((with_reducible show aQ _ _ _ _);first|refine iK ?_|(refine aQ.mk (fun _=>?_) (fun _=>?_)<;>with_reducible refine wK ?_))
  |apply trivial)
 | true =>
   obtain⟨b,r,hb⟩:=tX hr
   have hb0:s.data.toList[0]? =some b:=by rw[hb];rfl
   refine aQ.ff ?_;with_reducible refine wK ?_
   refine cL (zE s hs) P0 ?_;with_reducible refine wK ?_
   have hlf:wF s.data.toList=iv (b.toNat:Int):=by rw[hb];rfl
   cases hc:nQ s.data.toList with
   | true=>
     have e:bM s=false:=by unfold bM;rw[hc];simp
     have hne:¬s=gR s:=fun h=>by rw[(ET s).1 h.symm] at hc;cases hc
     rw[e]
     refine aQ.yes (by simp[hne]) ?_;with_reducible refine wK ?_
     repeat' (first
  |refine aE ?_ ?_
  |((with_reducible show aQ _ _ _ _);first|refine iK ?_|(refine aQ.mk (fun _=>?_) (fun _=>?_)<;>with_reducible refine wK ?_))
  | apply trivial)
   | false=>
     have hfk:=Dp hr hb hc
     have heq:s=gR s:=((ET s).2 hc).symm
     refine aQ.no (by simp[←heq]) ?_;with_reducible refine wK ?_
     refine mc.mk 0 b rfl hb0 ?_;with_reducible refine wK ?_
     rw[show decide ((b.toNat:Int)=95)=decide (b=95) from P8 (d:=95)]
     cases h9:decide (b=95) with
     | true=>
       have e:bM s=false:=by unfold bM;rw[hlf,hfk,h9];simp
       rw[e]
       repeat' (first
  |refine aE ?_ ?_
  |((with_reducible show aQ _ _ _ _);first|refine iK ?_|(refine aQ.mk (fun _=>?_) (fun _=>?_)<;>with_reducible refine wK ?_))
  |apply  trivial)
     | false=>
       refine aQ.ff ?_;with_reducible refine wK ?_
       refine cL (Lu s) PC ?_;with_reducible refine wK ?_
       cases hw:jU lX s with
       | true=>
         have e:bM s=false:=by unfold bM;rw[hw];simp
         rw[e]
         repeat' (first
  |refine aE ?_ ?_
  |((with_reducible show aQ _ _ _ _);first|refine iK ?_|(refine aQ.mk (fun _=>?_) (fun _=>?_)<;>with_reducible refine wK ?_))
  |apply  trivial)
       | false=>
         have e:bM s=tT s.data.toList:=by unfold bM;rw[hw,hr,hlf,hfk,h9,hc];simp
         rw[e]
         obtain⟨l,hl⟩:∃l,s.data.toList=l:=⟨_,rfl⟩
         rw[hl] at hsz ⊢
         refine aQ.ff ?_;with_reducible refine wK ?_
         refine aR.use G aa (fun(k:Nat)=>[(0,bG s),(3,aj k)]) (fun _=>[]) (fun k=>k≤l.length∧∀j x,j<k→l[j]? =some x→decide (x=45)=false) (fun k=>l.length-k) 0 ⟨Nat.zero_le _,fun j x h=>by omega⟩
          ⟨⟨rfl,rfl⟩,⟨rfl,rfl,trivial⟩,trivial⟩ ?_
         rintro k ⟨hk,hno⟩
         with_reducible refine wK ?_
         refine aQ.mk (fun g1=>?_) (fun g1=>?_)<;>(try simp only[aq] at g1)<;>with_reducible refine wK ?_
         ·simp only[aL] at g1
          have hk':k<l.length:=by omega
          obtain⟨c,hcc⟩:∃c,l[k]? =some c:=⟨_,aP hk'⟩
          refine mc.mk k c rfl (by rw[hl];exact hcc) ?_;with_reducible refine wK ?_
          rw[show decide ((c.toNat:Int)=45)=decide (c=45) from P8 (d:=45)]
          cases h4:decide (c=45) with
          | true=>
            refine aQ.tt ?_;with_reducible refine wK ?_
            (refine eK ?_ ?_<;>with_reducible repeat' (first|exact trivial|(show _∧_;refine aK ?_ ?_)))
            unfold tT
            rw[List.any_eq_true]
            exact⟨c,bn hcc,h4⟩
          | false=>
            refine aQ.ff ?_;with_reducible refine wK ?_
            refine nK ?_;with_reducible refine wK ?_
            refine ay.mk (k+1) ⟨by omega,fun j x hj hx=>?_⟩ (by omega) ⟨⟨rfl,rfl⟩,⟨rfl,by show((k+1:Nat):Int)=(k:Int)+1;omega,trivial⟩,trivial⟩
            rcases Nat.lt_or_ge j k with h3|h3
            ·exact hno j x h3 hx
            ·have:j=k:=by omega
             subst this
             rw[hcc] at hx;cases hx;exact h4
         ·(refine eK ?_ ?_<;>with_reducible repeat' (first|exact trivial|(show _∧_;refine aK ?_ ?_)))
          unfold tT
          rw[List.any_eq_false]
          intro x hx
          obtain⟨j,hj⟩:=List.getElem?_of_mem hx
          have:=hno j x (by have:=(aZ hj).1;simp only[bh] at g1;omega) hj
          simp[this]
theorem Ko (s:ByteArray):af Tryz.prog 141 [] [bG s] [] (aA (jU iY s)):=by
 have hne:s=LB→jU iY s=false:=by
  rintro rfl;decide+kernel
 refine af.ah (rvs:=[.tmp 2]) G aa Tryz.func141 rfl Tryz.ntmps141 rfl rfl ?_;with_reducible refine wD ?_
 by_cases h:s=LB
 ·have e:=hne h
  refine aQ.no (by rw[show(!decide (s=({data:={toList:=[]}}:ByteArray)))=!decide (s=LB) from rfl,aV h];rfl) ?_;with_reducible refine wK ?_
  (refine eK ?_ ?_<;>with_reducible repeat' (first|exact trivial|(show _∧_;refine aK ?_ ?_)))
  rw[e]
 ·refine aQ.yes (by rw[show(!decide (s=({data:={toList:=[]}}:ByteArray)))=!decide (s=LB) from rfl,aS h];rfl) ?_;with_reducible refine wK ?_
  refine cL (MO s) PC ?_;with_reducible refine wK ?_
  (refine eK ?_ ?_<;>with_reducible repeat' (first|exact trivial|(show _∧_;refine aK ?_ ?_)))
theorem CH {s:ByteArray}(h:jU iY s=true):bJ s=true∧tT s.data.toList=false∧nQ s.data.toList=false:=by
 have hs:=A6.1 h
 have key:iY.all (fun x=>bJ x&&(!tT x.data.toList&& !nQ x.data.toList))=true:=by decide+kernel
 have:=List.all_eq_true.1 key s hs
 simp only[aT,Bool.not_eq_true'] at this
 exact this
theorem xz {s:ByteArray}(h:jU iY s=true):bM s=false:=by
 unfold bM;rw[(CH h).2.1];simp
def bB (n:Int):AV:=aj n
def qc (n:Int):Value:=.int .i64 n
@[reducible] def bQ (l : List Int) : AV := .sl 1 (l.map bB)
theorem dG {l:List Int}{k:Nat}{x:Int}(h:l[k]? =some x):(l.map bB)[k]? =some (aj x):=by rw[dM,h];rfl
structure az where
 kind:Int
 name:ByteArray
 is:ByteArray
 data:ByteArray
 attrs:List AttrM
 parent:Int
 kids:List Int
 host:Int
 under:Int
 doc:Int
structure ForM where
 nodes:List az
 most:Int
def Of:az:=⟨0,⟨#[]⟩,⟨#[]⟩,⟨#[]⟩,[],0,[],0,0,0⟩
def nd (l:List az)(n:Int):az:=(l[n.toNat]?).getD Of
def ai (l:List az)(n:Int):Bool:=decide (0≤n)&&decide (n< (l.length:Int))
def oN (l:List az)(n k:Int):Bool:=ai l n&&decide ((nd l n).kind=k)
def mD (k:Int):Bool:=decide (k=0)||decide (k=1)||decide (k=3)||decide (k=4)
def uA (l:List Int)(n:Int):Bool:=decide (n∈l)
def iL (x:az):Int:=if x.parent=-1 then x.host else x.parent
def tE (l:List az)(n:Int)(x:az):Bool:=oN l x.doc 0&&(decide (x.kind≠0)||decide (x.doc=n))
def sE (l:List az)(n:Int)(x:az):Bool:=decide (x.parent=-1)||((decide (x.kind=1)||decide (x.kind=2))&&ai l x.parent&&mD (nd l x.parent).kind&&uA (nd l x.parent).kids n)
def By (l:List az)(n:Int)(x:az)(pre:List Int)(c:Int):Bool:=
 ai l c&& !uA pre c&&decide ((nd l c).parent=n)&&decide ((nd l c).doc=x.doc)&&(decide ((nd l c).kind=1)||(decide ((nd l c).kind=2)&&decide (x.kind≠0)))
def lU (l:List az)(n:Int)(x:az):List Int→List Int→Bool
 |_,[]=>true
 |pre,c::r=>By l n x pre c&&lU l n x (pre++ [c]) r
def gV (l:List az)(cs:List Int):Nat:=cs.countP (fun c=>decide ((nd l c).kind=1))
def mN (l:List az)(n:Int)(x:az):Bool:=
 lU l n x [] x.kids&&((mD x.kind||decide (x.kids=[]))&&(decide (x.kind≠0)||decide (gV l x.kids≤1)))
def fq (l:List az)(n:Int)(x:az):Bool:=
 (if x.kind=4 then oN l x.host 1&&decide ((nd l x.host).under=n)&&decide ((nd l x.host).doc=x.doc) else decide (x.host=-1))&&
 (decide (x.under=-1)||(decide (x.kind=1)&&oN l x.under 4&&decide ((nd l x.under).host=n)))
def eF (l:List az):Nat→Int→Bool
 |0,_=>false
 |m+1,n=>if iL (nd l n)=-1 then true else eF l m (iL (nd l n))
def iS (x:az):Bool:=
 if x.kind=1 then bJ x.name&&decide (gR x.name=x.name)&&(decide (x.is=⟨#[]⟩)||bM x.is)&&decide (x.data=⟨#[]⟩)&&gq x.attrs
 else if x.kind=2 then decide (x.data.size≤200)&&decide (x.name=⟨#[]⟩)&&decide (x.is=⟨#[]⟩)&&decide (x.attrs=[])
 else if x.kind=0∨x.kind=3∨x.kind=4 then decide (x.name=⟨#[]⟩)&&decide (x.is=⟨#[]⟩)&&decide (x.data=⟨#[]⟩)&&decide (x.attrs=[])
 else false
def cQ (l:List az)(n:Int)(x:az):Bool:=iS x&&(tE l n x&&(sE l n x&&(mN l n x&&fq l n x)))
def pg (f:ForM):Bool:=decide (1≤f.most)&&decide (f.most≤400)&&decide (1≤f.nodes.length)&&decide ((f.nodes.length:Int)≤f.most)&&decide ((nd f.nodes 0).kind=0)
def jX {α:Type}(p:Nat→α→Bool):Nat→List α→Bool
 |_,[]=>true
 |i,x::r=>p i x&&jX p (i+1) r
def bf (f:ForM):Bool:=pg f&&(jX (fun k x=>cQ f.nodes k x) 0 f.nodes&&jX (fun k _=>eF f.nodes f.nodes.length k) 0 f.nodes)
def oe (f:ForM):Bool:=decide (f.nodes.length≤60)&&f.nodes.all (fun x=>decide (x.kids.length≤60)&&decide (x.attrs.length≤60)&&decide (x.name.size≤300))
structure bR (l:List az):Prop where
 len:l.length≤64
 kids:∀x∈l,x.kids.length≤60
 attrs:∀x∈l,x.attrs.length≤60
 name:∀x∈l,x.name.size≤300
theorem mM {f:ForM}(h:oe f=true):bR f.nodes:=by
 unfold oe at h
 simp only[aT,aL,List.all_eq_true] at h
 obtain⟨h1,h2⟩:=h
 exact⟨by omega,fun x hx=>(h2 x hx).1.1,fun x hx=>(h2 x hx).1.2,fun x hx=>(h2 x hx).2⟩
theorem dw {l:List az}{k:Nat}{x:az}(h:l[k]? =some x):nd l (k:Int)=x:=by unfold nd;rw[Int.toNat_natCast,h];rfl
theorem cw {l:List az}{k:Nat}{x:az}(h:l[k]? =some x):ai l (k:Int)=true:=by
 unfold ai
 have:=(aZ h).1
 simp;omega
theorem aX {l:List az}{n:Int}:ai l n=true↔ ∃ (k:Nat) (x:az),n=(k:Int)∧l[k]? =some x∧nd l n=x:=by
 constructor
 ·intro h
  unfold ai at h
  simp only[aT,aL] at h
  have hk:n.toNat<l.length:=by omega
  have hn:n=(n.toNat:Int):=by omega
  refine⟨n.toNat,l[n.toNat],hn,aP hk,?_⟩
  unfold nd;rw[aP hk];rfl
 ·rintro⟨k,x,rfl,h,_⟩
  exact cw h
theorem kA {α:Type}{p:Nat→α→Bool}:∀ {i:Nat} {l:List α},jX p i l=true↔ ∀k x,l[k]? =some x→p (i+k) x=true
 |i,[]=>by simp[jX]
 | i,a::r=>by
   simp only[jX,aT,kA (i:=i+1) (l:=r)]
   constructor
   ·rintro⟨h1,h2⟩ k x hx
    cases k with
    |zero=>simp at hx;subst hx;exact h1
    |succ k=>have:=h2 k x (by simpa using hx);rw[show i+ (k+1)=i+1+k from by omega];exact this
   ·intro h
    refine⟨h 0 a rfl,fun k x hx=>?_⟩
    have:=h (k+1) x (by simpa using hx)
    rw[show i+1+k=i+ (k+1) from by omega];exact this
@[reducible] def aO (x : az) : AV := .agg [aj x.kind, bG x.name, bG x.is, bG x.data, dY x.attrs, aj x.parent, bQ x.kids, aj x.host, aj x.under, aj x.doc]
def bP (x:az):AV:=aO x
@[reducible] def fE (l : List az) : AV := .sl 10 (l.map bP)
@[reducible] def bD (f : ForM) : AV := .agg [fE f.nodes, aj f.most]
theorem au {l:List az}{k:Nat}{x:az}(h:l[k]? =some x):(l.map bP)[k]? =some (aO x):=by rw[dM,h];rfl
end Go.Proofs.Heir
section
namespace Go.Proofs.Heir
open Go Go.Am Go.RowKit Go.Lib
set_option maxRecDepth 100000
set_option maxHeartbeats 8000000
def iJ (l:List az):Nat→Int→Bool
 |0,_=>false
 |m+1,n=>if(nd l n).parent=-1 then true else iJ l m (nd l n).parent
def xH (l:List az):Nat→Int→List Int
 |0,_=>[]
 |m+1,n=>n::if(nd l n).parent=-1 then[] else xH l m (nd l n).parent
def bU (l:List az):Nat→Int→List Int
 |0,_=>[]
 |m+1,n=>n::(nd l n).kids.flatMap (bU l m)
def bS (l:List az)(n:Int):List Int:=xH l l.length n
theorem jF {l:List az}:∀ {m:Nat} {n:Int},eF l m n=true→iJ l m n=true
 |0,n,h=>by simp[eF] at h
 | m +1,n,h=>by
   unfold iJ
   by_cases hp:(nd l n).parent=-1
   ·rw[if_pos hp]
   ·rw[if_neg hp]
    have hu:iL (nd l n)=(nd l n).parent:=if_neg hp
    unfold eF at h
    rw[hu,if_neg hp] at h
    exact jF h
theorem vJ (l:List az):∀ (m:Nat) (n:Int),(xH l m n).length≤m
 |0,_=>Nat.le_refl _
 | m +1,n=>by
   unfold xH
   split
   ·simp
   ·have:=vJ l m (nd l n).parent
    simp;omega
theorem sB {l:List az}:∀ {m k:Nat} {n:Int},iJ l m n=true→m≤k→xH l k n=xH l m n
 |0,k,n,h,_=>by simp[iJ] at h
 | m +1,k,n,h,hk=>by
   obtain⟨k,rfl⟩:∃j,k=j+1:=⟨k-1,by omega⟩
   unfold iJ at h
   unfold xH
   by_cases hp:(nd l n).parent=-1
   ·rw[if_pos hp,if_pos hp]
   ·rw[if_neg hp] at h
    rw[if_neg hp,if_neg hp,sB h (by omega)]
structure Tree (l:List az):Prop where
 par:∀n,ai l n=true→(nd l n).parent≠-1→ai l (nd l n).parent=true∧n∈ (nd l (nd l n).parent).kids
 kid:∀n,ai l n=true→∀k∈ (nd l n).kids,ai l k=true∧(nd l k).parent=n
 dup:∀n,ai l n=true→(nd l n).kids.Nodup
 fin:∀n,ai l n=true→iJ l l.length n=true
 nam:∀n,ai l n=true→iS (nd l n)=true
theorem dQ {l:List az}{n:Int}(h:ai l n=true):0≤n∧n< (l.length:Int):=by
 unfold ai at h;simpa using h
variable {l : List az}
theorem iy (T:Tree l){P:Int→Prop}(h0:∀n,ai l n=true→(nd l n).parent=-1→P n)(h1:∀n,ai l n=true→(nd l n).parent≠-1→ai l (nd l n).parent=true→P (nd l n).parent→P n):∀n,ai l n=true→P n:=by
 have H:∀ (m:Nat) (n:Int),ai l n=true→iJ l m n=true→P n:=by
  intro m
  induction m with
  |zero=>intro n _ h;simp[iJ] at h
  | succ m ih=>
    intro n hn h
    unfold iJ at h
    by_cases hp:(nd l n).parent=-1
    ·exact h0 n hn hp
    ·rw[if_neg hp] at h
     have hq:=(T.par n hn hp).1
     exact h1 n hn hp hq (ih _ hq h)
 exact fun n hn=>H _ n hn (T.fin n hn)
theorem ga (T:Tree l){n:Int}(hn:ai l n=true)(hp:(nd l n).parent=-1):bS l n=[n]:=by
 have:=dQ hn
 obtain⟨m,hm⟩:∃m,l.length=m+1:=⟨l.length-1,by omega⟩
 unfold bS;rw[hm];unfold xH;rw[if_pos hp]
theorem bY (T:Tree l){n:Int}(hn:ai l n=true)(hp:(nd l n).parent≠-1):bS l n=n::bS l (nd l n).parent:=by
 have:=dQ hn
 obtain⟨m,hm⟩:∃m,l.length=m+1:=⟨l.length-1,by omega⟩
 have hf:=T.fin n hn
 unfold bS;rw[hm] at hf ⊢
 unfold iJ at hf
 rw[if_neg hp] at hf
 rw[xH,if_neg hp,sB hf (Nat.le_succ m)]
theorem dN (T:Tree l){n k:Int}(hn:ai l n=true)(hk:k∈ (nd l n).kids):bS l k=k::bS l n:=by
 have h:=T.kid n hn k hk
 have h0:=dQ hn
 have hp:(nd l k).parent≠-1:=by rw[h.2];omega
 rw[bY T h.1 hp,h.2]
theorem dI (T:Tree l){n:Int}(hn:ai l n=true):∃r,bS l n=n::r:=by
 by_cases hp:(nd l n).parent=-1
 ·exact⟨[],ga T hn hp⟩
 ·exact⟨_,bY T hn hp⟩
theorem iQ (T:Tree l){n:Int}(hn:ai l n=true):n∈bS l n:=by
 obtain⟨r,hr⟩:=dI T hn;rw[hr];exact mq
theorem lp (n:Int):(bS l n).length≤l.length:=vJ l _ n
theorem gS (T:Tree l):∀n,ai l n=true→∀a∈bS l n,ai l a=true:=by
 refine iy T (fun n hn hp a ha=>?_) (fun n hn hp hq ih a ha=>?_)
 ·rw[ga T hn hp] at ha;rw[iw.1 ha];exact hn
 ·rw[bY T hn hp] at ha
  rcases fj.1 ha with rfl|h
  ·exact hn
  ·exact ih a h
theorem je (T:Tree l):∀n,ai l n=true→∀a∈bS l n,∃t,bS l n=t++bS l a:=by
 refine iy T (fun n hn hp a ha=>?_) (fun n hn hp hq ih a ha=>?_)
 ·have h:=ha;rw[ga T hn hp] at h;rw[iw.1 h];exact⟨[],rfl⟩
 ·have h:=ha
  rw[bY T hn hp] at h
  rcases fj.1 h with rfl|h
  ·exact⟨[],rfl⟩
  ·obtain⟨t,ht⟩:=ih a h
   exact⟨n::t,by rw[bY T hn hp,ht];rfl⟩
theorem pQ (T:Tree l){a b c:Int}(hc:ai l c=true)(h1:a∈bS l b)(h2:b∈bS l c):a∈bS l c:=by
 obtain⟨t,ht⟩:=je T c hc b h2
 rw[ht];exact List.mem_append_right _ h1
theorem AL (T:Tree l){n a b:Int}(hn:ai l n=true)(ha:a∈bS l n)(hb:b∈bS l n)(he:(bS l a).length=(bS l b).length):a=b:=by
 obtain⟨t,ht⟩:=je T n hn a ha
 obtain⟨s,hs⟩:=je T n hn b hb
 rw[ht] at hs
 have h:=(List.append_inj' hs he).2
 obtain⟨r,hr⟩:=dI T (gS T n hn a ha)
 obtain⟨q,hq⟩:=dI T (gS T n hn b hb)
 rw[hr,hq] at h
 exact(List.cons.inj h).1
theorem gx (T:Tree l):∀ (m:Nat) (n:Int),ai l n=true→∀b∈bU l m n,ai l b=true∧n∈bS l b
 |0,n,_,b,hb=>by simp[bU] at hb
 | m +1,n,hn,b,hb=>by
   unfold bU at hb
   rcases fj.1 hb with rfl|h
   ·exact⟨hn,iQ T hn⟩
   ·obtain⟨k,hk,hbk⟩:=List.mem_flatMap.1 h
    have hkk:=T.kid n hn k hk
    obtain⟨h1,h2⟩:=gx T m k hkk.1 b hbk
    refine⟨h1,pQ T h1 ?_ h2⟩
    rw[dN T hn hk]
    exact j9 _ (iQ T hn)
theorem sL (T:Tree l):∀ (m:Nat) (n:Int),ai l n=true→l.length+1≤m+ (bS l n).length→∀x∈bU l m n,∀k∈ (nd l x).kids,k∈bU l m n
 |0,n,_,_,x,hx,_,_=>by simp[bU] at hx
 | m +1,n,hn,hm,x,hx,k,hk=>by
   unfold bU at hx ⊢
   refine j9 _ (List.mem_flatMap.2 ?_)
   rcases fj.1 hx with rfl|h
   ·have hkk:=T.kid x hn k hk
    have h1:=lp (l:=l) k
    rw[dN T hn hk] at h1
    have h2:(bS l x).length+1≤l.length:=h1
    obtain⟨j,hj⟩:∃j,m=j+1:=⟨m-1,by omega⟩
    refine⟨k,hk,?_⟩
    rw[hj];unfold bU;exact mq
   ·obtain⟨c,hc,hxc⟩:=List.mem_flatMap.1 h
    have hcc:=T.kid n hn c hc
    refine⟨c,hc,sL T m c hcc.1 ?_ x hxc k hk⟩
    rw[dN T hn hc];simp;omega
theorem AI (T:Tree l){m:Nat}{n:Int}(hn:ai l n=true)(hm:l.length+1≤m+ (bS l n).length):∀b,ai l b=true→n∈bS l b→b∈bU l m n:=by
 have hself:n∈bU l m n:=by
  have:=lp (l:=l) n
  obtain⟨j,hj⟩:∃j,m=j+1:=⟨m-1,by omega⟩
  rw[hj];unfold bU;exact mq
 refine iy T (fun b hb hp h=>?_) (fun b hb hp hq ih h=>?_)
 ·rw[ga T hb hp] at h;rw[←iw.1 h];exact hself
 ·rw[bY T hb hp] at h
  rcases fj.1 h with rfl|h
  ·exact hself
  ·exact sL T m n hn hm _ (ih h) _ (T.par b hb hp).2
theorem pA (T:Tree l){n:Int}(hn:ai l n=true):l.length+1≤l.length+ (bS l n).length:=by
 obtain⟨r,hr⟩:=dI T hn
 rw[hr];simp
theorem D8 (T:Tree l){a b:Int}(ha:ai l a=true)(hb:ai l b=true):b∈bU l l.length a↔a∈bS l b:=
 ⟨fun h=>(gx T _ a ha b h).2,fun h=>AI T ha (pA T ha) b hb h⟩
theorem l9 (T:Tree l):∀ (m:Nat) (n:Int),ai l n=true→(bU l m n).Nodup
 |0,_,_=>List.nodup_nil
 | m +1,n,hn=>by
   unfold bU
   refine List.nodup_cons.2 ⟨fun h=>?_,?_⟩
   ·obtain⟨k,hk,hnk⟩:=List.mem_flatMap.1 h
    have hkk:=T.kid n hn k hk
    have h1:=(gx T m k hkk.1 n hnk).2
    obtain⟨t,ht⟩:=je T n hn k h1
    have h2:=congrArg List.length ht
    rw[dN T hn hk] at h2
    simp at h2
    omega
   ·refine List.pairwise_flatMap.2 ⟨fun k hk=>l9 T m k (T.kid n hn k hk).1,?_⟩
    refine List.Pairwise.imp_of_mem (fun{a b} ha hb hab x hx y hy e=>?_) (T.dup n hn)
    subst e
    have h1:=gx T m a (T.kid n hn a ha).1 x hx
    have h2:=gx T m b (T.kid n hn b hb).1 x hy
    refine hab (AL T h1.1 h1.2 h2.2 ?_)
    rw[dN T hn ha,dN T hn hb];rfl
theorem yz:∀ (s t:List Int),t.Nodup→(∀x∈t,x∈s)→t.length≤s.length
 | [],t,_,h=>by
   cases t with
   |nil=>exact Nat.le_refl _
   |cons a r=>exact absurd (h a mq) (by simp)
 | a::s,t,hd,h=>by
   have h1:=yz s (t.erase a) (hd.erase a) (fun x hx=>by
   have h2:=(hd.mem_erase_iff).1 hx
   rcases fj.1 (h x h2.2) with e|e
   ·exact absurd e h2.1
   ·exact e)
   have h3:t.length≤ (t.erase a).length+1:=by rw[List.length_erase];split<;>omega
   simp;omega
theorem wm {t:List Int}{n:Nat}(hd:t.Nodup)(h:∀x∈t,0≤x∧x< (n:Int)):t.length≤n:=by
 have:=yz ((List.range n).map (fun k:Nat=>(k:Int))) t hd (fun x hx=>by
  have:=h x hx
  exact List.mem_map.2 ⟨x.toNat,List.mem_range.2 (by omega),by omega⟩)
 simpa using this
theorem pZ (T:Tree l)(m:Nat){n:Int}(hn:ai l n=true):(bU l m n).length≤l.length:=
 wm (l9 T m n hn) fun x hx=>dQ (gx T m n hn x hx).1
def zL (l:List az)(n:Int)(x:az)(c:Int):Bool:=
 ai l c&&(decide ((nd l c).parent=n)&&(decide ((nd l c).doc=x.doc)&&(decide ((nd l c).kind=1)||(decide ((nd l c).kind=2)&&decide (x.kind≠0)))))
theorem jq {n:Int}{x:az}:∀ {cs pre:List Int},lU l n x pre cs=true↔ (∀c∈cs,zL l n x c=true)∧cs.Nodup∧(∀c∈cs,c∉pre)
 |[],pre=>by simp[lU]
 | a ::r,pre=>by
   have hk:By l n x pre a=true↔zL l n x a=true∧a∉pre:=by
    unfold By zL uA
    simp only[aT,dW,aL,Bool.not_eq_true',bh]
    constructor
    ·rintro⟨⟨⟨⟨h1,h2⟩,h3⟩,h4⟩,h5⟩;exact⟨⟨h1,h3,h4,h5⟩,h2⟩
    ·rintro⟨⟨h1,h3,h4,h5⟩,h2⟩;exact⟨⟨⟨⟨h1,h2⟩,h3⟩,h4⟩,h5⟩
   unfold lU
   rw[aT,hk,jq,List.nodup_cons]
   constructor
   ·rintro⟨⟨h1,h2⟩,h3,h4,h5⟩
    refine⟨fun c hc=>?_,⟨fun h=>?_,h4⟩,fun c hc=>?_⟩
    ·rcases fj.1 hc with rfl|h
     ·exact h1
     ·exact h3 c h
    ·exact h5 a h (by simp)
    ·rcases fj.1 hc with rfl|h
     ·exact h2
     ·exact fun h6=>h5 c h (List.mem_append_left _ h6)
   ·rintro⟨h1,⟨h2,h3⟩,h4⟩
    refine⟨⟨h1 a mq,h4 a mq⟩,fun c hc=>h1 c (j9 _ hc),h3,fun c hc h=>?_⟩
    rcases List.mem_append.1 h with h|h
    ·exact h4 c (j9 _ hc) h
    ·rw[iw] at h;subst h;exact h2 hc
theorem uo {f:ForM}(h:bf f=true):∀n,ai f.nodes n=true→cQ f.nodes n (nd f.nodes n)=true:=by
 intro n hn
 obtain⟨k,x,rfl,hk,hx⟩:=aX.1 hn
 unfold bf at h
 simp only[aT] at h
 have:=kA.1 h.2.1 k x hk
 rw[hx];simpa using this
theorem wO {f:ForM}(h:bf f=true):∀n,ai f.nodes n=true→eF f.nodes f.nodes.length n=true:=by
 intro n hn
 obtain⟨k,x,rfl,hk,hx⟩:=aX.1 hn
 unfold bf at h
 simp only[aT] at h
 simpa using kA.1 h.2.2 k x hk
theorem gO {f:ForM}(h:bf f=true):Tree f.nodes:=by
 have hN:=uo h
 have hB:∀n,ai f.nodes n=true→(∀c∈ (nd f.nodes n).kids,zL f.nodes n (nd f.nodes n) c=true)∧(nd f.nodes n).kids.Nodup:=by
  intro n hn
  have h1:=hN n hn
  unfold cQ mN at h1
  simp only[aT] at h1
  have:=jq.1 h1.2.2.2.1.1
  exact⟨this.1,this.2.1⟩
 refine⟨fun n hn hp=>?_,fun n hn k hk=>?_,fun n hn=>(hB n hn).2,fun n hn=>jF (wO h n hn),fun n hn=>?_⟩
 ·have h1:=hN n hn
  unfold cQ sE at h1
  simp only[aT,dW,aL] at h1
  rcases h1.2.2.1 with h2|h2
  ·exact absurd h2 hp
  ·refine⟨h2.1.1.2,?_⟩
   have:=h2.2
   unfold uA at this;simpa using this
 ·have h1:=(hB n hn).1 k hk
  unfold zL at h1
  simp only[aT,aL] at h1
  exact⟨h1.1,h1.2.1⟩
 ·have h1:=hN n hn
  unfold cQ at h1
  simp only[aT] at h1
  exact h1.1
end Go.Proofs.Heir
end
section
namespace Go.Proofs.Heir
open Go Go.Am Go.RowKit Go.Lib
set_option maxRecDepth 100000
set_option maxHeartbeats 8000000
@[reducible] def DT : ByteArray := ⟨⟨[100, 105, 115, 97, 98, 108, 101, 100]⟩⟩
@[reducible] def LK : ByteArray := ⟨⟨[108, 101, 103, 101, 110, 100]⟩⟩
@[reducible] def I3 : ByteArray := ⟨⟨[102, 105, 101, 108, 100, 115, 101, 116]⟩⟩
def nZ (x:az):Bool:=decide (x.kind=1)&&decide (0≤iE x.attrs DT)
def Ak (x:az):Bool:=decide (0≤nE x.attrs DT)
def qo (l:List az)(k:Int):Bool:=decide ((nd l k).kind=1)&&decide ((nd l k).name=LK)
def oo (l:List az)(k:Int):Bool:=decide ((nd l k).name=LK)
def tW (p:Int→Bool)(cs:List Int):Int:=if 0≤fe p cs then(cs[(fe p cs).toNat]?).getD (-1) else-1
def n9 (l:List az)(n:Int):Int:=tW (qo l) (nd l n).kids
def xd (l:List az)(n:Int):Int:=tW (oo l) (nd l n).kids
def xL (l:List az)(p b:Int):Bool:=decide ((nd l p).name=I3)&&(nZ (nd l p)&&decide (n9 l p≠b))
def nM (l:List az):Nat→Int→Bool
 |0,_=>false
 |m+1,b=>if(nd l b).parent=-1 then false else(xL l (nd l b).parent b||nM l m (nd l b).parent)
def mA (l:List az)(n:Int):Bool:=nZ (nd l n)||(decide ((nd l n).kind=1)&&nM l l.length n)
def kT (l:List az)(a b:Int):Bool:=decide (b∈bU l l.length a)
def tA (l:List az)(a b:Int):Bool:=decide (a∈bS l b)
def vk (l:List az)(n p:Int):Bool:=decide ((nd l p).name=I3)&&(Ak (nd l p)&&(decide (p≠n)&&(kT l p n&&(decide (xd l p<0)|| !kT l (xd l p) n))))
def KS (l:List az)(n:Int):Bool:=decide ((nd l n).kind=1)&&(Ak (nd l n)||(List.range l.length).any (fun p=>vk l n (p:Int)))
theorem Dl {α:Type}{p q:α→Bool}{l:List α}(h:∀x∈l,p x=q x):fe p l=fe q l:=by
 unfold fe
 rw[show l.findIdx? p=l.findIdx? q from ?_]
 induction l with
 |nil=>rfl
 | cons a r ih=>
   rw[List.findIdx?_cons,List.findIdx?_cons,h a mq,ih fun x hx=>h x (j9 _ hx)]
theorem lq (p:Int→Bool)(cs:List Int):tW p cs=-1∨tW p cs∈cs:=by
 unfold tW
 rcases mU p cs with h|⟨k,a,h,hk,_⟩
 ·left;rw[h];rfl
 ·right
  rw[h,if_pos (by omega),Int.toNat_natCast,hk]
  exact bn hk
variable {l : List az}
theorem sP (T:Tree l){n:Int}(hn:ai l n=true):(nd l n).kind=1∨((nd l n).kind≠1∧(nd l n).name=⟨#[]⟩∧(nd l n).attrs=[]):=by
 have h:=T.nam n hn
 unfold iS at h
 by_cases e1:(nd l n).kind=1
 ·exact .inl e1
 ·right
  rw[if_neg e1] at h
  refine⟨e1,?_⟩
  split at h
  ·simp only[aT,aL] at h
   exact⟨h.1.1.2,h.2⟩
  ·split at h
   ·simp only[aT,aL] at h
    exact⟨h.1.1.1,h.2⟩
   ·cases h
theorem IY (T:Tree l){n:Int}(hn:ai l n=true):xd l n=n9 l n:=by
 unfold xd n9 tW
 rw[Dl (p:=oo l) (q:=qo l) fun k hk=>?_]
 unfold oo qo
 rcases sP T (T.kid n hn k hk).1 with h|⟨h1,h2,_⟩
 ·rw[h];simp
 ·rw[h2];simp[h1]
theorem CX:bJ DT=true:=by decide+kernel
theorem G7:gR DT=DT:=by decide+kernel
theorem Ag (T:Tree l){n:Int}(hn:ai l n=true):nZ (nd l n)=Ak (nd l n):=by
 unfold nZ Ak
 rcases sP T hn with h|⟨h1,h2,h3⟩
 ·have hr:gq (nd l n).attrs=true:=by
   have h2:=T.nam n hn
   unfold iS at h2
   rw[if_pos h] at h2
   simp only[aT] at h2
   exact h2.2
  rw[h];unfold iE;rw[hr,CX,G7];simp
 ·rw[h3];simp[h1];decide
theorem Hw {x:az}(h:nZ x=true):x.kind=1:=by
 unfold nZ at h;simp only[aT,aL] at h;exact h.1
theorem yg (T:Tree l):∀ (m:Nat) (b:Int),iJ l m b=true→(nM l m b=true↔ ∃c∈xH l m b,(nd l c).parent≠-1∧xL l (nd l c).parent c=true)
 |0,b,h=>by simp[iJ] at h
 | m +1,b,h=>by
   unfold iJ at h
   unfold nM xH
   by_cases hp:(nd l b).parent=-1
   ·rw[if_pos hp,if_pos hp]
    constructor
    ·intro h;cases h
    ·rintro⟨c,hc,h1,_⟩
     rw[iw.1 hc] at h1
     exact absurd hp h1
   ·rw[if_neg hp] at h
    rw[if_neg hp,if_neg hp,dW,yg T m _ h]
    constructor
    ·rintro(h1|⟨c,hc,h1⟩)
     ·exact⟨b,mq,hp,h1⟩
     ·exact⟨c,j9 _ hc,h1⟩
    ·rintro⟨c,hc,h1,h2⟩
     rcases fj.1 hc with rfl|hc
     ·exact .inl h2
     ·exact .inr ⟨c,hc,h1,h2⟩
theorem FU (T:Tree l):∀n,ai l n=true→∀p∈bS l n,p≠n→∃c∈bS l n,(nd l c).parent≠-1∧(nd l c).parent=p:=by
 refine iy T (fun n hn hp p h hne=>?_) (fun n hn hp hq ih p h hne=>?_)
 ·rw[ga T hn hp] at h;exact absurd (iw.1 h) hne
 ·rw [bY T hn hp] at h ⊢
  rcases fj.1 h with rfl|h
  ·exact absurd rfl hne
  ·by_cases e:p=(nd l n).parent
   ·exact⟨n,mq,hp,e.symm⟩
   ·obtain⟨c,hc,h1⟩:=ih p h e
    exact⟨c,j9 _ hc,h1⟩
theorem u5 (T:Tree l){a b:Int}(ha:ai l a=true)(hb:ai l b=true):kT l a b=tA l a b:=by
 unfold kT tA
 exact decide_eq_decide.2 (D8 T ha hb)
theorem E1 (T:Tree l){n c:Int}(hn:ai l n=true)(hc:c∈bS l n)(hp:(nd l c).parent≠-1):(n9 l (nd l c).parent≠c)↔ (n9 l (nd l c).parent<0∨n9 l (nd l c).parent∉bS l n):=by
 have hcc:=gS T n hn c hc
 have hpp:=T.par c hcc hp
 have h0:=dQ hcc
 constructor
 ·intro hne
  rcases lq (qo l) (nd l (nd l c).parent).kids with h|h
  ·left;unfold n9;rw[h];omega
  ·right;intro hin
   refine hne (AL T hn hin hc ?_)
   have h1:n9 l (nd l c).parent∈ (nd l (nd l c).parent).kids:=h
   rw[dN T hpp.1 h1,dN T hpp.1 hpp.2];rfl
 ·rintro h e
  rw[e] at h
  rcases h with h|h
  ·omega
  ·exact h hc
theorem OC (T:Tree l){n:Int}(hn:ai l n=true):mA l n=KS l n:=by
 unfold mA KS
 rw[Ag T hn]
 by_cases hk:(nd l n).kind=1
 ·rw [hk]
  simp only[decide_true,Bool.true_and]
  congr 1
  rw[Bool.eq_iff_iff,yg T _ n (T.fin n hn),List.any_eq_true]
  constructor
  ·rintro⟨c,hc,hp,hcond⟩
   change c∈bS l n at hc
   have hcc:=gS T n hn c hc
   have hpp:=T.par c hcc hp
   obtain⟨k,x,hk1,hk2,_⟩:=aX.1 hpp.1
   have hpn:(nd l c).parent∈bS l n:=by
    refine pQ T hn ?_ hc
    rw[bY T hcc hp];exact j9 _ (iQ T hpp.1)
   have hne:(nd l c).parent≠n:=by
    intro e
    obtain⟨t,ht⟩:=je T n hn c hc
    have h1:=congrArg List.length ht
    rw[bY T hcc hp,e] at h1
    simp at h1
    omega
   refine⟨k,List.mem_range.2 (aZ hk2).1,?_⟩
   rw[←hk1]
   unfold xL at hcond
   simp only[aT,aL] at hcond
   have hl:=(E1 T hn hc hp).1 hcond.2.2
   unfold vk
   rw[←Ag T hpp.1,u5 T hpp.1 hn,IY T hpp.1]
   simp only[aT,dW,aL,Bool.not_eq_true']
   refine⟨hcond.1,hcond.2.1,hne,by unfold tA;exact aV hpn,?_⟩
   rcases hl with h|h
   ·exact .inl h
   ·rcases lq (qo l) (nd l (nd l c).parent).kids with h'|h'
    ·left;unfold n9;rw[h'];omega
    ·right
     have h1:n9 l (nd l c).parent∈ (nd l (nd l c).parent).kids:=h'
     rw[u5 T (T.kid _ hpp.1 _ h1).1 hn]
     unfold tA;exact aS h
  ·rintro⟨p,hp,h⟩
   have hpl:=List.mem_range.1 hp
   have hpt:ai l (p:Int)=true:=cw (aP hpl)
   unfold vk at h
   rw[←Ag T hpt,u5 T hpt hn,IY T hpt] at h
   simp only[aT,dW,aL,Bool.not_eq_true'] at h
   obtain⟨h1,h2,h3,h4,h5⟩:=h
   unfold tA at h4
   simp only[aL] at h4
   obtain⟨c,hc,hcp,he⟩:=FU T n hn p h4 h3
   refine⟨c,hc,hcp,?_⟩
   have hlw:=E1 T hn hc hcp
   rw[he] at hlw
   unfold xL
   rw[he,h2]
   simp only[aT,aL]
   refine⟨h1,trivial,hlw.2 ?_⟩
   rcases h5 with h5|h5
   ·exact .inl h5
   ·rcases lq (qo l) (nd l (p:Int)).kids with h'|h'
    ·left;unfold n9;rw[h'];omega
    ·right
     have hin:n9 l (p:Int)∈ (nd l (p:Int)).kids:=h'
     rw[u5 T (T.kid _ hpt _ hin).1 hn] at h5
     unfold tA at h5
     simpa using h5
 ·simp only[aS hk,Bool.false_and,Bool.or_false]
  rw[←Ag T hn]
  unfold nZ
  rw[aS hk];rfl
end Go.Proofs.Heir
end
section
namespace Go.Proofs.Heir
open Go Go.Am Go.RowKit Go.Lib
set_option maxRecDepth 100000
set_option maxHeartbeats 8000000
def nY (g:Int→Int):Nat→Int→Bool
 |0,_=>false
 |m+1,n=>if g n=-1 then true else nY g m (g n)
def AN (g:Int→Int):Nat→Int→List Int
 |0,_=>[]
 |m+1,n=>n::if g n=-1 then[] else AN g m (g n)
theorem BZ {g:Int→Int}:∀ {m k:Nat} {n:Int},nY g m n=true→m≤k→AN g k n=AN g m n∧nY g k n=true
 |0,k,n,h,_=>by simp[nY] at h
 | m +1,k,n,h,hk=>by
   obtain⟨k,rfl⟩:∃j,k=j+1:=⟨k-1,by omega⟩
   unfold nY at h ⊢
   unfold AN
   by_cases hp:g n=-1
   ·rw[if_pos hp,if_pos hp,if_pos hp];exact⟨rfl,rfl⟩
   ·rw[if_neg hp] at h
    rw[if_neg hp,if_neg hp,if_neg hp,(BZ h (Nat.le_of_succ_le_succ hk)).1]
    exact⟨rfl,(BZ h (Nat.le_of_succ_le_succ hk)).2⟩
theorem Qb {g:Int→Int}:∀ {m:Nat} {n a:Int},nY g m n=true→a∈AN g m n→nY g m a=true∧∃t,AN g m n=t++AN g m a
 |0,n,a,h,_=>by simp[nY] at h
 | m + 1,n,a,h,ha=>by
   by_cases e:a=n
   ·subst e;exact⟨h,[],rfl⟩
   ·unfold nY at h
    unfold AN at ha
    by_cases hp:g n=-1
    ·rw[if_pos hp] at ha;exact absurd (iw.1 ha) e
    ·rw[if_neg hp] at h ha
     rcases fj.1 ha with h1|h1
     ·exact absurd h1 e
     ·obtain⟨h2,t,ht⟩:=Qb h h1
      have h3:=BZ h2 (Nat.le_succ m)
      refine⟨h3.2,n::t,?_⟩
      rw[show m.succ=m+1 from rfl] at h3
      rw[h3.1,AN,if_neg hp,ht];rfl
theorem PR {g:Int→Int}:∀ {m:Nat} {n:Int},nY g m n=true→(AN g m n).Nodup
 |0,n,h=>by simp[nY] at h
 | m +1,n,h=>by
   have h0:=h
   unfold nY at h
   unfold AN
   by_cases hp:g n=-1
   ·rw[if_pos hp];simp
   ·rw[if_neg hp] at h ⊢
    refine List.nodup_cons.2 ⟨fun hin=>?_,PR h⟩
    obtain⟨h2,t,ht⟩:=Qb h hin
    have h3:=(BZ h2 (Nat.le_succ m)).1
    rw[show m.succ=m+1 from rfl,AN,if_neg hp,ht] at h3
    have:=congrArg List.length h3
    simp at this
    omega
theorem Pf {g:Int→Int}:∀ {m k:Nat} {n:Int},nY g m n=true→(AN g m n).length≤k→nY g k n=true
 |0,k,n,h,_=>by simp[nY] at h
 |m+1,0,n,_,hk=>by unfold AN at hk;simp at hk
 | m +1,k+1,n,h,hk=>by
   unfold nY at h ⊢
   unfold AN at hk
   by_cases hp:g n=-1
   ·rw[if_pos hp]
   ·rw[if_neg hp] at h hk ⊢
    exact Pf h (by simp at hk;omega)
theorem SK {g:Int→Int}{P:Int→Prop}(hg:∀n,P n→g n≠-1→P (g n)):∀ {m:Nat} {n:Int},P n→∀a∈AN g m n,P a
 |0,n,_,a,ha=>by simp[AN] at ha
 | m +1,n,hn,a,ha=>by
   unfold AN at ha
   rcases fj.1 ha with rfl|h
   ·exact hn
   ·by_cases hp:g n=-1
    ·rw[if_pos hp] at h;simp at h
    ·rw[if_neg hp] at h
     exact SK hg (hg n hn hp) a h
theorem DM (l:List az):∀ (m:Nat) (n:Int),eF l m n=nY (fun n=>iL (nd l n)) m n
 |0,_=>rfl
 |m+1,n=>by unfold eF nY;rw[DM l m]
theorem E3 {l:List az}(hup:∀n,ai l n=true→iL (nd l n)=-1∨ai l (iL (nd l n))=true){n:Int}(hn:ai l n=true):eF l (l.length+1) n=eF l l.length n:=by
 rw[DM,DM,Bool.eq_iff_iff]
 constructor
 ·intro h
  refine Pf h (wm (PR h) fun a ha=>?_)
  have:=SK (P:=fun n=>ai l n=true) (fun n hn hne=>(hup n hn).resolve_left hne) hn a ha
  exact dQ this
 ·intro h;exact(BZ h (Nat.le_succ _)).2
def xu (l:List az)(n:Int)(x:az):Bool:=(decide (0≤x.kind)&&decide (x.kind≤4))&&(oN l x.doc 0&&(decide (x.kind≠0)||decide (x.doc=n)))
def xy (l:List az)(n:Int)(x:az):Bool:=decide (x.parent=-1)||((decide (x.kind=1)||decide (x.kind=2))&&(ai l x.parent&&(decide ((nd l x.parent).kind≠2)&&decide ((nd l x.parent).kids.count n=1))))
def uG (l:List az)(n:Int)(x:az)(c:Int):Bool:=ai l c&&(decide (x.kids.count c=1)&&((decide ((nd l c).kind=1)||decide ((nd l c).kind=2))&&(decide ((nd l c).parent=n)&&decide ((nd l c).doc=x.doc))))
def lO (l:List az)(x:az):Bool:=(decide (x.kind≠2)||decide (x.kids=[]))&&(decide (x.kind≠0)||(decide (gV l x.kids≤1)&&decide (x.kids.length≤gV l x.kids)))
def vN (x:az):Bool:=
 if x.kind=1 then bJ x.name&&decide (gR x.name=x.name)&&(decide (x.is=⟨#[]⟩)||bM x.is)&&decide (x.data=⟨#[]⟩)&&gq x.attrs
 else decide (x.name=⟨#[]⟩)&&decide (x.is=⟨#[]⟩)&&decide (x.attrs=[])&&(decide (x.data=⟨#[]⟩)||(decide (x.kind=2)&&decide (x.data.size≤200)))
def gd (l:List az)(n:Int)(x:az):Bool:=xu l n x&&(xy l n x&&(x.kids.all (uG l n x)&&(lO l x&&(fq l n x&&vN x))))
def An (f:ForM):Bool:=pg f&&(jX (fun k x=>gd f.nodes k x) 0 f.nodes&&jX (fun k _=>eF f.nodes (f.nodes.length+1) k) 0 f.nodes)
theorem Fe {cs:List Int}(h:cs.Nodup)(c:Int):cs.count c≤1:=by
 induction cs with
 |nil=>simp
 | cons a r ih=>
   rw[List.nodup_cons] at h
   rw[List.count_cons]
   by_cases e:a=c
   ·subst e
    rw[List.count_eq_zero.2 h.1];simp
   ·simp[e];exact ih h.2
theorem count_one {cs:List Int}(h:cs.Nodup){c:Int}(hc:c∈cs):cs.count c=1:=by
 have h1:=Fe h c
 have h2:=List.count_pos_iff.2 hc
 omega
theorem vn {cs:List Int}(h:∀c,cs.count c≤1):cs.Nodup:=by
 induction cs with
 |nil=>exact List.nodup_nil
 | cons a r ih=>
   refine List.nodup_cons.2 ⟨fun hin=>?_,ih fun c=>?_⟩
   ·have h1:=h a
    rw[List.count_cons_self] at h1
    have h2:=List.count_pos_iff.2 hin
    omega
   ·refine Nat.le_trans ?_ (h c)
    rw[List.count_cons];omega
theorem qS {x:az}:iS x=true↔ (0≤x.kind∧x.kind≤4)∧vN x=true:=by
 unfold iS vN
 by_cases e1:x.kind=1
 ·rw[if_pos e1,if_pos e1]
  exact⟨fun h=>⟨by omega,h⟩,fun h=>h.2⟩
 ·rw [if_neg e1,if_neg e1]
  by_cases e2:x.kind=2
  ·rw[if_pos e2]
   simp only[aT,dW,aL]
   constructor
   ·rintro⟨⟨⟨h1,h2⟩,h3⟩,h4⟩
    exact⟨by omega,⟨⟨h2,h3⟩,h4⟩,.inr ⟨e2,h1⟩⟩
   ·rintro⟨_,⟨⟨h2,h3⟩,h4⟩,h5⟩
    refine⟨⟨⟨?_,h2⟩,h3⟩,h4⟩
    rcases h5 with h|h
    ·rw[h];exact Nat.zero_le _
    ·exact h.2
  ·rw [if_neg e2]
   by_cases e3:x.kind=0∨x.kind=3∨x.kind=4
   ·rw[if_pos e3]
    simp only[aT,dW,aL]
    constructor
    ·rintro⟨⟨⟨h1,h2⟩,h3⟩,h4⟩
     exact⟨by omega,⟨⟨h1,h2⟩,h4⟩,.inl h3⟩
    ·rintro⟨_,⟨⟨h1,h2⟩,h4⟩,h3|h3⟩
     ·exact⟨⟨⟨h1,h2⟩,h3⟩,h4⟩
     ·exact absurd h3.1 e2
   ·rw[if_neg e3]
    constructor
    ·intro h;cases h
    ·rintro⟨h,_⟩;omega
variable {l : List az}
theorem zC {cs:List Int}:cs.length≤gV l cs↔ ∀c∈cs,(nd l c).kind=1:=by
 have h1:=List.countP_le_length (p:=fun c=>decide ((nd l c).kind=1)) (l:=cs)
 have h2:=List.countP_eq_length (p:=fun c=>decide ((nd l c).kind=1)) (l:=cs)
 unfold gV
 constructor
 ·intro h c hc
  simpa using h2.1 (by omega) c hc
 ·intro h
  have:=h2.2 (fun c hc=>by simpa using h c hc)
  omega
theorem uK {k:Int}(h:0≤k∧k≤4):mD k=true↔k≠2:=by
 unfold mD
 simp only[dW,aL]
 omega
theorem Oj (h:∀n,ai l n=true→cQ l n (nd l n)=true):∀n,ai l n=true→gd l n (nd l n)=true:=by
 intro n hn
 have h0:=h n hn
 unfold cQ at h0
 simp only[aT] at h0
 obtain⟨hN,hO,hH,hB,hS⟩:=h0
 have hk:=qS.1 hN
 unfold mN at hB
 simp only[aT,dW,aL] at hB
 have hkids:=jq.1 hB.1
 unfold gd
 simp only[aT]
 refine⟨?_,?_,?_,?_,hS,hk.2⟩
 ·unfold xu;unfold tE at hO
  simp only[aT,aL]
  rw[aT] at hO
  exact⟨hk.1,hO.1,hO.2⟩
 ·unfold xy;unfold sE at hH
  simp only[aT,dW,aL] at hH ⊢
  rcases hH with hH|⟨⟨⟨h1,h2⟩,h3⟩,h4⟩
  ·exact .inl hH
  ·right
   have hp:=h _ h2
   unfold cQ mN at hp
   simp only[aT] at hp
   have hpk:=(qS.1 hp.1).1
   have hpd:=(jq.1 hp.2.2.2.1.1).2.1
   unfold uA at h4
   exact⟨h1,h2,(uK hpk).1 h3,count_one hpd (by simpa using h4)⟩
 ·rw[List.all_eq_true]
  intro c hc
  have h1:=hkids.1 c hc
  unfold zL at h1;unfold uG
  simp only[aT,dW,aL] at h1 ⊢
  obtain⟨a1,a2,a3,a4⟩:=h1
  refine⟨a1,count_one hkids.2.1 hc,?_,a2,a3⟩
  rcases a4 with a4|a4
  ·exact .inl a4
  ·exact .inr a4.1
 ·unfold lO
  simp only[aT,dW,aL]
  obtain⟨_,hb1,hb2⟩:=hB
  constructor
  ·by_cases e:(nd l n).kind=2
   ·right
    rcases hb1 with h|h
    ·exact absurd e ((uK hk.1).1 h)
    ·exact h
   ·exact .inl e
  ·by_cases e:(nd l n).kind=0
   ·right
    refine⟨hb2.resolve_left (fun h=>h e),zC.2 fun c hc=>?_⟩
    have h1:=hkids.1 c hc
    unfold zL at h1
    simp only[aT,dW,aL] at h1
    rcases h1.2.2.2 with h|h
    ·exact h
    ·exact absurd e h.2
   ·exact .inl e
theorem Jr (h:∀n,ai l n=true→gd l n (nd l n)=true):∀n,ai l n=true→cQ l n (nd l n)=true:=by
 intro n hn
 have hdup:∀n,ai l n=true→(nd l n).kids.Nodup:=by
  intro n hn
  have h0:=h n hn
  unfold gd at h0
  simp only[aT,List.all_eq_true] at h0
  refine vn fun c=>?_
  by_cases hc:c∈ (nd l n).kids
  ·have h1:=h0.2.2.1 c hc
   unfold uG at h1
   simp only[aT,aL] at h1
   omega
  ·rw[List.count_eq_zero.2 hc];omega
 have h0:=h n hn
 unfold gd at h0
 simp only[aT,List.all_eq_true] at h0
 obtain⟨hD,hP,hK,hE,hS,hN⟩:=h0
 unfold xu at hD
 simp only[aT,aL] at hD
 unfold cQ
 simp only[aT]
 refine⟨qS.2 ⟨hD.1,hN⟩,?_,?_,?_,hS⟩
 ·unfold tE;rw[aT];exact hD.2
 ·unfold sE;unfold xy at hP
  simp only[aT,dW,aL] at hP ⊢
  rcases hP with hP|⟨h1,h2,h3,h4⟩
  ·exact .inl hP
  ·right
   have hp:=h _ h2
   unfold gd xu at hp
   simp only[aT,aL] at hp
   refine⟨⟨⟨h1,h2⟩,(uK hp.1.1).2 h3⟩,?_⟩
   unfold uA
   exact aV (List.count_pos_iff.1 (by omega))
 ·unfold mN;unfold lO at hE
  simp only[aT,dW,aL] at hE ⊢
  refine⟨jq.2 ⟨fun c hc=>?_,hdup n hn,fun _ _=>by simp⟩,?_,?_⟩
  ·have h1:=hK c hc
   unfold uG at h1;unfold zL
   simp only[aT,dW,aL] at h1 ⊢
   obtain⟨a1,a2,a3,a4,a5⟩:=h1
   refine⟨a1,a4,a5,?_⟩
   rcases a3 with a3|a3
   ·exact .inl a3
   ·right
    refine⟨a3,fun e0=>?_⟩
    rcases hE.2 with h|h
    ·exact h e0
    ·have:=zC.1 h.2 c hc
     omega
  ·by_cases e:(nd l n).kind=2
   ·exact .inr (hE.1.resolve_left fun h=>h e)
   ·exact .inl ((uK hD.1).2 e)
  ·rcases hE.2 with h|h
   ·exact .inl h
   ·exact .inr h.1
theorem uV (h:∀n,ai l n=true→cQ l n (nd l n)=true):∀n,ai l n=true→iL (nd l n)=-1∨ai l (iL (nd l n))=true:=by
 intro n hn
 have h0:=h n hn
 unfold cQ at h0
 simp only[aT] at h0
 obtain⟨_,_,hH,_,hS⟩:=h0
 unfold iL
 unfold sE at hH
 simp only[aT,dW,aL] at hH
 by_cases e:(nd l n).parent=-1
 ·rw[if_pos e]
  unfold fq at hS
  rw[aT] at hS
  by_cases e4:(nd l n).kind=4
  ·rw[if_pos e4] at hS
   unfold oN at hS
   simp only[aT] at hS
   exact .inr hS.1.1.1.1
  ·rw[if_neg e4] at hS
   exact .inl (by simpa using hS.1)
 ·rw[if_neg e]
  rcases hH with h|h
  ·exact absurd h e
  ·exact .inr h.1.1.2
theorem pS (p:Int→az→Bool):jX (fun k x=>p k x) 0 l=true↔ ∀n,ai l n=true→p n (nd l n)=true:=by
 rw[kA]
 constructor
 ·intro h n hn
  obtain⟨k,x,rfl,hk,hx⟩:=aX.1 hn
  have:=h k x hk
  rw[hx];simpa using this
 ·intro h k x hk
  have:=h k (cw hk)
  rw[dw hk] at this
  simpa using this
theorem right_eq (f:ForM):An f=bf f:=by
 unfold An bf
 rw[Bool.eq_iff_iff]
 simp only[aT]
 rw[pS (fun n x=>gd f.nodes n x),pS (fun n x=>cQ f.nodes n x),pS (fun n _=>eF f.nodes (f.nodes.length+1) n),pS (fun n _=>eF f.nodes f.nodes.length n)]
 constructor
 ·rintro⟨h1,h2,h3⟩
  have h4:=Jr h2
  exact⟨h1,h4,fun n hn=>by rw[←E3 (uV h4) hn];exact h3 n hn⟩
 ·rintro⟨h1,h2,h3⟩
  exact⟨h1,Oj h2,fun n hn=>by rw[E3 (uV h2) hn];exact h3 n hn⟩
end Go.Proofs.Heir
end
namespace Go.Proofs.Heir
open Go Go.Am Go.RowKit Go.Lib
set_option maxRecDepth 100000
set_option maxHeartbeats 8000000
def G2 (x:az):List Int:=(if x.under=-1 then[] else[x.under])++x.kids
namespace U
def iJ (l:List az):Nat→Int→Bool
 |0,_=>false
 |m+1,n=>if(iL (nd l n))=-1 then true else iJ l m (iL (nd l n))
def xH (l:List az):Nat→Int→List Int
 |0,_=>[]
 |m+1,n=>n::if(iL (nd l n))=-1 then[] else xH l m (iL (nd l n))
def bU (l:List az):Nat→Int→List Int
 |0,_=>[]
 |m+1,n=>n::(G2 (nd l n)).flatMap (bU l m)
def bS (l:List az)(n:Int):List Int:=xH l l.length n
theorem jF {l:List az}:∀ {m:Nat} {n:Int},eF l m n=true→iJ l m n=true
 |0,n,h=>by simp[eF] at h
 | m+1,n,h=>by
   unfold iJ;unfold eF at h
   by_cases hp:iL (nd l n)=-1
   ·rw[if_pos hp]
   ·rw[if_neg hp] at h ⊢;exact jF h
theorem vJ (l:List az):∀ (m:Nat) (n:Int),(xH l m n).length≤m
 |0,_=>Nat.le_refl _
 | m +1,n=>by
   unfold xH
   split
   ·simp
   ·have:=vJ l m (iL (nd l n))
    simp;omega
theorem sB {l:List az}:∀ {m k:Nat} {n:Int},iJ l m n=true→m≤k→xH l k n=xH l m n
 |0,k,n,h,_=>by simp[iJ] at h
 | m +1,k,n,h,hk=>by
   obtain⟨k,rfl⟩:∃j,k=j+1:=⟨k-1,by omega⟩
   unfold iJ at h
   unfold xH
   by_cases hp:(iL (nd l n))=-1
   ·rw[if_pos hp,if_pos hp]
   ·rw[if_neg hp] at h
    rw[if_neg hp,if_neg hp,sB h (by omega)]
structure Tree (l:List az):Prop where
 par:∀n,ai l n=true→(iL (nd l n))≠-1→ai l (iL (nd l n))=true∧n∈ (G2 (nd l (iL (nd l n))))
 kid:∀n,ai l n=true→∀k∈ (G2 (nd l n)),ai l k=true∧(iL (nd l k))=n
 dup:∀n,ai l n=true→(G2 (nd l n)).Nodup
 fin:∀n,ai l n=true→iJ l l.length n=true
variable {l : List az}
theorem iy (T:Tree l){P:Int→Prop}(h0:∀n,ai l n=true→(iL (nd l n))=-1→P n)(h1:∀n,ai l n=true→(iL (nd l n))≠-1→ai l (iL (nd l n))=true→P (iL (nd l n))→P n):∀n,ai l n=true→P n:=by
 have H:∀ (m:Nat) (n:Int),ai l n=true→iJ l m n=true→P n:=by
  intro m
  induction m with
  |zero=>intro n _ h;simp[iJ] at h
  | succ m ih=>
    intro n hn h
    unfold iJ at h
    by_cases hp:(iL (nd l n))=-1
    ·exact h0 n hn hp
    ·rw[if_neg hp] at h
     have hq:=(T.par n hn hp).1
     exact h1 n hn hp hq (ih _ hq h)
 exact fun n hn=>H _ n hn (T.fin n hn)
theorem ga (T:Tree l){n:Int}(hn:ai l n=true)(hp:(iL (nd l n))=-1):bS l n=[n]:=by
 have:=dQ hn
 obtain⟨m,hm⟩:∃m,l.length=m+1:=⟨l.length-1,by omega⟩
 unfold bS;rw[hm];unfold xH;rw[if_pos hp]
theorem bY (T:Tree l){n:Int}(hn:ai l n=true)(hp:(iL (nd l n))≠-1):bS l n=n::bS l (iL (nd l n)):=by
 have:=dQ hn
 obtain⟨m,hm⟩:∃m,l.length=m+1:=⟨l.length-1,by omega⟩
 have hf:=T.fin n hn
 unfold bS;rw[hm] at hf ⊢
 unfold iJ at hf
 rw[if_neg hp] at hf
 rw[xH,if_neg hp,sB hf (Nat.le_succ m)]
theorem dN (T:Tree l){n k:Int}(hn:ai l n=true)(hk:k∈ (G2 (nd l n))):bS l k=k::bS l n:=by
 have h:=T.kid n hn k hk
 have h0:=dQ hn
 have hp:(iL (nd l k))≠-1:=by rw[h.2];omega
 rw[bY T h.1 hp,h.2]
theorem dI (T:Tree l){n:Int}(hn:ai l n=true):∃r,bS l n=n::r:=by
 by_cases hp:(iL (nd l n))=-1
 ·exact⟨[],ga T hn hp⟩
 ·exact⟨_,bY T hn hp⟩
theorem iQ (T:Tree l){n:Int}(hn:ai l n=true):n∈bS l n:=by
 obtain⟨r,hr⟩:=dI T hn;rw[hr];exact mq
theorem lp (n:Int):(bS l n).length≤l.length:=vJ l _ n
theorem gS (T:Tree l):∀n,ai l n=true→∀a∈bS l n,ai l a=true:=by
 refine iy T (fun n hn hp a ha=>?_) (fun n hn hp hq ih a ha=>?_)
 ·rw[ga T hn hp] at ha;rw[iw.1 ha];exact hn
 ·rw[bY T hn hp] at ha
  rcases fj.1 ha with rfl|h
  ·exact hn
  ·exact ih a h
theorem je (T:Tree l):∀n,ai l n=true→∀a∈bS l n,∃t,bS l n=t++bS l a:=by
 refine iy T (fun n hn hp a ha=>?_) (fun n hn hp hq ih a ha=>?_)
 ·have h:=ha;rw[ga T hn hp] at h;rw[iw.1 h];exact⟨[],rfl⟩
 ·have h:=ha
  rw[bY T hn hp] at h
  rcases fj.1 h with rfl|h
  ·exact⟨[],rfl⟩
  ·obtain⟨t,ht⟩:=ih a h
   exact⟨n::t,by rw[bY T hn hp,ht];rfl⟩
theorem pQ (T:Tree l){a b c:Int}(hc:ai l c=true)(h1:a∈bS l b)(h2:b∈bS l c):a∈bS l c:=by
 obtain⟨t,ht⟩:=je T c hc b h2
 rw[ht];exact List.mem_append_right _ h1
theorem AL (T:Tree l){n a b:Int}(hn:ai l n=true)(ha:a∈bS l n)(hb:b∈bS l n)(he:(bS l a).length=(bS l b).length):a=b:=by
 obtain⟨t,ht⟩:=je T n hn a ha
 obtain⟨s,hs⟩:=je T n hn b hb
 rw[ht] at hs
 have h:=(List.append_inj' hs he).2
 obtain⟨r,hr⟩:=dI T (gS T n hn a ha)
 obtain⟨q,hq⟩:=dI T (gS T n hn b hb)
 rw[hr,hq] at h
 exact(List.cons.inj h).1
theorem gx (T:Tree l):∀ (m:Nat) (n:Int),ai l n=true→∀b∈bU l m n,ai l b=true∧n∈bS l b
 |0,n,_,b,hb=>by simp[bU] at hb
 | m +1,n,hn,b,hb=>by
   unfold bU at hb
   rcases fj.1 hb with rfl|h
   ·exact⟨hn,iQ T hn⟩
   ·obtain⟨k,hk,hbk⟩:=List.mem_flatMap.1 h
    have hkk:=T.kid n hn k hk
    obtain⟨h1,h2⟩:=gx T m k hkk.1 b hbk
    refine⟨h1,pQ T h1 ?_ h2⟩
    rw[dN T hn hk]
    exact j9 _ (iQ T hn)
theorem sL (T:Tree l):∀ (m:Nat) (n:Int),ai l n=true→l.length+1≤m+ (bS l n).length→∀x∈bU l m n,∀k∈ (G2 (nd l x)),k∈bU l m n
 |0,n,_,_,x,hx,_,_=>by simp[bU] at hx
 | m +1,n,hn,hm,x,hx,k,hk=>by
   unfold bU at hx ⊢
   refine j9 _ (List.mem_flatMap.2 ?_)
   rcases fj.1 hx with rfl|h
   ·have hkk:=T.kid x hn k hk
    have h1:=lp (l:=l) k
    rw[dN T hn hk] at h1
    have h2:(bS l x).length+1≤l.length:=h1
    obtain⟨j,hj⟩:∃j,m=j+1:=⟨m-1,by omega⟩
    refine⟨k,hk,?_⟩
    rw[hj];unfold bU;exact mq
   ·obtain⟨c,hc,hxc⟩:=List.mem_flatMap.1 h
    have hcc:=T.kid n hn c hc
    refine⟨c,hc,sL T m c hcc.1 ?_ x hxc k hk⟩
    rw[dN T hn hc];simp;omega
theorem AI (T:Tree l){m:Nat}{n:Int}(hn:ai l n=true)(hm:l.length+1≤m+ (bS l n).length):∀b,ai l b=true→n∈bS l b→b∈bU l m n:=by
 have hself:n∈bU l m n:=by
  have:=lp (l:=l) n
  obtain⟨j,hj⟩:∃j,m=j+1:=⟨m-1,by omega⟩
  rw[hj];unfold bU;exact mq
 refine iy T (fun b hb hp h=>?_) (fun b hb hp hq ih h=>?_)
 ·rw[ga T hb hp] at h;rw[←iw.1 h];exact hself
 ·rw[bY T hb hp] at h
  rcases fj.1 h with rfl|h
  ·exact hself
  ·exact sL T m n hn hm _ (ih h) _ (T.par b hb hp).2
theorem pA (T:Tree l){n:Int}(hn:ai l n=true):l.length+1≤l.length+ (bS l n).length:=by
 obtain⟨r,hr⟩:=dI T hn
 rw[hr];simp
theorem D8 (T:Tree l){a b:Int}(ha:ai l a=true)(hb:ai l b=true):b∈bU l l.length a↔a∈bS l b:=
 ⟨fun h=>(gx T _ a ha b h).2,fun h=>AI T ha (pA T ha) b hb h⟩
theorem l9 (T:Tree l):∀ (m:Nat) (n:Int),ai l n=true→(bU l m n).Nodup
 |0,_,_=>List.nodup_nil
 | m +1,n,hn=>by
   unfold bU
   refine List.nodup_cons.2 ⟨fun h=>?_,?_⟩
   ·obtain⟨k,hk,hnk⟩:=List.mem_flatMap.1 h
    have hkk:=T.kid n hn k hk
    have h1:=(gx T m k hkk.1 n hnk).2
    obtain⟨t,ht⟩:=je T n hn k h1
    have h2:=congrArg List.length ht
    rw[dN T hn hk] at h2
    simp at h2
    omega
   ·refine List.pairwise_flatMap.2 ⟨fun k hk=>l9 T m k (T.kid n hn k hk).1,?_⟩
    refine List.Pairwise.imp_of_mem (fun{a b} ha hb hab x hx y hy e=>?_) (T.dup n hn)
    subst e
    have h1:=gx T m a (T.kid n hn a ha).1 x hx
    have h2:=gx T m b (T.kid n hn b hb).1 x hy
    refine hab (AL T h1.1 h1.2 h2.2 ?_)
    rw[dN T hn ha,dN T hn hb];rfl
theorem pZ (T:Tree l)(m:Nat){n:Int}(hn:ai l n=true):(bU l m n).length≤l.length:=
 wm (l9 T m n hn) fun x hx=>dQ (gx T m n hn x hx).1
theorem gO {f:ForM}(h:bf f=true):Tree f.nodes:=by
 have hN:=uo h
 have T:=Heir.gO h
 have kidK:∀n,ai f.nodes n=true→∀c∈ (nd f.nodes n).kids,(nd f.nodes c).kind=1∨(nd f.nodes c).kind=2:=by
  intro n hn c hc
  have h1:=hN n hn
  unfold cQ mN at h1
  simp only[aT] at h1
  have h2:=(jq.1 h1.2.2.2.1.1).1 c hc
  unfold zL at h2
  simp only[aT,dW,aL] at h2
  rcases h2.2.2.2 with h3|h3
  ·exact .inl h3
  ·exact .inr h3.1
 have und:∀n,ai f.nodes n=true→(nd f.nodes n).under≠-1→ai f.nodes (nd f.nodes n).under=true∧(nd f.nodes (nd f.nodes n).under).kind=4∧(nd f.nodes (nd f.nodes n).under).host=n:=by
  intro n hn hu
  have h1:=hN n hn
  unfold cQ fq oN at h1
  simp only[aT,dW,aL] at h1
  rcases h1.2.2.2.2.2 with h2|h2
  ·exact absurd h2 hu
  ·exact⟨h2.1.2.1,h2.1.2.2,h2.2⟩
 have top4:∀n,ai f.nodes n=true→(nd f.nodes n).kind=4→(nd f.nodes n).parent=-1:=by
  intro n hn hk
  have h1:=hN n hn
  unfold cQ sE at h1
  simp only[aT,dW,aL] at h1
  rcases h1.2.2.1 with h2|h2
  ·exact h2
  ·rcases h2.1.1.1 with h3|h3<;>(rw[hk] at h3;cases h3)
 have mem:∀ (x:az) (k:Int),k∈G2 x↔ (x.under≠-1∧k=x.under)∨k∈x.kids:=by
  intro x k
  unfold G2
  rw[List.mem_append]
  by_cases hu:x.under=-1
  ·simp[hu]
  ·simp[hu]
 refine⟨fun n hn hp=>?_,fun n hn k hk=>?_,fun n hn=>?_,fun n hn=>jF (wO h n hn)⟩
 ·unfold iL at hp ⊢
  by_cases hq:(nd f.nodes n).parent=-1
  ·rw[if_pos hq] at hp ⊢
   have h1:=hN n hn
   unfold cQ fq at h1
   simp only[aT] at h1
   have h2:=h1.2.2.2.2.1
   by_cases hk:(nd f.nodes n).kind=4
   ·rw[if_pos hk] at h2
    unfold oN at h2
    simp only[aT,aL] at h2
    refine⟨h2.1.1.1,(mem _ _).2 (.inl ⟨?_,h2.1.2.symm⟩)⟩
    rw[h2.1.2]
    have:=dQ hn
    omega
   ·rw[if_neg hk] at h2
    exact absurd (by simpa using h2) hp
  ·rw[if_neg hq]
   have h1:=T.par n hn hq
   exact⟨h1.1,(mem _ _).2 (.inr h1.2)⟩
 ·have hn0:=dQ hn
  rcases(mem _ _).1 hk with⟨h1,rfl⟩|h1
  ·obtain⟨h2,h3,h4⟩:=und n hn h1
   exact⟨h2,by unfold iL;rw[if_pos (top4 _ h2 h3)];exact h4⟩
  ·obtain⟨h2,h3⟩:=T.kid n hn k h1
   exact⟨h2,by unfold iL;rw[if_neg (by rw[h3];omega)];exact h3⟩
 ·unfold G2
  by_cases hu:(nd f.nodes n).under=-1
  ·rw[if_pos hu];exact T.dup n hn
  ·rw[if_neg hu]
   refine List.nodup_cons.2 ⟨fun hm=>?_,T.dup n hn⟩
   have h1:=(und n hn hu).2.1
   rcases kidK n hn _ hm with h2|h2<;>(rw[h1] at h2;cases h2)
end U
theorem cC.take {rb rs:List AV}{off len off' len' bytes:Nat}{acc:Tk}{sl:SL}{m:ML}{A:List AV→Tk→SL→ML→Prop}(rows0 news:List AV)(h0:off=0∧len≤rb.length∧rows0=rb.take len)(h1:off'=0∧len'=rs.length∧news=rs)(h2:lg (flat news)=true)
  (h3:(rows0.length+news.length)*bytes≤140737488355328) (h4:rows0.length+news.length≤9223372036854775807) (h:A (rows0++news) acc sl m):cC rb off len rs off' len' bytes acc sl m (A:=A):=by
 obtain⟨rfl,hl,rfl⟩:=h0
 obtain⟨rfl,rfl,rfl⟩:=h1
 exact⟨_,_,by omega,by simp,by omega,by simp,h2,h3,h4,h⟩
theorem gG {α β:Type}{f g:α→List β}:∀ {l:List α},(∀a∈l,f a=g a)→l.flatMap f=l.flatMap g
 |[],_=>rfl
 |a::r,h=>by rw[List.flatMap_cons,List.flatMap_cons,h a mq,gG fun b hb=>h b (j9 _ hb)]
namespace U
variable {l : List az}
theorem oQ (T:Tree l):∀ (m:Nat) (n:Int),ai l n=true→l.length+1≤m+ (bS l n).length→bU l (m+1) n=bU l m n
 |0,n,_,h=>by have:=lp (l:=l) n;omega
 | m+1,n,hn,h=>by
   rw[bU,bU]
   congr 1
   refine gG fun k hk=>?_
   refine oQ T m k (T.kid n hn k hk).1 ?_
   rw[dN T hn hk];simp;omega
theorem ord_eq (T:Tree l){n:Int}(hn:ai l n=true):bU l l.length n=n::(G2 (nd l n)).flatMap (bU l l.length):=by
 have h0:=dQ hn
 obtain⟨m,hm⟩:∃m,l.length=m+1:=⟨l.length-1,by omega⟩
 have h1:∀k∈G2 (nd l n),bU l l.length k=bU l m k:=fun k hk=>by
  rw[hm]
  refine oQ T m k (T.kid n hn k hk).1 ?_
  obtain⟨r,hr⟩:=dI T hn
  rw[dN T hn hk,hr];simp;omega
 conv=>lhs;rw[hm,bU]
 congr 1
 exact gG fun k hk=>(h1 k hk).symm
def rest (l:List az)(st:List Int):List Int:=st.reverse.flatMap (bU l l.length)
theorem Be (T:Tree l){st:List Int}{t:Int}(ht:ai l t=true):rest l (st++ [t])=t::rest l (st++ (G2 (nd l t)).reverse):=by
 unfold rest
 rw[List.reverse_append,List.reverse_append,List.reverse_reverse]
 simp only[List.reverse_cons,List.reverse_nil,List.nil_append,List.cons_append,List.flatMap_cons,List.flatMap_append]
 rw[ord_eq T ht];rfl
theorem AW (T:Tree l):∀ {st:List Int},(∀c∈st,ai l c=true)→st.length≤ (rest l st).length:=by
 intro st h
 unfold rest
 have:∀s:List Int,(∀c∈s,ai l c=true)→s.length≤ (s.flatMap (bU l l.length)).length:=by
  intro s
  induction s with
  |nil=>intro _;exact Nat.le_refl _
  | cons a r ih=>
    intro h
    have h1:=ih fun c hc=>h c (j9 _ hc)
    rw[List.flatMap_cons,jg,ord_eq T (h a mq),List.length_cons,List.length_cons]
    omega
 have:=this st.reverse fun c hc=>h c (by simpa using hc)
 simpa using this
end U
theorem Eh (s:ByteArray):af Tryz.prog 134 [] [bG s] [] (aA (bM s)):=by
 cases hr:bJ s with
 | true=>
   have hs:s.size≤100000:=by
    have h0:=hr;unfold bJ kL at h0;simp only[aT,aL] at h0
    have hsz:s.size=s.data.toList.length:=iW s
    omega
   exact D0 s hs
 | false=>
   have e:bM s=false:=by unfold bM;rw[hr];rfl
   rw[e]
   refine af.ah (rvs:=[.tmp 2]) G aa Tryz.func134 rfl Tryz.ntmps134 rfl rfl ?_;with_reducible refine wD ?_
   refine cL (vv s) NG ?_;with_reducible refine wK ?_
   rw[hr]
   repeat' (first
  |refine gK ?_|refine aE ?_ ?_
  |apply trivial)
theorem uX (f:ForM)(n:Int):af Tryz.prog 204 [] [bD f,aj n] [] (aA (ai f.nodes n)):=by
 obtain⟨l,m⟩:=f
 have hlm:(l.map bP).length=l.length:=aM ..
 refine af.ah (rvs:=[.tmp 4]) G aa Tryz.func204 rfl Tryz.ntmps204 rfl rfl ?_;with_reducible refine wD ?_
 by_cases h:(0:Int)≤n
 ·(have fct:=h;(repeat' (first
  |refine gF ?_|refine aE ?_ ?_
  |apply trivial));all_goals clear fct)
  all_goals simp[ai,h]
 ·(have fct:=(eq_false h);(repeat' (first
  |refine gF ?_|refine aE ?_ ?_
  |apply trivial));all_goals clear fct)
  all_goals simp[ai,h]
theorem E7 (k:Int):af Tryz.prog 240 [] [aj k] [] (aA (mD k)):=by
 refine af.ah (rvs:=[.tmp 2]) G aa Tryz.func240 rfl Tryz.ntmps240 rfl rfl ?_;with_reducible refine wD ?_
 by_cases e0:k=0
 ·(have fct:=e0;(repeat' (first
  |refine gF ?_|refine aE ?_ ?_
  |apply trivial));all_goals clear fct)
  all_goals simp[mD,e0]
 ·by_cases e1:k=1
  ·(have fct:=e1;(repeat' (first
  |refine gF ?_|refine aE ?_ ?_
  | apply trivial));all_goals clear fct)
   all_goals simp[mD,e1]
  ·by_cases e3:k=3
   ·(have fct:=e3;(repeat' (first
  |refine gF ?_|refine aE ?_ ?_
  | apply trivial));all_goals clear fct)
    all_goals simp[mD,e3]
   ·by_cases e4:k=4
    ·(have fct:=e4;(repeat' (first
  |refine gF ?_|refine aE ?_ ?_
  | apply trivial));all_goals clear fct)
     all_goals simp[mD,e4]
    ·(have fct:=And.intro e0 (And.intro e1 (And.intro e3 (e4)));(repeat' (first
  |refine gF ?_|refine aE ?_ ?_
  |apply trivial));all_goals clear fct)
     all_goals simp[mD,e0,e1,e3,e4]
theorem uY (f:ForM)(n k:Int):af Tryz.prog 139 [] [bD f,aj n,aj k] [] (aA (oN f.nodes n k)):=by
 have h49:=uX f n
 obtain⟨l,m⟩:=f
 refine af.ah (rvs:=[.tmp 6]) G aa Tryz.func139 rfl Tryz.ntmps139 rfl rfl ?_;with_reducible refine wD ?_
 refine cL h49 zI ?_;with_reducible refine wK ?_
 cases ht:ai l n with
 | false=>
   (have fct:=ht;(repeat' (first
  |refine gF ?_|refine aE ?_ ?_
  | apply trivial));all_goals clear fct)
   all_goals simp[oN,ht]
 | true=>
   obtain⟨i,x,rfl,hx,hnd⟩:=aX.1 ht
   obtain⟨a1,a2,a3,a4,a5,a6,a7,a8,a9,a10⟩:=x
   (have fct:=ht;(repeat' (first
  |refine gF ?_|refine aE ?_ ?_
  |((refine ak.mk i (aO _) rfl (au hx) ?_)<;>with_reducible refine wK ?_)
  | apply trivial));all_goals clear fct)
   all_goals simp[oN,ht,hnd]
theorem Ks (l:List Int)(hl:l.length≤100000)(n:Int):af Tryz.prog 262 [] [bQ l,aj n] [] (aj (fe (fun x=>decide (x=n)) l)):=by
 have hlm:(l.map bB).length=l.length:=aM ..
 refine af.ah (rvs:=[.tmp 4]) G aa Tryz.func262 rfl Tryz.ntmps262 rfl rfl ?_;with_reducible refine wD ?_
 refine aR.use G aa (fun(k:Nat)=>[(0,bQ l),(1,aj n),(7,aj l.length),(8,aj k)]) (fun _=>[]) (fun k=>k≤l.length∧∀j x,j<k→l[j]? =some x→decide (x=n)=false) (fun k=>l.length-k) 0 ⟨Nat.zero_le _,fun j x h=>by omega⟩
  ⟨⟨rfl,rfl⟩,⟨rfl,rfl,by show(l.length:Int)=((l.map bB).length:Int);rw[hlm],rfl,trivial⟩,trivial⟩ ?_
 rintro k ⟨hk,hno⟩
 with_reducible refine wK ?_
 refine aQ.mk (fun h1=>?_) (fun h1=>?_)<;>(try simp only[aq] at h1)<;>with_reducible refine wK ?_
 ·have hk':k<l.length:=by simp only[aL] at h1;omega
  obtain⟨a,ha⟩:∃a,l[k]? =some a:=⟨_,aP hk'⟩
  refine ak.mk k (aj a) rfl (dG ha) ?_;with_reducible refine wK ?_
  refine aQ.mk (fun h2=>?_) (fun h2=>?_)<;>(try simp only[aq] at h2)<;>with_reducible refine wK ?_
  ·(refine eK ?_ ?_<;>with_reducible repeat' (first|exact trivial|(show _∧_;refine aK ?_ ?_)))
   refine dL (p:=fun x=>decide (x=n)) ha ?_ hno
   simp only[aL] at h2 ⊢;exact h2.symm
  ·refine nK ?_;with_reducible refine wK ?_
   refine ay.mk (k+1) ⟨by omega,fun j x hj hx=>?_⟩ (by omega) ⟨⟨rfl,rfl⟩,⟨rfl,rfl,rfl,by show((k+1:Nat):Int)=(k:Int)+1;omega,trivial⟩,trivial⟩
   rcases Nat.lt_or_ge j k with h3|h3
   ·exact hno j x h3 hx
   ·have:j=k:=by omega
    subst this
    rw[ha] at hx;cases hx
    simp only[bh] at h2 ⊢;exact fun e=>h2 e.symm
 ·(refine eK ?_ ?_<;>with_reducible repeat' (first|exact trivial|(show _∧_;refine aK ?_ ?_)))
  exact dm fun j x hx=>hno j x (by have:=(aZ hx).1;simp only[bh] at h1;omega) hx
theorem JA {l:List Int}{n:Int}:decide (0≤fe (fun x=>decide (x=n)) l)=uA l n:=by
 rw[Bool.eq_iff_iff,aL]
 unfold uA
 rw[aL]
 unfold fe
 cases h:l.findIdx? (fun x=>decide (x=n)) with
 | none=>
   rw[List.findIdx?_eq_none_iff] at h
   simp only
   refine⟨fun h'=>by omega,fun hs=>?_⟩
   have:=h n hs
   simp at this
 | some k=>
   rw[List.findIdx?_eq_some_iff_getElem] at h
   obtain⟨hk,h2,_⟩:=h
   simp only
   exact⟨fun _=>by rw[←of_decide_eq_true h2];exact List.getElem_mem hk,fun _=>by omega⟩
theorem Li (l:List Int)(hl:l.length≤100000)(n:Int):af Tryz.prog 241 [] [bQ l,aj n] [] (aA (uA l n)):=by
 rw[←JA]
 refine af.ah (rvs:=[.tmp 4]) G aa Tryz.func241 rfl Tryz.ntmps241 rfl rfl ?_;with_reducible refine wD ?_
 refine cL (Ks l hl n) QS ?_;with_reducible refine wK ?_
 (refine eK ?_ ?_<;>with_reducible repeat' (first|exact trivial|(show _∧_;refine aK ?_ ?_)))
theorem J9 (f:ForM)(k:Nat)(x:az)(hx:f.nodes[k]? =some x):af Tryz.prog 242 [] [bD f,aj k] [] (aj (iL x)):=by
 obtain⟨l,m⟩:=f
 obtain⟨a1,a2,a3,a4,a5,a6,a7,a8,a9,a10⟩:=x
 refine af.ah (rvs:=[.tmp 4]) G aa Tryz.func242 rfl Tryz.ntmps242 rfl rfl ?_;with_reducible refine wD ?_
 refine ak.mk k (aO _) rfl (au hx) ?_;with_reducible refine wK ?_
 unfold iL
 by_cases e:a6=-1
 ·(have fct:=e;(repeat' (first
  |refine gF ?_|refine aE ?_ ?_
  |((refine ak.mk k (aO _) rfl (au hx) ?_)<;>with_reducible refine wK ?_)
  |apply trivial));all_goals clear fct)
  all_goals simp[e]
 ·(have fct:=(eq_false e);(repeat' (first
  |refine gF ?_|refine aE ?_ ?_
  |((refine ak.mk k (aO _) rfl (au hx) ?_)<;>with_reducible refine wK ?_)
  |apply trivial));all_goals clear fct)
  all_goals simp[e]
theorem KB (f:ForM)(k:Nat)(x:az)(hx:f.nodes[k]? =some x):af Tryz.prog 198 [] [bD f,aj k] [] (aA (tE f.nodes k x)):=by
 have h55:=uY f x.doc 0
 obtain⟨l,m⟩:=f
 obtain⟨a1,a2,a3,a4,a5,a6,a7,a8,a9,a10⟩:=x
 unfold tE
 simp only at h55 hx ⊢
 refine af.ah (rvs:=[.tmp 4]) G aa Tryz.func198 rfl Tryz.ntmps198 rfl rfl ?_;with_reducible refine wD ?_
 refine ak.mk k (aO _) rfl (au hx) ?_;with_reducible refine wK ?_
 refine cL h55 o4 ?_;with_reducible refine wK ?_
 cases hi:oN l a10 0 with
 | false=>
   (have fct:=hi;(repeat' (first
  |refine gF ?_|refine aE ?_ ?_
  | apply trivial));all_goals clear fct)
   all_goals simp[hi]
 | true=>
   by_cases e:a1=0
   ·(have fct:=And.intro hi (e);(repeat' (first
  |refine gF ?_|refine aE ?_ ?_
  | apply trivial));all_goals clear fct)
    all_goals simp[hi,e]
   ·(have fct:=And.intro hi ((eq_false e));(repeat' (first
  |refine gF ?_|refine aE ?_ ?_
  | apply trivial));all_goals clear fct)
    all_goals simp[hi,e]
theorem KL (f:ForM)(hs:bR f.nodes)(k:Nat)(x:az)(hx:f.nodes[k]? =some x):af Tryz.prog 199 [] [bD f,aj k] [] (aA (sE f.nodes k x)):=by
 have h49:=uX f x.parent
 have h56:=E7 (nd f.nodes x.parent).kind
 have h57:ai f.nodes x.parent=true→af Tryz.prog 241 [] [bQ (nd f.nodes x.parent).kids,aj k] [] (aA (uA (nd f.nodes x.parent).kids k)):=fun ht=>by
  obtain⟨i,y,_,hy,hnd⟩:=aX.1 ht
  rw[hnd]
  exact Li y.kids (by have:=hs.kids y (bn hy);omega) k
 obtain⟨l,m⟩:=f
 obtain⟨a1,a2,a3,a4,a5,a6,a7,a8,a9,a10⟩:=x
 unfold sE
 simp only at h49 h56 h57 hx ⊢
 refine af.ah (rvs:=[.tmp 4]) G aa Tryz.func199 rfl Tryz.ntmps199 rfl rfl ?_;with_reducible refine wD ?_
 refine ak.mk k (aO _) rfl (au hx) ?_;with_reducible refine wK ?_
 by_cases e6:a6=-1
 ·(have fct:=e6;(repeat' (first
  |refine gF ?_|refine aE ?_ ?_
  |apply trivial));all_goals clear fct)
  all_goals simp[e6]
 ·refine aQ.no (by simp[e6]) ?_;with_reducible refine wK ?_
  have rest:∀b:Bool,(decide (a1=1)||decide (a1=2))=b→(b=false∨b=true):=fun b _=>by cases b<;>simp
  cases ht:ai l a6 with
  | false=>
    by_cases e1:a1=1
    ·(have fct:=And.intro e1 (And.intro ht ((eq_false e6)));(repeat' (first
  |refine gF ?_|refine aE ?_ ?_
  |(((with_reducible refine kQ 204 ?_);refine cL h49 zI ?_)<;>with_reducible refine wK ?_)
  | apply trivial));all_goals clear fct)
     all_goals simp[e1,ht,e6]
    ·by_cases e2:a1=2
     ·(have fct:=And.intro e2 (And.intro ht ((eq_false e6)));(repeat' (first
  |refine gF ?_|refine aE ?_ ?_
  |(((with_reducible refine kQ 204 ?_);refine cL h49 zI ?_)<;>with_reducible refine wK ?_)
  |apply trivial));all_goals clear fct)
      all_goals simp[e2,ht,e6]
     ·(have fct:=And.intro (eq_false e1) (And.intro (eq_false e2) (And.intro ht ((eq_false e6))));(repeat' (first
  |refine gF ?_|refine aE ?_ ?_
  |apply trivial));all_goals clear fct)
      all_goals simp[e1,e2,ht,e6]
  | true=>
    obtain⟨i,y,rfl,hy,hnd⟩:=aX.1 ht
    have h57':=h57 ht
    rw[hnd] at h56 h57' ⊢
    obtain⟨b1,b2,b3,b4,b5,b6,b7,b8,b9,b10⟩:=y
    simp only at h56 h57'
    cases hh:mD b1 with
    | false=>
      by_cases e1:a1=1
      ·(have fct:=And.intro e1 (And.intro ht (And.intro hh ((eq_false e6))));(repeat' (first
  |refine gF ?_|refine aE ?_ ?_
  | ((first
   |((with_reducible refine kQ 204 ?_);refine cL h49 zI ?_)
   |((with_reducible refine kQ 240 ?_);refine cL h56 IA ?_)
   |(refine ak.mk i (aO _) rfl (au hy) ?_))<;>with_reducible refine wK ?_)
  |apply trivial));all_goals clear fct)
       all_goals simp[e1,ht,e6,hh]
      ·by_cases e2:a1=2
       ·(have fct:=And.intro e2 (And.intro ht (And.intro hh ((eq_false e6))));(repeat' (first
  |refine gF ?_|refine aE ?_ ?_
  | ((first
   |((with_reducible refine kQ 204 ?_);refine cL h49 zI ?_)
   |((with_reducible refine kQ 240 ?_);refine cL h56 IA ?_)
   |(refine ak.mk i (aO _) rfl (au hy) ?_))<;>with_reducible refine wK ?_)
  |apply trivial));all_goals clear fct)
        all_goals simp[e2,ht,e6,hh]
       ·(have fct:=And.intro (eq_false e1) (And.intro (eq_false e2) (And.intro ht (And.intro hh ((eq_false e6)))));(repeat' (first
  |refine gF ?_|refine aE ?_ ?_
  | apply trivial));all_goals clear fct)
        all_goals simp[e1,e2,ht,e6]
    | true=>
      by_cases e1:a1=1
      ·(have fct:=And.intro e1 (And.intro ht (And.intro hh ((eq_false e6))));(repeat' (first
  |refine gF ?_|refine aE ?_ ?_
  | ((first
   |((with_reducible refine kQ 204 ?_);refine cL h49 zI ?_)
   |((with_reducible refine kQ 240 ?_);refine cL h56 IA ?_)
   |((with_reducible refine kQ 241 ?_);refine cL h57' Qj ?_)
   |(refine ak.mk i (aO _) rfl (au hy) ?_))<;>with_reducible refine wK ?_)
  |apply trivial));all_goals clear fct)
       all_goals simp[e1,ht,e6,hh]
      ·by_cases e2:a1=2
       ·(have fct:=And.intro e2 (And.intro ht (And.intro hh ((eq_false e6))));(repeat' (first
  |refine gF ?_|refine aE ?_ ?_
  | ((first
   |((with_reducible refine kQ 204 ?_);refine cL h49 zI ?_)
   |((with_reducible refine kQ 240 ?_);refine cL h56 IA ?_)
   |((with_reducible refine kQ 241 ?_);refine cL h57' Qj ?_)
   |(refine ak.mk i (aO _) rfl (au hy) ?_))<;>with_reducible refine wK ?_)
  |apply trivial));all_goals clear fct)
        all_goals simp[e2,ht,e6,hh]
       ·(have fct:=And.intro (eq_false e1) (And.intro (eq_false e2) (And.intro ht (And.intro hh ((eq_false e6)))));(repeat' (first
  |refine gF ?_|refine aE ?_ ?_
  |apply trivial));all_goals clear fct)
        all_goals simp[e1,e2,ht,e6]
theorem vM (l:List az)(m:Nat)(n:Int):eF l (m+1) n=if iL (nd l n)=-1 then true else eF l m (iL (nd l n)):=rfl
theorem J2 (f:ForM)(hl:f.nodes.length≤100000)(hup:∀ (k:Nat) (x:az),f.nodes[k]? =some x→iL x=-1∨ai f.nodes (iL x)=true)(k:Nat)(hk:k<f.nodes.length):af Tryz.prog 202 [] [bD f,aj k] [] (aA (eF f.nodes f.nodes.length k)):=by
 have h58:=J9 f
 obtain⟨l,m⟩:=f
 simp only at h58 hup hk hl ⊢
 have hlm:(l.map bP).length=l.length:=aM ..
 refine af.ah (rvs:=[.tmp 4]) G aa Tryz.func202 rfl Tryz.ntmps202 rfl rfl ?_;with_reducible refine wD ?_
 refine aR.use G aa (fun(i:Nat×Nat)=>[(1,aj i.2),(2,.ptr 20 0 0),(8,aj l.length),(9,aj i.1)]) (fun _=>[(20,.live 2 [bD ⟨l,m⟩] false)]) (fun i=>i.1≤l.length∧i.2<l.length∧eF l l.length k=eF l (l.length-i.1) i.2) (fun i=>l.length-i.1) (0,k) ⟨Nat.zero_le _,hk,rfl⟩
  ⟨⟨rfl,rfl⟩,⟨rfl,⟨rfl,rfl⟩,by show(l.length:Int)=((l.map bP).length:Int);rw[hlm],rfl,trivial⟩,⟨⟨rfl,rfl,trivial⟩,trivial⟩,trivial⟩ ?_
 rintro⟨i,j⟩ ⟨hi,hj,he⟩
 simp only at hi hj he
 with_reducible refine wK ?_
 refine aQ.mk (fun h1=>?_) (fun h1=>?_)<;>(try simp only[aq] at h1)<;>with_reducible refine wK ?_
 ·have hi':i<l.length:=by simp only[aL] at h1;omega
  obtain⟨x,hx⟩:∃x,l[j]? =some x:=⟨_,aP hj⟩
  have h58':=h58 j x hx
  refine cL h58' RH ?_;with_reducible refine wK ?_
  rw[show l.length-i=(l.length- (i+1))+1 from by omega] at he
  rw[vM,dw hx] at he
  by_cases e:iL x=-1
  ·rw[if_pos e] at he
   (have fct:=e;(repeat' (first
  |refine gF ?_|refine aE ?_ ?_
  | apply trivial));all_goals clear fct)
   all_goals rw[he]
  ·rw[if_neg e] at he
   rcases hup j x hx with h|h
   ·exact absurd h e
   obtain⟨j',y,hj1,hj2,_⟩:=aX.1 h
   rw[hj1] at he
   have hlt:=(aZ hj2).1
   refine aQ.no (aS e) ?_;with_reducible refine wK ?_
   refine nK ?_;with_reducible refine wK ?_
   refine ay.mk (i+1,j') ⟨by show i+1≤l.length;omega,hlt,he⟩ (by show l.length- (i+1)<l.length-i;omega) ⟨⟨rfl,rfl⟩,⟨hj1.symm,⟨rfl,rfl⟩,rfl,by show((i+1:Nat):Int)=(i:Int)+1;omega,trivial⟩,⟨⟨rfl,rfl,trivial⟩,trivial⟩,trivial⟩
 ·(refine eK ?_ ?_<;>with_reducible repeat' (first|exact trivial|(show _∧_;refine aK ?_ ?_)))
  have:i=l.length:=by simp only[bh] at h1;omega
  rw[he,this,Nat.sub_self];rfl
theorem wH {l:List az}{n k:Int}(h:oN l n k=true):∃ (i:Nat) (x:az),n=(i:Int)∧l[i]? =some x∧nd l n=x:=by
 unfold oN at h
 simp only[aT] at h
 exact aX.1 h.1
theorem Kt (f:ForM)(k:Nat)(x:az)(hx:f.nodes[k]? =some x):af Tryz.prog 201 [] [bD f,aj k] [] (aA (fq f.nodes k x)):=by
 have h1:=uY f x.host 1
 have h4:=uY f x.under 4
 obtain⟨l,m⟩:=f
 obtain⟨a1,a2,a3,a4,a5,a6,a7,a8,a9,a10⟩:=x
 unfold fq
 simp only at h1 h4 hx ⊢
 refine af.ah (rvs:=[.tmp 4]) G aa Tryz.func201 rfl Tryz.ntmps201 rfl rfl ?_;with_reducible refine wD ?_
 refine ak.mk k (aO _) rfl (au hx) ?_;with_reducible refine wK ?_
 by_cases e4:a1=4
 ·have e1:¬a1=1:=by omega
  refine aQ.yes (by simp[e4]) ?_;with_reducible refine wK ?_
  rw[if_pos e4]
  cases hi:oN l a8 1 with
  | false=>
    rw[hi] at h1
    by_cases e9:a9=-1
    ·(have fct:=And.intro e4 (e9);(repeat' (first
  |refine gF ?_|refine aE ?_ ?_
  |(((with_reducible refine kQ 139 ?_);refine cL h1 o4 ?_)<;>with_reducible refine wK ?_)
  | apply trivial));all_goals clear fct)
     all_goals simp[e9]
    ·(have fct:=And.intro e4 (And.intro (eq_false e9) ((eq_false e1)));(repeat' (first
  |refine gF ?_|refine aE ?_ ?_
  |(((with_reducible refine kQ 139 ?_);refine cL h1 o4 ?_)<;>with_reducible refine wK ?_)
  |apply trivial));all_goals clear fct)
     all_goals simp[e9,e1]
  | true=>
    rw[hi] at h1
    obtain⟨i,y,rfl,hy,hnd⟩:=wH hi
    rw[hnd]
    obtain⟨b1,b2,b3,b4,b5,b6,b7,b8,b9,b10⟩:=y
    by_cases e9:a9=-1
    ·by_cases u9:b9=k
     ·by_cases u10:b10=a10
      ·(have fct:=And.intro e4 (And.intro e9 (And.intro u9 (u10)));(repeat' (first
  |refine gF ?_|refine aE ?_ ?_
  | ((first
   |((with_reducible refine kQ 139 ?_);refine cL h1 o4 ?_)
   |(refine ak.mk i (aO _) rfl (au hy) ?_))<;>with_reducible refine wK ?_)
  |apply trivial));all_goals clear fct)
       all_goals simp[e9,u9,u10]
      ·(have fct:=And.intro e4 (And.intro e9 (And.intro u9 ((eq_false u10))));(repeat' (first
  |refine gF ?_|refine aE ?_ ?_
  | ((first
   |((with_reducible refine kQ 139 ?_);refine cL h1 o4 ?_)
   |(refine ak.mk i (aO _) rfl (au hy) ?_))<;>with_reducible refine wK ?_)
  |apply trivial));all_goals clear fct)
       all_goals simp[e9,u9,u10]
     ·(have fct:=And.intro e4 (And.intro e9 ((eq_false u9)));(repeat' (first
  |refine gF ?_|refine aE ?_ ?_
  | ((first
   |((with_reducible refine kQ 139 ?_);refine cL h1 o4 ?_)
   |(refine ak.mk i (aO _) rfl (au hy) ?_))<;>with_reducible refine wK ?_)
  | apply trivial));all_goals clear fct)
      all_goals simp[e9,u9]
    ·by_cases u9:b9=k
     ·by_cases u10:b10=a10
      ·(have fct:=And.intro e4 (And.intro (eq_false e9) (And.intro (eq_false e1) (And.intro u9 (u10))));(repeat' (first
  |refine gF ?_|refine aE ?_ ?_
  | ((first
   |((with_reducible refine kQ 139 ?_);refine cL h1 o4 ?_)
   |(refine ak.mk i (aO _) rfl (au hy) ?_))<;>with_reducible refine wK ?_)
  |apply trivial));all_goals clear fct)
       all_goals simp[e9,e1,u9,u10]
      ·(have fct:=And.intro e4 (And.intro (eq_false e9) (And.intro (eq_false e1) (And.intro u9 ((eq_false u10)))));(repeat' (first
  |refine gF ?_|refine aE ?_ ?_
  | ((first
   |((with_reducible refine kQ 139 ?_);refine cL h1 o4 ?_)
   |(refine ak.mk i (aO _) rfl (au hy) ?_))<;>with_reducible refine wK ?_)
  |apply trivial));all_goals clear fct)
       all_goals simp[e9,e1,u9,u10]
     ·(have fct:=And.intro e4 (And.intro (eq_false e9) (And.intro (eq_false e1) ((eq_false u9))));(repeat' (first
  |refine gF ?_|refine aE ?_ ?_
  | ((first
   |((with_reducible refine kQ 139 ?_);refine cL h1 o4 ?_)
   |(refine ak.mk i (aO _) rfl (au hy) ?_))<;>with_reducible refine wK ?_)
  |apply trivial));all_goals clear fct)
      all_goals simp[e9,e1,u9]
 ·refine aQ.no (by simp[e4]) ?_;with_reducible refine wK ?_
  rw[if_neg e4]
  by_cases e8:a8=-1
  ·by_cases e9:a9=-1
   ·(have fct:=And.intro (eq_false e4) (And.intro e8 (e9));(repeat' (first
  |refine gF ?_|refine aE ?_ ?_
  | apply trivial));all_goals clear fct)
    all_goals simp[e9,e8]
   ·by_cases e1:a1=1
    ·cases hu:oN l a9 4 with
     | false=>
       rw[hu] at h4
       (have fct:=And.intro (eq_false e4) (And.intro e8 (And.intro (eq_false e9) (e1)));(repeat' (first
  |refine gF ?_|refine aE ?_ ?_
  |(((with_reducible refine kQ 139 ?_);refine cL h4 o4 ?_)<;>with_reducible refine wK ?_)
  |apply trivial));all_goals clear fct)
       all_goals simp[e9,e8,e1]
     | true=>
       rw[hu] at h4
       obtain⟨j,z,rfl,hz,hnd⟩:=wH hu
       rw[hnd]
       obtain⟨d1,d2,d3,d4,d5,d6,d7,d8,d9,d10⟩:=z
       (have fct:=And.intro (eq_false e4) (And.intro e8 (And.intro (eq_false e9) (e1)));(repeat' (first
  |refine gF ?_|refine aE ?_ ?_
  | ((first
   |((with_reducible refine kQ 139 ?_);refine cL h4 o4 ?_)
   |(refine ak.mk j (aO ⟨d1,d2,d3,d4,d5,d6,d7,d8,d9,d10⟩) rfl (au hz) ?_))<;>with_reducible refine wK ?_)
  | apply trivial));all_goals clear fct)
       all_goals simp[e9,e8,e1]
    ·(have fct:=And.intro (eq_false e4) (And.intro e8 (And.intro (eq_false e9) ((eq_false e1))));(repeat' (first
  |refine gF ?_|refine aE ?_ ?_
  |apply trivial));all_goals clear fct)
     all_goals simp[e9,e8,e1]
  ·by_cases e9:a9=-1
   ·(have fct:=And.intro (eq_false e4) (And.intro (eq_false e8) (e9));(repeat' (first
  |refine gF ?_|refine aE ?_ ?_
  | apply trivial));all_goals clear fct)
    all_goals simp[e9,e8]
   ·by_cases e1:a1=1
    ·cases hu:oN l a9 4 with
     | false=>
       rw[hu] at h4
       (have fct:=And.intro (eq_false e4) (And.intro (eq_false e8) (And.intro (eq_false e9) (e1)));(repeat' (first
  |refine gF ?_|refine aE ?_ ?_
  |(((with_reducible refine kQ 139 ?_);refine cL h4 o4 ?_)<;>with_reducible refine wK ?_)
  |apply trivial));all_goals clear fct)
       all_goals simp[e9,e8,e1]
     | true=>
       rw[hu] at h4
       obtain⟨j,z,rfl,hz,hnd⟩:=wH hu
       rw[hnd]
       obtain⟨d1,d2,d3,d4,d5,d6,d7,d8,d9,d10⟩:=z
       (have fct:=And.intro (eq_false e4) (And.intro (eq_false e8) (And.intro (eq_false e9) (e1)));(repeat' (first
  |refine gF ?_|refine aE ?_ ?_
  | ((first
   |((with_reducible refine kQ 139 ?_);refine cL h4 o4 ?_)
   |(refine ak.mk j (aO ⟨d1,d2,d3,d4,d5,d6,d7,d8,d9,d10⟩) rfl (au hz) ?_))<;>with_reducible refine wK ?_)
  | apply trivial));all_goals clear fct)
       all_goals simp[e9,e8,e1]
    ·(have fct:=And.intro (eq_false e4) (And.intro (eq_false e8) (And.intro (eq_false e9) ((eq_false e1))));(repeat' (first
  |refine gF ?_|refine aE ?_ ?_
  |apply trivial));all_goals clear fct)
     all_goals simp[e9,e8,e1]
theorem ES (x:az)(hx:x.attrs.length≤100000):af Tryz.prog 138 [] [aO x] [] (aA (iS x)):=by
 have h45:=Az x.name
 have h54:=Aa x.is
 have h44:=E2 x.attrs hx
 obtain⟨a1,a2,a3,a4,a5,a6,a7,a8,a9,a10⟩:=x
 have hlm:(a5.map fu).length=a5.length:=aM ..
 unfold iS
 simp only at h45 h54 h44 hx ⊢
 refine af.ah (rvs:=[.tmp 2]) G aa Tryz.func138 rfl Tryz.ntmps138 rfl rfl ?_;with_reducible refine wD ?_
 by_cases e1:a1=1
 ·rw [if_pos e1]
  cases hr:bJ a2 with
  | false=>
    rw[hr] at h45
    simp only[Bool.false_eq_true,if_false] at h45
    (have fct:=And.intro e1 (hr);(repeat' (first
  |refine gF ?_|refine aE ?_ ?_
  |(((with_reducible refine kQ 81 ?_);refine cL h45 JQ ?_)<;>with_reducible refine wK ?_)
  | apply trivial));all_goals clear fct)
    all_goals simp[hr]
  | true=>
    rw[hr] at h45
    simp only[if_true] at h45
    by_cases hl:gR a2=a2
    ·by_cases h3:a3=⟨#[]⟩
     ·by_cases h4:a4=⟨#[]⟩
      ·(have fct:=And.intro e1 (And.intro hr (And.intro hl (And.intro h3 (h4))));(repeat' (first
  |refine gF ?_|refine aE ?_ ?_
  | ((first
   |((with_reducible refine kQ 81 ?_);refine cL h45 JQ ?_)
   |((with_reducible refine kQ 203 ?_);refine cL h44 OT ?_))<;>with_reducible refine wK ?_)
  |apply trivial));all_goals clear fct)
       all_goals simp[hr,hl,h3,h4]
      ·(have fct:=And.intro e1 (And.intro hr (And.intro hl (And.intro h3 ((eq_false h4)))));(repeat' (first
  |refine gF ?_|refine aE ?_ ?_
  |(((with_reducible refine kQ 81 ?_);refine cL h45 JQ ?_)<;>with_reducible refine wK ?_)
  |apply trivial));all_goals clear fct)
       all_goals simp[hr,hl,h3,h4]
     ·cases hc:bM a3 with
      | false=>
        rw[hc] at h54
        (have fct:=And.intro e1 (And.intro hr (And.intro hl (And.intro (eq_false h3) (hc))));(repeat' (first
  |refine gF ?_|refine aE ?_ ?_
  | ((first
   |((with_reducible refine kQ 81 ?_);refine cL h45 JQ ?_)
   |((with_reducible refine kQ 109 ?_);refine cL h54 qe ?_))<;>with_reducible refine wK ?_)
  |apply trivial));all_goals clear fct)
        all_goals simp[hr,hl,h3,hc]
      | true=>
        rw[hc] at h54
        by_cases h4:a4=⟨#[]⟩
        ·(have fct:=And.intro e1 (And.intro hr (And.intro hl (And.intro (eq_false h3) (And.intro hc (h4)))));(repeat' (first
  |refine gF ?_|refine aE ?_ ?_
  | ((first
   |((with_reducible refine kQ 81 ?_);refine cL h45 JQ ?_)
   |((with_reducible refine kQ 109 ?_);refine cL h54 qe ?_)
   |((with_reducible refine kQ 203 ?_);refine cL h44 OT ?_))<;>with_reducible refine wK ?_)
  |apply  trivial));all_goals clear fct)
         all_goals simp[hr,hl,h3,hc,h4]
        ·(have fct:=And.intro e1 (And.intro hr (And.intro hl (And.intro (eq_false h3) (And.intro hc ((eq_false h4))))));(repeat' (first
  |refine gF ?_|refine aE ?_ ?_
  | ((first
   |((with_reducible refine kQ 81 ?_);refine cL h45 JQ ?_)
   |((with_reducible refine kQ 109 ?_);refine cL h54 qe ?_))<;>with_reducible refine wK ?_)
  | apply trivial));all_goals clear fct)
         all_goals simp[hr,hl,h3,hc,h4]
    ·(have fct:=And.intro e1 (And.intro hr ((eq_false hl)));(repeat' (first
  |refine gF ?_|refine aE ?_ ?_
  |(((with_reducible refine kQ 81 ?_);refine cL h45 JQ ?_)<;>with_reducible refine wK ?_)
  |apply trivial));all_goals clear fct)
     all_goals simp[hr,hl]
 ·rw [if_neg e1]
  by_cases e2:a1=2
  ·rw [if_pos e2]
   by_cases hd:a4.size≤200
   ·by_cases h2:a2=⟨#[]⟩
    ·by_cases h3:a3=⟨#[]⟩
     ·(have fct:=And.intro e2 (And.intro hd (And.intro h2 (h3)));(repeat' (first
  |refine gF ?_|refine aE ?_ ?_
  |apply trivial));all_goals clear fct)
      all_goals simp[hd,h2,h3]
     ·(have fct:=And.intro e2 (And.intro hd (And.intro h2 ((eq_false h3))));(repeat' (first
  |refine gF ?_|refine aE ?_ ?_
  | apply trivial));all_goals clear fct)
      all_goals simp[hd,h2,h3]
    ·(have fct:=And.intro e2 (And.intro hd ((eq_false h2)));(repeat' (first
  |refine gF ?_|refine aE ?_ ?_
  | apply trivial));all_goals clear fct)
     all_goals simp[hd,h2]
   ·(have fct:=And.intro e2 ((eq_false hd));(repeat' (first
  |refine gF ?_|refine aE ?_ ?_
  | apply trivial));all_goals clear fct)
    all_goals simp[hd]
  ·rw [if_neg e2]
   by_cases ho:a1=0∨a1=3∨a1=4
   ·rw [if_pos ho]
    by_cases h2:a2=⟨#[]⟩
    ·by_cases h3:a3=⟨#[]⟩
     ·by_cases h4:a4=⟨#[]⟩
      ·rcases ho with e|e|e
       ·(have fct:=And.intro e (And.intro h2 (And.intro h3 (h4)));(repeat' (first
  |refine gF ?_|refine aE ?_ ?_
  |apply trivial));all_goals clear fct)
        all_goals simp[h2,h3,h4]
       ·(have fct:=And.intro e (And.intro h2 (And.intro h3 (h4)));(repeat' (first
  |refine gF ?_|refine aE ?_ ?_
  |apply trivial));all_goals clear fct)
        all_goals simp[h2,h3,h4]
       ·(have fct:=And.intro e (And.intro h2 (And.intro h3 (h4)));(repeat' (first
  |refine gF ?_|refine aE ?_ ?_
  |apply trivial));all_goals clear fct)
        all_goals simp[h2,h3,h4]
      ·rcases ho with e|e|e
       ·(have fct:=And.intro e (And.intro h2 (And.intro h3 ((eq_false h4))));(repeat' (first
  |refine gF ?_|refine aE ?_ ?_
  |apply trivial));all_goals clear fct)
        all_goals simp[h2,h3,h4]
       ·(have fct:=And.intro e (And.intro h2 (And.intro h3 ((eq_false h4))));(repeat' (first
  |refine gF ?_|refine aE ?_ ?_
  |apply trivial));all_goals clear fct)
        all_goals simp[h2,h3,h4]
       ·(have fct:=And.intro e (And.intro h2 (And.intro h3 ((eq_false h4))));(repeat' (first
  |refine gF ?_|refine aE ?_ ?_
  |apply trivial));all_goals clear fct)
        all_goals simp[h2,h3,h4]
     ·rcases ho with e|e|e
      ·(have fct:=And.intro e (And.intro h2 ((eq_false h3)));(repeat' (first
  |refine gF ?_|refine aE ?_ ?_
  |apply trivial));all_goals clear fct)
       all_goals simp[h2,h3]
      ·(have fct:=And.intro e (And.intro h2 ((eq_false h3)));(repeat' (first
  |refine gF ?_|refine aE ?_ ?_
  |apply trivial));all_goals clear fct)
       all_goals simp[h2,h3]
      ·(have fct:=And.intro e (And.intro h2 ((eq_false h3)));(repeat' (first
  |refine gF ?_|refine aE ?_ ?_
  | apply trivial));all_goals clear fct)
       all_goals simp[h2,h3]
    ·rcases ho with e|e|e
     ·(have fct:=And.intro e ((eq_false h2));(repeat' (first
  |refine gF ?_|refine aE ?_ ?_
  |apply trivial));all_goals clear fct)
      all_goals simp[h2]
     ·(have fct:=And.intro e ((eq_false h2));(repeat' (first
  |refine gF ?_|refine aE ?_ ?_
  |apply trivial));all_goals clear fct)
      all_goals simp[h2]
     ·(have fct:=And.intro e ((eq_false h2));(repeat' (first
  |refine gF ?_|refine aE ?_ ?_
  | apply trivial));all_goals clear fct)
      all_goals simp[h2]
   ·rw[if_neg ho]
    have e0:¬a1=0:=fun h=>ho (.inl h)
    have e3:¬a1=3:=fun h=>ho (.inr (.inl h))
    have e4:¬a1=4:=fun h=>ho (.inr (.inr h))
    (have fct:=And.intro e0 (And.intro e1 (And.intro e2 (And.intro e3 (e4))));(repeat' (first
  |refine gF ?_|refine aE ?_ ?_
  |apply trivial));all_goals clear fct)
def oz (l:List Int):List (Int×Int):=l.map fun c=>(c,1)
theorem th (c:Int):∀l:List Int,dx c (oz l)=if c∈l then some 1 else none
 |[]=>rfl
 | a ::r=>by
   show(if a=c then some 1 else dx c (oz r))=_
   rw[th c r]
   by_cases e:a=c
   ·rw[if_pos e,if_pos (by simp[e])]
   ·rw[if_neg e]
    by_cases h:c∈r
    ·rw[if_pos h,if_pos (j9 _ h)]
    ·rw[if_neg h,if_neg (by simp[h];exact fun e'=>e e'.symm)]
theorem FV {l:List Int}{c:Int}(h:c∉l):eE c 1 (oz l)=oz (l++ [c]):=by
 rw[sr (by rw[th,if_neg h])]
 simp[oz]
theorem gC {α:Type}{l:List α}{k:Nat}{x:α}(h:l[k]? =some x):l.take (k+1)=l.take k++ [x]:=by
 obtain⟨hk,rfl⟩:=aZ h
 rw[List.take_add_one,aP hk];rfl
theorem Gk {l:List az}{n:Int}{x:az}{cs:List Int}{j:Nat}{c:Int}(h:cs[j]? =some c):lU l n x (cs.take j) (cs.drop j)=(By l n x (cs.take j) c&&lU l n x (cs.take (j+1)) (cs.drop (j+1))):=by
 obtain⟨hk,rfl⟩:=aZ h
 rw[List.drop_eq_getElem_cons hk,gC h]
 rfl
theorem wW {l:List az}{cs:List Int}{j:Nat}{c:Int}(h:cs[j]? =some c):gV l (cs.take (j+1))=gV l (cs.take j)+if(nd l c).kind=1 then 1 else 0:=by
 rw[gC h]
 unfold gV
 rw[List.countP_append,List.countP_cons];simp
theorem wP (l:List az)(cs:List Int)(j:Nat):gV l (cs.take j)≤j:=by
 unfold gV
 refine Nat.le_trans List.countP_le_length ?_
 simp;omega
@[reducible] def Po (t : List (Int × Int)) : MS := .live 2 (ee qc bB t) false
theorem nw (t:List (Int×Int)):aU (ee qc bB t)=true:=by
 rw[bZ];intro x hx
 obtain⟨a,_,rfl⟩:=List.mem_map.1 hx
 rfl
theorem LI (f:ForM)(hs:bR f.nodes)(k:Nat)(x:az)(hx:f.nodes[k]? =some x):af Tryz.prog 200 [] [bD f,aj k] [] (aA (mN f.nodes k x)):=by
 have h49:=uX f
 have h56:=E7 x.kind
 have h7:=hs.kids x (bn hx)
 have hl:=hs.len
 obtain⟨l,m⟩:=f
 have hst:=fun j c=> @Gk l k x x.kids j c
 have hse:=fun j c=> @wW l x.kids j c
 unfold mN
 simp only at h49 h56 hx h7 hl ⊢
 obtain⟨⟨a1,a2,a3,a4,a5,a6,a7,a8,a9,a10⟩,hx0⟩:∃y,y=x:=⟨x,rfl⟩
 rw[←hx0] at hx h56 h7 hst hse ⊢
 simp only at h56 h7 hst hse ⊢
 have hlm:(a7.map bB).length=a7.length:=aM ..
 refine af.ah (rvs:=[.tmp 4]) G aa Tryz.func200 rfl Tryz.ntmps200 rfl rfl ?_;with_reducible refine wD ?_
 refine ak.mk k (aO _) rfl (au hx) ?_;with_reducible refine wK ?_
 refine aR.use G aa (fun(j:Nat)=>[(1,aj k),(2,.ptr 20 0 0),(5,.ptr 50 0 0),(6,.mapr 161),(7,aj (gV l (a7.take j))),(18,bQ a7),(19,aj a7.length),(20,aj j)])
  (fun j=>[(20,.live 2 [bD ⟨l,m⟩] false),(50,.live 10 [aO ⟨a1,a2,a3,a4,a5,a6,a7,a8,a9,a10⟩] false),(161,Po (oz (a7.take j)))])
  (fun j=>j≤a7.length∧lU l k ⟨a1,a2,a3,a4,a5,a6,a7,a8,a9,a10⟩ [] a7=lU l k ⟨a1,a2,a3,a4,a5,a6,a7,a8,a9,a10⟩ (a7.take j) (a7.drop j)) (fun j=>a7.length-j) 0 ⟨Nat.zero_le _,rfl⟩
  ⟨⟨rfl,rfl⟩,⟨rfl,⟨rfl,rfl⟩,⟨rfl,rfl⟩,trivial,rfl,rfl,by show(a7.length:Int)=((a7.map bB).length:Int);rw[hlm],rfl,trivial⟩,⟨⟨rfl,rfl,trivial⟩,trivial⟩,⟨⟨rfl,rfl,rfl,rfl,rfl,rfl,rfl,rfl,rfl,rfl,trivial⟩,trivial⟩,⟨.refl rfl,rfl⟩,trivial⟩ ?_
 rintro j ⟨hj,hok⟩
 with_reducible refine wK ?_
 refine aQ.mk (fun h1=>?_) (fun h1=>?_)<;>(try simp only[aq] at h1)<;>with_reducible refine wK ?_
 ·have hj' :j<a7.length:=by simp only[aL] at h1;omega
  obtain⟨c,hc⟩:∃c,a7[j]? =some c:=⟨_,aP hj'⟩
  rw[hst j c hc] at hok
  have hse':=hse j c hc
  have hel:=wP l a7 j
  have h49':=h49 c
  unfold By at hok
  refine ak.mk j (aj c) rfl (dG hc) ?_;with_reducible refine wK ?_
  refine cL h49' zI ?_;with_reducible refine wK ?_
  cases ht:ai l c with
  | false=>
    rw[ht] at hok
    simp only[Bool.false_and] at hok
    rw[hok,Bool.false_and]
    (have fct:=ht;(repeat' (first
  |refine gF ?_|refine aE ?_ ?_
  |apply trivial));all_goals clear fct)
  | true=>
    obtain⟨i,y,rfl,hy,hnd⟩:=aX.1 ht
    rw[ht,hnd] at hok
    rw[hnd] at hse'
    obtain⟨b1,b2,b3,b4,b5,b6,b7,b8,b9,b10⟩:=y
    simp only[Bool.true_and] at hok hse'
    refine aQ.ff ?_;with_reducible refine wK ?_
    have hts:=th (i:Int) (a7.take j)
    refine jJ.cI qc bB (oz (a7.take j)) (k:=(i:Int)) (zv:=aj 0) Og ⟨_,_,rfl⟩ j1 lj rfl rfl (fun z hxx=>?_) (fun hxx=>?_)
    ·rw[hxx] at hts
     have hin:(i:Int)∈a7.take j:=by by_cases h:(i:Int)∈a7.take j;exact h;rw[if_neg h] at hts;cases hts
     rw[if_pos hin] at hts
     cases hts
     rw[show uA (a7.take j) (i:Int)=true from aV hin] at hok
     simp only[Bool.not_true,Bool.false_and] at hok
     rw[hok,Bool.false_and]
     rw[show bB 1=aj 1 from rfl]
     with_reducible refine wK ?_
     (have fct:=ht;(repeat' (first
  |refine gF ?_|refine aE ?_ ?_
  | apply trivial));all_goals clear fct)
    ·rw [hxx] at hts
     have hin:(i:Int)∉a7.take j:=by intro h;rw[if_pos h] at hts;cases hts
     rw[show uA (a7.take j) (i:Int)=false from aS hin] at hok
     simp only[Bool.not_false,Bool.true_and] at hok
     with_reducible refine wK ?_
     by_cases e6:b6=k
     ·by_cases e10:b10=a10
      ·simp only[e6,e10,decide_true,Bool.true_and] at hok
       (have fct:=And.intro e6 (e10);(repeat' (first
  |refine gF ?_|refine aE ?_ ?_
  |((refine ak.mk i (aO _) rfl (au hy) ?_)<;>with_reducible refine wK ?_)
  |apply trivial));all_goals clear fct)
       refine jJ.cI qc bB (oz (a7.take j)) (k:=(i:Int)) (zv:=aj 0) Og ⟨_,_,rfl⟩ j1 lj rfl rfl (fun z hyy=>?_) (fun hyy=>?_)
       ·rw[hxx] at hyy;cases hyy
       with_reducible refine wK ?_
       have hln:(oz (a7.take j)).length≤j:=by unfold oz;simp;omega
       have hsn:=FV hin
       rw[←gC hc] at hsn
       refine nK ?_;with_reducible refine wK ?_
       refine rY.cI qc bB (oz (a7.take j)) (k:=(i:Int)) (1:Int) Og rfl j1 lj (by unfold maxLen;omega) rfl ?_;with_reducible refine wK ?_
       rw[hsn]
       refine ak.mk i (aO _) rfl (au hy) ?_;with_reducible refine wK ?_
       by_cases f1:b1=1
       ·have hs1:(gV l (a7.take (j+1)):Int)=gV l (a7.take j)+1:=by rw[hse',if_pos f1];rfl
        simp only[f1,decide_true,Bool.true_or,Bool.true_and] at hok
        (have fct:=f1;(repeat' (first
  |refine gF ?_|refine aE ?_ ?_
  |(((with_reducible show ay _ _);refine ay.mk (j+1) ⟨by omega,hok⟩ (by omega) ⟨⟨rfl,rfl⟩,⟨rfl,⟨rfl,rfl⟩,⟨rfl,rfl⟩,trivial,hs1,rfl,rfl,by show((j+1:Nat):Int)=(j:Int)+1;omega,trivial⟩,⟨⟨rfl,rfl,trivial⟩,trivial⟩,⟨⟨rfl,rfl,rfl,rfl,rfl,rfl,rfl,rfl,rfl,rfl,trivial⟩,trivial⟩,⟨.refl (nw _),nw _⟩,trivial⟩)<;>with_reducible refine wK ?_)
  |apply  trivial));all_goals clear fct)
       ·have hs1:(gV l (a7.take (j+1)):Int)=gV l (a7.take j):=by rw[hse',if_neg f1];rfl
        by_cases f2:b1=2
        ·by_cases e0:a1=0
         ·have hkk:(decide (b1=1)||decide (b1=2)&&decide (a1≠0))=false:=by simp[f2,e0]
          rw[hkk,Bool.false_and] at hok
          rw[hok,Bool.false_and]
          (have fct:=And.intro (eq_false f1) (And.intro f2 (e0));(repeat' (first
  |refine gF ?_|refine aE ?_ ?_
  |apply  trivial));all_goals clear fct)
         ·have hkk:(decide (b1=1)||decide (b1=2)&&decide (a1≠0))=true:=by simp[f2,e0]
          rw[hkk,Bool.true_and] at hok
          (have fct:=And.intro (eq_false f1) (And.intro f2 ((eq_false e0)));(repeat' (first
  |refine gF ?_|refine aE ?_ ?_
  |(((with_reducible show ay _ _);refine ay.mk (j+1) ⟨by omega,hok⟩ (by omega) ⟨⟨rfl,rfl⟩,⟨rfl,⟨rfl,rfl⟩,⟨rfl,rfl⟩,trivial,hs1,rfl,rfl,by show((j+1:Nat):Int)=(j:Int)+1;omega,trivial⟩,⟨⟨rfl,rfl,trivial⟩,trivial⟩,⟨⟨rfl,rfl,rfl,rfl,rfl,rfl,rfl,rfl,rfl,rfl,trivial⟩,trivial⟩,⟨.refl (nw _),nw _⟩,trivial⟩)<;>with_reducible refine wK ?_)
  |apply  trivial));all_goals clear fct)
        ·simp only[eq_false f1,eq_false f2,decide_false,Bool.false_and,Bool.or_false] at hok
         rw[hok,Bool.false_and]
         (have fct:=And.intro f1 (f2);(repeat' (first
  |refine gF ?_|refine aE ?_ ?_
  |apply trivial));all_goals clear fct)
      ·simp only[e6,eq_false e10,decide_true,decide_false,Bool.true_and,Bool.false_and] at hok
       rw[hok,Bool.false_and]
       (have fct:=And.intro e6 ((eq_false e10));(repeat' (first
  |refine gF ?_|refine aE ?_ ?_
  |((refine ak.mk i (aO _) rfl (au hy) ?_)<;>with_reducible refine wK ?_)
  |apply trivial));all_goals clear fct)
     ·simp only[eq_false e6,decide_false,Bool.false_and] at hok
      rw[hok,Bool.false_and]
      (have fct:=(eq_false e6);(repeat' (first
  |refine gF ?_|refine aE ?_ ?_
  |((refine ak.mk i (aO _) rfl (au hy) ?_)<;>with_reducible refine wK ?_)
  |apply trivial));all_goals clear fct)
 ·have hjl:j=a7.length:=by simp only[bh] at h1;omega
  rw[hjl,List.take_length,List.drop_length] at hok
  rw[hjl,List.take_length]
  rw[hok]
  simp only[lU,Bool.true_and]
  refine cL h56 IA ?_;with_reducible refine wK ?_
  by_cases e7:a7.length=0
  ·have e7':a7=[]:=List.eq_nil_of_length_eq_zero e7
   cases hh:mD a1 with
   | false=>
     by_cases e0:a1=0
     ·(have fct:=And.intro hh (And.intro e0 (And.intro e7 (hlm)));(repeat' (first
  |refine gF ?_|refine aE ?_ ?_
  |apply trivial));all_goals clear fct)
      all_goals first|(simp[hh,e0,e7'];done)|((try simp only[aq]);simp[hh,e0,e7'];omega)
     ·(have fct:=And.intro hh (And.intro (eq_false e0) (And.intro e7 (hlm)));(repeat' (first
  |refine gF ?_|refine aE ?_ ?_
  | apply trivial));all_goals clear fct)
      all_goals first|(simp[hh,e0,e7'];done)|((try simp only[aq]);simp[hh,e0,e7'];omega)
   | true=>
     by_cases e0:a1=0
     ·(have fct:=And.intro hh (And.intro e0 (And.intro e7 (hlm)));(repeat' (first
  |refine gF ?_|refine aE ?_ ?_
  |apply trivial));all_goals clear fct)
      all_goals first|(simp[hh,e0,e7'];done)|((try simp only[aq]);simp[hh,e0,e7'];omega)
     ·(have fct:=And.intro hh (And.intro (eq_false e0) (And.intro e7 (hlm)));(repeat' (first
  |refine gF ?_|refine aE ?_ ?_
  |apply trivial));all_goals clear fct)
      all_goals first|(simp[hh,e0,e7'];done)|((try simp only[aq]);simp[hh,e0,e7'];omega)
  ·have e7':¬a7=[]:=fun h=>e7 (by rw[h];rfl)
   cases hh:mD a1 with
   | false=>
     by_cases e0:a1=0
     ·(have fct:=And.intro hh (And.intro e0 (And.intro e7 (hlm)));(repeat' (first
  |refine gF ?_|refine aE ?_ ?_
  |apply trivial));all_goals clear fct)
      all_goals first|(simp[hh,e0,e7'];done)|((try simp only[aq]);simp[hh,e0,e7'];omega)
     ·(have fct:=And.intro hh (And.intro (eq_false e0) (And.intro e7 (hlm)));(repeat' (first
  |refine gF ?_|refine aE ?_ ?_
  | apply trivial));all_goals clear fct)
      all_goals first|(simp[hh,e0,e7'];done)|((try simp only[aq]);simp[hh,e0,e7'];omega)
   | true=>
     by_cases e0:a1=0
     ·(have fct:=And.intro hh (And.intro e0 (And.intro e7 (hlm)));(repeat' (first
  |refine gF ?_|refine aE ?_ ?_
  |apply trivial));all_goals clear fct)
      all_goals first|(simp[hh,e0,e7'];done)|((try simp only[aq]);simp[hh,e0,e7'];omega)
     ·(have fct:=And.intro hh (And.intro (eq_false e0) (And.intro e7 (hlm)));(repeat' (first
  |refine gF ?_|refine aE ?_ ?_
  |apply trivial));all_goals clear fct)
      all_goals first|(simp[hh,e0,e7'];done)|((try simp only[aq]);simp[hh,e0,e7'];omega)
theorem sw {α:Type}{p:Nat→α→Bool}{l:List α}{k:Nat}{x:α}(h:l[k]? =some x)(hp:p k x=false):jX p 0 l=false:=by
 rw[Bool.eq_false_iff]
 intro h1
 have:=kA.1 h1 k x h
 rw[Nat.zero_add,hp] at this
 cases this
theorem qa {α:Type}{p:Nat→α→Bool}{l:List α}(h:∀k x,l[k]? =some x→p k x=true):jX p 0 l=true:=
 kA.2 fun k x hx=>by rw[Nat.zero_add];exact h k x hx
theorem Ah (f:ForM)(hs:bR f.nodes):af Tryz.prog 137 [] [bD f] [] (aA (bf f)):=by
 have hl:=hs.len
 have h38:∀x∈f.nodes,af Tryz.prog 138 [] [aO x] [] (aA (iS x)):=fun x hx=>ES x (by have:=hs.attrs x hx;omega)
 have h39:=KB f
 have h40:=KL f hs
 have h41:=LI f hs
 have h42:=Kt f
 have h43:(∀n,ai f.nodes n=true→cQ f.nodes n (nd f.nodes n)=true)→∀k,k<f.nodes.length→af Tryz.prog 202 [] [bD f,aj k] [] (aA (eF f.nodes f.nodes.length k)):=fun hN k hk=>J2 f (by omega) (fun k x hx=>by have:=uV hN k (cw hx);rwa [dw hx] at this) k hk
 obtain⟨l,m⟩:=f
 unfold bf pg
 simp only at hl h38 h39 h40 h41 h42 h43 ⊢
 have hlm:(l.map bP).length=l.length:=aM ..
 refine af.ah (rvs:=[.tmp 2]) G aa Tryz.func137 rfl Tryz.ntmps137 rfl rfl ?_;with_reducible refine wD ?_
 by_cases e1:m<1
 ·have c1:decide (1≤m)=false:=aS (by omega)
  rw[c1]
  (have fct:=e1;(repeat' (first
  |refine gF ?_|refine aE ?_ ?_
  |apply trivial));all_goals clear fct)
  all_goals simp
 by_cases e2:400<m
 ·have c1:decide (m≤400)=false:=aS (by omega)
  rw[c1]
  (have fct:=And.intro (eq_false e1) (e2);(repeat' (first
  |refine gF ?_|refine aE ?_ ?_
  |apply trivial));all_goals clear fct)
  all_goals simp
 by_cases e3:l.length<1
 ·have c1:decide (1≤l.length)=false:=aS (by omega)
  have e3':(l.length:Int)<1:=by omega
  rw[c1]
  (have fct:=And.intro (eq_false e1) (And.intro (eq_false e2) (And.intro hlm (e3')));(repeat' (first
  |refine gF ?_|refine aE ?_ ?_
  |apply trivial));all_goals clear fct)
  all_goals simp
 have e3':¬ (l.length:Int)<1:=by omega
 by_cases e4:m< (l.length:Int)
 ·have c1:decide ((l.length:Int)≤m)=false:=aS (by omega)
  rw[c1]
  (have fct:=And.intro (eq_false e1) (And.intro (eq_false e2) (And.intro hlm (And.intro (eq_false e3') (e4))));(repeat' (first
  |refine gF ?_|refine aE ?_ ?_
  |apply trivial));all_goals clear fct)
  all_goals simp
 obtain⟨x0,hx0⟩:∃x,l[0]? =some x:=⟨_,aP (by omega)⟩
 have hn0:nd l 0=x0:=dw (k:=0) hx0
 rw[hn0]
 obtain⟨z1,z2,z3,z4,z5,z6,z7,z8,z9,z10⟩:=x0
 by_cases e5:¬z1=0
 ·(have fct:=And.intro (eq_false e1) (And.intro (eq_false e2) (And.intro hlm (And.intro (eq_false e3') (And.intro (eq_false e4) ((eq_false e5))))));(repeat' (first
  |refine gF ?_|refine aE ?_ ?_
  |((refine ak.mk 0 (aO ⟨z1,z2,z3,z4,z5,z6,z7,z8,z9,z10⟩) rfl (au hx0) ?_)<;>with_reducible refine wK ?_)
  |apply trivial));all_goals clear fct)
  all_goals simp[e5]
 have e5:=Decidable.not_not.1 e5
 have c1:(decide (1≤m)&&decide (m≤400)&&decide (1≤l.length)&&decide ((l.length:Int)≤m)&&decide (z1=0))=true:=by
  simp only[aT,aL];omega
 simp only at c1 ⊢
 rw[c1,Bool.true_and]
 (have fct:=And.intro (eq_false e1) (And.intro (eq_false e2) (And.intro hlm (And.intro (eq_false e3') (And.intro (eq_false e4) (e5)))));(repeat' (first
  |refine gF ?_|refine aE ?_ ?_
  |((refine ak.mk 0 (aO ⟨z1,z2,z3,z4,z5,z6,z7,z8,z9,z10⟩) rfl (au hx0) ?_)<;>with_reducible refine wK ?_)
  |apply trivial));all_goals clear fct)
 refine aR.use G aa (fun(k:Nat)=>[(1,.ptr 10 0 0),(44,fE l),(45,aj l.length),(46,aj k)]) (fun _=>[(10,.live 2 [bD ⟨l,m⟩] false)])
  (fun k=>k≤l.length∧∀j x,j<k→l[j]? =some x→cQ l j x=true) (fun k=>l.length-k) 0 ⟨Nat.zero_le _,fun j x h=>by omega⟩
  ⟨⟨rfl,rfl⟩,⟨⟨rfl,rfl⟩,rfl,by show(l.length:Int)=((l.map bP).length:Int);rw[hlm],rfl,trivial⟩,⟨⟨rfl,rfl,trivial⟩,trivial⟩,trivial⟩ ?_
 rintro k ⟨hk,hok⟩
 with_reducible refine wK ?_
 refine aQ.mk (fun g1=>?_) (fun g1=>?_)<;>(try simp only[aq] at g1)<;>with_reducible refine wK ?_
 ·have hk' : k<l.length:=by simp only[aL] at g1;omega
  obtain⟨x,hx⟩:∃x,l[k]? =some x:=⟨_,aP hk'⟩
  have h38':=h38 x (bn hx)
  have h39':=h39 k x hx
  have h40':=h40 k x hx
  have h41':=h41 k x hx
  have h42':=h42 k x hx
  have bad:cQ l k x=false→jX (fun k x=>cQ l k x) 0 l=false:=fun h=>sw hx h
  have good:cQ l k x=true→∀j y,j<k+1→l[j]? =some y→cQ l j y=true:=fun h j y hj hy=>by
   rcases Nat.lt_or_ge j k with h6|h6
   ·exact hok j y h6 hy
   ·have:j=k:=by omega
    subst this
    rw[hx] at hy;cases hy;exact h
  obtain⟨a1,a2,a3,a4,a5,a6,a7,a8,a9,a10⟩:=x
  refine ak.mk k (aO _) rfl (au hx) ?_;with_reducible refine wK ?_
  cases q1:iS ⟨a1,a2,a3,a4,a5,a6,a7,a8,a9,a10⟩ with
  | false=>
    rw[bad (by unfold cQ;rw[q1];rfl),Bool.false_and]
    (have fct:=q1;(repeat' (first
  |refine gF ?_|refine aE ?_ ?_
  |(((with_reducible refine kQ 138 ?_);refine cL h38' xI ?_)<;>with_reducible refine wK ?_)
  |apply trivial));all_goals clear fct)
  | true=>
    cases q2:tE l k ⟨a1,a2,a3,a4,a5,a6,a7,a8,a9,a10⟩ with
    | false=>
      rw[bad (by unfold cQ;rw[q1,q2];rfl),Bool.false_and]
      (have fct:=And.intro q1 (q2);(repeat' (first
  |refine gF ?_|refine aE ?_ ?_
  | ((first
   |((with_reducible refine kQ 138 ?_);refine cL h38' xI ?_)
   |((with_reducible refine kQ 198 ?_);refine cL h39' Ju ?_))<;>with_reducible refine wK ?_)
  | apply trivial));all_goals clear fct)
    | true=>
      cases q3:sE l k ⟨a1,a2,a3,a4,a5,a6,a7,a8,a9,a10⟩ with
      | false=>
        rw[bad (by unfold cQ;rw[q1,q2,q3];rfl),Bool.false_and]
        (have fct:=And.intro q1 (And.intro q2 (q3));(repeat' (first
  |refine gF ?_|refine aE ?_ ?_
  | ((first
   |((with_reducible refine kQ 138 ?_);refine cL h38' xI ?_)
   |((with_reducible refine kQ 198 ?_);refine cL h39' Ju ?_)
   |((with_reducible refine kQ 199 ?_);refine cL h40' MT ?_))<;>with_reducible refine wK ?_)
  |apply  trivial));all_goals clear fct)
      | true=>
        cases q4:mN l k ⟨a1,a2,a3,a4,a5,a6,a7,a8,a9,a10⟩ with
        | false=>
          rw[bad (by unfold cQ;rw[q1,q2,q3,q4];rfl),Bool.false_and]
          (have fct:=And.intro q1 (And.intro q2 (And.intro q3 (q4)));(repeat' (first
  |refine gF ?_|refine aE ?_ ?_
  | ((first
   |((with_reducible refine kQ 138 ?_);refine cL h38' xI ?_)
   |((with_reducible refine kQ 198 ?_);refine cL h39' Ju ?_)
   |((with_reducible refine kQ 199 ?_);refine cL h40' MT ?_)
   |((with_reducible refine kQ 200 ?_);refine cL h41' Oe ?_))<;>with_reducible refine wK ?_)
  |apply  trivial));all_goals clear fct)
        | true=>
          cases q5:fq l k ⟨a1,a2,a3,a4,a5,a6,a7,a8,a9,a10⟩ with
          | false=>
            rw[bad (by unfold cQ;rw[q1,q2,q3,q4,q5];rfl),Bool.false_and]
            (have fct:=And.intro q1 (And.intro q2 (And.intro q3 (And.intro q4 (q5))));(repeat' (first
  |refine gF ?_|refine aE ?_ ?_
  | ((first
   |((with_reducible refine kQ 138 ?_);refine cL h38' xI ?_)
   |((with_reducible refine kQ 198 ?_);refine cL h39' Ju ?_)
   |((with_reducible refine kQ 199 ?_);refine cL h40' MT ?_)
   |((with_reducible refine kQ 200 ?_);refine cL h41' Oe ?_)
   |((with_reducible refine kQ 201 ?_);refine cL h42' Pu ?_))<;>with_reducible refine wK ?_)
  |apply  trivial));all_goals clear fct)
          | true=>
            have hnx:=good (by unfold cQ;rw[q1,q2,q3,q4,q5];rfl)
            (have fct:=And.intro q1 (And.intro q2 (And.intro q3 (And.intro q4 (q5))));(repeat' (first
  |refine gF ?_|refine aE ?_ ?_
  | ((first
   |((with_reducible refine kQ 138 ?_);refine cL h38' xI ?_)
   |((with_reducible refine kQ 198 ?_);refine cL h39' Ju ?_)
   |((with_reducible refine kQ 199 ?_);refine cL h40' MT ?_)
   |((with_reducible refine kQ 200 ?_);refine cL h41' Oe ?_)
   |((with_reducible refine kQ 201 ?_);refine cL h42' Pu ?_)
   |((with_reducible show ay _ _);refine ay.mk (k+1) ⟨by omega,hnx⟩ (by omega) ⟨⟨rfl,rfl⟩,⟨⟨rfl,rfl⟩,rfl,rfl,by show((k+1:Nat):Int)=(k:Int)+1;omega,trivial⟩,⟨⟨rfl,rfl,trivial⟩,trivial⟩,trivial⟩))<;>with_reducible refine wK ?_)
  |apply trivial));all_goals clear fct)
 ·have hkl:k=l.length:=by simp only[bh] at g1;omega
  have hall:∀ (j:Nat) (x:az),l[j]? =some x→cQ l j x=true:=fun j x hx=>hok j x (by have:=(aZ hx).1;omega) hx
  rw[qa hall,Bool.true_and]
  have h43':=h43 fun n hn=>by
   obtain⟨k,x,rfl,hk,hx⟩:=aX.1 hn
   rw[hx];exact hall k x hk
  refine aR.use G aa (fun(k:Nat)=>[(1,.ptr 10 0 0),(82,aj l.length),(83,aj k)]) (fun _=>[(10,.live 2 [bD ⟨l,m⟩] false)])
   (fun k=>k≤l.length∧∀ (j:Nat) (x:az),j<k→l[j]? =some x→eF l l.length j=true) (fun k=>l.length-k) 0 ⟨Nat.zero_le _,fun j x h=>by omega⟩
   ⟨⟨rfl,rfl⟩,⟨⟨rfl,rfl⟩,by show(l.length:Int)=((l.map bP).length:Int);rw[hlm],rfl,trivial⟩,⟨⟨rfl,rfl,trivial⟩,trivial⟩,trivial⟩ ?_
  rintro i ⟨hi,hends⟩
  with_reducible refine wK ?_
  refine aQ.mk (fun g2=>?_) (fun g2=>?_)<;>(try simp only[aq] at g2)<;>with_reducible refine wK ?_
  ·have hi':i<l.length:=by simp only[aL] at g2;omega
   obtain⟨y,hy⟩:∃y,l[i]? =some y:=⟨_,aP hi'⟩
   have h43'':=h43' i hi'
   refine cL h43'' RU ?_;with_reducible refine wK ?_
   cases q:eF l l.length i with
   | false=>
     rw[sw hy q]
     (have fct:=q;(repeat' (first
  |refine gF ?_|refine aE ?_ ?_
  | apply trivial));all_goals clear fct)
   | true=>
     (have fct:=q;(repeat' (first
  |refine gF ?_|refine aE ?_ ?_
  |(((with_reducible show ay _ _);refine ay.mk (i+1) ⟨by omega,fun j x hj hx=>?_⟩ (by omega) ⟨⟨rfl,rfl⟩,⟨⟨rfl,rfl⟩,rfl,by show((i+1:Nat):Int)=(i:Int)+1;omega,trivial⟩,⟨⟨rfl,rfl,trivial⟩,trivial⟩,trivial⟩)<;>with_reducible refine wK ?_)
  |apply trivial));all_goals clear fct)
     rcases Nat.lt_or_ge j i with h6|h6
     ·exact hends j x h6 hx
     ·have:j=i:=by omega
      rw[this];exact q
  ·have hil:i=l.length:=by simp only[bh] at g2;omega
   rw[qa fun j x hx=>hends j x (by have:=(aZ hx).1;omega) hx]
   (refine eK ?_ ?_<;>with_reducible repeat' (first|exact trivial|(show _∧_;refine aK ?_ ?_)))
theorem kf (f:ForM)(hs:bR f.nodes):af Tryz.prog 100 [] [bD f] [] (aA (bf f)):=by
 have h23:=Ah f hs
 obtain⟨l,m⟩:=f
 refine af.ah (rvs:=[.tmp 2]) G aa Tryz.func100 rfl Tryz.ntmps100 rfl rfl ?_;with_reducible refine wD ?_
 refine cL h23 Gj ?_;with_reducible refine wK ?_
 (refine eK ?_ ?_<;>with_reducible repeat' (first|exact trivial|(show _∧_;refine aK ?_ ?_)))
theorem bC (l:List Int):aU (l.map bB)=true:=by
 rw[bZ];intro x hx
 obtain⟨a,_,rfl⟩:=List.mem_map.1 hx
 rfl
theorem He (l:List Int):lg (flat (l.map bB))=true:=dA bB (fun _=>rfl) l
theorem eM {m:ML}{fz:Nat→Bool}{cI:List (Nat×Nat)}{n t len:Nat}{ro:Bool}{rows:List AV}{l:List Int}(h1:eC m t=.live 1 rows ro)(h2:fz t=true)(h3:rows=l.map bB)(h4:len=l.length):o6 m fz (MF cI fz m n) (bQ l) t 0 len:=by
 subst h3;subst h4
 have e:(l.map bB).length=l.length:=aM ..
 exact .cut h1 h2 (by omega) (by rw[List.drop_zero,jH (by omega)]) (bC l)
@[reducible] def jG (l : List Int) : MS := .live 1 (l.map bB) false
theorem Dw {l:List Int}{n c:Int}{k:Nat}(h:l[k]? =some c):(l.take (k+1)).count n=(l.take k).count n+if c=n then 1 else 0:=by
 rw[gC h,List.count_append,List.count_singleton]
 by_cases e:c=n<;>simp[e]
theorem Jj (l:List Int)(hl:l.length≤100000)(n:Int):af Tryz.prog 53 [] [bQ l,aj n] [] (aj (l.count n)):=by
 have hlm:(l.map bB).length=l.length:=aM ..
 refine af.ah (rvs:=[.tmp 4]) G aa Tryz.func53 rfl Tryz.ntmps53 rfl rfl ?_;with_reducible refine wD ?_
 refine aR.use G aa (fun(k:Nat)=>[(0,bQ l),(1,aj n),(5,aj ((l.take k).count n)),(6,aj k)]) (fun _=>[]) (fun k=>k≤l.length) (fun k=>l.length-k) 0 (Nat.zero_le _)
  ⟨⟨rfl,rfl⟩,⟨rfl,rfl,rfl,rfl,trivial⟩,trivial⟩ ?_
 rintro k hk
 with_reducible refine wK ?_
 refine aQ.mk (fun h1=>?_) (fun h1=>?_)<;>(try simp only[aq] at h1)<;>with_reducible refine wK ?_
 ·have hk':k<l.length:=by simp only[aL] at h1;omega
  obtain⟨c,hc⟩:∃a,l[k]? =some a:=⟨_,aP hk'⟩
  have hst:=Dw (n:=n) hc
  have hle:(l.take k).count n≤k:=Nat.le_trans List.count_le_length (by simp;omega)
  refine ak.mk k (aj c) rfl (dG hc) ?_;with_reducible refine wK ?_
  by_cases e:c=n
  ·rw[if_pos e] at hst
   (have fct:=e;(repeat' (first
  |refine gF ?_|refine aE ?_ ?_
  |(((with_reducible show ay _ _);refine ay.mk (k+1) (by omega) (by omega) ⟨⟨rfl,rfl⟩,⟨rfl,rfl,by show(((l.take (k+1)).count n:Nat):Int)=_;rw[hst];rfl,by show((k+1:Nat):Int)=(k:Int)+1;omega,trivial⟩,trivial⟩)<;>with_reducible refine wK ?_)
  |apply trivial));all_goals clear fct)
  ·rw[if_neg e] at hst
   (have fct:=(eq_false e);(repeat' (first
  |refine gF ?_|refine aE ?_ ?_
  |(((with_reducible show ay _ _);refine ay.mk (k+1) (by omega) (by omega) ⟨⟨rfl,rfl⟩,⟨rfl,rfl,by show(((l.take (k+1)).count n:Nat):Int)=_;rw[hst];simp,by show((k+1:Nat):Int)=(k:Int)+1;omega,trivial⟩,trivial⟩)<;>with_reducible refine wK ?_)
  |apply trivial));all_goals clear fct)
 ·(refine eK ?_ ?_<;>with_reducible repeat' (first|exact trivial|(show _∧_;refine aK ?_ ?_)))
  have:k=l.length:=by simp only[bh] at h1;omega
  rw[this,List.take_length]
end Go.Proofs.Heir
