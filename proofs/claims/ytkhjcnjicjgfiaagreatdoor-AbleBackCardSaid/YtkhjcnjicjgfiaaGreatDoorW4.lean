/- Models, plain laws and contracts of functions of the given program; conditions as stated in each theorem. By an AI agent. -/
import Derived.Test.YtkhjcnjicjgfiaaGreatDoorW3
import Derived.Test.YtkhjcnjicjgfiaaGreatDoorChecked
set_option linter.unusedSimpArgs false
set_option linter.unusedVariables false
namespace Go.Proofs.Heir
open Go.Am
set_option maxRecDepth 100000
@[reducible] def G : TEnv := [(1, .sc .nilFunc), (2, .sc (.int .i64 0)), (3, .sc (.int .i64 0)), (4, .bl), (5, .sc (.int .u8 0)), (9, .str), (12, .sc (.int .u64 0)), (15, .sc (.pointer none)), (16, .sc (.pointer none)), (17, .sc (.pointer none)), (20, .sc .nilIface), (21, .sc (.int .i32 0)), (22, .sl 35 10 136), (24, .st 2 [(0, 22), (1, 3)] (Array.mk [(.slice none 0 0), (.int .i64 0)]) [1, 1]), (25, .sc .nilFunc), (26, .sc .nilFunc), (27, .sl 53 9 88), (28, .sc (.int .i64 0)), (30, .sc .nilFunc), (31, .sc .nilFunc), (32, .sl 90 2 32), (33, .sl 3 1 8), (35, .st 10 [(0, 3), (1, 9), (2, 9), (3, 9), (4, 32), (5, 3), (6, 33), (7, 3), (8, 3), (9, 3)] (Array.mk [(.int .i64 0), (.string ByteArray.empty), (.string ByteArray.empty), (.string ByteArray.empty), (.slice none 0 0), (.int .i64 0), (.slice none 0 0), (.int .i64 0), (.int .i64 0), (.int .i64 0)]) [1, 1, 1, 1, 1, 1, 1, 1, 1, 1]), (36, .sc .nilFunc), (37, .sc .nilFunc), (38, .sc .nilFunc), (39, .sc .nilFunc), (41, .sc .nilFunc), (42, .sc .nilFunc), (43, .sc .nilFunc), (44, .sc .nilFunc), (45, .sc .nilFunc), (46, .sc .nilFunc), (47, .sc .nilFunc), (48, .sc .nilFunc), (49, .sc .nilFunc), (50, .sc .nilFunc), (51, .sc .nilFunc), (53, .st 9 [(0, 3), (1, 3), (2, 3), (3, 3), (4, 9), (5, 4), (6, 4), (7, 9), (8, 9)] (Array.mk [(.int .i64 0), (.int .i64 0), (.int .i64 0), (.int .i64 0), (.string ByteArray.empty), (.bool false), (.bool false), (.string ByteArray.empty), (.string ByteArray.empty)]) [1, 1, 1, 1, 1, 1, 1, 1, 1]), (54, .sc .nilFunc), (56, .st 3 [(0, 24), (2, 27)] (Array.mk [(.slice none 0 0), (.int .i64 0), (.slice none 0 0)]) [2, 1]), (58, .sc .nilFunc), (59, .sc .nilFunc), (60, .sc .nilFunc), (61, .sc .nilFunc), (62, .sc .nilFunc), (63, .sc .nilFunc), (64, .sc .nilFunc), (65, .sc .nilFunc), (66, .sc .nilFunc), (67, .sc .nilFunc), (68, .sl 70 6 6), (70, .st 6 [(0, 5), (1, 5), (2, 5), (3, 5), (4, 5), (5, 5)] (Array.mk [(.int .u8 0), (.int .u8 0), (.int .u8 0), (.int .u8 0), (.int .u8 0), (.int .u8 0)]) [1, 1, 1, 1, 1, 1]), (71, .sl 5 1 1), (72, .sc .nilFunc), (73, .sc .nilFunc), (74, .sc .nilFunc), (75, .sl 156 4 32), (76, .sl 147 3 40), (77, .sl 205 2 24), (79, .st 4 [(0, 76), (1, 77), (2, 3), (3, 4)] (Array.mk [(.slice none 0 0), (.slice none 0 0), (.int .i64 0), (.bool false)]) [1, 1, 1, 1]), (80, .sl 154 5 104), (81, .sc .nilFunc), (82, .sl 88 11 104), (84, .sc .nilFunc), (86, .st 10 [(0, 3), (1, 3), (2, 9), (3, 4), (4, 4), (5, 9), (6, 9), (7, 3), (8, 3), (9, 4)] (Array.mk [(.int .i64 0), (.int .i64 0), (.string ByteArray.empty), (.bool false), (.bool false), (.string ByteArray.empty), (.string ByteArray.empty), (.int .i64 0), (.int .i64 0), (.bool false)]) [1, 1, 1, 1, 1, 1, 1, 1, 1, 1]), (88, .st 11 [(0, 3), (1, 86)] (Array.mk [(.int .i64 0), (.int .i64 0), (.int .i64 0), (.string ByteArray.empty), (.bool false), (.bool false), (.string ByteArray.empty), (.string ByteArray.empty), (.int .i64 0), (.int .i64 0), (.bool false)]) [1, 10]), (90, .st 2 [(0, 9), (1, 9)] (Array.mk [(.string ByteArray.empty), (.string ByteArray.empty)]) [1, 1]), (91, .sc .nilFunc), (93, .sc .nilFunc), (95, .st 2 [(0, 24)] (Array.mk [(.slice none 0 0), (.int .i64 0)]) [2]), (96, .sc .nilFunc), (97, .sc .nilIface), (98, .sc .nilIface), (99, .sc .nilFunc), (100, .sc (.pointer none)), (102, .sc .nilFunc), (104, .st 3 [(0, 24), (2, 27)] (Array.mk [(.slice none 0 0), (.int .i64 0), (.slice none 0 0)]) [2, 1]), (105, .sc .nilFunc), (106, .sc .nilFunc), (107, .sc .nilFunc), (108, .sc .nilFunc), (110, .sc .nilFunc), (112, .sc .nilFunc), (114, .sc .nilFunc), (116, .sc .nilFunc), (117, .sc .nilFunc), (118, .sc .nilFunc), (119, .sc .nilFunc), (121, .st 5 [(0, 24), (2, 3), (3, 3), (4, 3)] (Array.mk [(.slice none 0 0), (.int .i64 0), (.int .i64 0), (.int .i64 0), (.int .i64 0)]) [2, 1, 1, 1]), (122, .sc .nilFunc), (123, .sc .nilFunc), (124, .sc .nilFunc), (125, .sc .nilFunc), (126, .sc .nilFunc), (127, .sc .nilFunc), (128, .sc .nilFunc), (129, .sc .nilFunc), (130, .sc .nilFunc), (131, .sc .nilFunc), (133, .sc .nilFunc), (135, .sc .nilFunc), (136, .sc .nilFunc), (137, .sc .nilFunc), (139, .sc .nilFunc), (140, .sc .nilFunc), (141, .sc (.map none)), (143, .st 3 [(0, 24), (2, 141)] (Array.mk [(.slice none 0 0), (.int .i64 0), (.map none)]) [2, 1]), (144, .sc .nilFunc), (145, .sc .nilFunc), (147, .st 3 [(0, 9), (1, 9), (2, 3)] (Array.mk [(.string ByteArray.empty), (.string ByteArray.empty), (.int .i64 0)]) [1, 1, 1]), (148, .sl 321 7 72), (150, .st 2 [(0, 3), (1, 148)] (Array.mk [(.int .i64 0), (.slice none 0 0)]) [1, 1]), (151, .sl 150 2 32), (152, .sl 9 1 16), (154, .st 5 [(0, 4), (1, 152), (2, 148), (3, 148), (4, 151)] (Array.mk [(.bool false), (.slice none 0 0), (.slice none 0 0), (.slice none 0 0), (.slice none 0 0)]) [1, 1, 1, 1, 1]), (156, .st 4 [(0, 3), (1, 3), (2, 3), (3, 4)] (Array.mk [(.int .i64 0), (.int .i64 0), (.int .i64 0), (.bool false)]) [1, 1, 1, 1]), (157, .sc .nilFunc), (158, .sc .nilFunc), (159, .sc .nilFunc), (160, .sc .nilFunc), (161, .sc (.pointer none)), (163, .sc .nilFunc), (165, .st 9 [(0, 24), (2, 75), (3, 79), (7, 80), (8, 82)] (Array.mk [(.slice none 0 0), (.int .i64 0), (.slice none 0 0), (.slice none 0 0), (.slice none 0 0), (.int .i64 0), (.bool false), (.slice none 0 0), (.slice none 0 0)]) [2, 1, 4, 1, 1]), (167, .sc .nilFunc), (168, .sc (.pointer none)), (169, .sc .nilFunc), (170, .sc .nilFunc), (171, .sc .nilFunc), (172, .sc .nilFunc), (173, .sc .nilFunc), (174, .sc .nilFunc), (176, .st 1 [(0, 28)] (Array.mk [(.int .i64 0)]) [1]), (178, .st 2 [(0, 9), (1, 98)] (Array.mk [(.string ByteArray.empty), .nilIface]) [1, 1]), (179, .sc .nilFunc), (180, .sc .nilFunc), (181, .sc .nilFunc), (182, .sc .nilFunc), (183, .sc .nilFunc), (184, .sc .nilFunc), (185, .sc .nilFunc), (186, .sc .nilFunc), (187, .sc .nilFunc), (188, .sc .nilFunc), (189, .sc .nilFunc), (190, .sc .nilFunc), (191, .sc .nilFunc), (192, .sc .nilFunc), (193, .sc .nilFunc), (194, .sc .nilFunc), (195, .sc .nilFunc), (196, .sc .nilFunc), (197, .sc .nilFunc), (198, .sc .nilFunc), (199, .sc .nilFunc), (200, .sc .nilFunc), (202, .sc (.map none)), (203, .sc .nilFunc), (205, .st 2 [(0, 9), (1, 3)] (Array.mk [(.string ByteArray.empty), (.int .i64 0)]) [1, 1]), (206, .sc (.map none)), (208, .st 2 [(0, 202), (1, 206)] (Array.mk [(.map none), (.map none)]) [1, 1]), (210, .sc .nilFunc), (211, .sc .nilFunc), (212, .sc .nilFunc), (213, .sc .nilFunc), (214, .sc (.pointer none)), (216, .st 5 [(0, 24), (2, 3), (3, 9), (4, 4)] (Array.mk [(.slice none 0 0), (.int .i64 0), (.int .i64 0), (.string ByteArray.empty), (.bool false)]) [2, 1, 1, 1]), (217, .sc .nilFunc), (218, .sc .nilFunc), (219, .sc .nilFunc), (220, .sc (.pointer none)), (221, .sc .nilFunc), (222, .sc .nilFunc), (223, .sc .nilFunc), (224, .sc (.map none)), (225, .sc .nilFunc), (226, .sc .nilFunc), (227, .sc .nilFunc), (228, .sc .nilFunc), (229, .sc .nilFunc), (232, .sc (.map none)), (233, .sc .nilFunc), (234, .sc .nilFunc), (235, .sc .nilFunc), (236, .sc .nilFunc), (237, .sc .nilFunc), (238, .sc .nilFunc), (243, .sc .nilFunc), (244, .sc .nilIface), (246, .sc .nilFunc), (248, .sc .nilFunc), (249, .sc .nilFunc), (250, .sc .nilFunc), (251, .sc .nilFunc), (252, .sc .nilFunc), (253, .sc .nilFunc), (254, .sc .nilFunc), (255, .sc .nilFunc), (256, .sc .nilFunc), (257, .sc (.pointer none)), (259, .st 2 [(0, 257), (1, 71)] (Array.mk [(.pointer none), (.slice none 0 0)]) [1, 1]), (260, .sc .nilFunc), (261, .sc .nilFunc), (262, .sc .nilFunc), (265, .sc (.pointer none)), (266, .sc .nilFunc), (267, .sc .nilFunc), (268, .sc .nilFunc), (269, .sc .nilIface), (271, .sc .nilFunc), (272, .sc .nilIface), (273, .sc .nilFunc), (274, .sc .nilIface), (275, .sl 98 1 16), (276, .sc .nilFunc), (277, .sc .nilFunc), (278, .sc .nilFunc), (279, .sc .nilFunc), (280, .sc (.pointer none)), (281, .sc .nilFunc), (282, .sc .nilFunc), (283, .sc .nilFunc), (284, .sc (.int .u64 0)), (286, .sc .nilFunc), (287, .sc (.int .u32 0)), (289, .sc .nilFunc), (290, .sl 292 2 16), (292, .st 2 [(0, 3), (1, 3)] (Array.mk [(.int .i64 0), (.int .i64 0)]) [1, 1]), (293, .sc .nilFunc), (294, .sc (.pointer none)), (295, .sl 301 3 6), (296, .sl 304 3 12), (298, .st 3 [(0, 295), (1, 296), (2, 3)] (Array.mk [(.slice none 0 0), (.slice none 0 0), (.int .i64 0)]) [1, 1, 1]), (299, .sc (.int .u16 0)), (301, .st 3 [(0, 299), (1, 299), (2, 299)] (Array.mk [(.int .u16 0), (.int .u16 0), (.int .u16 0)]) [1, 1, 1]), (302, .sc .nilFunc), (304, .st 3 [(0, 287), (1, 287), (2, 287)] (Array.mk [(.int .u32 0), (.int .u32 0), (.int .u32 0)]) [1, 1, 1]), (305, .sc .nilFunc), (306, .sc (.pointer none)), (307, .sc (.pointer none)), (313, .sc .nilFunc), (315, .sc .nilFunc), (321, .st 7 [(0, 3), (1, 3), (2, 3), (3, 3), (4, 9), (5, 9), (6, 4)] (Array.mk [(.int .i64 0), (.int .i64 0), (.int .i64 0), (.int .i64 0), (.string ByteArray.empty), (.string ByteArray.empty), (.bool false)]) [1, 1, 1, 1, 1, 1, 1]), (322, .sc .nilFunc), (323, .sc .nilFunc), (326, .sc (.pointer none)), (327, .sc .nilFunc), (330, .sl 333 4 16), (334, .sc (.pointer none))]
theorem G_good : G.Good Tryz.prog := fS <| fS <| fS <| fB <| fS <| fG <| fS <| fS <| fS <| fS <| fS <| fS <| fL <| fT Tryz.underlying24 <| fS <| fS <| fL <| fS <| fS <| fS <| fL <| fL <| fT Tryz.underlying35 <| fS <| fS <| fS <| fS <| fS <| fS <| fS <| fS <| fS <| fS <| fS <| fS <| fS <| fS <| fS <| fT Tryz.underlying53 <| fS <| fT Tryz.underlying56 <| fS <| fS <| fS <| fS <| fS <| fS <| fS <| fS <| fS <| fS <| fL <| fT Tryz.underlying70 <| fL <| fS <| fS <| fS <| fL <| fL <| fL <| fT Tryz.underlying79 <| fL <| fS <| fL <| fS <| fT Tryz.underlying86 <| fT Tryz.underlying88 <| fT Tryz.underlying90 <| fS <| fS <| fT Tryz.underlying95 <| fS <| fS <| fS <| fS <| fS <| fS <| fT Tryz.underlying104 <| fS <| fS <| fS <| fS <| fS <| fS <| fS <| fS <| fS <| fS <| fS <| fT Tryz.underlying121 <| fS <| fS <| fS <| fS <| fS <| fS <| fS <| fS <| fS <| fS <| fS <| fS <| fS <| fS <| fS <| fS <| fS <| fT Tryz.underlying143 <| fS <| fS <| fT Tryz.underlying147 <| fL <| fT Tryz.underlying150 <| fL <| fL <| fT Tryz.underlying154 <| fT Tryz.underlying156 <| fS <| fS <| fS <| fS <| fS <| fS <| fT Tryz.underlying165 <| fS <| fS <| fS <| fS <| fS <| fS <| fS <| fS <| fT Tryz.underlying176 <| fT Tryz.underlying178 <| fS <| fS <| fS <| fS <| fS <| fS <| fS <| fS <| fS <| fS <| fS <| fS <| fS <| fS <| fS <| fS <| fS <| fS <| fS <| fS <| fS <| fS <| fS <| fS <| fT Tryz.underlying205 <| fS <| fT Tryz.underlying208 <| fS <| fS <| fS <| fS <| fS <| fT Tryz.underlying216 <| fS <| fS <| fS <| fS <| fS <| fS <| fS <| fS <| fS <| fS <| fS <| fS <| fS <| fS <| fS <| fS <| fS <| fS <| fS <| fS <| fS <| fS <| fS <| fS <| fS <| fS <| fS <| fS <| fS <| fS <| fS <| fS <| fS <| fT Tryz.underlying259 <| fS <| fS <| fS <| fS <| fS <| fS <| fS <| fS <| fS <| fS <| fS <| fS <| fL <| fS <| fS <| fS <| fS <| fS <| fS <| fS <| fS <| fS <| fS <| fS <| fS <| fL <| fT Tryz.underlying292 <| fS <| fS <| fL <| fL <| fT Tryz.underlying298 <| fS <| fT Tryz.underlying301 <| fS <| fT Tryz.underlying304 <| fS <| fS <| fS <| fS <| fS <| fT Tryz.underlying321 <| fS <| fS <| fS <| fS <| fL <| fS <| fN
theorem c3 : Callable Tryz.prog 3 := fun _ _ => by kernel_rfl
theorem c4 : Callable Tryz.prog 4 := fun _ _ => by kernel_rfl
theorem c5 : Callable Tryz.prog 5 := fun _ _ => by kernel_rfl
theorem c15 : Callable Tryz.prog 15 := fun _ _ => by kernel_rfl
theorem c16 : Callable Tryz.prog 16 := fun _ _ => by kernel_rfl
theorem c17 : Callable Tryz.prog 17 := fun _ _ => by kernel_rfl
theorem c18 : Callable Tryz.prog 18 := fun _ _ => by kernel_rfl
theorem c19 : Callable Tryz.prog 19 := fun _ _ => by kernel_rfl
theorem c20 : Callable Tryz.prog 20 := fun _ _ => by kernel_rfl
theorem c21 : Callable Tryz.prog 21 := fun _ _ => by kernel_rfl
theorem c22 : Callable Tryz.prog 22 := fun _ _ => by kernel_rfl
theorem c23 : Callable Tryz.prog 23 := fun _ _ => by kernel_rfl
theorem c24 : Callable Tryz.prog 24 := fun _ _ => by kernel_rfl
theorem c25 : Callable Tryz.prog 25 := fun _ _ => by kernel_rfl
theorem c54 : Callable Tryz.prog 54 := fun _ _ => by kernel_rfl
theorem c56 : Callable Tryz.prog 56 := fun _ _ => by kernel_rfl
theorem c57 : Callable Tryz.prog 57 := fun _ _ => by kernel_rfl
theorem c58 : Callable Tryz.prog 58 := fun _ _ => by kernel_rfl
theorem c59 : Callable Tryz.prog 59 := fun _ _ => by kernel_rfl
theorem c60 : Callable Tryz.prog 60 := fun _ _ => by kernel_rfl
theorem c62 : Callable Tryz.prog 62 := fun _ _ => by kernel_rfl
theorem c63 : Callable Tryz.prog 63 := fun _ _ => by kernel_rfl
theorem c64 : Callable Tryz.prog 64 := fun _ _ => by kernel_rfl
theorem c65 : Callable Tryz.prog 65 := fun _ _ => by kernel_rfl
theorem c66 : Callable Tryz.prog 66 := fun _ _ => by kernel_rfl
theorem c67 : Callable Tryz.prog 67 := fun _ _ => by kernel_rfl
theorem c68 : Callable Tryz.prog 68 := fun _ _ => by kernel_rfl
theorem c69 : Callable Tryz.prog 69 := fun _ _ => by kernel_rfl
theorem c72 : Callable Tryz.prog 72 := fun _ _ => by kernel_rfl
theorem c73 : Callable Tryz.prog 73 := fun _ _ => by kernel_rfl
theorem c77 : Callable Tryz.prog 77 := fun _ _ => by kernel_rfl
theorem c114 : Callable Tryz.prog 114 := fun _ _ => by kernel_rfl
theorem c115 : Callable Tryz.prog 115 := fun _ _ => by kernel_rfl
theorem c121 : Callable Tryz.prog 121 := fun _ _ => by kernel_rfl
theorem c122 : Callable Tryz.prog 122 := fun _ _ => by kernel_rfl
theorem c123 : Callable Tryz.prog 123 := fun _ _ => by kernel_rfl
theorem c124 : Callable Tryz.prog 124 := fun _ _ => by kernel_rfl
theorem c125 : Callable Tryz.prog 125 := fun _ _ => by kernel_rfl
theorem c126 : Callable Tryz.prog 126 := fun _ _ => by kernel_rfl
theorem c127 : Callable Tryz.prog 127 := fun _ _ => by kernel_rfl
theorem c128 : Callable Tryz.prog 128 := fun _ _ => by kernel_rfl
theorem c130 : Callable Tryz.prog 130 := fun _ _ => by kernel_rfl
theorem c131 : Callable Tryz.prog 131 := fun _ _ => by kernel_rfl
theorem c132 : Callable Tryz.prog 132 := fun _ _ => by kernel_rfl
theorem c133 : Callable Tryz.prog 133 := fun _ _ => by kernel_rfl
theorem c134 : Callable Tryz.prog 134 := fun _ _ => by kernel_rfl
theorem c135 : Callable Tryz.prog 135 := fun _ _ => by kernel_rfl
theorem c137 : Callable Tryz.prog 137 := fun _ _ => by kernel_rfl
theorem c174 : Callable Tryz.prog 174 := fun _ _ => by kernel_rfl
theorem c175 : Callable Tryz.prog 175 := fun _ _ => by kernel_rfl
theorem c176 : Callable Tryz.prog 176 := fun _ _ => by kernel_rfl
theorem c179 : Callable Tryz.prog 179 := fun _ _ => by kernel_rfl
theorem c180 : Callable Tryz.prog 180 := fun _ _ => by kernel_rfl
theorem c181 : Callable Tryz.prog 181 := fun _ _ => by kernel_rfl
theorem c182 : Callable Tryz.prog 182 := fun _ _ => by kernel_rfl
theorem c183 : Callable Tryz.prog 183 := fun _ _ => by kernel_rfl
theorem c184 : Callable Tryz.prog 184 := fun _ _ => by kernel_rfl
theorem c185 : Callable Tryz.prog 185 := fun _ _ => by kernel_rfl
theorem c186 : Callable Tryz.prog 186 := fun _ _ => by kernel_rfl
theorem c187 : Callable Tryz.prog 187 := fun _ _ => by kernel_rfl
theorem c188 : Callable Tryz.prog 188 := fun _ _ => by kernel_rfl
theorem c206 : Callable Tryz.prog 206 := fun _ _ => by kernel_rfl
theorem c207 : Callable Tryz.prog 207 := fun _ _ => by kernel_rfl
theorem c208 : Callable Tryz.prog 208 := fun _ _ => by kernel_rfl
theorem c213 : Callable Tryz.prog 213 := fun _ _ => by kernel_rfl
theorem c217 : Callable Tryz.prog 217 := fun _ _ => by kernel_rfl
theorem c223 : Callable Tryz.prog 223 := fun _ _ => by kernel_rfl
theorem c231 : Callable Tryz.prog 231 := fun _ _ => by kernel_rfl
theorem c236 : Callable Tryz.prog 236 := fun _ _ => by kernel_rfl
theorem c55 : Callable Tryz.prog 55 := fun _ _ => by kernel_rfl
theorem c61 : Callable Tryz.prog 61 := fun _ _ => by kernel_rfl
theorem c116 : Callable Tryz.prog 116 := fun _ _ => by kernel_rfl
theorem c117 : Callable Tryz.prog 117 := fun _ _ => by kernel_rfl
theorem c118 : Callable Tryz.prog 118 := fun _ _ => by kernel_rfl
theorem c119 : Callable Tryz.prog 119 := fun _ _ => by kernel_rfl
theorem c120 : Callable Tryz.prog 120 := fun _ _ => by kernel_rfl
theorem c129 : Callable Tryz.prog 129 := fun _ _ => by kernel_rfl
theorem c136 : Callable Tryz.prog 136 := fun _ _ => by kernel_rfl
theorem c173 : Callable Tryz.prog 173 := fun _ _ => by kernel_rfl
theorem c177 : Callable Tryz.prog 177 := fun _ _ => by kernel_rfl
theorem c201 : Callable Tryz.prog 201 := fun _ _ => by kernel_rfl
theorem c202 : Callable Tryz.prog 202 := fun _ _ => by kernel_rfl
theorem c203 : Callable Tryz.prog 203 := fun _ _ => by kernel_rfl
theorem c204 : Callable Tryz.prog 204 := fun _ _ => by kernel_rfl
theorem c205 : Callable Tryz.prog 205 := fun _ _ => by kernel_rfl
theorem c218 : Callable Tryz.prog 218 := fun _ _ => by kernel_rfl
theorem c219 : Callable Tryz.prog 219 := fun _ _ => by kernel_rfl
theorem c220 : Callable Tryz.prog 220 := fun _ _ => by kernel_rfl
theorem c232 : Callable Tryz.prog 232 := fun _ _ => by kernel_rfl
theorem mt74 : MapTy Tryz.prog 206 (.int .i64) (.int .i64 0) := ⟨3, 3, by kernel_rfl, by kernel_rfl, fun w => Tryz.zeroValue3 w⟩
end Go.Proofs.Heir
